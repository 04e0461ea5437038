/- What the reference reads out of lines, as data. No program is named here. -/
import Derived.Test.YtmeaibjmnjcdfaaGreatVG5
import Derived.Test.YtmeaibjmnjcdfaaGreatVG2
namespace Go.Proofs.YtmeaibjmnjcdfaaGreat
open Go.RowKit
abbrev Bs:=List UInt8
def zbl (l:Bs):Str:=⟨l.toArray⟩
def Str.l (s:Str):Bs:=s.data.toList
theorem zi1 (l:Bs):Str.l (zbl l)=l:=rfl
theorem zi2 (s:Str):zbl (Str.l s)=s:=rfl
theorem zkb (s:Str):(Str.l s).length=s.size:=rfl
theorem zpT (l:Bs):(zbl l).size=l.length:=rfl
def noSp:Str:=⟨#[]⟩
def zpU:Bs->Bs->List Bs
 | [],w=>[w]
 | c :: cs,w=>if c=32 then w :: zpU cs [] else zpU cs (w ++ [c])
def zpV (s:Str):List Str:=(zpU (Str.l s) []).map zbl
def zpW (s:Str):Bs:=Str.l ((zpV s).headD noSp)
theorem zpX (l w:Bs):zpU l w≠[]:=by
 induction l generalizing w with
 | nil=>simp[zpU]
 | cons c cs ih=>rw[zpU];split<;>simp[ih]
theorem zpY (s:Str):zpV s≠[]:=by simp[zpV,zpX]
theorem zpZ (l w:Bs):∀x∈zpU l w,x.length≤w.length+l.length:=by
 induction l generalizing w with
 | nil=>intro x hx;simp[zpU] at hx;subst hx;simp
 | cons c cs ih=>
  intro x hx
  rw[zpU] at hx
  split at hx
  ·rcases List.mem_cons.1 hx with rfl|hx
   ·omega
   ·have:=ih [] x hx;simp at this ⊢;omega
  ·have:=ih _ x hx;simp at this ⊢;omega
theorem zp0 (s:Str):∀x∈zpV s,x.size≤s.size:=by
 intro x hx
 obtain⟨y,hy,rfl⟩:=List.mem_map.1 hx
 have:=zpZ _ _ y hy
 rw[zpT,<-zkb]
 simpa using this
def zp1 (n:Nat):UInt8:=UInt8.ofNat (48+n)
def zp2:Nat->Nat->Bs->Bs
 | 0,n,o=>zp1 n :: o
 | f+1,n,o=>if 9<n then zp2 f (n / 10) (zp1 (n % 10) :: o) else zp1 n :: o
def zp3 (n:Nat):Bs:=zp2 n n []
def numL (n:Int):Bs:=if n<0 then 45 :: zp3 n.natAbs else zp3 n.natAbs
theorem zp4 (f:Nat):∀(g n:Nat) (o:Bs),n≤f->n≤g->zp2 f n o=zp2 g n o:=by
 induction f with
 | zero=>
  intro g n o h1 h2
  obtain rfl:n=0:=by omega
  cases g with
  | zero=>rfl
  | succ g=>simp[zp2]
 | succ f ih=>
  intro g n o h1 h2
  cases g with
  | zero=>
   obtain rfl:n=0:=by omega
   simp[zp2]
  | succ g=>
   rw[zp2,zp2]
   split
   ·exact ih g _ _ (by omega) (by omega)
   ·rfl
theorem zp5 {n:Nat} (h:9<n) (o:Bs):zp2 n n o=zp2 (n / 10) (n / 10) (zp1 (n % 10) :: o):=by
 obtain⟨f,rfl⟩:∃f,n=f+1:=⟨n-1,by omega⟩
 rw[zp2,if_pos h]
 exact zp4 _ _ _ _ (by omega) (Nat.le_refl _)
theorem zp6 {n:Nat} (h:¬9<n) (o:Bs):zp2 n n o=zp1 n :: o:=by
 cases n with
 | zero=>rfl
 | succ f=>rw[zp2,if_neg h]
theorem zp7 {n:Nat} (h:n<100000):(zp3 n).length≤6:=by
 unfold zp3
 have E:=fun(m:Nat) (o:Bs)=>@zp6 m
 by_cases h1:9<n
 ·rw[zp5 h1]
  by_cases h2:9<n / 10
  ·rw[zp5 h2]
   by_cases h3:9<n / 10 / 10
   ·rw[zp5 h3]
    by_cases h4:9<n / 10 / 10 / 10
    ·rw[zp5 h4,zp6 (by omega)];simp
    ·rw[zp6 h4];simp
   ·rw[zp6 h3];simp
  ·rw[zp6 h2];simp
 ·rw[zp6 h1];simp
def zp8:Bs->Nat->Option Nat
 | [],n=>some n
 | c :: cs,n=>if c.toNat<48∨57<c.toNat then none else zp8 cs (n * 10+(c.toNat-48))
def zp9 (l:Bs):Nat:=if l.head? =some 45 then 1 else 0
def signed (a n:Nat):Int:=if a=1 then -(n:Int) else n
def zqa (l:Bs):Int×Bool:=
 if l.length=zp9 l∨zp9 l+4<l.length then (0,false)
 else match zp8 (l.drop (zp9 l)) 0 with
  | none=>(0,false)
  | some n=>(signed (zp9 l) n,numL (signed (zp9 l) n) == l)
def zqb (s:Str):Int×Bool:=zqa (Str.l s)
theorem zqc:∀(l:Bs) (n m:Nat),zp8 l n=some m->m<(n+1) * 10 ^ l.length:=by
 intro l
 induction l with
 | nil=>intro n m h;simp[zp8] at h;subst h;simp
 | cons c cs ih=>
  intro n m h
  rw[zp8] at h
  split at h
  ·cases h
  ·have:=ih _ _ h
   have hc:c.toNat-48≤9:=by omega
   have h2:(n * 10+(c.toNat-48)+1) * 10 ^ cs.length≤((n+1) * 10) * 10 ^ cs.length:=Nat.mul_le_mul_right _ (by omega)
   have h3:(n+1) * 10 ^ (c :: cs).length=((n+1) * 10) * 10 ^ cs.length:=by
    rw[List.length_cons,Nat.pow_succ,Nat.mul_assoc,Nat.mul_comm 10]
   omega
theorem zqd (s:Str):-10000<(zqb s).1∧(zqb s).1<10000:=by
 unfold zqb zqa
 split
 ·simp
 ·rename_i h
  split
  ·simp
  ·rename_i n hn
   have h1:=zqc _ _ _ hn
   have hl:(List.drop (zp9 (Str.l s)) (Str.l s)).length≤4:=by rw[List.length_drop];omega
   have h2:10 ^ (List.drop (zp9 (Str.l s)) (Str.l s)).length≤10 ^ 4:=Nat.pow_le_pow_right (by decide) hl
   have h3:n<10000:=by
    have h4:(0+1) * 10 ^ (List.drop (zp9 (Str.l s)) (Str.l s)).length≤10000:=by simpa using h2
    omega
   dsimp only
   unfold signed
   split<;>omega
def zqe (s:Str):Knd×Bool:=if Str.l s=[35] then (⟨1,noSp⟩,true) else if namB s then (⟨2,s⟩,true) else (⟨0,noSp⟩,false)
def zqf (s:Str):Tag×Bool:=if Str.l s=[63] then (⟨0,noSp⟩,true) else if Str.l s=[35] then (⟨1,noSp⟩,true) else if Str.l s=[33] then (⟨3,noSp⟩,true) else (⟨2,s⟩,namB s)
theorem zqg {s:Str} (h:s.size≤maxLen):(zqe s).1.name.size≤maxLen:=by
 unfold zqe
 split
 ·exact Nat.zero_le _
 ·split
  ·exact h
  ·exact Nat.zero_le _
theorem zqh {s:Str} (h:s.size≤maxLen):(zqf s).1.name.size≤maxLen:=by
 unfold zqf
 split
 ·exact Nat.zero_le _
 ·split
  ·exact Nat.zero_le _
  ·split
   ·exact Nat.zero_le _
   ·exact h
def zqi:Cls:=⟨noSp,noSp,[],[]⟩
def zqj:Mth:=⟨noSp,[],⟨0,noSp⟩,0,0,[],[]⟩
def zqk (ws:List Str):Ask×Bool:=match ws with
 | [_,a,b]=>(⟨a,(zqb b).1⟩,(zqb b).2&&decide (0≤(zqb b).1)&&namB a)
 | _=>(⟨noSp,0⟩,false)
def zql (ws:List Str):Cls×Bool:=match ws with
 | [_,a,b]=>if namB a&&(Str.l b == [45] || namB b) then (⟨a,if Str.l b=[45] then noSp else b,[],[]⟩,true) else (zqi,false)
 | _=>(zqi,false)
def zqm (ws:List Str):Fld×Bool:=match ws with
 | [_,a,b]=>if namB a then (⟨a,(zqe b).1⟩,(zqe b).2) else (⟨noSp,⟨0,noSp⟩⟩,false)
 | _=>(⟨noSp,⟨0,noSp⟩⟩,false)
def zqn:List Str->List Knd->Option (List Knd)
 | [],ks=>some ks
 | s :: ss,ks=>if (zqe s).2 then zqn ss (ks ++ [(zqe s).1]) else none
def zqo (ws:List Str):Mth×Bool:=match ws with
 | _ :: nm :: lo :: st :: rt :: rest=>
  if rest.length≤3∧namB nm=true then
   match zqn rest [] with
   | none=>(zqj,false)
   | some ks=>(⟨nm,ks,(zqe rt).1,(zqb lo).1,(zqb st).1,[],[]⟩,(zqb lo).2&&(zqb st).2&&(zqe rt).2&&decide (0≤(zqb lo).1)&&decide (0≤(zqb st).1))
  else (zqj,false)
 | _=>(zqj,false)
def zqp:List Str->Bool->List Tag->List Tag->Option (Bool×List Tag×List Tag)
 | [],b,l,s=>some (b,l,s)
 | x :: xs,b,l,s=>
  if Str.l x=[47]∧b=false then zqp xs true l s
  else if (zqf x).2 then (if b then zqp xs b l (s ++ [(zqf x).1]) else zqp xs b (l ++ [(zqf x).1]) s)
  else none
def noMp:Mp:=⟨0,[],[]⟩
def zqq (ws:List Str):Mp×Bool:=match ws with
 | _ :: a :: x :: rest=>
  if rest.length≤12 then
   match zqp (x :: rest) false [] [] with
   | none=>(noMp,false)
   | some (b,l,s)=>(⟨(zqb a).1,l,s⟩,(zqb a).2&&b&&decide (0≤(zqb a).1))
  else (noMp,false)
 | _=>(noMp,false)
def insW (op:Nat):Bs:=([[],[110,117,109],[116,97,107,101],[112,117,116],[97,100,100],[110,117,108,108],[110,101,119],[103,101,116],[115,101,116],[99,97,108,108],[114,101,116],[122,101,114,111],[110,105,108],[103,111],[111,117,116],[99,97,115,116]]:List Bs).getD op []
def zqr (i:Ins):Bs:=
 if insB i then
  (if i.op=1∨i.op=2∨i.op=3∨i.op=11∨i.op=12∨i.op=13 then insW i.op.toNat ++ 32 :: numL i.a
   else if i.op=6∨i.op=15 then insW i.op.toNat ++ 32 :: Str.l i.name
   else if i.op=7∨i.op=8∨i.op=9 then insW i.op.toNat ++ 32 :: (Str.l i.name ++ 32 :: Str.l i.member)
   else insW i.op.toNat)
 else []
def zqs:Ins:=⟨0,0,noSp,noSp⟩
def zqt (op:Nat) (ws:List Str):Ins:=match ws with
 | _ :: a :: rest=>⟨op,if (zqb a).2 then (zqb a).1 else 0,if (zqb a).2 then noSp else a,rest.headD noSp⟩
 | _=>⟨op,0,noSp,noSp⟩
def zqu (s:Str):Nat->Nat->Ins×Bool
 | 0,_=>(zqs,false)
 | f+1,op=>if insW op=zpW s then (if s.size≤30∧zqr (zqt op (zpV s))=Str.l s then (zqt op (zpV s),true) else (zqs,false)) else zqu s f (op+1)
def zqv (s:Str):Ins×Bool:=zqu s 15 1
def setLast (c:Cls) (m:Mth):Cls:=⟨c.name,c.super,c.fields,c.methods.dropLast ++ [m]⟩
def zqw (c:Cls) (line:Str):Cls×Bool:=
 let ws:=zpV line
 if zpW line=[102,105,101,108,100] then (⟨c.name,c.super,c.fields ++ [(zqm ws).1],c.methods⟩,(zqm ws).2&&c.methods.isEmpty)
 else if zpW line=[109,101,116,104,111,100] then (⟨c.name,c.super,c.fields,c.methods ++ [(zqo ws).1]⟩,(zqo ws).2)
 else match c.methods.getLast? with
  | none=>(c,false)
  | some m=>
   if zpW line=[102,114,97,109,101] then (setLast c ⟨m.name,m.args,m.ret,m.locals,m.stack,m.code,m.maps ++ [(zqq ws).1]⟩,(zqq ws).2&&m.code.isEmpty)
   else (setLast c ⟨m.name,m.args,m.ret,m.locals,m.stack,m.code ++ [(zqv line).1],m.maps⟩,(zqv line).2)
def zqx (ks:List Kpr) (line:Str):List Kpr×Bool:=
 let ws:=zpV line
 if Str.l line=[107,101,101,112,101,114] then (ks ++ [⟨[],[]⟩],decide (ks.length<3))
 else match ks.getLast? with
  | none=>(ks,false)
  | some k=>
   if zpW line=[97,115,107,115] then (ks.dropLast ++ [⟨k.owns,k.asks ++ [(zqk ws).1]⟩],(zqk ws).2&&k.owns.isEmpty)
   else if zpW line=[99,108,97,115,115] then (ks.dropLast ++ [⟨k.owns ++ [(zql ws).1],k.asks⟩],(zql ws).2)
   else match k.owns.getLast? with
    | none=>(ks,false)
    | some c=>(ks.dropLast ++ [⟨k.owns.dropLast ++ [(zqw c line).1],k.asks⟩],(zqw c line).2)
def zqy:List Kpr->Nat->List Str->List Kpr×Nat
 | ks,_,[]=>(ks,0)
 | ks,n,l :: ls=>if (zqx ks l).2 then zqy (zqx ks l).1 (n+1) ls else ([],n+1)
def zqz (ls:List Str):List Kpr×Nat:=
 if 400<ls.length then ([],401)
 else if (zqy [] 0 ls).2≠0 then ([],(zqy [] 0 ls).2)
 else if lodB ⟨(zqy [] 0 ls).1⟩ then ((zqy [] 0 ls).1,0) else ([],ls.length+1)
abbrev Raw (sz:Nat):={cs:List Value // cs.length=sz}
def RawC {sz:Nat} (cs:List Value) (k:Raw sz):Prop:=cs=k.1
def rawL {sz:Nat} (ks:List (Raw sz)):List Value:=ks.flatMap (·.1)
theorem zqD {sz:Nat} (ks:List (Raw sz)):(rawL ks).length=ks.length * sz:=zqA (C:=fun k:Raw sz=>k.1) (fun k=>k.2) ks
theorem Sl.raw {α:Type} {X:Nat->Prop} {w:World} {sz:Nat} {R:List Value->α->Prop} {v:Value} {xs:List α} (h:Sl X w sz R v xs):
  ∃ks:List (Raw sz),ks.length=xs.length∧(∀i (h1:i<ks.length) (h2:i<xs.length),R ks[i].1 xs[i])∧Sl X w sz RawC v ks:=by
 obtain⟨A,cap,rfl,h1,h2,h3⟩:=h
 rcases Nat.eq_zero_or_pos xs.length with h0|h0
 ·exact⟨[],h0.symm,fun i h=>absurd h (by simp),A,cap,by rw[h0];rfl,Nat.zero_le _,Nat.zero_le _,fun h=>absurd h (by simp)⟩
 ·obtain⟨b,off,rfl,hX,hc⟩:=h3 h0
  refine⟨(List.finRange xs.length).map fun k=>⟨(hc k.1 k.2).choose,(hc k.1 k.2).choose_spec.2.1⟩,by simp,fun i g1 g2=>?_,⟨some ⟨b,off,none⟩,cap,by simp,by simpa using h1,by simpa using h2,fun _=>⟨b,off,rfl,hX,fun k hk=>?_⟩⟩⟩
  ·rw[List.getElem_map]
   have e:(List.finRange xs.length)[i]'(by simpa using g1)=⟨i,g2⟩:=by simp
   rw[e]
   exact(hc i g2).choose_spec.1
  ·have g2:k<xs.length:=by simpa using hk
   refine⟨(hc k g2).choose,?_,(hc k g2).choose_spec.2.1,(hc k g2).choose_spec.2.2⟩
   unfold RawC
   rw[List.getElem_map]
   have e:(List.finRange xs.length)[k]'(by simpa using hk)=⟨k,g2⟩:=by simp
   rw[e]
theorem zqE (b off j:Nat):(⟨b,off,none⟩:Addr).add j=⟨b,off+j,none⟩:=by
 unfold Addr.add
 by_cases hj:j=0
 ·subst hj;rfl
 ·rw[if_neg hj]
theorem Sl.rawNews {X:Nat->Prop} {w:World} {b off n cap sz:Nat} {ks:List (Raw sz)} (h:Sl X w sz RawC (.slice (some ⟨b,off,none⟩) n cap) ks) (hsz:0<sz):
  ∀j u,(rawL ks)[j]? =some u->w.cell? ((⟨b,off,none⟩:Addr).add j)=some u:=by
 intro j u hu
 have hj:j<ks.length * sz:=by
  have:=(List.getElem?_eq_some_iff.1 hu).1
  rwa [zqD] at this
 have hk:j / sz<ks.length:=Nat.div_lt_of_lt_mul (by rw[Nat.mul_comm];exact hj)
 have hm:j % sz<sz:=Nat.mod_lt _ hsz
 obtain⟨b',off',cs,hA,_,hRc,hc⟩:=h.cells hk
 simp only[Option.some.injEq,Addr.mk.injEq,and_true] at hA
 obtain⟨rfl,rfl⟩:=hA
 have h2:=zqB (C:=fun k:Raw sz=>k.1) (fun k=>k.2) ks (j / sz) hk (j % sz) hm
 have hdm:j / sz * sz+j % sz=j:=by rw[Nat.mul_comm];exact Nat.div_add_mod j sz
 rw[hdm] at h2
 unfold rawL at hu
 rw[h2,<-hRc] at hu
 rw[zqE]
 have:=hc (j % sz) u hm hu
 rw[<-this]
 congr 2
 omega
theorem RowV.rawSl {α:Type} {X:Nat->Prop} {w:World} {e:TypeId} {sz:Nat} {v:Value} {ks:List (Raw sz)} {xs:List α} {R:List Value->α->Prop} (h:RowV w e sz v xs.length (rawL ks)) (hl:ks.length=xs.length) (hR:∀i (h1:i<ks.length) (h2:i<xs.length),R ks[i].1 xs[i]) (hX:∀q,zcP v=some q->¬X q):Sl X w sz R v xs:=
 RowV.slW (C:=fun k:Raw sz=>k.1) (fun k=>k.2) h hl hR hX
structure ElT (S E:TypeId) (sz bytes:Nat):Prop where
 und:Tryz.prog.underlying S=some (.slice E)
 info:∃i z,Tryz.prog.info? E=some i∧i.zero=some z∧i.size=sz∧i.bytes=bytes∧z.cells.size=sz
 pos:0<sz
 small:bytes≤1000
def OneC {sz:Nat} (ks:List (Raw sz)):Prop:=∀u∈rawL ks,u.oneCell'=true
section
variable {w:World} {ops:Array Oper} {rest:List Oper} {o:Oper} {a:Act} {Q:Exit->Act->World->Prop} {S E:TypeId} {sz bytes:Nat}
theorem zqF (T:ElT S E sz bytes) (hgd:o.guard=none) (s x:Operand) (ho:o.op=.call { callee:=.builtin .append,args:=#[s,x],argTypes:=#[S,S] })
  (A0:Addr) (hs:a.eval s=.slice (some A0) 0 0) (X:Nat->Prop) (u:Value) (ls:List (Raw sz)) (hx:a.eval x=u) (h:Sl X w sz RawC u ls) (hl:ls.length≤100000) (hone:OneC ls)
  (k:∀A c w',RowV w' E sz (.slice A ls.length c) ls.length (rawL ls)->(∀q,zcP (.slice A ls.length c)=some q->q=w.heap.size)->Fr No w w'->wpList Tryz.prog ops Q rest (a.put o.dst (.slice A ls.length c)) w'):wpList Tryz.prog ops Q (o :: rest) a w:=by
 obtain⟨i0,z,hi,hz0,hz1,hz2,hz3⟩:=T.info
 have hsm:=T.small
 obtain⟨A,cap,rfl,_,_⟩:=h.form
 rcases Nat.eq_zero_or_pos ls.length with h0|h0
 ·obtain rfl:=List.eq_nil_of_length_eq_zero h0
  refine wpList_plain hgd fun K hK=>?_
  have hr:=zcT (P:=Tryz.prog) w S o.type E i0 T.und hi (some A0) A cap
  unfold Oper.wp execOp
  simp only[List.length_nil] at hx
  simp only[ho,resolve,invoke,builtin,Sem.run_bind,Sem.run_pure,Result.andThen_ok,List.map_toArray,List.map_cons,List.map_nil,hs,hx,hr]
  exact hK _ _ (k _ _ _ (.inr ⟨rfl,rfl,_,rfl⟩) (fun q hq=>by simp only[List.length_nil] at hq;rw[zcQ,if_pos rfl] at hq;cases hq) (Fr.refl _ _))
 ·obtain⟨b,off,cs,hA,_,_,_⟩:=h.cells h0
  cases hA
  refine zcS w hgd s x S ho E i0 z sz bytes T.und hi hz0 hz1 hz2 hz3 T.pos (.slice (some A0) 0 0) 0 [] hs (.inr ⟨rfl,rfl,_,rfl⟩) ⟨b,off,none⟩ ls.length cap (rawL ls) hx (zqD ls) (h.rawNews T.pos) hone h0 (by unfold maxLen;omega) (by have:=Nat.mul_le_mul hl hsm;rw[Nat.zero_add];omega) ?_
  intro g' cap' w2 hrow hcap hgf hor
  simp only[Nat.zero_add,List.nil_append] at hrow hcap ⊢
  have hor2:g'=w.heap.size:=by
   rcases hor with h9|h9
   ·rw[zcQ,if_pos rfl] at h9;cases h9
   ·exact h9
  exact k _ _ _ hrow (fun q hq=>by rw[zcQ,if_neg (by omega)] at hq;cases hq;exact hor2) (hgf.mono (fun _ _ e=>by rw[zcQ,if_pos rfl] at e;cases e))
theorem zqG (T:ElT S E sz bytes) (hgd:o.guard=none) (s x:Operand) (ho:o.op=.call { callee:=.builtin .append,args:=#[s,x],argTypes:=#[S,S] })
  (v:Value) (n:Nat) (ks:List (Raw sz)) (hs:a.eval s=v) (hn:n=ks.length) (hrow:RowV w E sz v n (rawL ks)) (hkl:n≤100000) (X:Nat->Prop) (b off c:Nat) (ls:List (Raw sz)) (hx:a.eval x=.slice (some ⟨b,off,none⟩) ls.length c) (h:Sl X w sz RawC (.slice (some ⟨b,off,none⟩) ls.length c) ls) (h0:0<ls.length) (hl:ls.length≤100000) (hone:OneC ls)
  (k:∀g c w',RowV w' E sz (.slice (some ⟨g,0,none⟩) (n+ls.length) c) (n+ls.length) (rawL (ks ++ ls))->n+ls.length≤c->Fr (fun b=>zcP v=some b) w w'->(zcP v=some g∨g=w.heap.size)->wpList Tryz.prog ops Q rest (a.put o.dst (.slice (some ⟨g,0,none⟩) (n+ls.length) c)) w'):wpList Tryz.prog ops Q (o :: rest) a w:=by
 obtain⟨i0,z,hi,hz0,hz1,hz2,hz3⟩:=T.info
 have hsm:=T.small
 subst hn
 refine zcS w hgd s x S ho E i0 z sz bytes T.und hi hz0 hz1 hz2 hz3 T.pos v ks.length (rawL ks) hs hrow ⟨b,off,none⟩ ls.length c (rawL ls) hx (zqD ls) (h.rawNews T.pos) hone h0 (by unfold maxLen;omega) (by have:=Nat.mul_le_mul (show ks.length+ls.length≤200000 by omega) hsm;omega) ?_
 intro g' cap' w2 hrow hcap hgf hor
 refine k _ _ _ ?_ hcap hgf hor
 unfold rawL
 rw[List.flatMap_append]
 exact hrow
theorem zqH (T:ElT S E sz bytes) (hgd:o.guard=none) (s x:Operand) (ho:o.op=.call { callee:=.builtin .append,args:=#[s,x],argTypes:=#[S,S] })
  (v:Value) (n:Nat) (ks:List (Raw sz)) (hs:a.eval s=v) (hn:n=ks.length) (hrow:RowV w E sz v n (rawL ks)) (hkl:n≤100000) (b:Nat) (t:TypeId) (cs:List Value) (hx:a.eval x=.slice (some ⟨b,0,none⟩) 1 1) (hb:Bx w b t cs.toArray) (hcs:cs.length=sz) (hone:∀u∈cs,u.oneCell'=true)
  (k:∀g c w',RowV w' E sz (.slice (some ⟨g,0,none⟩) (n+1) c) (n+1) (rawL (ks ++ [⟨cs,hcs⟩]))->n+1≤c->Fr (fun b=>zcP v=some b) w w'->(zcP v=some g∨g=w.heap.size)->wpList Tryz.prog ops Q rest (a.put o.dst (.slice (some ⟨g,0,none⟩) (n+1) c)) w'):wpList Tryz.prog ops Q (o :: rest) a w:=by
 obtain⟨i0,z,hi,hz0,hz1,hz2,hz3⟩:=T.info
 have hsm:=T.small
 subst hn
 refine zcS w hgd s x S ho E i0 z sz bytes T.und hi hz0 hz1 hz2 hz3 T.pos v ks.length (rawL ks) hs hrow ⟨b,0,none⟩ 1 1 cs hx (by omega) hb.news hone (by decide) (by unfold maxLen;omega) (by have:=Nat.mul_le_mul (show ks.length+1≤200000 by omega) hsm;omega) ?_
 intro g' cap' w2 hrow hcap hgf hor
 refine k _ _ _ ?_ hcap hgf hor
 have e:rawL (ks ++ [⟨cs,hcs⟩])=rawL ks ++ cs:=by
  unfold rawL
  rw[List.flatMap_append,List.flatMap_cons,List.flatMap_nil,List.append_nil]
 rw[e]
 exact hrow
end
theorem Sl.rawKeep {X Y:Nat->Prop} {w w':World} {sz:Nat} {v:Value} {ks:List (Raw sz)} (h:Sl X w sz RawC v ks) (hf:Fr Y w w') (hXY:∀b,Y b->X b):Sl X w' sz RawC v ks:=h.keep hf hXY (fun _ _ _ h=>h)
end Go.Proofs.YtmeaibjmnjcdfaaGreat
