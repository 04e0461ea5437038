/- What the reference reads out of lines, as data. No program is named here. -/
import Derived.Test.YtbfmeklfpackjaaGreatDoorQG4
import Derived.OwnWalk
namespace Go.Proofs.YtbfmeklfpackjaaGreatDoor
open Go.RowKit
abbrev Bs:=List UInt8
def zbl (l:Bs):Str:=⟨l.toArray⟩
def Str.l (s:Str):Bs:=s.data.toList
theorem zi1 (l:Bs):Str.l (zbl l)=l:=rfl
theorem zi2 (s:Str):zbl (Str.l s)=s:=rfl
theorem zkb (s:Str):(Str.l s).length=s.size:=rfl
theorem zpT (l:Bs):(zbl l).size=l.length:=rfl
def noSp:Str:=⟨#[]⟩
def zpU:Bs->Bs->List Bs
 | [],w=>[w]
 | c :: cs,w=>if c=32 then w :: zpU cs [] else zpU cs (w ++ [c])
def zpV (s:Str):List Str:=(zpU (Str.l s) []).map zbl
def zpW (s:Str):Bs:=Str.l ((zpV s).headD noSp)
theorem zpX (l w:Bs):zpU l w≠[]:=by
 induction l generalizing w with
 | nil=>simp[zpU]
 | cons c cs ih=>rw[zpU];split<;>simp[ih]
theorem zpY (s:Str):zpV s≠[]:=by simp[zpV,zpX]
theorem zpZ (l w:Bs):∀x∈zpU l w,x.length≤w.length+l.length:=by
 induction l generalizing w with
 | nil=>intro x hx;simp[zpU] at hx;subst hx;simp
 | cons c cs ih=>
  intro x hx
  rw[zpU] at hx
  split at hx
  ·rcases List.mem_cons.1 hx with rfl|hx
   ·omega
   ·have:=ih [] x hx;simp at this ⊢;omega
  ·have:=ih _ x hx;simp at this ⊢;omega
theorem zp0 (s:Str):∀x∈zpV s,x.size≤s.size:=by
 intro x hx
 obtain⟨y,hy,rfl⟩:=List.mem_map.1 hx
 have:=zpZ _ _ y hy
 rw[zpT,<-zkb]
 simpa using this
def zp1 (n:Nat):UInt8:=UInt8.ofNat (48+n)
def zp2:Nat->Nat->Bs->Bs
 | 0,n,o=>zp1 n :: o
 | f+1,n,o=>if 9<n then zp2 f (n / 10) (zp1 (n % 10) :: o) else zp1 n :: o
def zp3 (n:Nat):Bs:=zp2 n n []
def numL (n:Int):Bs:=if n<0 then 45 :: zp3 n.natAbs else zp3 n.natAbs
theorem zp4 (f:Nat):∀(g n:Nat) (o:Bs),n≤f->n≤g->zp2 f n o=zp2 g n o:=by
 induction f with
 | zero=>
  intro g n o h1 h2
  obtain rfl:n=0:=by omega
  cases g with
  | zero=>rfl
  | succ g=>simp[zp2]
 | succ f ih=>
  intro g n o h1 h2
  cases g with
  | zero=>
   obtain rfl:n=0:=by omega
   simp[zp2]
  | succ g=>
   rw[zp2,zp2]
   split
   ·exact ih g _ _ (by omega) (by omega)
   ·rfl
theorem zp5 {n:Nat} (h:9<n) (o:Bs):zp2 n n o=zp2 (n / 10) (n / 10) (zp1 (n % 10) :: o):=by
 obtain⟨f,rfl⟩:∃f,n=f+1:=⟨n-1,by omega⟩
 rw[zp2,if_pos h]
 exact zp4 _ _ _ _ (by omega) (Nat.le_refl _)
theorem zp6 {n:Nat} (h:¬9<n) (o:Bs):zp2 n n o=zp1 n :: o:=by
 cases n with
 | zero=>rfl
 | succ f=>rw[zp2,if_neg h]
theorem zp7 {n:Nat} (h:n<100000):(zp3 n).length≤6:=by
 unfold zp3
 have E:=fun(m:Nat) (o:Bs)=>@zp6 m
 by_cases h1:9<n
 ·rw[zp5 h1]
  by_cases h2:9<n / 10
  ·rw[zp5 h2]
   by_cases h3:9<n / 10 / 10
   ·rw[zp5 h3]
    by_cases h4:9<n / 10 / 10 / 10
    ·rw[zp5 h4,zp6 (by omega)];simp
    ·rw[zp6 h4];simp
   ·rw[zp6 h3];simp
  ·rw[zp6 h2];simp
 ·rw[zp6 h1];simp
def zp8:Bs->Nat->Option Nat
 | [],n=>some n
 | c :: cs,n=>if c.toNat<48∨57<c.toNat then none else zp8 cs (n * 10+(c.toNat-48))
def zp9 (l:Bs):Nat:=if l.head? =some 45 then 1 else 0
def signed (a n:Nat):Int:=if a=1 then -(n:Int) else n
def zqa (l:Bs):Int×Bool:=
 if l.length=zp9 l∨zp9 l+4<l.length then (0,false)
 else match zp8 (l.drop (zp9 l)) 0 with
  | none=>(0,false)
  | some n=>(signed (zp9 l) n,numL (signed (zp9 l) n) == l)
def zqb (s:Str):Int×Bool:=zqa (Str.l s)
theorem zqc:∀(l:Bs) (n m:Nat),zp8 l n=some m->m<(n+1) * 10 ^ l.length:=by
 intro l
 induction l with
 | nil=>intro n m h;simp[zp8] at h;subst h;simp
 | cons c cs ih=>
  intro n m h
  rw[zp8] at h
  split at h
  ·cases h
  ·have:=ih _ _ h
   have hc:c.toNat-48≤9:=by omega
   have h2:(n * 10+(c.toNat-48)+1) * 10 ^ cs.length≤((n+1) * 10) * 10 ^ cs.length:=Nat.mul_le_mul_right _ (by omega)
   have h3:(n+1) * 10 ^ (c :: cs).length=((n+1) * 10) * 10 ^ cs.length:=by
    rw[List.length_cons,Nat.pow_succ,Nat.mul_assoc,Nat.mul_comm 10]
   omega
theorem zqd (s:Str):-10000<(zqb s).1∧(zqb s).1<10000:=by
 unfold zqb zqa
 split
 ·simp
 ·rename_i h
  split
  ·simp
  ·rename_i n hn
   have h1:=zqc _ _ _ hn
   have hl:(List.drop (zp9 (Str.l s)) (Str.l s)).length≤4:=by rw[List.length_drop];omega
   have h2:10 ^ (List.drop (zp9 (Str.l s)) (Str.l s)).length≤10 ^ 4:=Nat.pow_le_pow_right (by decide) hl
   have h3:n<10000:=by
    have h4:(0+1) * 10 ^ (List.drop (zp9 (Str.l s)) (Str.l s)).length≤10000:=by simpa using h2
    omega
   dsimp only
   unfold signed
   split<;>omega
def zqe (s:Str):Knd×Bool:=if Str.l s=[35] then (⟨1,noSp⟩,true) else if namB s then (⟨2,s⟩,true) else (⟨0,noSp⟩,false)
def zqf (s:Str):Tag×Bool:=if Str.l s=[63] then (⟨0,noSp⟩,true) else if Str.l s=[35] then (⟨1,noSp⟩,true) else if Str.l s=[33] then (⟨3,noSp⟩,true) else (⟨2,s⟩,namB s)
theorem zqg {s:Str} (h:s.size≤maxLen):(zqe s).1.name.size≤maxLen:=by
 unfold zqe
 split
 ·exact Nat.zero_le _
 ·split
  ·exact h
  ·exact Nat.zero_le _
theorem zqh {s:Str} (h:s.size≤maxLen):(zqf s).1.name.size≤maxLen:=by
 unfold zqf
 split
 ·exact Nat.zero_le _
 ·split
  ·exact Nat.zero_le _
  ·split
   ·exact Nat.zero_le _
   ·exact h
def zqi:Cls:=⟨noSp,noSp,[],[]⟩
def zqj:Mth:=⟨noSp,[],⟨0,noSp⟩,0,0,[],[]⟩
def zqk (ws:List Str):Ask×Bool:=match ws with
 | [_,a,b]=>(⟨a,(zqb b).1⟩,(zqb b).2&&decide (0≤(zqb b).1)&&namB a)
 | _=>(⟨noSp,0⟩,false)
def zql (ws:List Str):Cls×Bool:=match ws with
 | [_,a,b]=>if namB a&&(Str.l b == [45] || namB b) then (⟨a,if Str.l b=[45] then noSp else b,[],[]⟩,true) else (zqi,false)
 | _=>(zqi,false)
def zqm (ws:List Str):Fld×Bool:=match ws with
 | [_,a,b]=>if namB a then (⟨a,(zqe b).1⟩,(zqe b).2) else (⟨noSp,⟨0,noSp⟩⟩,false)
 | _=>(⟨noSp,⟨0,noSp⟩⟩,false)
def zqn:List Str->List Knd->Option (List Knd)
 | [],ks=>some ks
 | s :: ss,ks=>if (zqe s).2 then zqn ss (ks ++ [(zqe s).1]) else none
def zqo (ws:List Str):Mth×Bool:=match ws with
 | _ :: nm :: lo :: st :: rt :: rest=>
  if rest.length≤3∧namB nm=true then
   match zqn rest [] with
   | none=>(zqj,false)
   | some ks=>(⟨nm,ks,(zqe rt).1,(zqb lo).1,(zqb st).1,[],[]⟩,(zqb lo).2&&(zqb st).2&&(zqe rt).2&&decide (0≤(zqb lo).1)&&decide (0≤(zqb st).1))
  else (zqj,false)
 | _=>(zqj,false)
def zqp:List Str->Bool->List Tag->List Tag->Option (Bool×List Tag×List Tag)
 | [],b,l,s=>some (b,l,s)
 | x :: xs,b,l,s=>
  if Str.l x=[47]∧b=false then zqp xs true l s
  else if (zqf x).2 then (if b then zqp xs b l (s ++ [(zqf x).1]) else zqp xs b (l ++ [(zqf x).1]) s)
  else none
def noMp:Mp:=⟨0,[],[]⟩
def zqq (ws:List Str):Mp×Bool:=match ws with
 | _ :: a :: x :: rest=>
  if rest.length≤12 then
   match zqp (x :: rest) false [] [] with
   | none=>(noMp,false)
   | some (b,l,s)=>(⟨(zqb a).1,l,s⟩,(zqb a).2&&b&&decide (0≤(zqb a).1))
  else (noMp,false)
 | _=>(noMp,false)
def insW (op:Nat):Bs:=([[],[110,117,109],[116,97,107,101],[112,117,116],[97,100,100],[110,117,108,108],[110,101,119],[103,101,116],[115,101,116],[99,97,108,108],[114,101,116],[122,101,114,111],[110,105,108],[103,111],[111,117,116],[99,97,115,116]]:List Bs).getD op []
def zqr (i:Ins):Bs:=
 if insB i then
  (if i.op=1∨i.op=2∨i.op=3∨i.op=11∨i.op=12∨i.op=13 then insW i.op.toNat ++ 32 :: numL i.a
   else if i.op=6∨i.op=15 then insW i.op.toNat ++ 32 :: Str.l i.name
   else if i.op=7∨i.op=8∨i.op=9 then insW i.op.toNat ++ 32 :: (Str.l i.name ++ 32 :: Str.l i.member)
   else insW i.op.toNat)
 else []
def zqs:Ins:=⟨0,0,noSp,noSp⟩
def zqt (op:Nat) (ws:List Str):Ins:=match ws with
 | _ :: a :: rest=>⟨op,if (zqb a).2 then (zqb a).1 else 0,if (zqb a).2 then noSp else a,rest.headD noSp⟩
 | _=>⟨op,0,noSp,noSp⟩
def zqu (s:Str):Nat->Nat->Ins×Bool
 | 0,_=>(zqs,false)
 | f+1,op=>if insW op=zpW s then (if s.size≤30∧zqr (zqt op (zpV s))=Str.l s then (zqt op (zpV s),true) else (zqs,false)) else zqu s f (op+1)
def zqv (s:Str):Ins×Bool:=zqu s 15 1
def setLast (c:Cls) (m:Mth):Cls:=⟨c.name,c.super,c.fields,c.methods.dropLast ++ [m]⟩
def zqw (c:Cls) (line:Str):Cls×Bool:=
 let ws:=zpV line
 if zpW line=[102,105,101,108,100] then (⟨c.name,c.super,c.fields ++ [(zqm ws).1],c.methods⟩,(zqm ws).2&&c.methods.isEmpty)
 else if zpW line=[109,101,116,104,111,100] then (⟨c.name,c.super,c.fields,c.methods ++ [(zqo ws).1]⟩,(zqo ws).2)
 else match c.methods.getLast? with
  | none=>(c,false)
  | some m=>
   if zpW line=[102,114,97,109,101] then (setLast c ⟨m.name,m.args,m.ret,m.locals,m.stack,m.code,m.maps ++ [(zqq ws).1]⟩,(zqq ws).2&&m.code.isEmpty)
   else (setLast c ⟨m.name,m.args,m.ret,m.locals,m.stack,m.code ++ [(zqv line).1],m.maps⟩,(zqv line).2)
def zqx (ks:List Kpr) (line:Str):List Kpr×Bool:=
 let ws:=zpV line
 if Str.l line=[107,101,101,112,101,114] then (ks ++ [⟨[],[]⟩],decide (ks.length<3))
 else match ks.getLast? with
  | none=>(ks,false)
  | some k=>
   if zpW line=[97,115,107,115] then (ks.dropLast ++ [⟨k.owns,k.asks ++ [(zqk ws).1]⟩],(zqk ws).2&&k.owns.isEmpty)
   else if zpW line=[99,108,97,115,115] then (ks.dropLast ++ [⟨k.owns ++ [(zql ws).1],k.asks⟩],(zql ws).2)
   else match k.owns.getLast? with
    | none=>(ks,false)
    | some c=>(ks.dropLast ++ [⟨k.owns.dropLast ++ [(zqw c line).1],k.asks⟩],(zqw c line).2)
def zqy:List Kpr->Nat->List Str->List Kpr×Nat
 | ks,_,[]=>(ks,0)
 | ks,n,l :: ls=>if (zqx ks l).2 then zqy (zqx ks l).1 (n+1) ls else ([],n+1)
def zqz (ls:List Str):List Kpr×Nat:=
 if 400<ls.length then ([],401)
 else if (zqy [] 0 ls).2≠0 then ([],(zqy [] 0 ls).2)
 else if lodB ⟨(zqy [] 0 ls).1⟩ then ((zqy [] 0 ls).1,0) else ([],ls.length+1)
def zcP:Value->Option Nat
 | .slice (some a) _ c=>if c=0 then none else some a.block
 | _=>none
theorem zcQ (a:Addr) (n c:Nat):zcP (.slice (some a) n c)=if c=0 then none else some a.block:=rfl
def RowV (w:World) (e:TypeId) (sz:Nat) (v:Value) (n:Nat) (xs:List Value):Prop:=
 w.ownsRow 0 e sz v n xs∨(n=0∧xs=[]∧∃A,v=.slice (some A) 0 0)
section
variable {X:Nat->Prop} {w w':World} {e:TypeId} {sz n:Nat} {v:Value} {xs:List Value}
theorem RowV.nil (w:World) (e:TypeId) (sz:Nat):RowV w e sz (.slice none 0 0) 0 []:=.inl (World.ownsRow_nil _ _ _ _)
theorem RowV.len (h:RowV w e sz v n xs):xs.length=n * sz:=by
 rcases h with h | ⟨rfl,rfl,_⟩
 ·exact h.1
 ·simp
theorem RowV.form (h:RowV w e sz v n xs):∃A c,v=.slice A n c∧n≤c∧c≤maxLen:=by
 rcases h with ⟨_,⟨rfl,rfl⟩ | ⟨g,cap,cur,rfl,_,_,h1,h2,_⟩⟩ | ⟨rfl,rfl,A,rfl⟩
 ·exact⟨_,_,rfl,Nat.le_refl _,Nat.zero_le _⟩
 ·exact⟨_,_,rfl,h1,h2⟩
 ·exact⟨_,_,rfl,Nat.le_refl _,Nat.zero_le _⟩
theorem RowV.at_ (h:RowV w e sz v n xs) (hn:0<n):∃g c cur,v=.slice (some ⟨g,0,none⟩) n c∧n≤c∧c≤maxLen∧Bx w g e cur∧cur.size=c * sz∧cur.toList.take (n * sz)=xs∧zcP v=some g:=by
 rcases h with ⟨_,⟨rfl,rfl⟩ | ⟨g,cap,cur,rfl,_,hb,h1,h2,h3,h4⟩⟩ | ⟨rfl,rfl,A,rfl⟩
 ·omega
 ·exact⟨g,cap,cur,rfl,h1,h2,hb,h3,h4,by rw[zcQ,if_neg (by omega)]⟩
 ·omega
theorem RowV.cell (h:RowV w e sz v n xs) {g c:Nat} (hv:v=.slice (some ⟨g,0,none⟩) n c) {j:Nat} (hj:j<n * sz):w.cell? ⟨g,j,none⟩=xs[j]?:=by
 have h0:0<n:=Nat.pos_of_ne_zero (fun h0=>by rw[h0] at hj;simp at hj)
 obtain⟨g',c',cur,he,h1,h2,hb,h3,h4,_⟩:=h.at_ h0
 rw[hv] at he
 simp only[Value.slice.injEq,Option.some.injEq,Addr.mk.injEq,and_true,true_and] at he
 obtain⟨rfl,rfl⟩:=he
 rw[hb.cell,<-h4,List.getElem?_take,if_pos hj]
 simp
theorem RowV.lt (h:RowV w e sz v n xs) {q:Nat} (hq:zcP v=some q):q<w.heap.size:=by
 rcases h with ⟨_,⟨rfl,rfl⟩ | ⟨g,cap,cur,rfl,_,hb,h1,h2,h3,h4⟩⟩ | ⟨rfl,rfl,A,rfl⟩
 ·cases hq
 ·have hb':Bx w g e cur:=hb
  rw[zcQ] at hq
  split at hq
  ·cases hq
  ·cases hq;exact hb'.lt
 ·rw[zcQ,if_pos rfl] at hq;cases hq
theorem RowV.keep (h:RowV w e sz v n xs) (hf:Fr X w w') (hX:∀q,zcP v=some q->¬X q):RowV w' e sz v n xs:=by
 rcases h with ⟨hl,⟨rfl,rfl⟩ | ⟨g,cap,cur,rfl,hg,hb,h1,h2,h3,h4⟩⟩ | ⟨rfl,rfl,A,rfl⟩
 ·exact .inl ⟨hl,.inl ⟨rfl,rfl⟩⟩
 ·have hb':Bx w g e cur:=hb
  by_cases hc:cap=0
  ·subst hc
   have hn:n=0:=by omega
   subst hn
   exact .inr ⟨rfl,List.eq_nil_of_length_eq_zero (by simpa using hl),_,rfl⟩
  ·exact .inl ⟨hl,.inr ⟨g,cap,cur,rfl,hg,hb'.keepX hf (hX g (by rw[zcQ,if_neg hc])),h1,h2,h3,h4⟩⟩
 ·exact .inr ⟨rfl,rfl,A,rfl⟩
theorem RowV.keep0 (h:RowV w e sz v n xs) (hf:Fr No w w'):RowV w' e sz v n xs:=h.keep hf (fun _ _ h=>h)
theorem RowV.ne (h:RowV w e sz v n xs) {b:Nat} {t:TypeId} {cs:Array Value} (hb:Bx w b t cs) (hne:e≠t) {q:Nat} (hq:zcP v=some q):q≠b:=by
 rcases h with ⟨_,⟨rfl,rfl⟩ | ⟨g,cap,cur,rfl,_,h2,_⟩⟩ | ⟨rfl,rfl,A,rfl⟩
 ·cases hq
 ·have h2':Bx w g e cur:=h2
  rw[zcQ] at hq
  split at hq
  ·cases hq
  ·cases hq
   rintro rfl
   unfold Bx at hb h2'
   rw[h2'] at hb
   simp at hb
   exact hne hb.2
 ·rw[zcQ,if_pos rfl] at hq;cases hq
theorem RowV.cut {g c:Nat} (h:RowV w e sz (.slice (some ⟨g,0,none⟩) (n+1) c) (n+1) xs):RowV w e sz (.slice (some ⟨g,0,none⟩) n c) n (xs.take (n * sz)):=by
 have hl:=h.len
 obtain⟨g',c',cur,he,h1,h2,hb,h3,h4,_⟩:=h.at_ (by omega)
 simp only[Value.slice.injEq,Option.some.injEq,Addr.mk.injEq,and_true,true_and] at he
 obtain⟨rfl,rfl⟩:=he
 have hle:n * sz≤(n+1) * sz:=Nat.mul_le_mul_right _ (by omega)
 exact .inl ⟨by rw[List.length_take,hl];omega,.inr ⟨g,c,cur,rfl,Nat.zero_le _,hb,by omega,h2,h3,by rw[<-h4,List.take_take,Nat.min_eq_left hle]⟩⟩
end
section
variable {P:Program} (w:World)
theorem zcR (t ty e:TypeId) (i:TypeInfo) (z:Value) (size bytes:Nat) (ht:P.underlying t=some (.slice e)) (hi:P.info? e=some i) (hz:i.zero=some z)
  (hsize:i.size=size) (hby:i.bytes=bytes) (hzs:z.cells.size=size) (hsz:0<size)
  (v:Value) (n:Nat) (xs:List Value) (hown:RowV w e size v n xs)
  (a:Addr) (m c:Nat) (news:List Value) (hl:news.length=m * size) (hnews:∀j u,news[j]? =some u->w.cell? (a.add j)=some u) (h1:∀u∈news,u.oneCell'=true) (hm:0<m)
  (h63:n+m≤maxLen) (hbytes:(n+m) * bytes≤140737488355328):
  ∃g' cap' w',(Builtin.append_ #[t,t] ty #[v,.slice (some a) m c]).run P w=.ok (.slice (some ⟨g',0,none⟩) (n+m) cap') w'∧RowV w' e size (.slice (some ⟨g',0,none⟩) (n+m) cap') (n+m) (xs ++ news)∧n+m≤cap'∧Fr (fun b=>zcP v=some b) w w'∧(zcP v=some g'∨g'=w.heap.size):=by
 have hlen:(xs ++ news).length=(n+m) * size:=by rw[List.length_append,hown.len,hl,Nat.add_mul]
 have h64:n+m≤9223372036854775807:=by unfold maxLen at h63;omega
 rcases hown with hown | ⟨rfl,rfl,A,rfl⟩
 ·obtain⟨v',w',hr,h2,h3,h4⟩:=run_append_own (P:=P) w 0 t ty e i z size bytes ht hi hz hsize hby hzs hsz v n xs hown a m c news hl hnews h1 h63 hbytes (Nat.zero_le _)
  subst hsize hby
  rcases hown.2 with ⟨rfl,rfl⟩ | ⟨g,cap,cur,rfl,_,hg,hnc,hcm,hcs,htake⟩
  ·have hx:xs=[]:=List.eq_nil_of_length_eq_zero (by simpa using hown.1)
   subst hx
   have hr2:=run_append_nil (P:=P) w t ty e i z ht hi hz a m c news hl hnews hm (by omega) (by simp only[Nat.zero_add] at hbytes;omega)
   rw[hr] at hr2
   cases hr2
   simp only[Nat.zero_add] at h2 ⊢
   exact⟨_,_,_,hr,.inl h2,grownCap_ge _ _ _ _,(Fr.refl _ w).grown h3 (fun k e=>by cases e),.inr rfl⟩
  ·have hb:Bx w g e cur:=hg
   by_cases hroom:n+m≤cap
   ·have hc0:cap≠0:=by omega
    have hfit:n * i.size+news.length≤cur.size:=by rw[hl,hcs,<-Nat.add_mul];exact Nat.mul_le_mul_right _ hroom
    have hr2:=run_append_room (P:=P) w t ty e i ht hi g n cap cur hg a m c news hl hnews h1 hroom hfit
    rw[hr] at hr2
    cases hr2
    exact⟨_,_,_,hr,.inl h2,hroom,(Fr.refl _ w).grown h3 (fun k e=>.inr (by rw[zcQ,if_neg hc0];exact e)),.inl (by rw[zcQ,if_neg hc0])⟩
   ·have holds:∀j u,xs[j]? =some u->w.cell? ((⟨g,0,none⟩:Addr).add j)=some u:=hown.cells (g:=g) rfl
    have hr2:=run_append_grow (P:=P) w t ty e i z ht hi hz ⟨g,0,none⟩ n cap xs hown.1 holds a m c news hl hnews (by omega) (by omega) (growslice_fits (by omega) hbytes)
    rw[hr] at hr2
    cases hr2
    exact⟨_,_,_,hr,.inl h2,grownCap_ge _ _ _ _,((Fr.refl _ w).drew.alloc _),.inr rfl⟩
 ·subst hsize hby
  have hr:=run_append_grow (P:=P) w t ty e i z ht hi hz A 0 0 [] (by simp) (by simp) a m c news hl hnews (by omega) (by omega) (growslice_fits (by omega) hbytes)
  refine⟨_,_,_,hr,.inl ⟨hlen,.inr ⟨w.heap.size,_,_,rfl,Nat.zero_le _,heap_alloc_new w.drew _,grownCap_ge _ _ _ _,grownCap_le_maxLen _ _ _ _ h63,?_,?_⟩⟩,grownCap_ge _ _ _ _,((Fr.refl _ w).drew.alloc _),.inr rfl⟩
  ·have hge:=grownCap_ge w (0+m) 0 e
   simp only[Array.size_append,List.size_toArray,List.length_nil,size_zeroCells,hzs,hl,<-Nat.add_mul,Nat.zero_add] at hge ⊢
   congr 1
   omega
  ·rw[Array.toList_append,Array.toList_append,<-hlen]
   simp
theorem zcS {ops:Array Oper} {rest:List Oper} {o:Oper} {a:Act} {Q:Exit->Act->World->Prop} (hgd:o.guard=none) (s x:Operand) (t:TypeId)
  (ho:o.op=.call { callee:=.builtin .append,args:=#[s,x],argTypes:=#[t,t] })
  (e:TypeId) (i:TypeInfo) (z:Value) (size bytes:Nat) (ht:P.underlying t=some (.slice e)) (hi:P.info? e=some i) (hz:i.zero=some z)
  (hsize:i.size=size) (hby:i.bytes=bytes) (hzs:z.cells.size=size) (hsz:0<size)
  (v:Value) (n:Nat) (xs:List Value) (hs:a.eval s=v) (hown:RowV w e size v n xs)
  (ad:Addr) (m c:Nat) (news:List Value) (hx:a.eval x=.slice (some ad) m c) (hl:news.length=m * size) (hnews:∀j u,news[j]? =some u->w.cell? (ad.add j)=some u) (h1:∀u∈news,u.oneCell'=true) (hm:0<m)
  (h63:n+m≤maxLen) (hbytes:(n+m) * bytes≤140737488355328)
  (h:∀g' cap' w',RowV w' e size (.slice (some ⟨g',0,none⟩) (n+m) cap') (n+m) (xs ++ news)->n+m≤cap'->Fr (fun b=>zcP v=some b) w w'->(zcP v=some g'∨g'=w.heap.size)->wpList P ops Q rest (a.put o.dst (.slice (some ⟨g',0,none⟩) (n+m) cap')) w'):wpList P ops Q (o :: rest) a w:=
 wpList_plain hgd fun K hK=>by
  obtain⟨g',cap',w',hr,h2,h3,h4,h5⟩:=zcR (P:=P) w t o.type e i z size bytes ht hi hz hsize hby hzs hsz v n xs hown ad m c news hl hnews h1 hm h63 hbytes
  unfold Oper.wp execOp
  simp only[ho,resolve,invoke,builtin,Sem.run_bind,Sem.run_pure,Result.andThen_ok,List.map_toArray,List.map_cons,List.map_nil,hs,hx,hr]
  exact hK _ _ (h g' cap' w' h2 h3 h4 h5)
theorem zcT (t ty e:TypeId) (i:TypeInfo) (ht:P.underlying t=some (.slice e)) (hi:P.info? e=some i) (A B:Option Addr) (c:Nat):
  (Builtin.append_ #[t,t] ty #[.slice A 0 0,.slice B 0 c]).run P w=.ok (.slice A 0 0) w:=by
 have hl:∀b:Addr,(loadCells b 0).run P w=.ok #[] w:=fun b=>by simp[loadCells,loadCellsFrom]
 cases A<;>cases B<;>simp[Builtin.append_,run_underlying ht,sizeOf,typeInfo,hi,Builtin.lenOf,Builtin.firstCells,hl,storeCells]
end
theorem Bx.news {w:World} {b:Nat} {t:TypeId} {cs:List Value} (h:Bx w b t cs.toArray):∀j u,cs[j]? =some u->w.cell? ((⟨b,0,none⟩:Addr).add j)=some u:=by
 intro j u hu
 have e:(⟨b,0,none⟩:Addr).add j=⟨b,j,none⟩:=by
  unfold Addr.add
  by_cases hj:j=0
  ·subst hj;rfl
  ·rw[if_neg hj];simp
 rw[e,h.cell]
 simpa using hu
def zcU (t:Tag):List Value:=[.int .i64 t.kind,.string t.name]
theorem zcV:∀(pre:List Tag) (k:Nat) (hk:k<pre.length) (j:Nat),j<2->(pre.flatMap zcU)[k * 2+j]? =(zcU pre[k])[j]?
 | a :: pre,0,_,j,hj=>by
  rw[List.flatMap_cons,List.getElem?_append_left (by simp[zcU];omega)]
  simp
 | a :: pre,k+1,hk,j,hj=>by
  rw[List.flatMap_cons,List.getElem?_append_right (by simp[zcU];omega)]
  have:=zcV pre k (by simpa using hk) j hj
  have e:(k+1) * 2+j-(zcU a).length=k * 2+j:=by simp[zcU];omega
  rw[e,this]
  simp
theorem zcW (xs:List Tag):(xs.flatMap zcU).length=xs.length * 2:=by
 induction xs with
 | nil=>rfl
 | cons x xs ih=>rw[List.flatMap_cons,List.length_append,ih,List.length_cons];simp[zcU];omega
def zcX (w:World) (e:TypeId) (v:Value) (xs:List Tag):Prop:=RowV w e 2 v xs.length (xs.flatMap zcU)∧∀x∈xs,x.name.size≤maxLen
section
variable {X:Nat->Prop} {w w':World} {e:TypeId} {v:Value} {xs:List Tag}
theorem zcX.keep (h:zcX w e v xs) (hf:Fr X w w') (hX:∀q,zcP v=some q->¬X q):zcX w' e v xs:=⟨h.1.keep hf hX,h.2⟩
theorem zcX.sl (h:zcX w e v xs) (hX:∀q,zcP v=some q->¬X q):Sl X w 2 TagC v xs:=by
 obtain⟨h,hn⟩:=h
 obtain⟨A,c,rfl,h1,h2⟩:=h.form
 refine⟨A,c,rfl,h1,by omega,fun h0=>?_⟩
 obtain⟨g,c',cur,he,_,_,hb,h3,h4,hq⟩:=h.at_ h0
 cases he
 refine⟨g,0,rfl,hX g hq,fun k hk=>⟨zcU xs[k],⟨rfl,hn _ (List.getElem_mem hk)⟩,rfl,fun j hj=>?_⟩⟩
 rw[Nat.zero_add,h.cell rfl (by omega),zcV xs k hk j hj]
theorem zcX.cut {x:Tag} {g n c:Nat} (h:zcX w e (.slice (some ⟨g,0,none⟩) n c) (xs ++ [x])):zcX w e (.slice (some ⟨g,0,none⟩) (n-1) c) xs:=by
 obtain⟨h,hn⟩:=h
 have e1:(xs ++ [x]).length=xs.length+1:=by simp
 rw[e1] at h
 have hv:=h.form
 obtain⟨A,c',he,_⟩:=hv
 cases he
 have h2:=h.cut
 rw[List.flatMap_append,List.take_append_of_le_length (by rw[zcW];exact Nat.le_refl _),List.take_of_length_le (by rw[zcW];exact Nat.le_refl _)] at h2
 exact⟨h2,fun y hy=>hn y (by simp[hy])⟩
end
structure El (κ β:Type) where
 e:TypeId
 sz:Nat
 C:κ->List Value
 B:κ->List Nat
 R:World->κ->β->Prop
 len:∀k,(C k).length=sz
 keep:∀{X:Nat->Prop} {W W':World} {k:κ} {x:β},R W k x->Fr X W W'->(∀b∈B k,¬X b)->R W' k x
 lt:∀{W:World} {k:κ} {x:β} {b:Nat},R W k x->b∈B k->b<W.heap.size
def Els {κ β:Type} (L:El κ β) (W:World):List κ->List β->Prop
 | [],[]=>True
 | k :: ks,x :: xs=>L.R W k x∧Els L W ks xs
 | _,_=>False
section
variable {κ β:Type} {L:El κ β} {X:Nat->Prop} {W W':World}
theorem Els.length:∀{ks:List κ} {xs:List β},Els L W ks xs->ks.length=xs.length
 | [],[],_=>rfl
 | _ :: ks,_ :: xs,h=>by simp[Els.length (ks:=ks) (xs:=xs) h.2]
 | [],_ :: _,h=>h.elim
 | _ :: _,[],h=>h.elim
theorem Els.keep:∀{ks:List κ} {xs:List β},Els L W ks xs->Fr X W W'->(∀b∈ks.flatMap L.B,¬X b)->Els L W' ks xs
 | [],[],_,_,_=>trivial
 | k :: ks,x :: xs,h,hf,hb=>⟨L.keep h.1 hf (fun b hb'=>hb b (by simp[hb'])),Els.keep h.2 hf (fun b hb'=>hb b (by rw[List.flatMap_cons];exact List.mem_append_right _ hb'))⟩
 | [],_ :: _,h,_,_=>h.elim
 | _ :: _,[],h,_,_=>h.elim
theorem Els.lt:∀{ks:List κ} {xs:List β},Els L W ks xs->∀b∈ks.flatMap L.B,b<W.heap.size
 | [],[],_,b,hb=>by simp at hb
 | k :: ks,x :: xs,h,b,hb=>by
  rw[List.flatMap_cons,List.mem_append] at hb
  rcases hb with hb|hb
  ·exact L.lt h.1 hb
  ·exact Els.lt h.2 b hb
 | [],_ :: _,h,_,_=>h.elim
 | _ :: _,[],h,_,_=>h.elim
theorem Els.append:∀{ks ls:List κ} {xs ys:List β},Els L W ks xs->Els L W ls ys->Els L W (ks ++ ls) (xs ++ ys)
 | [],_,[],_,_,h=>h
 | _ :: _,_,_ :: _,_,h,g=>⟨h.1,Els.append h.2 g⟩
 | [],_,_ :: _,_,h,_=>h.elim
 | _ :: _,_,[],_,h,_=>h.elim
theorem Els.snoc {ks:List κ} {xs:List β} {k:κ} {x:β} (h:Els L W ks xs) (g:L.R W k x):Els L W (ks ++ [k]) (xs ++ [x]):=h.append ⟨g,trivial⟩
theorem Els.last:∀{ks:List κ} {xs:List β} {x:β},Els L W ks (xs ++ [x])->∃ls k,ks=ls ++ [k]∧Els L W ls xs∧L.R W k x
 | [k],[],x,h=>⟨[],k,rfl,trivial,h.1⟩
 | k :: l :: ks,[],x,h=>h.2.elim
 | k :: ks,y :: xs,x,h=>by
  obtain⟨ls,j,rfl,h1,h2⟩:=Els.last (ks:=ks) (xs:=xs) h.2
  exact⟨k :: ls,j,rfl,⟨h.1,h1⟩,h2⟩
 | [],[],_,h=>h.elim
 | [],_ :: _,_,h=>h.elim
end
section
variable {κ:Type} {C:κ->List Value} {sz:Nat}
theorem zqA (hC:∀k,(C k).length=sz):∀ks:List κ,(ks.flatMap C).length=ks.length * sz
 | []=>by simp
 | k :: ks=>by rw[List.flatMap_cons,List.length_append,zqA hC ks,hC,List.length_cons,Nat.add_mul];omega
theorem zqB (hC:∀k,(C k).length=sz):∀(ks:List κ) (i:Nat) (hi:i<ks.length) (j:Nat),j<sz->(ks.flatMap C)[i * sz+j]? =(C ks[i])[j]?
 | k :: ks,0,_,j,hj=>by
  rw[List.flatMap_cons,List.getElem?_append_left (by rw[hC];omega)]
  simp
 | k :: ks,i+1,hi,j,hj=>by
  rw[List.flatMap_cons,List.getElem?_append_right (by rw[hC,Nat.add_mul];omega)]
  have e:(i+1) * sz+j-(C k).length=i * sz+j:=by rw[hC,Nat.add_mul];omega
  rw[e,zqB hC ks i (by simpa using hi) j hj]
  simp
end
theorem RowV.slW {κ β:Type} {X:Nat->Prop} {w:World} {e:TypeId} {sz:Nat} {v:Value} {C:κ->List Value} {ks:List κ} {xs:List β} {R:List Value->β->Prop} (hC:∀k,(C k).length=sz)
  (h:RowV w e sz v xs.length (ks.flatMap C)) (hl:ks.length=xs.length) (hR:∀i (h1:i<ks.length) (h2:i<xs.length),R (C ks[i]) xs[i]) (hX:∀q,zcP v=some q->¬X q):Sl X w sz R v xs:=by
 obtain⟨A,c,rfl,h1,h2⟩:=h.form
 refine⟨A,c,rfl,h1,by omega,fun h0=>?_⟩
 obtain⟨g,c',cur,he,_,_,hb,h3,h4,hq⟩:=h.at_ h0
 cases he
 refine⟨g,0,rfl,hX g hq,fun k hk=>⟨C (ks[k]'(by omega)),hR k (by omega) hk,hC _,fun j hj=>?_⟩⟩
 have hle:k * sz+j<xs.length * sz:=by
  have:(k+1) * sz≤xs.length * sz:=Nat.mul_le_mul_right _ hk
  rw[Nat.add_mul] at this
  omega
 rw[Nat.zero_add,h.cell rfl hle,zqB hC ks k (by omega) j hj]
theorem zqC {g n c:Nat} (hc:0<c):zcP (.slice (some ⟨g,0,none⟩) n c)=some g:=by rw[zcQ,if_neg (by omega)]
end Go.Proofs.YtbfmeklfpackjaaGreatDoor
