/- Appends of structs, told of the structs' cells as they lie. -/
import Derived.Test.YtpghfhjhjlmljaaGreatPG2
import Derived.Test.YtpghfhjhjlmljaaGreatPG3
namespace Go.Proofs.YtpghfhjhjlmljaaGreat
open Go.RowKit
abbrev Raw (sz:Nat):={cs:List Value // cs.length=sz}
def RawC {sz:Nat} (cs:List Value) (k:Raw sz):Prop:=cs=k.1
def rawL {sz:Nat} (ks:List (Raw sz)):List Value:=ks.flatMap (·.1)
theorem zqD {sz:Nat} (ks:List (Raw sz)):(rawL ks).length=ks.length * sz:=zqA (C:=fun k:Raw sz=>k.1) (fun k=>k.2) ks
theorem Sl.raw {α:Type} {X:Nat->Prop} {w:World} {sz:Nat} {R:List Value->α->Prop} {v:Value} {xs:List α} (h:Sl X w sz R v xs):
  ∃ks:List (Raw sz),ks.length=xs.length∧(∀i (h1:i<ks.length) (h2:i<xs.length),R ks[i].1 xs[i])∧Sl X w sz RawC v ks:=by
 obtain⟨A,cap,rfl,h1,h2,h3⟩:=h
 rcases Nat.eq_zero_or_pos xs.length with h0|h0
 ·exact⟨[],h0.symm,fun i h=>absurd h (by simp),A,cap,by rw[h0];rfl,Nat.zero_le _,Nat.zero_le _,fun h=>absurd h (by simp)⟩
 ·obtain⟨b,off,rfl,hX,hc⟩:=h3 h0
  refine⟨(List.finRange xs.length).map fun k=>⟨(hc k.1 k.2).choose,(hc k.1 k.2).choose_spec.2.1⟩,by simp,fun i g1 g2=>?_,⟨some ⟨b,off,none⟩,cap,by simp,by simpa using h1,by simpa using h2,fun _=>⟨b,off,rfl,hX,fun k hk=>?_⟩⟩⟩
  ·rw[List.getElem_map]
   have e:(List.finRange xs.length)[i]'(by simpa using g1)=⟨i,g2⟩:=by simp
   rw[e]
   exact(hc i g2).choose_spec.1
  ·have g2:k<xs.length:=by simpa using hk
   refine⟨(hc k g2).choose,?_,(hc k g2).choose_spec.2.1,(hc k g2).choose_spec.2.2⟩
   unfold RawC
   rw[List.getElem_map]
   have e:(List.finRange xs.length)[k]'(by simpa using hk)=⟨k,g2⟩:=by simp
   rw[e]
theorem zqE (b off j:Nat):(⟨b,off,none⟩:Addr).add j=⟨b,off+j,none⟩:=by
 unfold Addr.add
 by_cases hj:j=0
 ·subst hj;rfl
 ·rw[if_neg hj]
theorem Sl.rawNews {X:Nat->Prop} {w:World} {b off n cap sz:Nat} {ks:List (Raw sz)} (h:Sl X w sz RawC (.slice (some ⟨b,off,none⟩) n cap) ks) (hsz:0<sz):
  ∀j u,(rawL ks)[j]? =some u->w.cell? ((⟨b,off,none⟩:Addr).add j)=some u:=by
 intro j u hu
 have hj:j<ks.length * sz:=by
  have:=(List.getElem?_eq_some_iff.1 hu).1
  rwa [zqD] at this
 have hk:j / sz<ks.length:=Nat.div_lt_of_lt_mul (by rw[Nat.mul_comm];exact hj)
 have hm:j % sz<sz:=Nat.mod_lt _ hsz
 obtain⟨b',off',cs,hA,_,hRc,hc⟩:=h.cells hk
 simp only[Option.some.injEq,Addr.mk.injEq,and_true] at hA
 obtain⟨rfl,rfl⟩:=hA
 have h2:=zqB (C:=fun k:Raw sz=>k.1) (fun k=>k.2) ks (j / sz) hk (j % sz) hm
 have hdm:j / sz * sz+j % sz=j:=by rw[Nat.mul_comm];exact Nat.div_add_mod j sz
 rw[hdm] at h2
 unfold rawL at hu
 rw[h2,<-hRc] at hu
 rw[zqE]
 have:=hc (j % sz) u hm hu
 rw[<-this]
 congr 2
 omega
theorem RowV.rawSl {α:Type} {X:Nat->Prop} {w:World} {e:TypeId} {sz:Nat} {v:Value} {ks:List (Raw sz)} {xs:List α} {R:List Value->α->Prop} (h:RowV w e sz v xs.length (rawL ks)) (hl:ks.length=xs.length) (hR:∀i (h1:i<ks.length) (h2:i<xs.length),R ks[i].1 xs[i]) (hX:∀q,zcP v=some q->¬X q):Sl X w sz R v xs:=
 RowV.slW (C:=fun k:Raw sz=>k.1) (fun k=>k.2) h hl hR hX
structure ElT (S E:TypeId) (sz bytes:Nat):Prop where
 und:Tryz.prog.underlying S=some (.slice E)
 info:∃i z,Tryz.prog.info? E=some i∧i.zero=some z∧i.size=sz∧i.bytes=bytes∧z.cells.size=sz
 pos:0<sz
 small:bytes≤1000
def OneC {sz:Nat} (ks:List (Raw sz)):Prop:=∀u∈rawL ks,u.oneCell'=true
section
variable {w:World} {ops:Array Oper} {rest:List Oper} {o:Oper} {a:Act} {Q:Exit->Act->World->Prop} {S E:TypeId} {sz bytes:Nat}
theorem zqF (T:ElT S E sz bytes) (hgd:o.guard=none) (s x:Operand) (ho:o.op=.call { callee:=.builtin .append,args:=#[s,x],argTypes:=#[S,S] })
  (A0:Addr) (hs:a.eval s=.slice (some A0) 0 0) (X:Nat->Prop) (u:Value) (ls:List (Raw sz)) (hx:a.eval x=u) (h:Sl X w sz RawC u ls) (hl:ls.length≤100000) (hone:OneC ls)
  (k:∀A c w',RowV w' E sz (.slice A ls.length c) ls.length (rawL ls)->(∀q,zcP (.slice A ls.length c)=some q->q=w.heap.size)->Fr No w w'->wpList Tryz.prog ops Q rest (a.put o.dst (.slice A ls.length c)) w'):wpList Tryz.prog ops Q (o :: rest) a w:=by
 obtain⟨i0,z,hi,hz0,hz1,hz2,hz3⟩:=T.info
 have hsm:=T.small
 obtain⟨A,cap,rfl,_,_⟩:=h.form
 rcases Nat.eq_zero_or_pos ls.length with h0|h0
 ·obtain rfl:=List.eq_nil_of_length_eq_zero h0
  refine wpList_plain hgd fun K hK=>?_
  have hr:=zcT (P:=Tryz.prog) w S o.type E i0 T.und hi (some A0) A cap
  unfold Oper.wp execOp
  simp only[List.length_nil] at hx
  simp only[ho,resolve,invoke,builtin,Sem.run_bind,Sem.run_pure,Result.andThen_ok,List.map_toArray,List.map_cons,List.map_nil,hs,hx,hr]
  exact hK _ _ (k _ _ _ (.inr ⟨rfl,rfl,_,rfl⟩) (fun q hq=>by simp only[List.length_nil] at hq;rw[zcQ,if_pos rfl] at hq;cases hq) (Fr.refl _ _))
 ·obtain⟨b,off,cs,hA,_,_,_⟩:=h.cells h0
  cases hA
  refine zcS w hgd s x S ho E i0 z sz bytes T.und hi hz0 hz1 hz2 hz3 T.pos (.slice (some A0) 0 0) 0 [] hs (.inr ⟨rfl,rfl,_,rfl⟩) ⟨b,off,none⟩ ls.length cap (rawL ls) hx (zqD ls) (h.rawNews T.pos) hone h0 (by unfold maxLen;omega) (by have:=Nat.mul_le_mul hl hsm;rw[Nat.zero_add];omega) ?_
  intro g' cap' w2 hrow hcap hgf hor
  simp only[Nat.zero_add,List.nil_append] at hrow hcap ⊢
  have hor2:g'=w.heap.size:=by
   rcases hor with h9|h9
   ·rw[zcQ,if_pos rfl] at h9;cases h9
   ·exact h9
  exact k _ _ _ hrow (fun q hq=>by rw[zcQ,if_neg (by omega)] at hq;cases hq;exact hor2) (hgf.mono (fun _ _ e=>by rw[zcQ,if_pos rfl] at e;cases e))
theorem zqG (T:ElT S E sz bytes) (hgd:o.guard=none) (s x:Operand) (ho:o.op=.call { callee:=.builtin .append,args:=#[s,x],argTypes:=#[S,S] })
  (v:Value) (n:Nat) (ks:List (Raw sz)) (hs:a.eval s=v) (hn:n=ks.length) (hrow:RowV w E sz v n (rawL ks)) (hkl:n≤100000) (X:Nat->Prop) (b off c:Nat) (ls:List (Raw sz)) (hx:a.eval x=.slice (some ⟨b,off,none⟩) ls.length c) (h:Sl X w sz RawC (.slice (some ⟨b,off,none⟩) ls.length c) ls) (h0:0<ls.length) (hl:ls.length≤100000) (hone:OneC ls)
  (k:∀g c w',RowV w' E sz (.slice (some ⟨g,0,none⟩) (n+ls.length) c) (n+ls.length) (rawL (ks ++ ls))->n+ls.length≤c->Fr (fun b=>zcP v=some b) w w'->(zcP v=some g∨g=w.heap.size)->wpList Tryz.prog ops Q rest (a.put o.dst (.slice (some ⟨g,0,none⟩) (n+ls.length) c)) w'):wpList Tryz.prog ops Q (o :: rest) a w:=by
 obtain⟨i0,z,hi,hz0,hz1,hz2,hz3⟩:=T.info
 have hsm:=T.small
 subst hn
 refine zcS w hgd s x S ho E i0 z sz bytes T.und hi hz0 hz1 hz2 hz3 T.pos v ks.length (rawL ks) hs hrow ⟨b,off,none⟩ ls.length c (rawL ls) hx (zqD ls) (h.rawNews T.pos) hone h0 (by unfold maxLen;omega) (by have:=Nat.mul_le_mul (show ks.length+ls.length≤200000 by omega) hsm;omega) ?_
 intro g' cap' w2 hrow hcap hgf hor
 refine k _ _ _ ?_ hcap hgf hor
 unfold rawL
 rw[List.flatMap_append]
 exact hrow
theorem zqH (T:ElT S E sz bytes) (hgd:o.guard=none) (s x:Operand) (ho:o.op=.call { callee:=.builtin .append,args:=#[s,x],argTypes:=#[S,S] })
  (v:Value) (n:Nat) (ks:List (Raw sz)) (hs:a.eval s=v) (hn:n=ks.length) (hrow:RowV w E sz v n (rawL ks)) (hkl:n≤100000) (b:Nat) (t:TypeId) (cs:List Value) (hx:a.eval x=.slice (some ⟨b,0,none⟩) 1 1) (hb:Bx w b t cs.toArray) (hcs:cs.length=sz) (hone:∀u∈cs,u.oneCell'=true)
  (k:∀g c w',RowV w' E sz (.slice (some ⟨g,0,none⟩) (n+1) c) (n+1) (rawL (ks ++ [⟨cs,hcs⟩]))->n+1≤c->Fr (fun b=>zcP v=some b) w w'->(zcP v=some g∨g=w.heap.size)->wpList Tryz.prog ops Q rest (a.put o.dst (.slice (some ⟨g,0,none⟩) (n+1) c)) w'):wpList Tryz.prog ops Q (o :: rest) a w:=by
 obtain⟨i0,z,hi,hz0,hz1,hz2,hz3⟩:=T.info
 have hsm:=T.small
 subst hn
 refine zcS w hgd s x S ho E i0 z sz bytes T.und hi hz0 hz1 hz2 hz3 T.pos v ks.length (rawL ks) hs hrow ⟨b,0,none⟩ 1 1 cs hx (by omega) hb.news hone (by decide) (by unfold maxLen;omega) (by have:=Nat.mul_le_mul (show ks.length+1≤200000 by omega) hsm;omega) ?_
 intro g' cap' w2 hrow hcap hgf hor
 refine k _ _ _ ?_ hcap hgf hor
 have e:rawL (ks ++ [⟨cs,hcs⟩])=rawL ks ++ cs:=by
  unfold rawL
  rw[List.flatMap_append,List.flatMap_cons,List.flatMap_nil,List.append_nil]
 rw[e]
 exact hrow
end
theorem Sl.rawKeep {X Y:Nat->Prop} {w w':World} {sz:Nat} {v:Value} {ks:List (Raw sz)} (h:Sl X w sz RawC v ks) (hf:Fr Y w w') (hXY:∀b,Y b->X b):Sl X w' sz RawC v ks:=h.keep hf hXY (fun _ _ _ h=>h)
end Go.Proofs.YtpghfhjhjlmljaaGreat
