/- A row of one's own that is appended to, whose structs hold slices that nobody writes. -/
import Derived.Test.YtpghfhjhjlmljaaGreatPG26
namespace Go.Proofs.YtpghfhjhjlmljaaGreat
open Go.RowKit
structure CK {α:Type} (C:(Nat->Prop)->World->List Value->α->Prop):Prop where
 keep:∀{X Y:Nat->Prop} {w w':World} {cs:List Value} {x:α},C X w cs x->Fr Y w w'->(∀b,Y b->X b)->C X w' cs x
 old:∀{X:Nat->Prop} {w:World} {cs:List Value} {x:α},C X w cs x->C (fun b=>X b∨w.heap.size≤b) w cs x
 weaken:∀{X Y:Nat->Prop} {w:World} {cs:List Value} {x:α},C X w cs x->(∀b,Y b->X b)->C Y w cs x
theorem zBp:CK MapC:=⟨MapC.keep,MapC.oldX,MapC.weaken⟩
theorem zBq:CK MthC:=⟨MthC.keep,MthC.oldX,MthC.weaken⟩
theorem zBr:CK ClsC:=⟨ClsC.keep,ClsC.oldX,ClsC.weaken⟩
theorem zBs:CK KprC:=⟨KprC.keep,KprC.oldX,KprC.weaken⟩
def zBt {α:Type} (C:List Value->α->Prop):(Nat->Prop)->World->List Value->α->Prop:=fun _ _ cs x=>C cs x
theorem zBu {α:Type} (C:List Value->α->Prop):CK (zBt C):=⟨fun h _ _=>h,fun h=>h,fun h _=>h⟩
def SnR {α:Type} (E:TypeId) (sz:Nat) (C:(Nat->Prop)->World->List Value->α->Prop) (lo:Nat) (w:World) (v:Value) (xs:List α):Prop:=
 ∃js:List (Raw sz),js.length=xs.length∧RowV w E sz v xs.length (rawL js)∧(∀q,zcP v=some q->lo≤q)∧∀i (h1:i<js.length) (h2:i<xs.length),C (fun b=>b<lo∨zcP v=some b) w js[i].1 xs[i]
section
variable {α:Type} {E:TypeId} {sz lo:Nat} {C:(Nat->Prop)->World->List Value->α->Prop} {w w':World} {v v':Value} {xs:List α}
theorem SnR.keep (K:CK C) {Y:Nat->Prop} (h:SnR E sz C lo w v xs) (hf:Fr Y w w') (hY:∀b,Y b->b<lo):SnR E sz C lo w' v xs:=
 let ⟨js,h1,h2,h3,h4⟩:=h
 ⟨js,h1,h2.keep hf (fun q hq e=>by have:=hY q e;have:=h3 q hq;omega),h3,fun i a b=>K.keep (h4 i a b) hf (fun b e=>.inl (hY b e))⟩
theorem SnR.lit (b:Nat):SnR E sz C lo w (.slice (some ⟨b,0,none⟩) 0 0) ([]:List α):=
 ⟨[],rfl,.inr ⟨rfl,rfl,_,rfl⟩,(fun q hq=>by rw[zcQ,if_pos rfl] at hq;cases hq),fun i h=>absurd h (by simp)⟩
theorem SnR.nil:SnR E sz C lo w (.slice none 0 0) ([]:List α):=
 ⟨[],rfl,RowV.nil _ _ _,(fun q hq=>by cases hq),fun i h=>absurd h (by simp)⟩
theorem SnR.form (h:SnR E sz C lo w v xs):∃A c,v=.slice A xs.length c∧xs.length≤c∧c≤maxLen:=let ⟨_,_,h,_⟩:=h;h.form
theorem SnR.sl (K:CK C) (h:SnR E sz C lo w v xs):Sl (fun b=>b<lo) w sz (C (fun b=>b<lo) w) v xs:=
 let ⟨_,h1,h2,h3,h4⟩:=h
 h2.rawSl h1 (fun i a b=>K.weaken (h4 i a b) (fun _ e=>.inl e)) (fun q hq e=>by have:=h3 q hq;omega)
theorem SnR.snoc (K:CK C) {js:List (Raw sz)} (h1:js.length=xs.length) (h3:∀q,zcP v=some q->lo≤q) (h4:∀i (h1:i<js.length) (h2:i<xs.length),C (fun b=>b<lo∨zcP v=some b) w js[i].1 xs[i]) {r:Raw sz} {x:α} {g c:Nat}
  (hrow:RowV w' E sz (.slice (some ⟨g,0,none⟩) (xs.length+1) c) (xs.length+1) (rawL (js ++ [r]))) (hf:Fr (fun b=>zcP v=some b) w w') (hor:zcP v=some g∨g=w.heap.size) (hlo:lo≤w.heap.size) (hx:C (fun b=>b<lo∨zcP v=some b) w r.1 x):
  SnR E sz C lo w' (.slice (some ⟨g,0,none⟩) (xs ++ [x]).length c) (xs ++ [x]):=by
 have hg:∀q,zcP (.slice (some ⟨g,0,none⟩) (xs ++ [x]).length c)=some q->zcP v=some q∨q=w.heap.size:=fun q hq=>by
  rw[zcQ] at hq
  split at hq
  ·cases hq
  ·cases hq;exact hor
 have hm:∀cs y,C (fun b=>b<lo∨zcP v=some b) w cs y->C (fun b=>b<lo∨zcP (.slice (some ⟨g,0,none⟩) (xs ++ [x]).length c)=some b) w' cs y:=fun cs y hy=>
  K.weaken (K.keep (K.old hy) hf (fun b e=>.inl (.inr e))) (fun b e=>e.elim (fun e=>.inl (.inl e)) (fun e=>(hg b e).elim (fun e=>.inl (.inr e)) (fun e=>.inr (by omega))))
 refine⟨js ++ [r],by simp[h1],by rw[List.length_append];exact hrow,fun q hq=>?_,fun i a b=>?_⟩
 ·rcases hg q hq with h9|h9
  ·exact h3 q h9
  ·omega
 ·rw[List.length_append,List.length_singleton] at b
  by_cases he:i=xs.length
  ·subst he
   rw[List.getElem_append_right (by rw[h1];exact Nat.le_refl _),List.getElem_append_right (Nat.le_refl _)]
   simp only[h1,Nat.sub_self,List.getElem_cons_zero]
   exact hm _ _ hx
  ·have hi:i<xs.length:=by omega
   rw[List.getElem_append_left (by rw[h1];exact hi),List.getElem_append_left hi]
   exact hm _ _ (h4 i (by rw[h1];exact hi) hi)
end
end Go.Proofs.YtpghfhjhjlmljaaGreat
