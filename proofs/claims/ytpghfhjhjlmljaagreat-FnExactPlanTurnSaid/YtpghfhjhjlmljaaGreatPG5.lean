/- Rows of one's own, with all that lies under them (a tree of rows): what a keeper, a class, a method, a map own; no block belongs to two. No function of the program is walked here. -/
import Derived.Test.YtpghfhjhjlmljaaGreatPG4
import Derived.Laws.CopyOwn
namespace Go.Proofs.YtpghfhjhjlmljaaGreat
open Go.RowKit
abbrev OwnR (α:Type):=World->(Nat->Prop)->List Value->α->Prop
structure OwnP {α:Type} (E:TypeId) (sz:Nat) (R:OwnR α) (rows:List (Raw sz)) (Ys:Nat->Nat->Prop) (w:World) (Y:Nat->Prop) (v:Value) (xs:List α):Prop where
 len:rows.length=xs.length
 row:RowV w E sz v xs.length (rawL rows)
 own:∀q,zcP v=some q->Y q
 sub:∀i b,i<xs.length->Ys i b->Y b∧b<w.heap.size∧zcP v≠some b
 apart:∀i j b,i<xs.length->j<xs.length->i≠j->Ys i b->¬Ys j b
 el:∀i (h1:i<rows.length) (h2:i<xs.length),R w (Ys i) rows[i].1 xs[i]
def OwnL {α:Type} (E:TypeId) (sz:Nat) (R:OwnR α):World->(Nat->Prop)->Value->List α->Prop:=fun w Y v xs=>∃rows Ys,OwnP E sz R rows Ys w Y v xs
def zzC {α:Type} (C:List Value->α->Prop):OwnR α:=fun _ _ cs x=>C cs x
def zzD:TypeId:=187
def MapO:OwnR Mp:=fun w Y cs m=>∃vl vs Y1 Y2,cs=[.int .i64 m.at_,vl,vs]∧(∀b,Y1 b->Y b∧¬Y2 b)∧(∀b,Y2 b->Y b)∧OwnL zzD 2 (zzC TagC) w Y1 vl m.locals∧OwnL zzD 2 (zzC TagC) w Y2 vs m.stack
def MthO:OwnR Mth:=fun w Y cs m=>∃va vc vm Y1 Y2 Y3,cs=[.string m.name,va,.int .i64 m.ret.kind,.string m.ret.name,.int .i64 m.locals,.int .i64 m.stack,vc,vm]∧m.name.size≤maxLen∧m.ret.name.size≤maxLen ∧
 (∀b,Y1 b->Y b∧¬Y2 b∧¬Y3 b)∧(∀b,Y2 b->Y b∧¬Y3 b)∧(∀b,Y3 b->Y b) ∧
 OwnL 123 2 (zzC KndC) w Y1 va m.args∧OwnL 178 4 (zzC InsC) w Y2 vc m.code∧OwnL 165 3 MapO w Y3 vm m.maps
def ClsO:OwnR Cls:=fun w Y cs c=>∃vf vm Y1 Y2,cs=[.string c.name,.string c.super,vf,vm]∧c.name.size≤maxLen∧c.super.size≤maxLen∧(∀b,Y1 b->Y b∧¬Y2 b)∧(∀b,Y2 b->Y b) ∧
 OwnL 125 3 (zzC FldC) w Y1 vf c.fields∧OwnL 133 8 MthO w Y2 vm c.methods
def KprO:OwnR Kpr:=fun w Y cs k=>∃vo va Y1 Y2,cs=[vo,va]∧(∀b,Y1 b->Y b∧¬Y2 b)∧(∀b,Y2 b->Y b) ∧
 OwnL 42 4 ClsO w Y1 vo k.owns∧OwnL 86 2 (zzC AskC) w Y2 va k.asks
abbrev zzE:=OwnL 67 2 KprO
def zzF {α:Type} (R:OwnR α):Prop:=∀(X:Nat->Prop) w w' Y cs x,R w Y cs x->Fr X w w'->(∀b,Y b->b<w.heap.size->¬X b)->R w' Y cs x
def WidR {α:Type} (R:OwnR α):Prop:=∀w Y Y' cs x,R w Y cs x->(∀b,Y b->b<w.heap.size->Y' b)->R w Y' cs x
section
variable {α:Type} {E:TypeId} {sz:Nat} {R:OwnR α} {rows:List (Raw sz)} {Ys:Nat->Nat->Prop} {w w':World} {X Y Y':Nat->Prop} {v:Value} {xs:List α}
theorem OwnP.keep (hR:zzF R) (h:OwnP E sz R rows Ys w Y v xs) (hf:Fr X w w') (hX:∀b,Y b->b<w.heap.size->¬X b):OwnP E sz R rows Ys w' Y v xs:=
 ⟨h.len,h.row.keep hf (fun q hq=>hX q (h.own q hq) (h.row.lt hq)),h.own,fun i b hi hb=>let ⟨h1,h2,h3⟩:=h.sub i b hi hb;⟨h1,Nat.lt_of_lt_of_le h2 hf.size,h3⟩,h.apart,
  fun i h1 h2=>hR X _ _ _ _ _ (h.el i h1 h2) hf (fun b hb hl=>hX b (h.sub i b h2 hb).1 hl)⟩
theorem OwnL.keep (hR:zzF R) (h:OwnL E sz R w Y v xs) (hf:Fr X w w') (hX:∀b,Y b->b<w.heap.size->¬X b):OwnL E sz R w' Y v xs:=let ⟨rows,Ys,h⟩:=h;⟨rows,Ys,h.keep hR hf hX⟩
theorem OwnL.wid (h:OwnL E sz R w Y v xs) (hY:∀b,Y b->b<w.heap.size->Y' b):OwnL E sz R w Y' v xs:=let ⟨rows,Ys,h⟩:=h
 ⟨rows,Ys,h.len,h.row,fun q hq=>hY q (h.own q hq) (h.row.lt hq),fun i b hi hb=>let ⟨h1,h2,h3⟩:=h.sub i b hi hb;⟨hY b h1 h2,h2,h3⟩,h.apart,h.el⟩
theorem zzG (C:List Value->α->Prop):zzF (zzC C):=fun _ _ _ _ _ _ h _ _=>h
theorem OwnL.nil (Y:Nat->Prop) (w:World):OwnL E sz R w Y (.slice none 0 0) []:=⟨[],fun _ _=>False,rfl,RowV.nil _ _ _,(fun q hq=>by cases hq),(fun _ _ h=>absurd h (by simp)),(fun _ _ _ h=>absurd h (by simp)),fun i h=>absurd h (by simp)⟩
theorem OwnL.form (h:OwnL E sz R w Y v xs):∃A c,v=.slice A xs.length c∧xs.length≤c∧c≤maxLen:=let ⟨_,_,h⟩:=h;h.row.form
theorem OwnL.sl {R':List Value->α->Prop} (h:OwnL E sz R w Y v xs) (hX:∀b,Y b->b<w.heap.size->¬X b) (hR:∀Y' cs x,x∈xs->(∀b,Y' b->Y b∧b<w.heap.size)->R w Y' cs x->R' cs x):Sl X w sz R' v xs:=by
 obtain⟨rows,Ys,h⟩:=h
 exact h.row.rawSl h.len (fun i h1 h2=>hR (Ys i) _ _ (List.getElem_mem h2) (fun b hb=>let ⟨h3,h4,_⟩:=h.sub i b h2 hb;⟨h3,h4⟩) (h.el i h1 h2)) (fun q hq=>hX q (h.own q hq) (h.row.lt hq))
theorem OwnL.slLeaf {C:List Value->α->Prop} (h:OwnL E sz (zzC C) w Y v xs) (hX:∀b,Y b->b<w.heap.size->¬X b):Sl X w sz C v xs:=h.sl hX (fun _ _ _ _ _ h=>h)
end
theorem zzH:zzF MapO:=by
 rintro X w w' Y cs m ⟨vl,vs,Y1,Y2,rfl,h1,h2,h3,h4⟩ hf hX
 exact⟨vl,vs,Y1,Y2,rfl,h1,h2,h3.keep (zzG _) hf (fun b hb=>hX b (h1 b hb).1),h4.keep (zzG _) hf (fun b hb=>hX b (h2 b hb))⟩
theorem zzI:zzF MthO:=by
 rintro X w w' Y cs m ⟨va,vc,vm,Y1,Y2,Y3,rfl,z1,z2,h1,h2,h3,k1,k2,k3⟩ hf hX
 exact⟨va,vc,vm,Y1,Y2,Y3,rfl,z1,z2,h1,h2,h3,k1.keep (zzG _) hf (fun b hb=>hX b (h1 b hb).1),k2.keep (zzG _) hf (fun b hb=>hX b (h2 b hb).1),k3.keep zzH hf (fun b hb=>hX b (h3 b hb))⟩
theorem zzJ:zzF ClsO:=by
 rintro X w w' Y cs m ⟨vf,vm,Y1,Y2,rfl,z1,z2,h1,h2,h3,h4⟩ hf hX
 exact⟨vf,vm,Y1,Y2,rfl,z1,z2,h1,h2,h3.keep (zzG _) hf (fun b hb=>hX b (h1 b hb).1),h4.keep zzI hf (fun b hb=>hX b (h2 b hb))⟩
theorem zzK:zzF KprO:=by
 rintro X w w' Y cs m ⟨vf,vm,Y1,Y2,rfl,h1,h2,h3,h4⟩ hf hX
 exact⟨vf,vm,Y1,Y2,rfl,h1,h2,h3.keep zzJ hf (fun b hb=>hX b (h1 b hb).1),h4.keep (zzG _) hf (fun b hb=>hX b (h2 b hb))⟩
theorem zzL:WidR MthO:=by
 rintro w Y Y' cs m ⟨va,vc,vm,Y1,Y2,Y3,rfl,z1,z2,h1,h2,h3,k1,k2,k3⟩ hY
 exact⟨va,vc,vm,fun b=>Y1 b∧b<w.heap.size,fun b=>Y2 b∧b<w.heap.size,fun b=>Y3 b∧b<w.heap.size,rfl,z1,z2,fun b hb=>⟨hY b (h1 b hb.1).1 hb.2,fun h=>(h1 b hb.1).2.1 h.1,fun h=>(h1 b hb.1).2.2 h.1⟩,fun b hb=>⟨hY b (h2 b hb.1).1 hb.2,fun h=>(h2 b hb.1).2 h.1⟩,fun b hb=>hY b (h3 b hb.1) hb.2,k1.wid (fun _ h k=>⟨h,k⟩),k2.wid (fun _ h k=>⟨h,k⟩),k3.wid (fun _ h k=>⟨h,k⟩)⟩
theorem zzM:WidR ClsO:=by
 rintro w Y Y' cs m ⟨vl,vs,Y1,Y2,rfl,z1,z2,h1,h2,h3,h4⟩ hY
 exact⟨vl,vs,fun b=>Y1 b∧b<w.heap.size,fun b=>Y2 b∧b<w.heap.size,rfl,z1,z2,fun b hb=>⟨hY b (h1 b hb.1).1 hb.2,fun h=>(h1 b hb.1).2 h.1⟩,fun b hb=>hY b (h2 b hb.1) hb.2,h3.wid (fun _ h k=>⟨h,k⟩),h4.wid (fun _ h k=>⟨h,k⟩)⟩
section
variable {X Y:Nat->Prop} {w:World} {cs:List Value}
theorem MapO.c {m:Mp} (h:MapO w Y cs m) (hX:∀b,Y b->b<w.heap.size->¬X b):MapC X w cs m:=by
 obtain⟨vl,vs,Y1,Y2,rfl,h1,h2,h3,h4⟩:=h
 exact⟨vl,vs,rfl,h3.slLeaf (fun b hb=>hX b (h1 b hb).1),h4.slLeaf (fun b hb=>hX b (h2 b hb))⟩
theorem MthO.c {m:Mth} (h:MthO w Y cs m) (hX:∀b,Y b->b<w.heap.size->¬X b):MthC X w cs m:=by
 obtain⟨va,vc,vm,Y1,Y2,Y3,rfl,z1,z2,h1,h2,h3,k1,k2,k3⟩:=h
 exact⟨va,vc,vm,rfl,z1,z2,k1.slLeaf (fun b hb=>hX b (h1 b hb).1),k2.slLeaf (fun b hb=>hX b (h2 b hb).1),k3.sl (fun b hb=>hX b (h3 b hb)) (fun Y' cs x _ hs h=>h.c (fun b hb hl=>hX b (h3 b (hs b hb).1) hl))⟩
theorem ClsO.c {m:Cls} (h:ClsO w Y cs m) (hX:∀b,Y b->b<w.heap.size->¬X b):ClsC X w cs m:=by
 obtain⟨vl,vs,Y1,Y2,rfl,z1,z2,h1,h2,h3,h4⟩:=h
 exact⟨vl,vs,rfl,z1,z2,h3.slLeaf (fun b hb=>hX b (h1 b hb).1),h4.sl (fun b hb=>hX b (h2 b hb)) (fun Y' cs x _ hs h=>h.c (fun b hb hl=>hX b (h2 b (hs b hb).1) hl))⟩
theorem KprO.c {m:Kpr} (h:KprO w Y cs m) (hX:∀b,Y b->b<w.heap.size->¬X b):KprC X w cs m:=by
 obtain⟨vl,vs,Y1,Y2,rfl,h1,h2,h3,h4⟩:=h
 exact⟨vl,vs,rfl,h3.sl (fun b hb=>hX b (h1 b hb).1) (fun Y' cs x _ hs h=>h.c (fun b hb hl=>hX b (h1 b (hs b hb).1).1 hl)),h4.slLeaf (fun b hb=>hX b (h2 b hb))⟩
theorem OwnL.kprs {v:Value} {ks:List Kpr} (h:zzE w Y v ks) (hX:∀b,Y b->b<w.heap.size->¬X b):Sl X w 2 (KprC X w) v ks:=h.sl hX (fun _ _ _ _ hs h=>KprO.c h (fun b hb hl=>hX b (hs b hb).1 hl))
end
section
variable {α:Type} {E:TypeId} {sz:Nat} {R:OwnR α} {rows:List (Raw sz)} {Ys:Nat->Nat->Prop} {w w':World} {X Y Y' Z:Nat->Prop} {v v':Value} {xs:List α}
theorem OwnP.snoc (hR:zzF R) (h:OwnP E sz R rows Ys w Y v xs) {r:Raw sz} {x:α} (hrow:RowV w' E sz v' (xs.length+1) (rawL (rows ++ [r]))) (hf:Fr (fun b=>zcP v=some b) w w') (hor:∀q,zcP v'=some q->zcP v=some q∨w.heap.size≤q)
  (hx:R w' Z r.1 x) (hZ:∀b,Z b->b<w'.heap.size∧¬(Y b∧b<w.heap.size)∧zcP v'≠some b) (hY:∀b,Y b->b<w.heap.size->Y' b) (hZY:∀b,Z b->Y' b) (hv:∀q,zcP v'=some q->w.heap.size≤q->Y' q):
  OwnP E sz R (rows ++ [r]) (fun i=>if i=xs.length then Z else Ys i) w' Y' v' (xs ++ [x]):=by
 have hne:∀i,i<xs.length->(if i=xs.length then Z else Ys i)=Ys i:=fun i hi=>if_neg (by omega)
 refine⟨by simp[h.len],by rw[List.length_append];exact hrow,fun q hq=>?_,fun i b hi hb=>?_,fun i j b hi hj hij hb hc=>?_,fun i h1 h2=>?_⟩
 ·rcases hor q hq with h9|h9
  ·exact hY q (h.own q h9) (h.row.lt h9)
  ·exact hv q hq h9
 ·rw[List.length_append,List.length_singleton] at hi
  by_cases he:i=xs.length
  ·subst he
   rw[if_pos rfl] at hb
   exact⟨hZY b hb,(hZ b hb).1,(hZ b hb).2.2⟩
  ·rw[if_neg he] at hb
   obtain⟨h1,h2,h3⟩:=h.sub i b (by omega) hb
   refine⟨hY b h1 h2,Nat.lt_of_lt_of_le h2 hf.size,fun e=>?_⟩
   rcases hor b e with h9|h9
   ·exact h3 h9
   ·omega
 ·rw[List.length_append,List.length_singleton] at hi hj
  by_cases he:i=xs.length
  ·subst he
   rw[if_pos rfl] at hb
   rw[if_neg (by omega)] at hc
   obtain⟨h1,h2,_⟩:=h.sub j b (by omega) hc
   exact(hZ b hb).2.1 ⟨h1,h2⟩
  ·rw[if_neg he] at hb
   by_cases he2:j=xs.length
   ·subst he2
    rw[if_pos rfl] at hc
    obtain⟨h1,h2,_⟩:=h.sub i b (by omega) hb
    exact(hZ b hc).2.1 ⟨h1,h2⟩
   ·rw[if_neg he2] at hc
    exact h.apart i j b (by omega) (by omega) hij hb hc
 ·rw[List.length_append,List.length_singleton] at h2
  by_cases he:i=xs.length
  ·subst he
   simp only[if_true]
   rw[List.getElem_append_right (by rw[h.len];exact Nat.le_refl _),List.getElem_append_right (Nat.le_refl _)]
   simp only[h.len,Nat.sub_self,List.getElem_cons_zero]
   exact hx
  ·have hi:i<xs.length:=by omega
   simp only[if_neg he]
   rw[List.getElem_append_left (by rw[h.len];exact hi),List.getElem_append_left hi]
   exact hR _ _ _ _ _ _ (h.el i (by rw[h.len];exact hi) hi) hf (fun b hb _ e=>(h.sub i b hi hb).2.2 e)
theorem OwnP.set (hR:zzF R) (h:OwnP E sz R rows Ys w Y v xs) {i:Nat} (hi:i<xs.length) {r:Raw sz} {x:α} (hrow:RowV w' E sz v xs.length (rawL (rows.set i r))) (hf:Fr (fun b=>zcP v=some b∨Ys i b) w w')
  (hx:R w' Z r.1 x) (hZ:∀b,Z b->b<w'.heap.size∧(Ys i b∨w.heap.size≤b)) (hY:∀b,Y b->b<w.heap.size->Y' b) (hZY:∀b,Z b->Y' b):
  OwnP E sz R (rows.set i r) (fun j=>if j=i then Z else Ys j) w' Y' v (xs.set i x):=by
 refine⟨by simp[h.len],by rw[List.length_set];exact hrow,fun q hq=>hY q (h.own q hq) (h.row.lt hq),fun j b hj hb=>?_,fun j k b hj hk hjk hb hc=>?_,fun j h1 h2=>?_⟩
 ·rw[List.length_set] at hj
  by_cases he:j=i
  ·subst he
   rw[if_pos rfl] at hb
   refine⟨hZY b hb,(hZ b hb).1,fun e=>?_⟩
   rcases(hZ b hb).2 with h9|h9
   ·exact(h.sub j b hj h9).2.2 e
   ·have:=h.row.lt e;omega
  ·rw[if_neg he] at hb
   obtain⟨h1,h2,h3⟩:=h.sub j b hj hb
   exact⟨hY b h1 h2,Nat.lt_of_lt_of_le h2 hf.size,h3⟩
 ·rw[List.length_set] at hj hk
  by_cases he:j=i
  ·subst he
   rw[if_pos rfl] at hb
   rw[if_neg (fun e=>hjk e.symm)] at hc
   rcases(hZ b hb).2 with h9|h9
   ·exact h.apart j k b hj hk hjk h9 hc
   ·have:=(h.sub k b hk hc).2.1;omega
  ·rw[if_neg he] at hb
   by_cases he2:k=i
   ·subst he2
    rw[if_pos rfl] at hc
    rcases(hZ b hc).2 with h9|h9
    ·exact h.apart j k b hj hk hjk hb h9
    ·have:=(h.sub j b hj hb).2.1;omega
   ·rw[if_neg he2] at hc
    exact h.apart j k b hj hk hjk hb hc
 ·rw[List.length_set] at h2
  by_cases he:j=i
  ·subst he
   simp only[if_true,List.getElem_set_self]
   exact hx
  ·simp only[if_neg he]
   rw[List.getElem_set_ne (fun e=>he e.symm),List.getElem_set_ne (fun e=>he e.symm)]
   refine hR _ _ _ _ _ _ (h.el j (by rw[h.len];exact h2) h2) hf (fun b hb _ e=>?_)
   rcases e with e|e
   ·exact(h.sub j b h2 hb).2.2 e
   ·exact h.apart j i b h2 hi he hb e
end
theorem Fr.cell1 (w:World) (b o:Nat) (u:Value):Fr (fun x=>x=b) w (w.setCell ⟨b,o,none⟩ u):=(Fr.refl (fun x=>x=b) w).setCellX (p:=⟨b,o,none⟩) (by rfl) u
theorem zzN {κ:Type} {C:κ->List Value} {sz:Nat} (hC:∀k,(C k).length=sz) (u:Value):∀(ks:List κ) (i:Nat) (hi:i<ks.length) (j:Nat) (k':κ),j<sz->C k'=(C ks[i]).set j u->(ks.flatMap C).set (i * sz+j) u=(ks.set i k').flatMap C
 | k :: ks,0,_,j,k',hj,h=>by
  rw[List.flatMap_cons,List.set_append_left _ _ (by rw[hC];omega),lz1,List.flatMap_cons,h]
  simp
 | k :: ks,i+1,hi,j,k',hj,h=>by
  rw[List.flatMap_cons,List.set_append_right _ _ (by rw[hC,Nat.add_mul];omega),lz2,List.flatMap_cons]
  have e:(i+1) * sz+j-(C k).length=i * sz+j:=by rw[hC,Nat.add_mul];omega
  rw[e,zzN hC u ks i (by simpa using hi) j k' hj (by simpa using h)]
def Raw.put {sz:Nat} (r:Raw sz) (j:Nat) (u:Value):Raw sz:=⟨r.1.set j u,by rw[List.length_set];exact r.2⟩
theorem RowV.setAt {w:World} {e:TypeId} {sz n g c:Nat} {rows:List (Raw sz)} (h:RowV w e sz (.slice (some ⟨g,0,none⟩) n c) n (rawL rows)) (hl:rows.length=n) {i j:Nat} (hi:i<rows.length) (hj:j<sz) (u:Value):
  RowV (w.setCell ⟨g,i * sz+j,none⟩ u) e sz (.slice (some ⟨g,0,none⟩) n c) n (rawL (rows.set i (Raw.put rows[i] j u))):=by
 obtain⟨g',c',cur,he,h1,h2,hb,h3,h4,_⟩:=h.at_ (by omega)
 cases he
 refine .inl ⟨by rw[zqD,List.length_set,hl],.inr ⟨g,c,cur.setIfInBounds (i * sz+j) u,rfl,Nat.zero_le _,hb.set_ _ u,h1,h2,by rw[Array.size_setIfInBounds];exact h3,?_⟩⟩
 rw[Array.toList_setIfInBounds,List.take_set,h4]
 exact zzN (C:=fun k:Raw sz=>k.1) (fun k=>k.2) u rows i hi j _ hj rfl
section
variable {α:Type} {E:TypeId} {sz:Nat} {R:OwnR α} {rows:List (Raw sz)} {Ys:Nat->Nat->Prop} {w w':World} {X Y Y' Z:Nat->Prop} {v:Value} {xs:List α}
theorem OwnP.at_ (h:OwnP E sz R rows Ys w Y v xs) (h0:0<xs.length):∃g c,v=.slice (some ⟨g,0,none⟩) xs.length c∧xs.length≤c∧c≤maxLen∧(∀o,w.frozen? ⟨g,o,none⟩=false)∧g<w.heap.size∧zcP v=some g∧(∀i (hi:i<rows.length) j,j<sz->w.cell? ⟨g,i * sz+j,none⟩=rows[i].1[j]?):=by
 obtain⟨g,c,cur,rfl,h1,h2,hb,h3,h4,hq⟩:=h.row.at_ h0
 refine⟨g,c,rfl,h1,h2,fun o=>hb.frozen o,hb.lt,hq,fun i hi j hj=>?_⟩
 have hi':i<xs.length:=by rw[<-h.len];exact hi
 have hle:i * sz+j<xs.length * sz:=by
  have:(i+1) * sz≤xs.length * sz:=Nat.mul_le_mul_right _ hi'
  rw[Nat.add_mul] at this
  omega
 rw[h.row.cell rfl hle]
 exact zqB (C:=fun k:Raw sz=>k.1) (fun k=>k.2) rows i hi j hj
theorem OwnP.put (hR:zzF R) {g n c:Nat} (h:OwnP E sz R rows Ys w Y (.slice (some ⟨g,0,none⟩) n c) xs) {i j:Nat} (hi:i<xs.length) (h1:i<rows.length) (hj:j<sz) (u:Value) {x:α}
  (hx:R (w.setCell ⟨g,i * sz+j,none⟩ u) (Ys i) (Raw.put rows[i] j u).1 x):OwnP E sz R (rows.set i (Raw.put rows[i] j u)) Ys (w.setCell ⟨g,i * sz+j,none⟩ u) Y (.slice (some ⟨g,0,none⟩) n c) (xs.set i x):=by
 obtain⟨g',c',he,h2,_,_,hg,hq,_⟩:=h.at_ (by omega)
 cases he
 have e:=h.set (Z:=Ys i) (Y':=Y) hR hi (h.row.setAt h.len h1 hj u) ((Fr.cell1 w g _ u).mono (fun b _ hb=>.inl (hb▸hq))) hx (fun b hb=>⟨Nat.lt_of_lt_of_le (h.sub i b hi hb).2.1 (Fr.cell1 w g _ u).size,.inl hb⟩) (fun _ hb _=>hb) (fun b hb=>(h.sub i b hi hb).1)
 have e2:(fun j=>if j=i then Ys i else Ys j)=Ys:=funext fun j=>by
  by_cases hji:j=i
  ·rw[if_pos hji,hji]
  ·rw[if_neg hji]
 rw[e2] at e
 exact e
theorem OwnP.inner (hR:zzF R) (h:OwnP E sz R rows Ys w Y v xs) {i:Nat} (hi:i<xs.length) (h1:i<rows.length) {x:α} (hf:Fr X w w') (hX:∀b,X b->Ys i b)
  (hx:R w' Z rows[i].1 x) (hZ:∀b,Z b->b<w'.heap.size∧(Ys i b∨w.heap.size≤b)) (hY:∀b,Y b->b<w.heap.size->Y' b) (hZY:∀b,Z b->Y' b):
  OwnP E sz R rows (fun j=>if j=i then Z else Ys j) w' Y' v (xs.set i x):=by
 have e:=h.set (r:=rows[i]) (w':=w') (Z:=Z) (Y':=Y') hR hi (by rw[List.set_getElem_self];exact h.row.keep hf (fun q hq e=>(h.sub i q hi (hX q e)).2.2 hq)) (hf.mono (fun b _ hb=>.inr (hX b hb))) hx hZ hY hZY
 rwa [List.set_getElem_self] at e
theorem OwnP.inner0 (hR:zzF R) (h:OwnP E sz R rows Ys w Y v xs) {i:Nat} (hi:i<xs.length) (h1:i<rows.length) {x:α} (hf:Fr X w w') (hX:∀b,X b->Ys i b) (hx:R w' (Ys i) rows[i].1 x):OwnP E sz R rows Ys w' Y v (xs.set i x):=by
 have e:=h.inner (Y':=Y) hR hi h1 hf hX hx (fun b hb=>⟨Nat.lt_of_lt_of_le (h.sub i b hi hb).2.1 hf.size,.inl hb⟩) (fun _ hb _=>hb) (fun b hb=>(h.sub i b hi hb).1)
 have e2:(fun j=>if j=i then Ys i else Ys j)=Ys:=funext fun j=>by
  by_cases hji:j=i
  ·rw[if_pos hji,hji]
  ·rw[if_neg hji]
 rwa [e2] at e
end
theorem zco {P:Program} {w:World} {ops:Array Oper} {rest:List Oper} {o:Oper} {a:Act} {Q:Exit->Act->World->Prop} (hgd:o.guard=none) (t:TypeId) (x y:Operand) (ho:o.op=.store t x y) (sz:Nat) (hsz:(P.info? t).map (·.size)=some sz)
  (g:Nat) (bt:TypeId) (cs:Array Value) (cs':List Value) (hp:a.eval x=.pointer (some ⟨g,0,none⟩)) (hv:a.eval y=.agg cs'.toArray) (hB:Bx w g bt cs) (hl:cs'.length=sz) (hc:cs.size=sz) (h1:∀v∈cs',v.oneCell'=true)
  (h:∀w',Bx w' g bt cs'.toArray->Fr (fun b=>b=g) w w'->wpList P ops Q rest (a.put o.dst undef) w'):wpList P ops Q (o :: rest) a w:=by
 refine wpList_plain hgd fun K hK=>?_
 have hst:=run_storeCells_at P g 0 bt cs' 0 cs w hB (by omega) h1
 have e:(cs.toList.take (0+0) ++ cs' ++ cs.toList.drop (0+0+cs'.length))=cs':=by
  have:cs.toList.length≤0+0+cs'.length:=by simp;omega
  rw[List.drop_of_length_le this]
  simp
 rw[e] at hst
 have hrun:(Instr.storeAt t (.pointer (some ⟨g,0,none⟩)) (.agg cs'.toArray)).run P w=.ok () (w.setRow g cs'.toArray):=by
  cases hq:P.info? t with
  | none=>simp[hq] at hsz
  | some i=>
   have hi:i.size=sz:=by simpa[hq] using hsz
   simp[Instr.storeAt,Instr.sureAddr,storeVar,sizeOf,typeInfo,hq,hi,Value.cells,hl,hst]
 unfold Oper.wp
 simp[execOp,ho,hp,hv,hrun]
 refine hK _ _ (h _ ?_ ⟨rfl,rfl,rfl,by simp[World.setRow],fun k hk hn=>setRow_other w g k _ (fun e=>hn e)⟩)
 exact setRow_heap w g cs cs'.toArray bt (0,0) hB
end Go.Proofs.YtpghfhjhjlmljaaGreat
