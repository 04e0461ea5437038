/- Keepers whose own rows (of keepers, of classes, of asks) lie in blocks apart from each other and from all that lies deeper. -/
import Derived.Test.YtmeaibjmnjcdfaaGreatVG31
namespace Go.Proofs.YtmeaibjmnjcdfaaGreat
open Go.RowKit
theorem Sl.sep {α:Type} {X:Nat->Prop} {w:World} {sz b0:Nat} {R R':List Value->α->Prop} {v:Value} {xs:List α} (h:Sl X w sz R v xs) (hsz:2≤sz) (h1:∀o,w.cell? ⟨b0,o+1,none⟩=none) (hR:∀cs x,x∈xs->R cs x->R' cs x):Sl (fun b=>X b∨b=b0) w sz R' v xs:=by
 obtain⟨A,cap,rfl,h4,h2,h3⟩:=h
 refine⟨A,cap,rfl,h4,h2,fun h0=>?_⟩
 obtain⟨b,off,rfl,hX,hc⟩:=h3 h0
 refine⟨b,off,rfl,fun hy=>?_,fun k hk=>?_⟩
 ·rcases hy with hy|rfl
  ·exact hX hy
  ·obtain⟨cs,_,hl,hcs⟩:=hc 0 h0
   have h9:=hcs 1 (by omega)
   rw[lz8 (by omega),h1] at h9
   cases h9
 ·obtain⟨cs,hRc,hl,hcs⟩:=hc k hk
  exact⟨cs,hR cs _ (List.getElem_mem hk) hRc,hl,hcs⟩
section
variable {X:Nat->Prop} {w:World} {cs:List Value} {b0:Nat}
theorem MapC.sep {m:Mp} (h:MapC X w cs m) (h1:∀o,w.cell? ⟨b0,o+1,none⟩=none):MapC (fun b=>X b∨b=b0) w cs m:=by
 obtain⟨vl,vs,rfl,k1,k2⟩:=h
 exact⟨vl,vs,rfl,k1.sep (by omega) h1 (fun _ _ _ h=>h),k2.sep (by omega) h1 (fun _ _ _ h=>h)⟩
theorem MthC.sep {m:Mth} (h:MthC X w cs m) (h1:∀o,w.cell? ⟨b0,o+1,none⟩=none):MthC (fun b=>X b∨b=b0) w cs m:=by
 obtain⟨va,vc,vm,rfl,z1,z2,h3,h4,h5⟩:=h
 exact⟨va,vc,vm,rfl,z1,z2,h3.sep (by omega) h1 (fun _ _ _ h=>h),h4.sep (by omega) h1 (fun _ _ _ h=>h),h5.sep (by omega) h1 (fun _ _ _ h=>h.sep h1)⟩
theorem ClsC.sep {c:Cls} (h:ClsC X w cs c) (h1:∀o,w.cell? ⟨b0,o+1,none⟩=none):ClsC (fun b=>X b∨b=b0) w cs c:=by
 obtain⟨vf,vm,rfl,z1,z2,h3,h4⟩:=h
 exact⟨vf,vm,rfl,z1,z2,h3.sep (by omega) h1 (fun _ _ _ h=>h),h4.sep (by omega) h1 (fun _ _ _ h=>h.sep h1)⟩
theorem KprC.sep {k:Kpr} (h:KprC X w cs k) (h1:∀o,w.cell? ⟨b0,o+1,none⟩=none):KprC (fun b=>X b∨b=b0) w cs k:=by
 obtain⟨vo,va,rfl,h3,h4⟩:=h
 exact⟨vo,va,rfl,h3.sep (by omega) h1 (fun _ _ _ h=>h.sep h1),h4.sep (by omega) h1 (fun _ _ _ h=>h)⟩
end
def ztV (r:List Value) (b:Nat):Prop:=∃u∈r,zcP u=some b
def KprT (Y:Nat->Prop) (lo:Nat) (w:World) (cs:List Value) (k:Kpr):Prop:=∃vo va,cs=[vo,va]∧RRow 55 4 (ClsC Y w) w lo vo k.owns∧RRow 150 2 AskC w lo va k.asks
def TopY (lo:Nat) (v:Value) (rows:List (Raw 2)) (b:Nat):Prop:=b<lo∨zcP v=some b∨∃r∈rows,ztV r.1 b
def KsT (lo:Nat) (w:World) (v:Value) (ks:List Kpr):Prop:=∃rows:List (Raw 2),rows.length=ks.length∧RowV w 90 2 v ks.length (rawL rows)∧(∀q,zcP v=some q->lo≤q) ∧
 (∀i (h1:i<rows.length) (h2:i<ks.length),KprT (TopY lo v rows) lo w rows[i].1 ks[i])∧∀i j (hi:i<rows.length) (hj:j<rows.length),i<j->∀b,ztV rows[i].1 b->¬ztV rows[j].1 b
section
variable {α:Type} {E:TypeId} {sz:Nat} {R R':List Value->α->Prop} {X Y Y':Nat->Prop} {w w':World} {n lo:Nat} {v:Value} {xs:List α}
theorem RRow.mono (h:RRow E sz R w n v xs) (hR:∀cs x,R cs x->R' cs x):RRow E sz R' w n v xs:=by
 obtain⟨ks,h1,h2,h3,h4⟩:=h
 exact⟨ks,h1,h2,h3,fun i a b=>hR _ _ (h4 i a b)⟩
theorem RRow.low {m:Nat} (h:RRow E sz R w n v xs) (hm:m≤n):RRow E sz R w m v xs:=by
 obtain⟨ks,h1,h2,h3,h4⟩:=h
 exact⟨ks,h1,h2,fun q hq=>Nat.le_trans hm (h3 q hq),h4⟩
theorem RRow.lt (h:RRow E sz R w n v xs) {q:Nat} (hq:zcP v=some q):q<w.heap.size:=by
 obtain⟨ks,h1,h2,h3,h4⟩:=h
 exact h2.lt hq
theorem RRow.keep0 (h:RRow E sz R w n v xs) (hf:Fr No w w'):RRow E sz R w' n v xs:=h.keep hf (fun _ _ h=>h) (fun _ _ _ h=>h)
theorem RRow.rawS (h:RRow E sz R w n v xs):∃ks:List (Raw sz),ks.length=xs.length∧(∀i (h1:i<ks.length) (h2:i<xs.length),R ks[i].1 xs[i])∧Sl (fun b=>b<n) w sz RawC v ks:=by
 obtain⟨ks,h1,h2,h3,h4⟩:=h
 rw[<-h1] at h2
 exact⟨ks,h1,h4,h2.rawSl rfl (fun i _ _=>rfl) (fun q hq e=>by have:=h3 q hq;omega)⟩
theorem RRow.nil:RRow E sz R w n (.slice none 0 0) []:=⟨[],rfl,RowV.nil _ _ _,(fun q hq=>by cases hq),fun i h=>absurd h (by simp)⟩
theorem KprT.c {cs:List Value} {k:Kpr} (h:KprT Y lo w cs k) (hY:∀b,b<lo->Y b):KprC (fun b=>b<lo) w cs k:=by
 obtain⟨vo,va,rfl,h1,h2⟩:=h
 exact⟨vo,va,rfl,RRow.sl (h1.mono (fun _ _ h=>h.weaken hY)) (fun q hq e=>by omega),RRow.sl h2 (fun q hq e=>by omega)⟩
theorem KprT.keep {cs:List Value} {k:Kpr} (h:KprT Y lo w cs k) (hf:Fr No w w'):KprT Y lo w' cs k:=by
 obtain⟨vo,va,rfl,h1,h2⟩:=h
 exact⟨vo,va,rfl,h1.keep hf (fun _ _ h=>h) (fun _ _ _ h=>h.keep hf zN),h2.keep0 hf⟩
theorem KprT.wid {cs:List Value} {k:Kpr} (h:KprT Y lo w cs k) (hY:∀b,Y' b->b<w.heap.size->Y b):KprT Y' lo w cs k:=by
 obtain⟨vo,va,rfl,h1,h2⟩:=h
 exact⟨vo,va,rfl,h1.mono (fun _ _ h=>h.wid hY),h2⟩
theorem KprT.lt {cs:List Value} {k:Kpr} (h:KprT Y lo w cs k) {b:Nat} (hb:ztV cs b):lo≤b∧b<w.heap.size:=by
 obtain⟨vo,va,rfl,h1,h2⟩:=h
 obtain⟨u,hu,hq⟩:=hb
 simp only[List.mem_cons,List.not_mem_nil,or_false] at hu
 rcases hu with rfl|rfl
 ·exact⟨h1.choose_spec.2.2.1 b hq,h1.lt hq⟩
 ·exact⟨h2.choose_spec.2.2.1 b hq,h2.lt hq⟩
end
section
variable {lo:Nat} {w w':World} {v:Value} {ks:List Kpr}
theorem KsT.nil:KsT lo w (.slice none 0 0) []:=⟨[],rfl,RowV.nil _ _ _,(fun q hq=>by cases hq),fun i h=>absurd h (by simp),fun i j h=>absurd h (by simp)⟩
theorem KsT.sl (h:KsT lo w v ks):Sl (fun b=>b<lo) w 2 (KprC (fun b=>b<lo) w) v ks:=by
 obtain⟨rows,h1,h2,h3,h4,_⟩:=h
 exact h2.rawSl h1 (fun i a b=>(h4 i a b).c (fun b hb=>.inl hb)) (fun q hq e=>by have:=h3 q hq;omega)
theorem KsT.keep (h:KsT lo w v ks) (hf:Fr No w w'):KsT lo w' v ks:=by
 obtain⟨rows,h1,h2,h3,h4,h5⟩:=h
 exact⟨rows,h1,h2.keep0 hf,h3,fun i a b=>(h4 i a b).keep hf,h5⟩
theorem KsT.low {m:Nat} (h:KsT lo w v ks) (hm:m≤lo):KsT m w v ks:=by
 obtain⟨rows,h1,h2,h3,h4,h5⟩:=h
 refine⟨rows,h1,h2,fun q hq=>Nat.le_trans hm (h3 q hq),fun i a b=>?_,h5⟩
 obtain⟨vo,va,e,g1,g2⟩:=h4 i a b
 exact⟨vo,va,e,(g1.low hm).mono (fun _ _ h=>h.weaken (fun b hb=>hb.imp (fun e=>by omega) id)),g2.low hm⟩
theorem KsT.far {b0:Nat} {t:TypeId} {c:Value} (h:KsT lo w v ks) (hb:Bx w b0 t #[c]) (ht:90≠t∧55≠t∧150≠t) (hf:Fr (fun x=>x=b0∨x<lo) w w'):KsT lo w' v ks:=by
 obtain⟨rows,h1,h2,h3,h4,h5⟩:=h
 refine⟨rows,h1,h2.keep hf (fun q hq e=>by rcases e with e|e;exact h2.ne hb ht.1 hq e;have:=h3 q hq;omega),h3,fun i a b=>?_,h5⟩
 obtain⟨vo,va,e,g1,g2⟩:=h4 i a b
 have hone:∀o,w.cell? ⟨b0,o+1,none⟩=none:=fun o=>by rw[hb.cell];simp
 refine⟨vo,va,e,?_,?_⟩
 ·obtain⟨js,k1,k2,k3,k4⟩:=g1
  refine⟨js,k1,k2.keep hf (fun q hq e=>by rcases e with e|e;exact k2.ne hb ht.2.1 hq e;have:=k3 q hq;omega),k3,fun i a b=>?_⟩
  exact((ClsC.sep (b0:=b0) (k4 i a b) hone).keep hf (fun b e=>by rcases e with e|e;exact .inr e;exact .inl (.inl e))).weaken (fun b hb=>.inl hb)
 ·obtain⟨js,k1,k2,k3,k4⟩:=g2
  exact⟨js,k1,k2.keep hf (fun q hq e=>by rcases e with e|e;exact k2.ne hb ht.2.2 hq e;have:=k3 q hq;omega),k3,k4⟩
def PfxT (lo:Nat) (w:World) (Y:Nat->Prop) (js:List (Raw 2)) (ks:List Kpr):Prop:=(∀b,b<lo->Y b)∧js.length=ks.length∧(∀i (h1:i<js.length) (h2:i<ks.length),KprT Y lo w js[i].1 ks[i])∧(∀r∈js,∀b,ztV r.1 b->Y b)∧∀i j (hi:i<js.length) (hj:j<js.length),i<j->∀b,ztV js[i].1 b->¬ztV js[j].1 b
def ztW (lo:Nat) (w:World) (Y:Nat->Prop) (js:List (Raw 2)) (vo va:Value) (k:Kpr):Prop:=KprT Y lo w [vo,va] k∧(∀b,ztV [vo,va] b->Y b)∧∀r∈js,∀b,ztV r.1 b->¬ztV [vo,va] b
theorem ztX {b:Nat} (h:ztV [.slice none 0 0,.slice none 0 0] b):False:=by
 obtain⟨u,hu,hq⟩:=h
 simp only[List.mem_cons,List.not_mem_nil,or_false,or_self] at hu
 subst hu
 cases hq
theorem ztW.oldA {Y:Nat->Prop} {js:List (Raw 2)} {vo vo' va:Value} {k:Kpr} (L:ztW lo w Y js vo va k) (h:∀q,zcP vo'=some q->w.heap.size≤q):∀b,ztV [vo',va] b->b<w.heap.size->Y b∧∀r∈js,¬ztV r.1 b:=by
 rintro b ⟨u,hu,hq⟩ hb
 simp only[List.mem_cons,List.not_mem_nil,or_false] at hu
 rcases hu with rfl|rfl
 ·have:=h b hq;omega
 ·have ht:ztV [vo,u] b:=⟨u,by simp,hq⟩
  exact⟨L.2.1 b ht,fun r hr h=>L.2.2 r hr b h ht⟩
theorem ztW.oldO {Y:Nat->Prop} {js:List (Raw 2)} {vo va va':Value} {k:Kpr} (L:ztW lo w Y js vo va k) (h:∀q,zcP va'=some q->w.heap.size≤q):∀b,ztV [vo,va'] b->b<w.heap.size->Y b∧∀r∈js,¬ztV r.1 b:=by
 rintro b ⟨u,hu,hq⟩ hb
 simp only[List.mem_cons,List.not_mem_nil,or_false] at hu
 rcases hu with rfl|rfl
 ·have ht:ztV [u,va] b:=⟨u,by simp,hq⟩
  exact⟨L.2.1 b ht,fun r hr h=>L.2.2 r hr b h ht⟩
 ·have:=h b hq;omega
theorem ztY {g n c m:Nat} (h:m≤g):∀q,zcP (.slice (some ⟨g,0,none⟩) n c)=some q->m≤q:=by
 intro q hq
 rw[zcQ] at hq
 split at hq
 ·cases hq
 ·cases hq;exact h
theorem Sl.cls2 {X Y:Nat->Prop} {w:World} {A:Option Addr} {n cap:Nat} {xs:List Cls} (h:Sl X w 4 (ClsC Y w) (.slice A n cap) xs) {k:Nat} (hk:k<xs.length):
  ∃b off Af cf Am cm,A=some ⟨b,off,none⟩∧¬X b∧w.cell? ⟨b,off+k * 4,none⟩=some (.string xs[k].name)∧w.cell? ⟨b,off+k * 4+1,none⟩=some (.string xs[k].super)∧w.cell? ⟨b,off+k * 4+2,none⟩=some (.slice Af xs[k].fields.length cf)∧w.cell? ⟨b,off+k * 4+3,none⟩=some (.slice Am xs[k].methods.length cm)∧xs[k].name.size≤maxLen∧xs[k].super.size≤maxLen∧Sl Y w 3 FldC (.slice Af xs[k].fields.length cf) xs[k].fields∧Sl Y w 8 (MthC Y w) (.slice Am xs[k].methods.length cm) xs[k].methods∧xs[k].fields.length≤cf∧xs[k].fields.length≤maxLen∧xs[k].methods.length≤cm∧xs[k].methods.length≤maxLen:=by
 obtain⟨b,off,cs,hA,hX,⟨vf,vm,rfl,z0,z1,hvf,hvm⟩,hc⟩:=h.cells hk
 obtain⟨Af,cf,rfl,pvf,qvf⟩:=hvf.form
 obtain⟨Am,cm,rfl,pvm,qvm⟩:=hvm.form
 exact⟨b,off,Af,cf,Am,cm,hA,hX,hc 0 _ (by decide) rfl,hc 1 _ (by decide) rfl,hc 2 _ (by decide) rfl,hc 3 _ (by decide) rfl,z0,z1,hvf,hvm,pvf,qvf,pvm,qvm⟩
theorem PfxT.c {Y:Nat->Prop} {js:List (Raw 2)} (h:PfxT lo w Y js ks):∀i (h1:i<js.length) (h2:i<ks.length),KprC (fun b=>b<lo) w js[i].1 ks[i]:=fun i h1 h2=>(h.2.2.1 i h1 h2).c h.1
theorem KsT.whole (h:KsT lo w v ks):∃(Y:Nat->Prop) (js:List (Raw 2)),PfxT lo w Y js ks∧Sl (fun b=>b<lo) w 2 RawC v js:=by
 obtain⟨rows,h1,h2,h3,h4,h5⟩:=h
 refine⟨TopY lo v rows,rows,⟨fun b hb=>.inl hb,h1,h4,fun r hr b hb=>.inr (.inr ⟨r,hr,hb⟩),h5⟩,?_⟩
 rw[<-h1] at h2
 exact h2.rawSl rfl (fun i _ _=>rfl) (fun q hq e=>by have:=h3 q hq;omega)
theorem KsT.parts {bm om n c:Nat} {kp:List Kpr} {k:Kpr} {vo va:Value} (h:KsT lo w (.slice (some ⟨bm,om,none⟩) n c) (kp ++ [k])) (y0:w.cell? ⟨bm,om+kp.length * 2,none⟩=some vo) (y1:w.cell? ⟨bm,om+kp.length * 2+1,none⟩=some va):
  ∃(Y:Nat->Prop) (js:List (Raw 2)),PfxT lo w Y js kp∧ztW lo w Y js vo va k∧Sl (fun b=>b<lo) w 2 RawC (.slice (some ⟨bm,om,none⟩) kp.length c) js∧(lo≤w.heap.size->∀b,Y b->b<w.heap.size):=by
 obtain⟨rows,h1,h2,h3,h4,h5⟩:=h
 have hl:(kp ++ [k]).length=kp.length+1:=by simp
 rw[hl] at h1
 have hYl:lo≤w.heap.size->∀b,TopY lo (.slice (some ⟨bm,om,none⟩) n c) rows b->b<w.heap.size:=by
  rintro hlo b (h|h | ⟨r,hr,h⟩)
  ·omega
  ·exact h2.lt h
  ·obtain⟨i,hi,rfl⟩:=List.getElem_of_mem hr
   exact((h4 i hi (by omega)).lt h).2
 have hs:Sl (fun b=>b<lo) w 2 RawC (.slice (some ⟨bm,om,none⟩) n c) rows:=by
  rw[hl,<-h1] at h2
  exact h2.rawSl rfl (fun i _ _=>rfl) (fun q hq e=>by have:=h3 q hq;omega)
 obtain⟨js,r,rfl⟩:∃js r,rows=js ++ [r]:=by
  rcases List.eq_nil_or_concat rows with rfl | ⟨js,r,rfl⟩
  ·simp at h1
  ·exact⟨js,r,List.concat_eq_append ..⟩
 have hjl:js.length=kp.length:=by simp at h1;exact h1
 have hr:r.1=[vo,va]:=by
  obtain⟨b,off,cs,hA,_,hR,hc⟩:=hs.cells (k:=js.length) (by simp)
  cases hA
  rw[List.getElem_append_right (Nat.le_refl _)] at hR
  simp only[Nat.sub_self,List.getElem_cons_zero] at hR
  have hR':cs=r.1:=hR
  subst hR'
  rw[hjl] at hc
  obtain⟨cs,hcs⟩:=r
  match cs,hcs with
  | [x,y],_=>
   have e0:=hc 0 x (by omega) rfl
   have e1:=hc 1 y (by omega) rfl
   rw[Nat.add_zero,y0] at e0
   rw[y1] at e1
   cases e0;cases e1;rfl
 have hR:∀i (h1:i<js.length) (h2:i<kp.length),KprT (TopY lo (.slice (some ⟨bm,om,none⟩) n c) (js ++ [r])) lo w js[i].1 kp[i]:=fun i a b=>by
  have:=h4 i (by simp;omega) (by simp;omega)
  rwa [List.getElem_append_left a,List.getElem_append_left b] at this
 have hL:=h4 js.length (by simp) (by simp;omega)
 rw[List.getElem_append_right (Nat.le_refl _),List.getElem_append_right (by omega)] at hL
 simp only[Nat.sub_self,List.getElem_cons_zero,hjl,hr] at hL
 refine⟨_,js,⟨fun b hb=>.inl hb,hjl,hR,fun x hx b hb=>.inr (.inr ⟨x,List.mem_append_left _ hx,hb⟩),fun i j a b hij q hq=>?_⟩,⟨hL,fun b hb=>.inr (.inr ⟨r,by simp,by rw[hr];exact hb⟩),fun x hx b hb=>?_⟩,?_,hYl⟩
 ·have:=h5 i j (by simp;omega) (by simp;omega) hij q
  rw[List.getElem_append_left a,List.getElem_append_left b] at this
  exact this hq
 ·obtain⟨i,hi,rfl⟩:=List.getElem_of_mem hx
  have:=h5 i js.length (by simp;omega) (by simp) hi b
  rw[List.getElem_append_left hi,List.getElem_append_right (Nat.le_refl _)] at this
  simp only[Nat.sub_self,List.getElem_cons_zero,hr] at this
  exact this hb
 ·rw[<-hjl]
  exact hs.pre
theorem PfxT.snoc {Wf:World} {Y0:Nat->Prop} {js:List (Raw 2)} {kp:List Kpr} {k:Kpr} {vo va:Value} {g c m:Nat} {h2:[vo,va].length=2} (P:PfxT lo w Y0 js kp) (hf:Fr No w Wf) (hlo:lo≤w.heap.size) (hm:m=js.length)
  (hrow:RowV Wf 90 2 (.slice (some ⟨g,0,none⟩) (m+1) c) (m+1) (rawL (js ++ [(⟨[vo,va],h2⟩:Raw 2)]))) (hg:w.heap.size≤g) (hc:m+1≤c)
  (hk:∀Y:Nat->Prop,(∀b,Y b->b<w.heap.size->Y0 b)->(∀b,Y b->w.heap.size≤b->b=g∨ztV [vo,va] b)->KprT Y lo Wf [vo,va] k)
  (hd:∀b,ztV [vo,va] b->b<w.heap.size->Y0 b∧∀r∈js,¬ztV r.1 b):KsT lo Wf (.slice (some ⟨g,0,none⟩) (m+1) c) (kp ++ [k]):=by
 obtain⟨P1,P2,P3,P4,P5⟩:=P
 subst hm
 have hlt:∀r∈js,∀b,ztV r.1 b->lo≤b∧b<w.heap.size:=fun r hr b hb=>by
  obtain⟨i,hi,rfl⟩:=List.getElem_of_mem hr
  exact(P3 i hi (by omega)).lt hb
 have hA:∀b,TopY lo (.slice (some ⟨g,0,none⟩) (js.length+1) c) (js ++ [(⟨[vo,va],h2⟩:Raw 2)]) b->b<w.heap.size->Y0 b:=by
  rintro b (h|h | ⟨r,hr,h⟩) hb
  ·exact P1 b h
  ·rw[zcQ,if_neg (by omega)] at h;cases h;dsimp only at hb;omega
  ·rcases List.mem_append.1 hr with hr|hr
   ·exact P4 r hr b h
   ·obtain rfl:=List.mem_singleton.1 hr
    exact(hd b h hb).1
 have hB:∀b,TopY lo (.slice (some ⟨g,0,none⟩) (js.length+1) c) (js ++ [(⟨[vo,va],h2⟩:Raw 2)]) b->w.heap.size≤b->b=g∨ztV [vo,va] b:=by
  rintro b (h|h | ⟨r,hr,h⟩) hb
  ·omega
  ·rw[zcQ,if_neg (by omega)] at h;cases h;exact .inl rfl
  ·rcases List.mem_append.1 hr with hr|hr
   ·have:=hlt r hr b h;omega
   ·obtain rfl:=List.mem_singleton.1 hr
    exact .inr h
 refine⟨js ++ [⟨[vo,va],h2⟩],by simp[P2],?_,fun q hq=>?_,fun i a b=>?_,fun i j a b hij q hq hq2=>?_⟩
 ·rw[List.length_append,<-P2]
  exact hrow
 ·rw[zcQ,if_neg (by omega)] at hq;cases hq;dsimp only;omega
 ·by_cases hi:i<js.length
  ·rw[List.getElem_append_left hi,List.getElem_append_left (by omega)]
   exact((P3 i hi (by omega)).wid hA).keep hf
  ·have e:i=js.length:=by simp at a;omega
   subst e
   rw[List.getElem_append_right (Nat.le_refl _),List.getElem_append_right (by omega)]
   simp only[Nat.sub_self,List.getElem_cons_zero,P2]
   exact hk _ hA hB
 ·have hi:i<js.length:=by simp at b;omega
  rw[List.getElem_append_left hi] at hq
  have h9:=hlt _ (List.getElem_mem hi) q hq
  by_cases hj:j<js.length
  ·rw[List.getElem_append_left hj] at hq2
   exact P5 i j hi hj hij q hq hq2
  ·have e:j=js.length:=by simp at b;omega
   subst e
   rw[List.getElem_append_right (Nat.le_refl _)] at hq2
   simp only[Nat.sub_self,List.getElem_cons_zero] at hq2
   exact(hd q hq2 h9.2).2 _ (List.getElem_mem hi) hq
end
end Go.Proofs.YtmeaibjmnjcdfaaGreat
