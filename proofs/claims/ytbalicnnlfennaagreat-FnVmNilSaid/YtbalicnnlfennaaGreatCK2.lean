/- The program's own machine in memory: other numbers let out, other things, other methods. -/
import Derived.Test.YtbalicnnlfennaaGreatCG24
namespace Go.Proofs.YtbalicnnlfennaaGreat
open Go.RowKit

section
variable {K : McP} {n : Nat} {s s' : St} {fs : List Cal} {f : Cal} {m m' : MLay} {ks : List KC} {k : KC} {w w' w1 : World} {X : Nat → Prop}
theorem McS.upd (h : McS K n s m w) (E : McE K) (hf : Fr X w w') (hX : ∀ b, X b → b ∈ mcB K m) (hbox : Bx w' K.mb tMach (macC K s' m')) (hcrow : RowV w' tPtr 1 m'.vc s'.frames.length (m'.kc.flatMap (calL K).C)) (hcels : Els (calL K) w' m'.kc s'.frames)
  (hhrow : RowV w' tObj 3 m'.vh s'.heap.length (m'.ko.flatMap objL.C)) (hhels : Els objL w' m'.ko s'.heap) (horow : OutRow w' m'.vo s'.outs) (hnd : (mcB K m').Nodup) (hnew : ∀ b ∈ mcB K m', b ∈ mcB K m ∨ w.heap.size ≤ b) : McS K n s' m' w' where
 anchor := h.ancOf hf (fun b hb => h.new b (hX b hb))
 lg := h.lgOf E hf (fun b hb => h.new b (hX b hb))
 box := hbox
 crow := hcrow
 cels := hcels
 hrow := hhrow
 hels := hhels
 orow := horow
 nodup := hnd
 new := fun b hb => by
  rcases hnew b hb with h1 | h1
  ·exact h.new b h1
  ·exact Nat.le_trans h.anchor.size h1
theorem McS.out3 (h : McS K n s m w) : (∀ b ∈ rowB m.vc, b ≠ K.mb) ∧ (∀ b ∈ m.kc.flatMap KC.B, b ≠ K.mb) ∧ (∀ b ∈ rowB m.vh, b ≠ K.mb) ∧ (∀ b ∈ m.ko.flatMap KO.B, b ≠ K.mb) ∧ (∀ b ∈ rowB m.vo, b ≠ K.mb) := by
 have := h.nodup
 unfold mcB at this
 rw [List.nodup_cons] at this
 obtain ⟨h1, _⟩ := this
 simp only [List.mem_append, not_or] at h1
 obtain ⟨a1, a2, a3, a4, a5⟩ := h1
 exact ⟨fun b hb e => a1 (e ▸ hb), fun b hb e => a2 (e ▸ hb), fun b hb e => a3 (e ▸ hb), fun b hb e => a4 (e ▸ hb), fun b hb e => a5 (e ▸ hb)⟩
theorem McS.boxOnly (h : McS K n s m w) (E : McE K) (hf : Fr (fun b => b = K.mb) w w') {st : Int} {bk : Val} (hb : Bx w' K.mb tMach (macC K ⟨st, s.frames, s.heap, s.outs, bk⟩ m)) : McS K n ⟨st, s.frames, s.heap, s.outs, bk⟩ m w' := by
 obtain ⟨a1, a2, a3, a4, a5⟩ := h.out3
 exact h.upd E hf (fun b hb => by subst hb; exact mem_mcB.2 (.inl rfl)) hb (h.crow.keepB hf a1) (h.cels.keep hf a2) (h.hrow.keepB hf a3) (h.hels.keep hf a4) (RowV.keepB h.orow hf a5) h.nodup (fun b hb => .inl hb)
theorem McS.noCalls (h : McS K n s m w) (E : McE K) (hf : Fr (fun b => b = K.mb) w w') {st : Int} (hb : Bx w' K.mb tMach (macC K ⟨st, [], s.heap, s.outs, s.back⟩ ⟨.slice none 0 0, m.vh, m.vo, [], m.ko⟩)) : McS K n ⟨st, [], s.heap, s.outs, s.back⟩ ⟨.slice none 0 0, m.vh, m.vo, [], m.ko⟩ w' := by
 obtain ⟨a1, a2, a3, a4, a5⟩ := h.out3
 have hs : ∀ b ∈ mcB K ⟨.slice none 0 0, m.vh, m.vo, [], m.ko⟩, b ∈ mcB K m := fun b hb => by
  rw [mem_mcB] at hb ⊢
  rcases hb with hb | hb | hb | hb
  ·exact .inl hb
  ·cases hb
  ·simp at hb
  ·exact .inr (.inr (.inr hb))
 refine h.upd E hf (fun b hb => by subst hb; exact mem_mcB.2 (.inl rfl)) hb (RowV.nil _ _ _) trivial (h.hrow.keepB hf a3) (h.hels.keep hf a4) (RowV.keepB h.orow hf a5) ?_ (fun b hb => .inl (hs b hb))
 have := h.nodup
 unfold mcB at this ⊢
 refine List.Nodup.sublist ?_ this
 refine List.Sublist.cons_cons _ ?_
 show List.Sublist (([] : List Nat) ++ (([] : List KC).flatMap KC.B ++ _)) _
 simp only [List.nil_append, List.flatMap_nil]
 exact (List.sublist_append_right _ _).trans (List.sublist_append_right _ _)
theorem nodup_swap2 {A B C B' : List Nat} (h : (A ++ (B ++ C)).Nodup) (hB : ∀ b ∈ B', b ∈ B ∨ (b ∉ A ∧ b ∉ C)) (hn : B'.Nodup) : (A ++ (B' ++ C)).Nodup := by
 have ho := fun b (hb : b ∈ A ∨ b ∈ C) => nodup_out h hb
 rw [List.nodup_append, List.nodup_append] at h ⊢
 obtain ⟨h1, ⟨_, h3, _⟩, h5⟩ := h
 refine ⟨h1, ⟨hn, h3, fun a ha b hb e => ?_⟩, fun a ha b hb e => ?_⟩
 ·subst e
  rcases hB a ha with h | h
  ·exact ho a (.inr hb) h
  ·exact h.2 hb
 ·subst e
  rcases List.mem_append.1 hb with hb | hb
  ·rcases hB a hb with h | h
   ·exact ho a (.inl ha) h
   ·exact h.1 ha
  ·exact h5 a ha a (List.mem_append_right _ hb) rfl
theorem McS.newObj (h : McS K n s m w) (E : McE K) {r : Ref} {vf : Value} {xs : List Val} (hr : r.name.size ≤ maxLen) (hvf : ValRow w vf xs) (hvn : ∀ q, rowBlk vf = some q → q ∉ mcB K m ∧ K.w0.heap.size ≤ q) {g' cap' : Nat}
  (hrow : RowV w1 tObj 3 (.slice (some ⟨g', 0, none⟩) (s.heap.length + 1) cap') (s.heap.length + 1) (m.ko.flatMap objL.C ++ [.int .i64 r.keeper, .string r.name, vf]))
  (hf : Fr (fun b => rowBlk m.vh = some b) w w1) (hor : rowBlk m.vh = some g' ∨ g' = w.heap.size) (hcap : s.heap.length + 1 ≤ cap') :
  ∃ m', McS K n ⟨s.status, s.frames, s.heap ++ [⟨r, xs⟩], s.outs, s.back⟩ m' (w1.setCell ⟨K.mb, 4, none⟩ (.slice (some ⟨g', 0, none⟩) (s.heap.length + 1) cap')) ∧ m'.kc = m.kc ∧ m'.vh = .slice (some ⟨g', 0, none⟩) (s.heap.length + 1) cap' ∧ (∀ b ∈ mcB K m', b ∈ mcB K m ∨ rowBlk vf = some b ∨ w.heap.size ≤ b) ∧
   Fr (fun b => b ∈ mcB K m) w (w1.setCell ⟨K.mb, 4, none⟩ (.slice (some ⟨g', 0, none⟩) (s.heap.length + 1) cap')) := by
 obtain ⟨a1, a2, a3, a4, a5⟩ := h.out3
 have hst : Fr (fun b => b = K.mb) w1 (w1.setCell ⟨K.mb, 4, none⟩ (.slice (some ⟨g', 0, none⟩) (s.heap.length + 1) cap')) := Fr.one _ _ _ _
 have hin : ∀ b, rowBlk m.vh = some b → b ∈ mcB K m := fun b hb => mem_mcB.2 (.inr (.inr (.inr (.inl (rowB_c hb)))))
 have hgm : g' ≠ K.mb := by
  rcases hor with h9 | h9
  ·exact a3 _ (rowB_c h9)
  ·have := h.box.lt; omega
 have hvg : ∀ q, rowBlk vf = some q → q ≠ g' := fun q hq e => by
  subst e
  rcases hor with h9 | h9
  ·exact (hvn _ hq).1 (hin _ h9)
  ·have := RowV.lt hvf hq; omega
 have hq' : rowB (.slice (some ⟨g', 0, none⟩) (s.heap.length + 1) cap') = [g'] := by unfold rowB; rw [rowBlk_some (by omega)]; rfl
 have hN : ((K.mb :: (rowB m.vc ++ m.kc.flatMap KC.B)) ++ ((rowB m.vh ++ m.ko.flatMap KO.B) ++ rowB m.vo)).Nodup := by
  have := h.nodup
  unfold mcB at this
  simpa using this
 have ho := fun b hb => nodup_out hN (b := b) hb
 have hfw : Fr (fun b => b = K.mb ∨ rowBlk m.vh = some b) w (w1.setCell ⟨K.mb, 4, none⟩ (.slice (some ⟨g', 0, none⟩) (s.heap.length + 1) cap')) := (hf.mono (fun b _ h => .inr h)).same (hst.mono (fun b _ h => .inl h))
 have hN2 : (rowB m.vh ++ m.ko.flatMap KO.B).Nodup := by
  rw [List.nodup_append, List.nodup_append] at hN
  exact hN.2.1.1
 have hko : ∀ b ∈ m.ko.flatMap KO.B, ¬ rowBlk m.vh = some b := fun b hb e => by
  rw [List.nodup_append] at hN2
  exact hN2.2.2 b (rowB_c e) b hb rfl
 have hfl : (m.ko ++ [(⟨r, vf⟩ : KO)]).flatMap KO.B = m.ko.flatMap KO.B ++ rowB vf := by rw [List.flatMap_append]; simp [KO.B]
 have hbl : ∀ b ∈ mcB K ⟨m.vc, .slice (some ⟨g', 0, none⟩) (s.heap.length + 1) cap', m.vo, m.kc, m.ko ++ [⟨r, vf⟩]⟩, b ∈ mcB K m ∨ rowBlk vf = some b ∨ w.heap.size ≤ b := fun b hb => by
  rcases mem_mcB.1 hb with hb | hb | hb | hb | hb | hb
  ·exact .inl (mem_mcB.2 (.inl hb))
  ·exact .inl (mem_mcB.2 (.inr (.inl hb)))
  ·exact .inl (mem_mcB.2 (.inr (.inr (.inl hb))))
  ·dsimp only at hb
   rw [hq', List.mem_singleton] at hb
   subst hb
   exact hor.imp (hin _) (fun e => .inr (by omega))
  ·dsimp only at hb
   rw [hfl, List.mem_append] at hb
   rcases hb with hb | hb
   ·exact .inl (mem_mcB.2 (.inr (.inr (.inr (.inr (.inl hb))))))
   ·exact .inr (.inl (mem_rowB.1 hb))
  ·exact .inl (mem_mcB.2 (.inr (.inr (.inr (.inr (.inr hb))))))
 refine ⟨⟨m.vc, .slice (some ⟨g', 0, none⟩) (s.heap.length + 1) cap', m.vo, m.kc, m.ko ++ [⟨r, vf⟩]⟩, ?_, rfl, rfl, hbl, hfw.mono (fun b _ hb => ?_)⟩
 ·have hX : ∀ b, (b = K.mb ∨ rowBlk m.vh = some b) → b ∈ mcB K m := fun b hb => by
   rcases hb with rfl | hb
   ·exact mem_mcB.2 (.inl rfl)
   ·exact hin b hb
  refine { anchor := h.ancOf hfw (fun b hb => h.new b (hX b hb)), lg := h.lgOf E hfw (fun b hb => h.new b (hX b hb)), box := (h.box.keepX hf (fun e => a3 _ (rowB_c e) rfl)).setc rfl, crow := ?_, cels := ?_, hrow := ?_, hels := ?_, orow := ?_, nodup := ?_, new := fun b hb => ?_ }
  ·exact h.crow.keepB hfw (fun q hq hx => by
    rcases hx with hx | hx
    ·exact a1 q hq hx
    ·exact ho q (.inl (by simp [hq])) (List.mem_append_left _ (rowB_c hx)))
  ·exact h.cels.keep hfw (fun q hq hx => by
    rcases hx with hx | hx
    ·exact a2 q hq hx
    ·exact ho q (.inl (List.mem_cons_of_mem _ (List.mem_append_right _ hq))) (List.mem_append_left _ (rowB_c hx)))
  ·have := hrow.keep hst (fun q hq e => by rw [rowBlk_some (by omega)] at hq; cases hq; exact hgm e)
   show RowV _ tObj 3 _ (s.heap ++ [(⟨r, xs⟩ : Obj)]).length ((m.ko ++ [(⟨r, vf⟩ : KO)]).flatMap objL.C)
   rw [List.flatMap_append]
   have el : (s.heap ++ [(⟨r, xs⟩ : Obj)]).length = s.heap.length + 1 := by simp
   rw [el]
   simpa [objL] using this
  ·exact (h.hels.keep hfw (fun q hq hx => by
    rcases hx with hx | hx
    ·exact a4 q hq hx
    ·exact hko q hq hx)).snoc ⟨rfl, hr, (ValRow.keepB hvf hf (fun q hq e => (hvn q (mem_rowB.1 hq)).1 (hin q e))).keepB hst (fun q hq e => (hvn q (mem_rowB.1 hq)).1 (by rw [e]; exact mem_mcB.2 (.inl rfl)))⟩
  ·exact RowV.keepB h.orow hfw (fun q hq hx => by
    rcases hx with hx | hx
    ·exact a5 q hq hx
    ·exact ho q (.inr hq) (List.mem_append_left _ (rowB_c hx)))
  ·have hlt : ∀ b, b ∈ K.mb :: (rowB m.vc ++ m.kc.flatMap KC.B) ∨ b ∈ rowB m.vo → b ∈ mcB K m := fun b hb => by
    rcases hb with hb | hb
    ·simp only [List.mem_cons, List.mem_append] at hb
     rcases hb with hb | hb | hb
     ·exact mem_mcB.2 (.inl hb)
     ·exact mem_mcB.2 (.inr (.inl hb))
     ·exact mem_mcB.2 (.inr (.inr (.inl hb)))
    ·exact mem_mcB.2 (.inr (.inr (.inr (.inr (.inr hb)))))
   have := nodup_swap2 (B' := [g'] ++ (m.ko.flatMap KO.B ++ rowB vf)) hN (fun b hb => by
    simp only [List.mem_append, List.mem_singleton] at hb
    rcases hb with rfl | hb | hb
    ·rcases hor with h9 | h9
     ·exact .inl (List.mem_append_left _ (rowB_c h9))
     ·exact .inr ⟨fun hx => by have := h.lt (hlt _ (.inl hx)); omega, fun hx => by have := h.lt (hlt _ (.inr hx)); omega⟩
    ·exact .inl (List.mem_append_right _ hb)
    ·have h8 := (hvn b (mem_rowB.1 hb)).1
     exact .inr ⟨fun hx => h8 (hlt _ (.inl hx)), fun hx => h8 (hlt _ (.inr hx))⟩) (by
    rw [List.singleton_append, List.nodup_cons, List.nodup_append]
    refine ⟨fun hx => ?_, (List.nodup_append.1 hN2).2.1, rowB_nodup _, fun a ha b hb e => ?_⟩
    ·rcases List.mem_append.1 hx with hx | hx
     ·rcases hor with h9 | h9
      ·exact hko _ hx h9
      ·have := h.lt (mem_mcB.2 (.inr (.inr (.inr (.inr (.inl hx)))))); omega
     ·exact hvg _ (mem_rowB.1 hx) rfl
    ·subst e
     exact (hvn a (mem_rowB.1 hb)).1 (mem_mcB.2 (.inr (.inr (.inr (.inr (.inl ha)))))))
   unfold mcB
   rw [hq', hfl]
   simpa using this
  ·rcases hbl b hb with h9 | h9 | h9
   ·exact h.new b h9
   ·exact (hvn b h9).2
   ·exact Nat.le_trans h.anchor.size h9
 ·rcases hb with rfl | hb
  ·exact mem_mcB.2 (.inl rfl)
  ·exact hin b hb
end
end Go.Proofs.YtbalicnnlfennaaGreat

namespace Go.Proofs.YtbalicnnlfennaaGreat
open Go.RowKit

section
variable {K : McP} {n : Nat} {s : St} {m : MLay} {w w1 : World}
theorem McS.newCall (h : McS K n s m w) (E : McE K) {k : KC} {f : Cal} (hR : CalR K w k f) (hkn : ∀ b ∈ k.B, b ∉ mcB K m ∧ K.w0.heap.size ≤ b) (hnd : k.B.Nodup) {g' cap' : Nat}
  (hrow : RowV w1 tPtr 1 (.slice (some ⟨g', 0, none⟩) (s.frames.length + 1) cap') (s.frames.length + 1) (m.kc.flatMap (calL K).C ++ [.pointer (some ⟨k.c, 0, none⟩)]))
  (hf : Fr (fun b => rowBlk m.vc = some b) w w1) (hor : rowBlk m.vc = some g' ∨ g' = w.heap.size) (hcap : s.frames.length + 1 ≤ cap') :
  ∃ m', McS K n ⟨s.status, s.frames ++ [f], s.heap, s.outs, s.back⟩ m' (w1.setCell ⟨K.mb, 3, none⟩ (.slice (some ⟨g', 0, none⟩) (s.frames.length + 1) cap')) ∧ (∀ b ∈ mcB K m', b ∈ mcB K m ∨ b ∈ k.B ∨ w.heap.size ≤ b) ∧
   Fr (fun b => b ∈ mcB K m) w (w1.setCell ⟨K.mb, 3, none⟩ (.slice (some ⟨g', 0, none⟩) (s.frames.length + 1) cap')) := by
 obtain ⟨a1, a2, a3, a4, a5⟩ := h.out3
 have hklt : ∀ b ∈ k.B, b < w.heap.size := fun b hb => (calL K).lt hR hb
 have hst : Fr (fun b => b = K.mb) w1 (w1.setCell ⟨K.mb, 3, none⟩ (.slice (some ⟨g', 0, none⟩) (s.frames.length + 1) cap')) := Fr.one _ _ _ _
 have hin : ∀ b, rowBlk m.vc = some b → b ∈ mcB K m := fun b hb => mem_mcB.2 (.inr (.inl (rowB_c hb)))
 have hgm : g' ≠ K.mb := by
  rcases hor with h9 | h9
  ·exact a1 _ (rowB_c h9)
  ·have := h.box.lt; omega
 have hvg : ∀ q ∈ k.B, q ≠ g' := fun q hq e => by
  subst e
  rcases hor with h9 | h9
  ·exact (hkn _ hq).1 (hin _ h9)
  ·have := hklt _ hq; omega
 have hq' : rowB (.slice (some ⟨g', 0, none⟩) (s.frames.length + 1) cap') = [g'] := by unfold rowB; rw [rowBlk_some (by omega)]; rfl
 have hN : (([K.mb] : List Nat) ++ ((rowB m.vc ++ m.kc.flatMap KC.B) ++ (rowB m.vh ++ (m.ko.flatMap KO.B ++ rowB m.vo)))).Nodup := by
  have := h.nodup
  unfold mcB at this
  simpa using this
 have ho := fun b hb => nodup_out hN (b := b) hb
 have hfw : Fr (fun b => b = K.mb ∨ rowBlk m.vc = some b) w (w1.setCell ⟨K.mb, 3, none⟩ (.slice (some ⟨g', 0, none⟩) (s.frames.length + 1) cap')) := (hf.mono (fun b _ h => .inr h)).same (hst.mono (fun b _ h => .inl h))
 have hN2 : (rowB m.vc ++ m.kc.flatMap KC.B).Nodup := by
  rw [List.nodup_append, List.nodup_append] at hN
  exact hN.2.1.1
 have hkc : ∀ b ∈ m.kc.flatMap KC.B, ¬ rowBlk m.vc = some b := fun b hb e => by
  rw [List.nodup_append] at hN2
  exact hN2.2.2 b (rowB_c e) b hb rfl
 have hfl : (m.kc ++ [k]).flatMap KC.B = m.kc.flatMap KC.B ++ k.B := by rw [List.flatMap_append]; simp
 have hbl : ∀ b ∈ mcB K ⟨.slice (some ⟨g', 0, none⟩) (s.frames.length + 1) cap', m.vh, m.vo, m.kc ++ [k], m.ko⟩, b ∈ mcB K m ∨ b ∈ k.B ∨ w.heap.size ≤ b := fun b hb => by
  rcases mem_mcB.1 hb with hb | hb | hb | hb | hb | hb
  ·exact .inl (mem_mcB.2 (.inl hb))
  ·dsimp only at hb
   rw [hq', List.mem_singleton] at hb
   subst hb
   exact hor.imp (hin _) (fun e => .inr (by omega))
  ·dsimp only at hb
   rw [hfl, List.mem_append] at hb
   rcases hb with hb | hb
   ·exact .inl (mem_mcB.2 (.inr (.inr (.inl hb))))
   ·exact .inr (.inl hb)
  ·exact .inl (mem_mcB.2 (.inr (.inr (.inr (.inl hb)))))
  ·exact .inl (mem_mcB.2 (.inr (.inr (.inr (.inr (.inl hb))))))
  ·exact .inl (mem_mcB.2 (.inr (.inr (.inr (.inr (.inr hb))))))
 have hX : ∀ b, (b = K.mb ∨ rowBlk m.vc = some b) → b ∈ mcB K m := fun b hb => by
  rcases hb with rfl | hb
  ·exact mem_mcB.2 (.inl rfl)
  ·exact hin b hb
 refine ⟨⟨.slice (some ⟨g', 0, none⟩) (s.frames.length + 1) cap', m.vh, m.vo, m.kc ++ [k], m.ko⟩, ?_, hbl, hfw.mono (fun b _ hb => hX b hb)⟩
 refine { anchor := h.ancOf hfw (fun b hb => h.new b (hX b hb)), lg := h.lgOf E hfw (fun b hb => h.new b (hX b hb)), box := (h.box.keepX hf (fun e => a1 _ (rowB_c e) rfl)).setc rfl, crow := ?_, cels := ?_, hrow := ?_, hels := ?_, orow := ?_, nodup := ?_, new := fun b hb => ?_ }
 ·have := hrow.keep hst (fun q hq e => by rw [rowBlk_some (by omega)] at hq; cases hq; exact hgm e)
  show RowV _ tPtr 1 _ (s.frames ++ [f]).length ((m.kc ++ [k]).flatMap (calL K).C)
  rw [List.flatMap_append]
  have el : (s.frames ++ [f]).length = s.frames.length + 1 := by simp
  rw [el]
  simpa [calL] using this
 ·exact (h.cels.keep hfw (fun q hq hx => by
   rcases hx with hx | hx
   ·exact a2 q hq hx
   ·exact hkc q hq hx)).snoc ((calL K).keep hR hfw (fun q hq hx => (hkn q hq).1 (hX q hx)))
 ·exact h.hrow.keepB hfw (fun q hq hx => by
   rcases hx with hx | hx
   ·exact a3 q hq hx
   ·exact ho q (.inr (List.mem_append_left _ hq)) (List.mem_append_left _ (rowB_c hx)))
 ·exact h.hels.keep hfw (fun q hq hx => by
   rcases hx with hx | hx
   ·exact a4 q hq hx
   ·exact ho q (.inr (List.mem_append_right _ (List.mem_append_left _ hq))) (List.mem_append_left _ (rowB_c hx)))
 ·exact RowV.keepB h.orow hfw (fun q hq hx => by
   rcases hx with hx | hx
   ·exact a5 q hq hx
   ·exact ho q (.inr (List.mem_append_right _ (List.mem_append_right _ hq))) (List.mem_append_left _ (rowB_c hx)))
 ·have hlt : ∀ b, b ∈ ([K.mb] : List Nat) ∨ b ∈ rowB m.vh ++ (m.ko.flatMap KO.B ++ rowB m.vo) → b ∈ mcB K m := fun b hb => by
   rcases hb with hb | hb
   ·exact mem_mcB.2 (.inl (List.mem_singleton.1 hb))
   ·simp only [List.mem_append] at hb
    rcases hb with hb | hb | hb
    ·exact mem_mcB.2 (.inr (.inr (.inr (.inl hb))))
    ·exact mem_mcB.2 (.inr (.inr (.inr (.inr (.inl hb)))))
    ·exact mem_mcB.2 (.inr (.inr (.inr (.inr (.inr hb)))))
  have := nodup_swap2 (B' := [g'] ++ (m.kc.flatMap KC.B ++ k.B)) hN (fun b hb => by
   rw [List.mem_append, List.mem_append, List.mem_singleton] at hb
   rcases hb with rfl | hb | hb
   ·rcases hor with h9 | h9
    ·exact .inl (List.mem_append_left _ (rowB_c h9))
    ·exact .inr ⟨fun hx => by have := h.lt (hlt _ (.inl hx)); omega, fun hx => by have := h.lt (hlt _ (.inr hx)); omega⟩
   ·exact .inl (List.mem_append_right _ hb)
   ·have h8 := (hkn b hb).1
    exact .inr ⟨fun hx => h8 (hlt _ (.inl hx)), fun hx => h8 (hlt _ (.inr hx))⟩) (by
   rw [List.singleton_append, List.nodup_cons, List.nodup_append]
   refine ⟨fun hx => ?_, (List.nodup_append.1 hN2).2.1, hnd, fun a ha b hb e => ?_⟩
   ·rcases List.mem_append.1 hx with hx | hx
    ·rcases hor with h9 | h9
     ·exact hkc _ hx h9
     ·have := h.lt (mem_mcB.2 (.inr (.inr (.inl hx)))); omega
    ·exact hvg _ hx rfl
   ·subst e
    exact (hkn a hb).1 (mem_mcB.2 (.inr (.inr (.inl ha)))))
  unfold mcB
  rw [hq', hfl]
  simpa using this
 ·rcases hbl b hb with h9 | h9 | h9
  ·exact h.new b h9
  ·exact (hkn b h9).2
  ·exact Nat.le_trans h.anchor.size h9
end
end Go.Proofs.YtbalicnnlfennaaGreat
