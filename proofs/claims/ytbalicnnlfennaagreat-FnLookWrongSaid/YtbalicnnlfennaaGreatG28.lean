/- The program's own machine in memory: other numbers let out, other things, other methods. -/
import Derived.Test.YtbalicnnlfennaaGreatG27
namespace Go.Proofs.YtbalicnnlfennaaGreat
open Go.RowKit

section
variable {K : McP} {n : Nat} {s s' : St} {fs : List Cal} {f : Cal} {m m' : MLay} {ks : List KC} {k : KC} {w w' w1 : World} {X : Nat → Prop}
theorem McS.upd (h : McS K n s m w) (E : McE K) (hf : Fr X w w') (hX : ∀ b, X b → b ∈ mcB K m) (hbox : Bx w' K.mb tMach (macC K s' m')) (hcrow : RowV w' tPtr 1 m'.vc s'.frames.length (m'.kc.flatMap (calL K).C)) (hcels : Els (calL K) w' m'.kc s'.frames)
    (hhrow : RowV w' tObj 3 m'.vh s'.heap.length (m'.ko.flatMap objL.C)) (hhels : Els objL w' m'.ko s'.heap) (horow : OutRow w' m'.vo s'.outs) (hnd : (mcB K m').Nodup) (hnew : ∀ b ∈ mcB K m', b ∈ mcB K m ∨ w.heap.size ≤ b) : McS K n s' m' w' where
  anchor := h.ancOf hf (fun b hb => h.new b (hX b hb))
  lg := h.lgOf E hf (fun b hb => h.new b (hX b hb))
  box := hbox
  crow := hcrow
  cels := hcels
  hrow := hhrow
  hels := hhels
  orow := horow
  nodup := hnd
  new := fun b hb => by
    rcases hnew b hb with h1 | h1
    · exact h.new b h1
    · exact Nat.le_trans h.anchor.size h1
theorem McS.out3 (h : McS K n s m w) : (∀ b ∈ rowB m.vc, b ≠ K.mb) ∧ (∀ b ∈ m.kc.flatMap KC.B, b ≠ K.mb) ∧ (∀ b ∈ rowB m.vh, b ≠ K.mb) ∧ (∀ b ∈ m.ko.flatMap KO.B, b ≠ K.mb) ∧ (∀ b ∈ rowB m.vo, b ≠ K.mb) := by
  have := h.nodup
  unfold mcB at this
  rw [List.nodup_cons] at this
  obtain ⟨h1, _⟩ := this
  simp only [List.mem_append, not_or] at h1
  obtain ⟨a1, a2, a3, a4, a5⟩ := h1
  exact ⟨fun b hb e => a1 (e ▸ hb), fun b hb e => a2 (e ▸ hb), fun b hb e => a3 (e ▸ hb), fun b hb e => a4 (e ▸ hb), fun b hb e => a5 (e ▸ hb)⟩
/-- Stores to the machine's own box. -/
theorem McS.boxOnly (h : McS K n s m w) (E : McE K) (hf : Fr (fun b => b = K.mb) w w') {st : Int} {bk : Val} (hb : Bx w' K.mb tMach (macC K ⟨st, s.frames, s.heap, s.outs, bk⟩ m)) : McS K n ⟨st, s.frames, s.heap, s.outs, bk⟩ m w' := by
  obtain ⟨a1, a2, a3, a4, a5⟩ := h.out3
  exact h.upd E hf (fun b hb => by subst hb; exact mem_mcB.2 (.inl rfl)) hb (h.crow.keepB hf a1) (h.cels.keep hf a2) (h.hrow.keepB hf a3) (h.hels.keep hf a4) (RowV.keepB h.orow hf a5) h.nodup (fun b hb => .inl hb)
/-- No method is done any more. -/
theorem McS.noCalls (h : McS K n s m w) (E : McE K) (hf : Fr (fun b => b = K.mb) w w') {st : Int} (hb : Bx w' K.mb tMach (macC K ⟨st, [], s.heap, s.outs, s.back⟩ ⟨.slice none 0 0, m.vh, m.vo, [], m.ko⟩)) : McS K n ⟨st, [], s.heap, s.outs, s.back⟩ ⟨.slice none 0 0, m.vh, m.vo, [], m.ko⟩ w' := by
  obtain ⟨a1, a2, a3, a4, a5⟩ := h.out3
  have hs : ∀ b ∈ mcB K ⟨.slice none 0 0, m.vh, m.vo, [], m.ko⟩, b ∈ mcB K m := fun b hb => by
    rw [mem_mcB] at hb ⊢
    rcases hb with hb | hb | hb | hb
    · exact .inl hb
    · cases hb
    · simp at hb
    · exact .inr (.inr (.inr hb))
  refine h.upd E hf (fun b hb => by subst hb; exact mem_mcB.2 (.inl rfl)) hb (RowV.nil _ _ _) trivial (h.hrow.keepB hf a3) (h.hels.keep hf a4) (RowV.keepB h.orow hf a5) ?_ (fun b hb => .inl (hs b hb))
  have := h.nodup
  unfold mcB at this ⊢
  refine List.Nodup.sublist ?_ this
  refine List.Sublist.cons_cons _ ?_
  show List.Sublist (([] : List Nat) ++ (([] : List KC).flatMap KC.B ++ _)) _
  simp only [List.nil_append, List.flatMap_nil]
  exact (List.sublist_append_right _ _).trans (List.sublist_append_right _ _)
/-- One number more is let out. -/
theorem McS.newOut (h : McS K n s m w) (E : McE K) {x : Int} {g' cap' : Nat} (hrow : RowV w1 3 1 (.slice (some ⟨g', 0, none⟩) (s.outs.length + 1) cap') (s.outs.length + 1) (s.outs.flatMap outCell ++ outCell x))
    (hf : Fr (fun b => rowBlk m.vo = some b) w w1) (hor : rowBlk m.vo = some g' ∨ g' = w.heap.size) (hcap : s.outs.length + 1 ≤ cap') :
    ∃ m', McS K n ⟨s.status, s.frames, s.heap, s.outs ++ [x], s.back⟩ m' (w1.setCell ⟨K.mb, 5, none⟩ (.slice (some ⟨g', 0, none⟩) (s.outs.length + 1) cap')) ∧ m'.kc = m.kc ∧ (∀ b ∈ mcB K m', b ∈ mcB K m ∨ w.heap.size ≤ b) ∧ Fr (fun b => b ∈ mcB K m) w (w1.setCell ⟨K.mb, 5, none⟩ (.slice (some ⟨g', 0, none⟩) (s.outs.length + 1) cap')) := by
  obtain ⟨a1, a2, a3, a4, a5⟩ := h.out3
  have hst : Fr (fun b => b = K.mb) w1 (w1.setCell ⟨K.mb, 5, none⟩ (.slice (some ⟨g', 0, none⟩) (s.outs.length + 1) cap')) := Fr.one _ _ _ _
  have hin : ∀ b, rowBlk m.vo = some b → b ∈ mcB K m := fun b hb => mem_mcB.2 (.inr (.inr (.inr (.inr (.inr (rowB_c hb))))))
  have hgm : g' ≠ K.mb := by
    rcases hor with h9 | h9
    · exact a5 _ (rowB_c h9)
    · have := h.box.lt; omega
  have hq' : rowB (.slice (some ⟨g', 0, none⟩) (s.outs.length + 1) cap') = [g'] := by unfold rowB; rw [rowBlk_some (by omega)]; rfl
  have hN : (K.mb :: (rowB m.vc ++ (m.kc.flatMap KC.B ++ (rowB m.vh ++ m.ko.flatMap KO.B))) ++ (rowB m.vo ++ [])).Nodup := by
    have := h.nodup
    unfold mcB at this
    simpa using this
  have ho := fun b hb => nodup_out hN (b := b) (.inl hb)
  have hfw : Fr (fun b => b = K.mb ∨ rowBlk m.vo = some b) w (w1.setCell ⟨K.mb, 5, none⟩ (.slice (some ⟨g', 0, none⟩) (s.outs.length + 1) cap')) := (hf.mono (fun b _ h => .inr h)).same (hst.mono (fun b _ h => .inl h))
  have hbl : ∀ b ∈ mcB K ⟨m.vc, m.vh, .slice (some ⟨g', 0, none⟩) (s.outs.length + 1) cap', m.kc, m.ko⟩, b ∈ mcB K m ∨ w.heap.size ≤ b := fun b hb => by
    rcases mem_mcB.1 hb with hb | hb | hb | hb | hb | hb
    · exact .inl (mem_mcB.2 (.inl hb))
    · exact .inl (mem_mcB.2 (.inr (.inl hb)))
    · exact .inl (mem_mcB.2 (.inr (.inr (.inl hb))))
    · exact .inl (mem_mcB.2 (.inr (.inr (.inr (.inl hb)))))
    · exact .inl (mem_mcB.2 (.inr (.inr (.inr (.inr (.inl hb))))))
    · dsimp only at hb
      rw [hq', List.mem_singleton] at hb
      subst hb
      exact hor.imp (hin _) (fun e => by omega)
  have hmb : ∀ b ∈ K.mb :: (rowB m.vc ++ (m.kc.flatMap KC.B ++ (rowB m.vh ++ m.ko.flatMap KO.B))), b ∈ mcB K m := fun b hb => by
    simp only [List.mem_cons, List.mem_append] at hb
    rcases hb with hb | hb | hb | hb | hb
    · exact mem_mcB.2 (.inl hb)
    · exact mem_mcB.2 (.inr (.inl hb))
    · exact mem_mcB.2 (.inr (.inr (.inl hb)))
    · exact mem_mcB.2 (.inr (.inr (.inr (.inl hb))))
    · exact mem_mcB.2 (.inr (.inr (.inr (.inr (.inl hb)))))
  have hst2 : ∀ b ∈ rowB m.vc ++ (m.kc.flatMap KC.B ++ (rowB m.vh ++ m.ko.flatMap KO.B)), ¬ (b = K.mb ∨ rowBlk m.vo = some b) := fun b hb hx => by
    rcases hx with rfl | hx
    · have := hN
      rw [List.cons_append, List.nodup_cons] at this
      exact this.1 (List.mem_append_left _ hb)
    · exact ho b (List.mem_cons_of_mem _ hb) (rowB_c hx)
  refine ⟨⟨m.vc, m.vh, .slice (some ⟨g', 0, none⟩) (s.outs.length + 1) cap', m.kc, m.ko⟩, ?_, rfl, hbl, hfw.mono (fun b _ hb => ?_)⟩
  · refine h.upd E hfw (fun b hb => ?_) ?_ (h.crow.keepB hfw (fun b hb => hst2 b (by simp [hb]))) (h.cels.keep hfw (fun b hb => hst2 b (List.mem_append_right _ (List.mem_append_left _ hb)))) (h.hrow.keepB hfw (fun b hb => hst2 b (by simp [hb]))) (h.hels.keep hfw (fun b hb => hst2 b (List.mem_append_right _ (List.mem_append_right _ (List.mem_append_right _ hb))))) ?_ ?_ hbl
    · rcases hb with rfl | hb
      · exact mem_mcB.2 (.inl rfl)
      · exact hin b hb
    · exact (h.box.keepX hf (fun e => a5 _ (rowB_c e) rfl)).setc rfl
    · have := hrow.keep hst (fun q hq e => by rw [rowBlk_some (by omega)] at hq; cases hq; exact hgm e)
      show RowV _ _ 1 _ (s.outs ++ [x]).length _
      simpa [List.flatMap_append] using this
    · have := nodup_swap (B' := [g']) (n := w.heap.size) hN (fun b hb => by
        rcases hb with hb | hb
        · exact h.lt (hmb b hb)
        · cases hb) (fun b hb => by
        rw [List.mem_singleton] at hb
        subst hb
        exact hor.imp rowB_c (fun e => by omega)) (by simp)
      unfold mcB
      rw [hq']
      simpa using this
  · rcases hb with rfl | hb
    · exact mem_mcB.2 (.inl rfl)
    · exact hin b hb

theorem nodup_swap2 {A B C B' : List Nat} (h : (A ++ (B ++ C)).Nodup) (hB : ∀ b ∈ B', b ∈ B ∨ (b ∉ A ∧ b ∉ C)) (hn : B'.Nodup) : (A ++ (B' ++ C)).Nodup := by
  have ho := fun b (hb : b ∈ A ∨ b ∈ C) => nodup_out h hb
  rw [List.nodup_append, List.nodup_append] at h ⊢
  obtain ⟨h1, ⟨_, h3, _⟩, h5⟩ := h
  refine ⟨h1, ⟨hn, h3, fun a ha b hb e => ?_⟩, fun a ha b hb e => ?_⟩
  · subst e
    rcases hB a ha with h | h
    · exact ho a (.inr hb) h
    · exact h.2 hb
  · subst e
    rcases List.mem_append.1 hb with hb | hb
    · rcases hB a hb with h | h
      · exact ho a (.inl ha) h
      · exact h.1 ha
    · exact h5 a ha a (List.mem_append_right _ hb) rfl
/-- A new thing. -/
theorem McS.newObj (h : McS K n s m w) (E : McE K) {r : Ref} {vf : Value} {xs : List Val} (hr : r.name.size ≤ maxLen) (hvf : ValRow w vf xs) (hvn : ∀ q, rowBlk vf = some q → q ∉ mcB K m ∧ K.w0.heap.size ≤ q) {g' cap' : Nat}
    (hrow : RowV w1 tObj 3 (.slice (some ⟨g', 0, none⟩) (s.heap.length + 1) cap') (s.heap.length + 1) (m.ko.flatMap objL.C ++ [.int .i64 r.keeper, .string r.name, vf]))
    (hf : Fr (fun b => rowBlk m.vh = some b) w w1) (hor : rowBlk m.vh = some g' ∨ g' = w.heap.size) (hcap : s.heap.length + 1 ≤ cap') :
    ∃ m', McS K n ⟨s.status, s.frames, s.heap ++ [⟨r, xs⟩], s.outs, s.back⟩ m' (w1.setCell ⟨K.mb, 4, none⟩ (.slice (some ⟨g', 0, none⟩) (s.heap.length + 1) cap')) ∧ m'.kc = m.kc ∧ m'.vh = .slice (some ⟨g', 0, none⟩) (s.heap.length + 1) cap' ∧ (∀ b ∈ mcB K m', b ∈ mcB K m ∨ rowBlk vf = some b ∨ w.heap.size ≤ b) ∧
      Fr (fun b => b ∈ mcB K m) w (w1.setCell ⟨K.mb, 4, none⟩ (.slice (some ⟨g', 0, none⟩) (s.heap.length + 1) cap')) := by
  obtain ⟨a1, a2, a3, a4, a5⟩ := h.out3
  have hst : Fr (fun b => b = K.mb) w1 (w1.setCell ⟨K.mb, 4, none⟩ (.slice (some ⟨g', 0, none⟩) (s.heap.length + 1) cap')) := Fr.one _ _ _ _
  have hin : ∀ b, rowBlk m.vh = some b → b ∈ mcB K m := fun b hb => mem_mcB.2 (.inr (.inr (.inr (.inl (rowB_c hb)))))
  have hgm : g' ≠ K.mb := by
    rcases hor with h9 | h9
    · exact a3 _ (rowB_c h9)
    · have := h.box.lt; omega
  have hvg : ∀ q, rowBlk vf = some q → q ≠ g' := fun q hq e => by
    subst e
    rcases hor with h9 | h9
    · exact (hvn _ hq).1 (hin _ h9)
    · have := RowV.lt hvf hq; omega
  have hq' : rowB (.slice (some ⟨g', 0, none⟩) (s.heap.length + 1) cap') = [g'] := by unfold rowB; rw [rowBlk_some (by omega)]; rfl
  have hN : ((K.mb :: (rowB m.vc ++ m.kc.flatMap KC.B)) ++ ((rowB m.vh ++ m.ko.flatMap KO.B) ++ rowB m.vo)).Nodup := by
    have := h.nodup
    unfold mcB at this
    simpa using this
  have ho := fun b hb => nodup_out hN (b := b) hb
  have hfw : Fr (fun b => b = K.mb ∨ rowBlk m.vh = some b) w (w1.setCell ⟨K.mb, 4, none⟩ (.slice (some ⟨g', 0, none⟩) (s.heap.length + 1) cap')) := (hf.mono (fun b _ h => .inr h)).same (hst.mono (fun b _ h => .inl h))
  have hN2 : (rowB m.vh ++ m.ko.flatMap KO.B).Nodup := by
    rw [List.nodup_append, List.nodup_append] at hN
    exact hN.2.1.1
  have hko : ∀ b ∈ m.ko.flatMap KO.B, ¬ rowBlk m.vh = some b := fun b hb e => by
    rw [List.nodup_append] at hN2
    exact hN2.2.2 b (rowB_c e) b hb rfl
  have hfl : (m.ko ++ [(⟨r, vf⟩ : KO)]).flatMap KO.B = m.ko.flatMap KO.B ++ rowB vf := by rw [List.flatMap_append]; simp [KO.B]
  have hbl : ∀ b ∈ mcB K ⟨m.vc, .slice (some ⟨g', 0, none⟩) (s.heap.length + 1) cap', m.vo, m.kc, m.ko ++ [⟨r, vf⟩]⟩, b ∈ mcB K m ∨ rowBlk vf = some b ∨ w.heap.size ≤ b := fun b hb => by
    rcases mem_mcB.1 hb with hb | hb | hb | hb | hb | hb
    · exact .inl (mem_mcB.2 (.inl hb))
    · exact .inl (mem_mcB.2 (.inr (.inl hb)))
    · exact .inl (mem_mcB.2 (.inr (.inr (.inl hb))))
    · dsimp only at hb
      rw [hq', List.mem_singleton] at hb
      subst hb
      exact hor.imp (hin _) (fun e => .inr (by omega))
    · dsimp only at hb
      rw [hfl, List.mem_append] at hb
      rcases hb with hb | hb
      · exact .inl (mem_mcB.2 (.inr (.inr (.inr (.inr (.inl hb))))))
      · exact .inr (.inl (mem_rowB.1 hb))
    · exact .inl (mem_mcB.2 (.inr (.inr (.inr (.inr (.inr hb))))))
  refine ⟨⟨m.vc, .slice (some ⟨g', 0, none⟩) (s.heap.length + 1) cap', m.vo, m.kc, m.ko ++ [⟨r, vf⟩]⟩, ?_, rfl, rfl, hbl, hfw.mono (fun b _ hb => ?_)⟩
  · have hX : ∀ b, (b = K.mb ∨ rowBlk m.vh = some b) → b ∈ mcB K m := fun b hb => by
      rcases hb with rfl | hb
      · exact mem_mcB.2 (.inl rfl)
      · exact hin b hb
    refine { anchor := h.ancOf hfw (fun b hb => h.new b (hX b hb)), lg := h.lgOf E hfw (fun b hb => h.new b (hX b hb)), box := (h.box.keepX hf (fun e => a3 _ (rowB_c e) rfl)).setc rfl, crow := ?_, cels := ?_, hrow := ?_, hels := ?_, orow := ?_, nodup := ?_, new := fun b hb => ?_ }
    · exact h.crow.keepB hfw (fun q hq hx => by
        rcases hx with hx | hx
        · exact a1 q hq hx
        · exact ho q (.inl (by simp [hq])) (List.mem_append_left _ (rowB_c hx)))
    · exact h.cels.keep hfw (fun q hq hx => by
        rcases hx with hx | hx
        · exact a2 q hq hx
        · exact ho q (.inl (List.mem_cons_of_mem _ (List.mem_append_right _ hq))) (List.mem_append_left _ (rowB_c hx)))
    · have := hrow.keep hst (fun q hq e => by rw [rowBlk_some (by omega)] at hq; cases hq; exact hgm e)
      show RowV _ tObj 3 _ (s.heap ++ [(⟨r, xs⟩ : Obj)]).length ((m.ko ++ [(⟨r, vf⟩ : KO)]).flatMap objL.C)
      rw [List.flatMap_append]
      have el : (s.heap ++ [(⟨r, xs⟩ : Obj)]).length = s.heap.length + 1 := by simp
      rw [el]
      simpa [objL] using this
    · exact (h.hels.keep hfw (fun q hq hx => by
        rcases hx with hx | hx
        · exact a4 q hq hx
        · exact hko q hq hx)).snoc ⟨rfl, hr, (ValRow.keepB hvf hf (fun q hq e => (hvn q (mem_rowB.1 hq)).1 (hin q e))).keepB hst (fun q hq e => (hvn q (mem_rowB.1 hq)).1 (by rw [e]; exact mem_mcB.2 (.inl rfl)))⟩
    · exact RowV.keepB h.orow hfw (fun q hq hx => by
        rcases hx with hx | hx
        · exact a5 q hq hx
        · exact ho q (.inr hq) (List.mem_append_left _ (rowB_c hx)))
    · have hlt : ∀ b, b ∈ K.mb :: (rowB m.vc ++ m.kc.flatMap KC.B) ∨ b ∈ rowB m.vo → b ∈ mcB K m := fun b hb => by
        rcases hb with hb | hb
        · simp only [List.mem_cons, List.mem_append] at hb
          rcases hb with hb | hb | hb
          · exact mem_mcB.2 (.inl hb)
          · exact mem_mcB.2 (.inr (.inl hb))
          · exact mem_mcB.2 (.inr (.inr (.inl hb)))
        · exact mem_mcB.2 (.inr (.inr (.inr (.inr (.inr hb)))))
      have := nodup_swap2 (B' := [g'] ++ (m.ko.flatMap KO.B ++ rowB vf)) hN (fun b hb => by
        simp only [List.mem_append, List.mem_singleton] at hb
        rcases hb with rfl | hb | hb
        · rcases hor with h9 | h9
          · exact .inl (List.mem_append_left _ (rowB_c h9))
          · exact .inr ⟨fun hx => by have := h.lt (hlt _ (.inl hx)); omega, fun hx => by have := h.lt (hlt _ (.inr hx)); omega⟩
        · exact .inl (List.mem_append_right _ hb)
        · have h8 := (hvn b (mem_rowB.1 hb)).1
          exact .inr ⟨fun hx => h8 (hlt _ (.inl hx)), fun hx => h8 (hlt _ (.inr hx))⟩) (by
        rw [List.singleton_append, List.nodup_cons, List.nodup_append]
        refine ⟨fun hx => ?_, (List.nodup_append.1 hN2).2.1, rowB_nodup _, fun a ha b hb e => ?_⟩
        · rcases List.mem_append.1 hx with hx | hx
          · rcases hor with h9 | h9
            · exact hko _ hx h9
            · have := h.lt (mem_mcB.2 (.inr (.inr (.inr (.inr (.inl hx)))))); omega
          · exact hvg _ (mem_rowB.1 hx) rfl
        · subst e
          exact (hvn a (mem_rowB.1 hb)).1 (mem_mcB.2 (.inr (.inr (.inr (.inr (.inl ha)))))))
      unfold mcB
      rw [hq', hfl]
      simpa using this
    · rcases hbl b hb with h9 | h9 | h9
      · exact h.new b h9
      · exact (hvn b h9).2
      · exact Nat.le_trans h.anchor.size h9
  · rcases hb with rfl | hb
    · exact mem_mcB.2 (.inl rfl)
    · exact hin b hb
end
end Go.Proofs.YtbalicnnlfennaaGreat

/- The program's own machine: a number is let out. -/
namespace Go.Proofs.YtbalicnnlfennaaGreat
open Go.RowKit

set_option maxRecDepth 100000 in
set_option maxHeartbeats 4000000 in
theorem doOut_ok (K : McP) (E : McE K) (n : Nat) (s : St) (fs : List Cal) (f : Cal) (m : MLay) (ks : List KC) (k : KC) (w : World) (h : McT K n s fs f m ks k w) (hst : f.stack.length ≤ 100) (h0 : 0 ≤ f.pc) (h1 : f.pc < 1000) (hou : s.outs.length ≤ 40) (i : Ins) :
    Calls Tryz.prog 60 #[.pointer (some ⟨K.mb, 0, none⟩), insV i] w (OpPost K n (match popV f.stack with
      | none => s.ends 10
      | some (v, r) => if v.kind = 1 then nextM K.p (s.withOuts (if s.outs.length < 40 then s.outs ++ [v.n] else s.outs)) fs (f.left r) else s.ends 10) m w) := by
  obtain ⟨op, ia, nm, mbr⟩ := i
  try dsimp only
  have HT := fun W (hW : Fr No w W) => top_ok K n s fs f m ks k W (h.keep E hW)
  have HP := fun W (hW : Fr No w W) => pop_ok K E n s fs f m ks k W (h.keep E hW) hst
  unfold PopPost at HP
  obtain ⟨wA, hwA⟩ : ∃ wA, wA = (w.alloc (.cells #[.int .i64 op, .int .i64 ia, .string nm, .string mbr] 27)) := ⟨_, rfl⟩
  have hfA : Fr No w wA := hwA ▸ frc
  have B0 := (hwA ▸ bxc : Bx wA w.heap.size 27 #[.int .i64 op, .int .i64 ia, .string nm, .string mbr])
  rcases popV_cases f.stack with ⟨hs, q1, _⟩ | ⟨ys, x, hs, q1, _⟩
  · rw [q1] at HP ⊢
    dsimp only at HP ⊢
    have hE := fun W (hW : Fr No w W) => (h.keep E hW).ends 10 (by decide) (Fr.refl No W)
    clear h hs q1
    go_enter Tryz.func60, Tryz.ntmps60
    go_wp2_with (first
      | (go_at_call 62; rw [← hwA]; refine (HT _ hfA).mono ?_; rintro e w1 ⟨rfl, hf1⟩)
      | (go_at_call 82; refine (HP _ (hfA.trans0 hf1)).mono ?_; rintro e w2 ⟨rfl, hf2⟩; have hfE : Fr No w w2 := (hfA.trans0 hf1).trans0 hf2))
    go_ret
    exact ⟨rfl, (hE _ frc).from frc⟩
  · rw [q1] at HP ⊢
    dsimp only at HP ⊢
    have hno : ¬ K.own m w.heap.size := fun hx => by
      rcases hx with hx | hx
      · have := E.bl_lt; have := h.st.anchor.size; omega
      · have := h.st.lt hx; omega
    clear h hs q1
    obtain ⟨xk, xn⟩ := x
    dsimp only at *
    by_cases hk : xk = 1
    · subst hk
      rw [if_pos rfl]
      by_cases hl : s.outs.length < 40
      · rw [if_pos hl]
        obtain ⟨i0, hi, hz0, hz1, hz2⟩ := info_parts info_int
        replace hi := Lib.hid hi
        replace hz0 := Lib.hid hz0
        replace hz1 := Lib.hid hz1
        replace hz2 := Lib.hid hz2
        go_enter Tryz.func60, Tryz.ntmps60
        go_wp2_with (first
          | (go_at_call 62; rw [← hwA]; refine (HT _ hfA).mono ?_; rintro e w1 ⟨rfl, hf1⟩)
          | (go_at_call 82; refine (HP _ (hfA.trans0 hf1)).mono ?_; rintro e w2 ⟨rfl, m2, ks2, k2, hT2, hk2, hB2, hf2⟩; obtain ⟨Ao, co, hvo, ho1, ho2⟩ := RowV.form hT2.st.orow; unfold maxLen at ho2; dsimp only at hvo ho1; obtain ⟨_, _, _, _, _, c5, _, _, cf, cl⟩ := hT2.st.cells w2 (Fr.refl _ _); rw [hvo] at c5; replace hvo := Lib.hid hvo; replace hf2 := Lib.hid hf2; replace hB2 := Lib.hid hB2))
        obtain ⟨wB, hwB⟩ : ∃ wB, wB = (w2.alloc (.cells #[.int .i64 1, .int .i64 xn] 40)) := ⟨_, rfl⟩
        rw [← hwB]
        have hfB : Fr No w2 wB := hwB ▸ frc
        have BB : Bx wB w2.heap.size 40 #[.int .i64 1, .int .i64 xn] := hwB ▸ bxc
        have KB := BB.r2
        have KM := (hT2.keep E hfB).st.cells
        rw [hvo.out] at KM
        replace hwA := Lib.hid hwA
        replace hwB := Lib.hid hwB
        clear c5 cf cl HT HP
        refine wp_region_monR 8 36 [mE (mV (.pointer (some ⟨K.mb, 0, none⟩))), mV (.pointer (some ⟨K.mb, 0, none⟩)), mV (.pointer (some ⟨K.mb, 0, none⟩)), mV (.pointer (some ⟨K.mb, 5, none⟩)), mV (.slice Ao s.outs.length co), mV (.pointer (some ⟨w2.heap.size, 1, none⟩)), mV (.int .i64 xn), mS 3 (#[.int .i64 xn]) 1 wB.heap.size] (by kernel_rfl) (by kernel_rfl) (by simp) ?_ ?_
        · refine hopC ?_ <| hopC ?_ <| hopC ?_ <| hopC ?_ <| hopC ?_ <| hopC ?_ <| hopC ?_ <| hopC ?_ <| hopZ
          all_goals (intro a' W hW hoff hdep; have hbs := hW.size; have H0 := hoff 0 rfl; have H5 := hoff 5 rfl)
          · exact yE rfl ⟨.pointer (some ⟨K.mb, 0, none⟩), fun W => by simp [execOp, Act.eval, H0, go_sem], rfl, rfl⟩
          · refine nE rfl ?_; simp [execOp, Act.eval, H0, go_sem, givesUpon]; exact fr1 rfl
          · have D29 : _ = _ := hdep 1 29 rfl; refine nE rfl ?_; simp [execOp, Act.eval, D29, go_sem, givesUpon]; exact fr1 rfl
          · have D30 : _ = _ := hdep 2 30 rfl; refine nE rfl ?_; simp [execOp, Act.eval, D30, go_sem, givesUpon]; exact fr1 rfl
          · have D31 : _ = _ := hdep 3 31 rfl; refine nE rfl ?_; clear hoff hdep; simp [execOp, Act.eval, go_sem, givesUpon, *]; exact fr1 rfl
          · refine nE rfl ?_; simp [execOp, Act.eval, H5, go_sem, givesUpon]; exact fr1 rfl
          · have D33 : _ = _ := hdep 5 33 rfl; refine nE rfl ?_; clear hoff hdep; simp [execOp, Act.eval, go_sem, givesUpon, *]; exact fr1 rfl
          · have D34 : _ = _ := hdep 6 34 rfl; simp at D34; refine nE rfl ?_; simp [execOp, Act.eval, D34, go_sem, givesUpon]; exact ⟨(Fr.refl _ _).alloc _, ⟨_, rfl, Bx.new_ rfl, hbs⟩, Nat.le_refl _⟩
        intro vs WR hWR hv hne
        obtain ⟨b7, e7, hb7, hl7⟩ := hv 7 (by omega)
        simp only [List.drop_succ_cons, List.drop_zero, putsR_EV, putsR_S, putsR_V, putsR_0, Nat.zero_add, Nat.reduceAdd, e7]
        simp only [Act.put, List.setIfInBounds_toArray, List.set_cons_zero, List.set_cons_succ]
        clear e7 hv
        have hR := (hT2.keep E hfB).keep E hWR
        have hrowR : RowV WR 3 1 (.slice Ao s.outs.length co) s.outs.length (s.outs.flatMap outCell) := by
          have := hR.st.orow
          dsimp only at this
          rw [hvo.out] at this
          exact this
        have hsrc := Lib.hid (Bx.news (cs := outCell xn) hb7)
        have hboxR := hR.st.box
        have hne : ∀ q, rowBlk (.slice Ao s.outs.length co) = some q → q ≠ K.mb := fun q hq => hR.st.out3.2.2.2.2 q (by rw [hvo.out]; exact rowB_c hq)
        have hfin := fun {g' cap' : Nat} {w3 : World} (hrow : RowV w3 3 1 (.slice (some ⟨g', 0, none⟩) (s.outs.length + 1) cap') (s.outs.length + 1) (s.outs.flatMap outCell ++ outCell xn)) (hgf : Fr (fun b => rowBlk (.slice Ao s.outs.length co) = some b) WR w3) (hor : rowBlk (.slice Ao s.outs.length co) = some g' ∨ g' = WR.heap.size) (hcap : s.outs.length + 1 ≤ cap') =>
          hR.st.newOut E hrow (by rw [hvo.out]; exact hgf) (by rw [hvo.out]; exact hor) hcap
        have hkc := hR.kc
        have hgo := hR.go
        clear KM KB BB
        replace hR := Lib.hid hR
        replace hT2 := Lib.hid hT2
        replace hkc := Lib.hid hkc
        replace hgo := Lib.hid hgo
        go_wp2_with (first
          | (at_builtin; refine wpList_append_row _ rfl _ _ 38 rfl 3 i0 (.int .i64 0) 1 8 Tryz.underlying38 hi.out hz0.out hz1.out hz2.out rfl (by decide) (.slice Ao s.outs.length co) s.outs.length (s.outs.flatMap outCell) rfl hrowR ⟨b7, 0, none⟩ 1 1 (outCell xn) rfl rfl hsrc.out (by simp [outCell, Value.oneCell']) (by decide) (by unfold maxLen; omega) (by omega) ?_; intro g' cap' w3 hrow hcap hgf hor; have hbx := hboxR.keepX hgf (fun e => hne _ e rfl); obtain ⟨m3, hS3, hk3, hB3, hf3⟩ := hfin hrow hgf hor hcap; have z5 : w3.cell? ⟨K.mb, 5, none⟩ = some m2.vo := hbx.cell 5; have zf := (fun i => hbx.frozen i); have zl := hbx.lt; replace hf3 := Lib.hid hf3; replace hB3 := Lib.hid hB3)
          | (go_at_call 83; refine (next_ok K E n _ fs _ m3 ks2 k2 _ ⟨hS3, rfl, hk3.trans hkc.out, hgo.out⟩ h0 h1).mono ?_; rintro e w4 ⟨rfl, hO⟩))
        go_ret
        exact ⟨rfl, ((((hO.then hB3.out (hf3.out.mono (fun _ _ h => .inr h))).from hWR).from hfB).then hB2.out hf2.out).from (hfA.trans0 hf1)⟩
      · rw [if_neg hl]
        go_enter Tryz.func60, Tryz.ntmps60
        go_wp2_with (first
          | (go_at_call 62; rw [← hwA]; refine (HT _ hfA).mono ?_; rintro e w1 ⟨rfl, hf1⟩)
          | (go_at_call 82; refine (HP _ (hfA.trans0 hf1)).mono ?_; rintro e w2 ⟨rfl, m2, ks2, k2, hT2, hk2, hB2, hf2⟩; obtain ⟨Ao, co, hvo, ho1, ho2⟩ := RowV.form hT2.st.orow; unfold maxLen at ho2; dsimp only at hvo ho1; obtain ⟨_, _, _, _, _, c5, _, _, cf, cl⟩ := hT2.st.cells w2 (Fr.refl _ _); rw [hvo] at c5; replace hvo := Lib.hid hvo; replace hf2 := Lib.hid hf2; replace hB2 := Lib.hid hB2)
          | (go_at_call 83; have HN := fun W (hW : Fr No w2 W) => next_ok K E n _ fs _ m2 ks2 k2 W (hT2.keep E hW) h0 h1; refine (HN _ frc).mono ?_; rintro e w3 ⟨rfl, hO3⟩))
        go_ret
        exact ⟨rfl, ((hO3.from frc).then hB2.out hf2.out).from (hfA.trans0 hf1)⟩
    · rw [if_neg hk]
      go_enter Tryz.func60, Tryz.ntmps60
      go_wp2_with (first
        | (go_at_call 62; rw [← hwA]; refine (HT _ hfA).mono ?_; rintro e w1 ⟨rfl, hf1⟩)
        | (go_at_call 82; refine (HP _ (hfA.trans0 hf1)).mono ?_; rintro e w2 ⟨rfl, hO⟩; obtain ⟨b0, b1, b2, b3, bf, bl⟩ := (B0.keep hf1).keepX (McOk.fr hO) hno |>.r4 _ (Fr.refl _ _); replace hO := Lib.hid hO))
      go_ret
      exact ⟨rfl, ((hO.out.ends 10 (by decide)).to E frc).from (hfA.trans0 hf1)⟩
end Go.Proofs.YtbalicnnlfennaaGreat

/- The program's own machine: what it takes for a thing; classes by name; what becomes of a thing. -/
namespace Go.Proofs.YtbalicnnlfennaaGreat
open Go.RowKit

/-- A result's cell of two, in a region that draws its order: ahead of its one store, and behind it. -/
def resC (wB : World) (b : Nat) (u v : Value) (j : Nat) (W : World) : Prop := (j = 0 ∧ Fr No wB W) ∨ (j = 1 ∧ Fr (fun x => x = b) wB W ∧ W.cell? ⟨b, 0, none⟩ = some u ∧ W.cell? ⟨b, 1, none⟩ = some v)
section
variable {wB : World} {b : Nat} {u v : Value}
theorem resC.mono : ∀ j W W', resC wB b u v j W → Fr No W W' → resC wB b u v j W' := fun j W W' h hf => by
  rcases h with ⟨h1, h2⟩ | ⟨h1, h2, h3, h4⟩
  · exact .inl ⟨h1, h2.trans0 hf⟩
  · exact .inr ⟨h1, h2.trans0 hf, hf.keep0 h3, hf.keep0 h4⟩
theorem resC.g {j : Nat} {W : World} (h : resC wB b u v j W) : Fr (fun x => x = b) wB W := by
  rcases h with ⟨h1, h2⟩ | ⟨h1, h2, h3, h4⟩
  · exact h2.of0
  · exact h2
theorem resC.start : resC wB b u v 0 wB.drew := .inl ⟨rfl, (Fr.refl No wB).drew⟩
theorem resC.cells {t : TypeId} {u0 v0 : Value} (hB : Bx wB b t #[u0, v0]) {j : Nat} (hj : j < 1) {W : World} (h : resC wB b u v j W) : W.cell? ⟨b, 0, none⟩ = some u0 ∧ W.cell? ⟨b, 1, none⟩ = some v0 ∧ (∀ i, W.frozen? ⟨b, i, none⟩ = false) ∧ b < W.heap.size := by
  rcases h with ⟨h1, h2⟩ | ⟨h1, _⟩
  · have := hB.keep h2
    exact ⟨this.c2.1, this.c2.2, fun i => this.frozen i, this.lt⟩
  · omega
theorem resC.put {t : TypeId} {u0 v0 : Value} (hB : Bx wB b t #[u0, v0]) {j : Nat} (hj : j < 1) {W : World} (h : resC wB b u v j W) : resC wB b u v (j + 1) ((W.setCell ⟨b, 0, none⟩ u).setCell ⟨b, 1, none⟩ v) := by
  rcases h with ⟨rfl, h2⟩ | ⟨h1, _⟩
  · have hb := ((hB.keep h2).set_ 0 u).set_ 1 v
    exact .inr ⟨rfl, h2.of0.same ((Fr.one _ _ _ _).same (Fr.one _ _ _ _)), hb.c2.1, hb.c2.2⟩
  · omega
theorem resC.done {W : World} (h : resC wB b u v 1 W) : Fr (fun x => x = b) wB W ∧ W.cell? ⟨b, 0, none⟩ = some u ∧ W.cell? ⟨b, 1, none⟩ = some v := by
  rcases h with ⟨h1, _⟩ | ⟨_, h⟩
  · omega
  · exact h
end
end Go.Proofs.YtbalicnnlfennaaGreat

/- The program's own machine: a class by its name. -/
namespace Go.Proofs.YtbalicnnlfennaaGreat
open Go.RowKit

/-- The region's end in `class`: the lodge may note a layout; the result is stored. -/
def clsC (K : McP) (n : Nat) (wB : World) (b : Nat) (j : Nat) (W : World) : Prop := Fr (fun x => x = K.bl ∨ x = b) wB W ∧ Lg W K.l K.bl (n + j) K.p ∧ ∃ u0 u1, Bx W b 54 #[u0, u1]
def clsS (K : McP) (b : Nat) (u v : Value) (W W' : World) : Prop := Fr (fun x => x = K.bl) W W' ∨ (W'.cell? ⟨b, 0, none⟩ = some u ∧ W'.cell? ⟨b, 1, none⟩ = some v)
def clsP (b : Nat) (u v : Value) : Value → World → Prop := fun x W => x = undef ∧ W.cell? ⟨b, 0, none⟩ = some u ∧ W.cell? ⟨b, 1, none⟩ = some v
section
variable {K : McP} {n : Nat} {wB : World} {b : Nat} {u v : Value}
theorem clsC.mono : ∀ j W W', clsC K n wB b j W → Fr No W W' → clsC K n wB b j W' := fun _ _ _ ⟨h1, h2, u0, u1, h3⟩ hf => ⟨h1.trans0 hf, h2.keep hf, u0, u1, h3.keep hf⟩
theorem clsP.mono : MonP (clsP b u v) := fun _ _ _ h hf => ⟨h.1, hf.keep0 h.2.1, hf.keep0 h.2.2⟩
theorem clsP.stab (hb : b ≠ K.bl) {x : Value} {W W' : World} (h : clsP b u v x W) (hs : clsS K b u v W W') : clsP b u v x W' := by
  obtain ⟨h1, h2, h3⟩ := h
  rcases hs with hs | hs
  · exact ⟨h1, hs.keep (X := fun x => x = K.bl) (fun _ h => h) hb h2, hs.keep (X := fun x => x = K.bl) (fun _ h => h) hb h3⟩
  · exact ⟨h1, hs⟩
theorem clsC.put {E : McE K} {j : Nat} {W : World} (hb : K.w0.heap.size ≤ b) (h0 : Fr K.late K.w0 W) (h : clsC K n wB b j W) : clsC K n wB b (j + 1) ((W.setCell ⟨b, 0, none⟩ u).setCell ⟨b, 1, none⟩ v) := by
  obtain ⟨h1, h2, u0, u1, h3⟩ := h
  have hst : Fr (fun x => x = b) W ((W.setCell ⟨b, 0, none⟩ u).setCell ⟨b, 1, none⟩ v) := (Fr.one _ _ _ _).same (Fr.one _ _ _ _)
  obtain ⟨_, hE⟩ := E
  exact ⟨h1.trans hst (fun _ _ h => .inr h), (hE.over2 h2 h0 (hst.mono (fun x _ h => by subst h; exact hb))).mono (by omega), u, v, (h3.set_ 0 u).set_ 1 v⟩
end

end Go.Proofs.YtbalicnnlfennaaGreat

/- The program's own machine: what becomes of a thing; none of any, and a thing taken for one. -/
namespace Go.Proofs.YtbalicnnlfennaaGreat
open Go.RowKit

/-- A thing in memory. -/
theorem McS.obj {K : McP} {n : Nat} {s : St} {m : MLay} {w : World} (h : McS K n s m w) {i : Nat} (hi : i < s.heap.length) : ∃ g c vf, m.vh = .slice (some ⟨g, 0, none⟩) s.heap.length c ∧ s.heap.length ≤ c ∧ c ≤ maxLen ∧ s.heap[i].of_.name.size ≤ maxLen ∧ ValRow w vf s.heap[i].fields ∧
    ∀ W, Fr No w W → W.cell? ⟨g, i * 3, none⟩ = some (.int .i64 s.heap[i].of_.keeper) ∧ W.cell? ⟨g, i * 3 + 1, none⟩ = some (.string s.heap[i].of_.name) ∧ W.cell? ⟨g, i * 3 + 2, none⟩ = some vf ∧ g < W.heap.size := by
  have hl := h.hels.length
  obtain ⟨g, c, cur, hv, h1, h2, hb, _, _, _⟩ := h.hrow.at_ (by omega)
  have hk : i < m.ko.length := by omega
  obtain ⟨e1, e2, e3⟩ := h.hels.get i hk hi
  have hc := fun j (hj : j < 3) => h.hrow.cell hv (j := i * 3 + j) (by
    have : (i + 1) * 3 ≤ s.heap.length * 3 := Nat.mul_le_mul_right _ hi
    omega)
  have hf := fun j (hj : j < 3) => flatW_get objL.len m.ko i hk j hj
  have c0 := (hc 0 (by decide)).trans (hf 0 (by decide))
  have c1 := (hc 1 (by decide)).trans (hf 1 (by decide))
  have c2 := (hc 2 (by decide)).trans (hf 2 (by decide))
  rw [Nat.add_zero] at c0
  refine ⟨g, c, m.ko[i].vf, hv, h1, h2, e2, e3, fun W hW => ⟨?_, ?_, ?_, (hb.keep hW).lt⟩⟩
  · rw [← e1]; exact hW.keep0 c0
  · rw [← e1]; exact hW.keep0 c1
  · exact hW.keep0 c2

end Go.Proofs.YtbalicnnlfennaaGreat
