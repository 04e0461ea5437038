/- The statement's reading of a class's name. -/
import Derived.Test.YthdibgikjekneaaGreatOpL
namespace Go.Proofs.YthdibgikjekneaaGreat
open Go.RowKit

section
variable {H : Type} {enc : TypeId × Value → H} {W : World} {sp : Nat → Bool} {held : Bool}
set_option maxHeartbeats 1000000 in
theorem openRef {fuel : Nat} {cs : List Value} {x : DataW H × List MemPlace} (h : DataW.trod enc Tryz.prog W 0 sp held fuel 26 cs = some x) : ∃ k : Ref, RefC cs k ∧ (Lit.int .i64 k.keeper).wf = true := by
  obtain ⟨xs, m, rfl, rfl, hl, hxl, hi⟩ := DataW.trod_struct Tryz.underlying26 h
  obtain ⟨c0, c1, rfl⟩ := lst2 (hl.trans (show Tryz.prog.cellsOf 26 = 2 by kernel_rfl))
  clear hl h
  obtain ⟨y0, hy0⟩ : ∃ y, xs[0]? = some y := ⟨xs[0]'(by rw [hxl]; decide), List.getElem?_eq_getElem _⟩
  have h0 : DataW.trod enc Tryz.prog W 0 sp held m 3 [c0] = some y0 := by
    have h9 : DataW.trod enc Tryz.prog W 0 sp held m 3 (([c0, c1].drop 0).take (Tryz.prog.cellsOf 3)) = xs[0]? := hi 0 _ rfl
    rw [show Tryz.prog.cellsOf 3 = 1 by kernel_rfl, hy0] at h9
    exact h9
  obtain ⟨y1, hy1⟩ : ∃ y, xs[1]? = some y := ⟨xs[1]'(by rw [hxl]; decide), List.getElem?_eq_getElem _⟩
  have h1 : DataW.trod enc Tryz.prog W 0 sp held m 9 [c1] = some y1 := by
    have h9 : DataW.trod enc Tryz.prog W 0 sp held m 9 (([c0, c1].drop 1).take (Tryz.prog.cellsOf 9)) = xs[1]? := hi 1 _ rfl
    rw [show Tryz.prog.cellsOf 9 = 1 by kernel_rfl, hy1] at h9
    exact h9
  obtain ⟨a0, e0, _, wf0⟩ := DataW.trod_int Tryz.underlying3 h0
  obtain rfl := (List.cons.inj e0).1
  obtain ⟨a1, e1, _, z1⟩ := DataW.trod_string Tryz.underlying9 h1
  obtain rfl := (List.cons.inj e1).1
  exact ⟨⟨a0, a1⟩, ⟨rfl, z1⟩, wf0⟩

end
end Go.Proofs.YthdibgikjekneaaGreat
