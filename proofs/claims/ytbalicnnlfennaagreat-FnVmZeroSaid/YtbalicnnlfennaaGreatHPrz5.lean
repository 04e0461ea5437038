/- The law FnVmZero. -/
import Derived.Test.YtbalicnnlfennaaGreatHPrz4
import Derived.ProofKit
import Derived.KernelRfl
namespace Go.Proofs.YtbalicnnlfennaaGreat
open Go.RowKit

set_option maxRecDepth 100000 in
set_option maxHeartbeats 4000000 in
theorem fnVmZero_ok (v : Value) (bs : List Int) (w : World) (h : Sl No w 1 ByC v bs) :
    Calls Tryz.prog 7 #[v] w (BoolFr true w) := by
  obtain ⟨A, c, rfl, _, hlen⟩ := h.form
  unfold maxLen at hlen
  by_cases hb : 1048576 < bs.length
  · have hb' : (1048576 : Int) < (bs.length : Int) := by omega
    clear h
    go_enter Tryz.func7, Tryz.ntmps7
    go_wp2
    go_ret
    exact .mk rfl frc
  · have hb' : ¬ (1048576 : Int) < (bs.length : Int) := by omega
    have HN1 := fun W (hW : Fr No w W) => loNum_ok (.slice A bs.length c) bs 1 W (h.keep hW (fun _ h => h) (fun _ _ _ h => h)) (.inl rfl)
    clear h
    go_enter Tryz.func7, Tryz.ntmps7
    go_wp2_with fail
    refine (HN1 _ frc).mono ?_
    rintro e w1 ⟨a, rfl, hf1, a1, a2⟩
    have hna : numB a = true := by unfold numB; rw [decide_eq_true a1, decide_eq_true a2]; rfl
    go_wp2_with fail
    rotate_left
    rcases Classical.em (a = 0) with rfl | ha0
    all_goals (
      obtain ⟨w4, hw4⟩ : ∃ w4, w4 = (((w1.alloc (.cells (selfT.flatMap tagCells).toArray 24)).alloc (.cells (zeroCode.flatMap insCells).toArray 27)).alloc (.cells #[.int .i64 4, .slice (some ⟨w1.heap.size, 0, none⟩) 3 3, .slice none 0 0] 34)) := ⟨_, rfl⟩
      have B2 : Bx w4 w1.heap.size 24 (selfT.flatMap tagCells).toArray := hw4 ▸ ((Bx.new _ _ _).alloc _).alloc _
      have B3 : Bx w4 (w1.heap.size + 1) 27 (zeroCode.flatMap insCells).toArray := hw4 ▸ (Bx.new_ (by simp)).alloc _
      have B4 : Bx w4 (w1.heap.size + 1 + 1) 34 #[.int .i64 4, .slice (some ⟨w1.heap.size, 0, none⟩) 3 3, .slice none 0 0] := hw4 ▸ Bx.new_ (by simp)
      have hf4 : Fr No w1 w4 := hw4 ▸ frc
      have hsf : Sl No w4 2 TagC (.slice (some ⟨w1.heap.size, 0, none⟩) 3 3) selfT := Sl.tagBx B2 (by decide) (by decide)
      have HM := loMain0_ok zeroCode zeroMaps (.slice (some ⟨w1.heap.size + 1, 0, none⟩) 6 6) (.slice (some ⟨w1.heap.size + 1 + 1, 0, none⟩) 1 1) w4 (Sl.insBx B3 (by decide) (by decide)) (Sl.oneBx B4 rfl ⟨_, _, rfl, hsf, slNil⟩)
      rw [hw4] at HM
      have HD := fun x (hx : numB x = true) => p_do (n := x) zero_lod zero_right hx (okOps_of rfl)
      have HG := fun x (hx : numB x = true) => zero_go (n := x) hx
      have HZ := fun x => zero_run (n := x)
      generalize mainP [] zeroCode zeroMaps = P at *
      refine HM.mono ?_
      clear HM
      rintro e w5 ⟨⟨pv, rfl, hpv⟩, hf5⟩
      have hw5 : Fr No w w5 := (hf1.trans0 hf4).trans0 (hw4 ▸ hf5)
      obtain ⟨Ap, cp, rfl, _, _⟩ := hpv.form
      clear B2 B3 B4 hsf hf4 hw4
      go_wp2_with fail
      refine (loDo_ok (HD _ (by first | assumption | decide)) (HG _ (by first | assumption | decide)) _ _ (hpv.keep frc (fun _ h => h) (fun _ _ _ h => h.keep frc (fun _ h => h)))).mono ?_
      rintro e w6 ⟨⟨cs, rfl, hst⟩, hf6⟩
      have hfin : Fr No w w6 := (hw5.trans0 frc).trans0 hf6
      rw [HZ] at hst
      first | rw [if_neg ha0] at hst | rw [if_pos rfl] at hst
      clear HD HG HZ hpv
      go_wp2_with fail
      refine (loGives_ok _ _ _ cs _ hst (gives_done _)).mono ?_
      rintro e w7 ⟨rfl, hf7⟩
      go_wp2_with fail
      go_ret
      exact .mk rfl (hfin.trans0 hf7))
end Go.Proofs.YtbalicnnlfennaaGreat

/- The closed facts of a row over this program, one by one: together they outgrow a compile's memory. -/
namespace Go.Proofs.YtbalicnnlfennaaGreat

theorem and_t {a b : Bool} (h : a = true) (k : b = true) : (a && b) = true := by rw [h, k]; rfl
theorem fct_enter : Tryz.pinned.checked.prog.mayEnter = true := by kernel_rfl
theorem fct_lifted : (Rows.fnVmZeroRow.lifted == Tryz.pinned.checked.prog.liftsFinal) = true := by kernel_rfl
theorem fct_make : (Tryz.pinned.checked.prog.make == some Rows.fnVmZeroRow.make) = true := by kernel_rfl
theorem fct_heard : Tryz.pinned.checked.prog.stopsHeard = true := by kernel_rfl
theorem fct_laid : laidOutB Tryz.pinned.checked.prog = true := by kernel_rfl
theorem fct_rowed : mapsRowed Tryz.pinned.checked.prog = true := by kernel_rfl
theorem fct_named : (Rows.fnVmZeroRow.named == Tryz.pinned.checked.prog.varsNamed 7) = true := by kernel_rfl
theorem fct_rec : (Rows.fnVmZeroRow.recurses == Tryz.pinned.checked.prog.recurses 7) = true := by kernel_rfl
theorem fct_unf : (Rows.fnVmZeroRow.unfollowed == Tryz.pinned.checked.prog.unfollowed 7) = true := by kernel_rfl
theorem fct_inp : (Rows.fnVmZeroRow.inPlace == Tryz.pinned.checked.prog.inPlace 7) = true := by kernel_rfl
end Go.Proofs.YtbalicnnlfennaaGreat
