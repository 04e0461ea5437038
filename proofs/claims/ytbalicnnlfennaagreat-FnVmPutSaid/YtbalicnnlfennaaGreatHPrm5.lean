/- The law FnVmPut. -/
import Derived.Test.YtbalicnnlfennaaGreatHPrm4
import Derived.ProofKit
import Derived.KernelRfl
namespace Go.Proofs.YtbalicnnlfennaaGreat
open Go.RowKit

set_option maxRecDepth 100000 in
set_option maxHeartbeats 4000000 in
theorem fnVmPut_ok (v : Value) (bs : List Int) (w : World) (h : Sl No w 1 ByC v bs) :
    Calls Tryz.prog 6 #[v] w (BoolFr true w) := by
  obtain ⟨A, c, rfl, _, hlen⟩ := h.form
  unfold maxLen at hlen
  by_cases hb : 1048576 < bs.length
  · have hb' : (1048576 : Int) < (bs.length : Int) := by omega
    clear h
    go_enter Tryz.func6, Tryz.ntmps6
    go_wp2
    go_ret
    exact .mk rfl frc
  · have hb' : ¬ (1048576 : Int) < (bs.length : Int) := by omega
    have HN1 := fun W (hW : Fr No w W) => loNum_ok (.slice A bs.length c) bs 1 W (h.keep hW (fun _ h => h) (fun _ _ _ h => h)) (.inl rfl)
    have HN2 := fun W (hW : Fr No w W) => loNum_ok (.slice A bs.length c) bs 2 W (h.keep hW (fun _ h => h) (fun _ _ _ h => h)) (.inr rfl)
    clear h
    go_enter Tryz.func6, Tryz.ntmps6
    go_wp2_with fail
    refine (HN1 _ frc).mono ?_
    rintro e w1 ⟨a, rfl, hf1, a1, a2⟩
    go_wp2_with fail
    refine (HN2 _ frc).mono ?_
    rintro e w2 ⟨n, rfl, hf2, n1, n2⟩
    go_wp2_with fail
    have hna : numB a = true := by unfold numB; rw [decide_eq_true a1, decide_eq_true a2]; rfl
    have hnn : numB n = true := by unfold numB; rw [decide_eq_true n1, decide_eq_true n2]; rfl
    have hD := p_do (put_lod hna) (put_right a) hnn (okOps_of rfl)
    have hG := put_go hna hnn
    have hgv := put_gives a n
    obtain ⟨w3, hw3⟩ : ∃ w3, w3 = (w2.alloc (.cells ((putCode a).flatMap insCells).toArray 27)) := ⟨_, rfl⟩
    have B3 : Bx w3 w2.heap.size 27 ((putCode a).flatMap insCells).toArray := hw3 ▸ bxc
    have hf3 : Fr No w2 w3 := hw3 ▸ frc
    have HM := loMain0_ok (putCode a) [] (.slice (some ⟨w2.heap.size, 0, none⟩) 6 6) (.slice none 0 0) w3 (Sl.insBx B3 (by simp [putCode, insN, insP]; decide) (by simp [putCode, maxLen])) slNil
    rw [hw3] at HM
    refine HM.mono ?_
    clear HM
    rintro e w4 ⟨⟨pv, rfl, hpv⟩, hf4⟩
    have hw4 : Fr No w w4 := ((hf1.trans0 hf2).trans0 hf3).trans0 (hw3 ▸ hf4)
    generalize mainP [] (putCode a) [] = P at *
    obtain ⟨Ap, cp, rfl, _, _⟩ := hpv.form
    clear B3 hf3 hw3 hna
    go_wp2_with fail
    refine (loDo_ok hD hG _ _ (hpv.keep frc (fun _ h => h) (fun _ _ _ h => h.keep frc (fun _ h => h)))).mono ?_
    rintro e w5 ⟨⟨cs, rfl, hst⟩, hf5⟩
    have hfin : Fr No w w5 := (hw4.trans0 frc).trans0 hf5
    have HGv := loGives_ok _ _ n cs w5 hst hgv
    go_wp2_with fail
    refine HGv.mono ?_
    rintro e w6 ⟨rfl, hf6⟩
    go_wp2_with fail
    go_ret
    exact .mk rfl (hfin.trans0 hf6)
end Go.Proofs.YtbalicnnlfennaaGreat

/- The closed facts of a row over this program, one by one: together they outgrow a compile's memory. -/
namespace Go.Proofs.YtbalicnnlfennaaGreat

theorem and_t {a b : Bool} (h : a = true) (k : b = true) : (a && b) = true := by rw [h, k]; rfl
theorem fct_enter : Tryz.pinned.checked.prog.mayEnter = true := by kernel_rfl
theorem fct_lifted : (Rows.fnVmPutRow.lifted == Tryz.pinned.checked.prog.liftsFinal) = true := by kernel_rfl
theorem fct_make : (Tryz.pinned.checked.prog.make == some Rows.fnVmPutRow.make) = true := by kernel_rfl
theorem fct_heard : Tryz.pinned.checked.prog.stopsHeard = true := by kernel_rfl
theorem fct_laid : laidOutB Tryz.pinned.checked.prog = true := by kernel_rfl
theorem fct_rowed : mapsRowed Tryz.pinned.checked.prog = true := by kernel_rfl
theorem fct_named : (Rows.fnVmPutRow.named == Tryz.pinned.checked.prog.varsNamed 6) = true := by kernel_rfl
theorem fct_rec : (Rows.fnVmPutRow.recurses == Tryz.pinned.checked.prog.recurses 6) = true := by kernel_rfl
theorem fct_unf : (Rows.fnVmPutRow.unfollowed == Tryz.pinned.checked.prog.unfollowed 6) = true := by kernel_rfl
theorem fct_inp : (Rows.fnVmPutRow.inPlace == Tryz.pinned.checked.prog.inPlace 6) = true := by kernel_rfl
end Go.Proofs.YtbalicnnlfennaaGreat
