/- The law FnVmAdd. -/
import Derived.Test.YtbalicnnlfennaaGreatHPra4
import Derived.ProofKit
import Derived.KernelRfl
namespace Go.Proofs.YtbalicnnlfennaaGreat
open Go.RowKit

set_option maxRecDepth 100000 in
set_option maxHeartbeats 4000000 in
theorem fnVmAdd_ok (v : Value) (bs : List Int) (w : World) (h : Sl No w 1 ByC v bs) :
    Calls Tryz.prog 4 #[v] w (BoolFr true w) := by
  obtain ⟨A, c, rfl, _, hlen⟩ := h.form
  unfold maxLen at hlen
  by_cases hb : 1048576 < bs.length
  · have hb' : (1048576 : Int) < (bs.length : Int) := by omega
    clear h
    go_enter Tryz.func4, Tryz.ntmps4
    go_wp2
    go_ret
    exact .mk rfl frc
  · have hb' : ¬ (1048576 : Int) < (bs.length : Int) := by omega
    have HN1 := fun W (hW : Fr No w W) => loNum_ok (.slice A bs.length c) bs 1 W (h.keep hW (fun _ h => h) (fun _ _ _ h => h)) (.inl rfl)
    have HN2 := fun W (hW : Fr No w W) => loNum_ok (.slice A bs.length c) bs 2 W (h.keep hW (fun _ h => h) (fun _ _ _ h => h)) (.inr rfl)
    clear h
    go_enter Tryz.func4, Tryz.ntmps4
    go_wp2_with fail
    refine (HN1 _ frc).mono ?_
    rintro e w1 ⟨a, rfl, hf1, a1, a2⟩
    go_wp2_with fail
    refine (HN2 _ frc).mono ?_
    rintro e w2 ⟨n, rfl, hf2, n1, n2⟩
    go_wp2_with fail
    have hna : numB a = true := by unfold numB; rw [decide_eq_true a1, decide_eq_true a2]; rfl
    have hnn : numB n = true := by unfold numB; rw [decide_eq_true n1, decide_eq_true n2]; rfl
    have hD := p_do (add_lod hna) (add_right a) hnn (okOps_of rfl)
    have hG := add_go hna hnn
    have hgv := @add_gives a n
    have hbg := @add_runBig a n
    obtain ⟨w3, hw3⟩ : ∃ w3, w3 = (w2.alloc (.cells ((addCode a).flatMap insCells).toArray 27)) := ⟨_, rfl⟩
    have B3 : Bx w3 w2.heap.size 27 ((addCode a).flatMap insCells).toArray := hw3 ▸ bxc
    have hf3 : Fr No w2 w3 := hw3 ▸ frc
    have HM := loMain0_ok (addCode a) [] (.slice (some ⟨w2.heap.size, 0, none⟩) 4 4) (.slice none 0 0) w3 (Sl.insBx B3 (by simp [addCode, insN, insP]; decide) (by simp [addCode, maxLen])) slNil
    rw [hw3] at HM
    refine HM.mono ?_
    clear HM
    rintro e w4 ⟨⟨pv, rfl, hpv⟩, hf4⟩
    have hw4 : Fr No w w4 := ((hf1.trans0 hf2).trans0 hf3).trans0 (hw3 ▸ hf4)
    generalize mainP [] (addCode a) [] = P at *
    obtain ⟨Ap, cp, rfl, _, _⟩ := hpv.form
    clear B3 hf3 hw3 hna
    go_wp2_with fail
    refine (loDo_ok hD hG _ _ (hpv.keep frc (fun _ h => h) (fun _ _ _ h => h.keep frc (fun _ h => h)))).mono ?_
    rintro e w5 ⟨⟨cs, rfl, hst⟩, hf5⟩
    have hfin : Fr No w w5 := (hw4.trans0 frc).trans0 hf5
    clear hD hG hpv hw4 hf4 hf5 hnn
    have hwr : IntKind.i64.wrap (a + n) = a + n := IntWalk.i64_in _ (by omega)
    cases hs : numB (a + n) with
    | true =>
      have hs' := hs
      unfold numB at hs'
      simp only [Bool.and_eq_true, decide_eq_true_eq] at hs'
      obtain ⟨s1, s2⟩ := hs'
      have HGv := fun W (hW : Fr No w5 W) => loGives_ok _ _ (a + n) cs W (hst.keep hW (fun _ h => h.elim)) (hgv hs)
      have i1 : ¬ (9999 : Int) < a + n := by omega
      have i2 : ¬ a + n < (-9999 : Int) := by omega
      generalize runM P true 400 (begT n) = R at *
      obtain ⟨vf, vh, vo, rfl, hh1, hh2, hh3⟩ := hst
      obtain ⟨Af, cf, rfl, _, _⟩ := hh1.form
      obtain ⟨Ah, ch, rfl, _, _⟩ := hh2.form
      obtain ⟨Ao, co, rfl, _, _⟩ := hh3.form
      clear hh1 hh2 hh3 hgv hbg hs
      go_wp2_with fail
      refine (HGv _ frc).mono ?_
      rintro e w6 ⟨rfl, hf6⟩
      go_wp2_with fail
      go_ret
      exact .mk rfl ((hfin.trans0 frc).trans0 hf6)
    | false =>
      have h9 := hbg hs
      rw [h9] at hst
      obtain ⟨vf, vh, vo, rfl, hh1, hh2, hh3⟩ := hst
      obtain ⟨Af, cf, rfl, _, _⟩ := hh1.form
      obtain ⟨Ah, ch, rfl, _, _⟩ := hh2.form
      obtain ⟨Ao, co, rfl, _, _⟩ := hh3.form
      have hs' : 9999 < a + n ∨ a + n < -9999 := by
        unfold numB at hs
        simp at hs
        omega
      clear hh1 hh2 hh3 hgv hbg hs h9
      unfold endT
      by_cases i1 : (9999 : Int) < a + n
      · go_wp2_with fail
        go_ret
        exact .mk rfl (hfin.trans0 frc)
      · have i2 : a + n < (-9999 : Int) := by omega
        go_wp2_with fail
        go_ret
        exact .mk rfl (hfin.trans0 frc)
end Go.Proofs.YtbalicnnlfennaaGreat

/- The closed facts of a row over this program, one by one: together they outgrow a compile's memory. -/
namespace Go.Proofs.YtbalicnnlfennaaGreat

theorem and_t {a b : Bool} (h : a = true) (k : b = true) : (a && b) = true := by rw [h, k]; rfl
theorem fct_enter : Tryz.pinned.checked.prog.mayEnter = true := by kernel_rfl
theorem fct_lifted : (Rows.fnVmAddRow.lifted == Tryz.pinned.checked.prog.liftsFinal) = true := by kernel_rfl
theorem fct_make : (Tryz.pinned.checked.prog.make == some Rows.fnVmAddRow.make) = true := by kernel_rfl
theorem fct_heard : Tryz.pinned.checked.prog.stopsHeard = true := by kernel_rfl
theorem fct_laid : laidOutB Tryz.pinned.checked.prog = true := by kernel_rfl
theorem fct_rowed : mapsRowed Tryz.pinned.checked.prog = true := by kernel_rfl
theorem fct_named : (Rows.fnVmAddRow.named == Tryz.pinned.checked.prog.varsNamed 4) = true := by kernel_rfl
theorem fct_rec : (Rows.fnVmAddRow.recurses == Tryz.pinned.checked.prog.recurses 4) = true := by kernel_rfl
theorem fct_unf : (Rows.fnVmAddRow.unfollowed == Tryz.pinned.checked.prog.unfollowed 4) = true := by kernel_rfl
theorem fct_inp : (Rows.fnVmAddRow.inPlace == Tryz.pinned.checked.prog.inPlace 4) = true := by kernel_rfl
end Go.Proofs.YtbalicnnlfennaaGreat
