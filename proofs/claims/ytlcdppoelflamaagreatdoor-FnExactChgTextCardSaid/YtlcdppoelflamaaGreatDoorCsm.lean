/- The program's own check of a change; numbers' texts; a change's text. -/
import Derived.Test.YtlcdppoelflamaaGreatDoorVal8
import Derived.Test.YtlcdppoelflamaaGreatDoorSpc4
import Derived.Test.YtlcdppoelflamaaGreatDoorChg
namespace Go.Proofs.YtlcdppoelflamaaGreatDoor
open Go.RowKit

set_option maxHeartbeats 400000 in
theorem eqF0 (A : Option Addr) (n cap : Nat) (w : World) (hn : n ≤ maxLen) :
    Calls Tryz.prog 55 #[.slice A n cap, .slice none 0 0] w (IsBool (decide ((n : Int) = 0)) w) := by
  unfold maxLen at hn
  by_cases h0 : n = 0
  · have hd : Hid (decide ((n : Int) = 0) = true) := decide_eq_true (by omega)
    subst h0
    generalize decide (((0 : Nat) : Int) = 0) = d at *
    go_enter Tryz.func55, Tryz.ntmps55
    go_wp2
    go_loop [13] (fun i => i = .int .i64 0) (fun _ => 0)
    case atStart => rfl
    case round =>
      obtain rfl := hrel
      go_wp2
      go_ret
      exact .mk hd.out.symm
  · have hd : Hid (decide ((n : Int) = 0) = false) := decide_eq_false (by omega)
    have hq : ((n : Int) != 0) = true := by simp; omega
    generalize decide ((n : Int) = 0) = d at *
    go_enter Tryz.func55, Tryz.ntmps55
    go_wp2
    go_ret
    exact .mk hd.out.symm

set_option maxHeartbeats 400000 in
theorem eqM0 (A : Option Addr) (n cap : Nat) (F : Value) (w : World) (hn : n ≤ maxLen) :
    Calls Tryz.prog 56 #[.slice A n cap, .slice none 0 0, F] w (IsBool (decide ((n : Int) = 0)) w) := by
  unfold maxLen at hn
  by_cases h0 : n = 0
  · have hd : Hid (decide ((n : Int) = 0) = true) := decide_eq_true (by omega)
    subst h0
    generalize decide (((0 : Nat) : Int) = 0) = d at *
    go_enter Tryz.func56, Tryz.ntmps56
    go_wp2
    go_loop [17] (fun i => i = .int .i64 0) (fun _ => 0)
    case atStart => rfl
    case round =>
      obtain rfl := hrel
      go_wp2
      go_ret
      exact .mk hd.out.symm
  · have hd : Hid (decide ((n : Int) = 0) = false) := decide_eq_false (by omega)
    have hq : ((n : Int) != 0) = true := by simp; omega
    generalize decide ((n : Int) = 0) = d at *
    go_enter Tryz.func56, Tryz.ntmps56
    go_wp2
    go_ret
    exact .mk hd.out.symm

set_option maxHeartbeats 800000 in
theorem cls_none (X : Nat → Prop) (c : Cls) (cs : List Value) (w : World) (h : ClsC X w cs c) :
    Calls Tryz.prog 38 #[.agg cs.toArray, .agg #[.string ⟨#[]⟩, .string ⟨#[]⟩, .slice none 0 0, .slice none 0 0]] w (BoolFr (noneB c) w) := by
  obtain ⟨vf, vm, rfl, hn, hsn, hf, hm⟩ := h
  obtain ⟨Af, cf, rfl, hcf, hfl⟩ := hf.form
  obtain ⟨Am, cm, rfl, hcm, hml⟩ := hm.form
  clear hf hm
  have HF := fun W => eqF0 Af c.fields.length cf W hfl
  have HM := fun W F => eqM0 Am c.methods.length cm F W hml
  have hb : Hid (noneB c = (c.name.toList.isEmpty && c.super.toList.isEmpty && decide ((c.fields.length : Int) = 0) && decide ((c.methods.length : Int) = 0))) := rfl
  generalize hnb : noneB c = nb at *
  have hcase : c.name.toList.isEmpty = false ∨ (c.name.toList.isEmpty = true ∧ c.super.toList.isEmpty = false) ∨ (c.name.toList.isEmpty = true ∧ c.super.toList.isEmpty = true ∧ decide ((c.fields.length : Int) = 0) = false) ∨
      (c.name.toList.isEmpty = true ∧ c.super.toList.isEmpty = true ∧ decide ((c.fields.length : Int) = 0) = true ∧ decide ((c.methods.length : Int) = 0) = false) ∨
      (c.name.toList.isEmpty = true ∧ c.super.toList.isEmpty = true ∧ decide ((c.fields.length : Int) = 0) = true ∧ decide ((c.methods.length : Int) = 0) = true) := by
    cases c.name.toList.isEmpty <;> cases c.super.toList.isEmpty <;> cases decide ((c.fields.length : Int) = 0) <;> cases decide ((c.methods.length : Int) = 0) <;> simp
  clear hnb
  rcases hcase with g1 | ⟨g1, g2⟩ | ⟨g1, g2, g3⟩ | ⟨g1, g2, g3, g4⟩ | ⟨g1, g2, g3, g4⟩
  all_goals
    have hb : Hid (nb = _) := hb
    try rw [g3] at HF
    try rw [g4] at HM
    try have g3 := Lib.hid g3
    try have g4 := Lib.hid g4
    have e1 := Lib.hid g1
    try have e2 := Lib.hid g2
    try (have k1 : c.name.toList = [] := by simpa using g1)
    try (have k2 : c.super.toList = [] := by simpa using g2)
    go_enter Tryz.func38, Tryz.ntmps38
    go_wp2_with (first
      | (go_at_call 55; refine (HF _).mono ?_; rintro e w' ⟨rfl, rfl⟩)
      | (go_at_call 56; refine (HM _ _).mono ?_; rintro e w' ⟨rfl, rfl⟩))
    go_ret
    refine .mk ?_ (by (repeat (first | (with_reducible assumption) | (with_reducible exact Fr.refl _ _) | (with_reducible refine Fr.alloc ?_ _) | (with_reducible refine Fr.drew ?_) | (with_reducible refine Fr.drewN ?_ _) | (with_reducible refine Fr.setCellO ?_ ?_ _; (focus (first | (dsimp only; omega) | (simp; done) | (simp; omega)))) | (with_reducible refine Fr.trans0 ?_ (by assumption)) | (with_reducible refine Fr.trans0 ?_ (Fr.of0 (by assumption))))))
    rw [hb.out]
    first
      | (rw [e1.out, e2.out, g3.out, g4.out]; done)
      | (rw [e1.out, e2.out, g3.out, g4.out]; rfl)
      | (rw [e1.out, e2.out, g3.out]; rfl)
      | (rw [e1.out, e2.out]; rfl)
      | (rw [e1.out]; rfl)
end Go.Proofs.YtlcdppoelflamaaGreatDoor
