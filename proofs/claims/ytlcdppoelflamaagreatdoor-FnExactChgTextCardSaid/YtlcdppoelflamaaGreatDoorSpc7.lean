/- The reference's check of a change, and its text. -/
import Derived.Test.YtlcdppoelflamaaGreatDoorSpc6
import Derived.Test.YtlcdppoelflamaaGreatDoorTxt
namespace Go.Proofs.YtlcdppoelflamaaGreatDoor
open Go.RowKit

set_option maxRecDepth 100000 in
set_option maxHeartbeats 4000000 in
theorem s_chg (X : Nat → Prop) (c : Chg) (cs : List Value) (w : World) (h : ChgC X w cs c) :
    Calls Tryz.prog 10 #[.agg cs.toArray] w (BoolFr (chgB c) w) := by
  obtain ⟨vf, vm, rfl, hz0, hz1, hz2, hf, hm⟩ := h
  have hR : ClsC X w [.string c.cls.name, .string c.cls.super, vf, vm] c.cls := ⟨_, _, rfl, hz1, hz2, hf, hm⟩
  obtain ⟨Af, cf, rfl, _, _⟩ := hf.form
  obtain ⟨Am, cm, rfl, _, _⟩ := hm.form
  clear hf hm
  have HN := fun W => s_nam c.name W hz0
  have HC := fun W (h : Fr No w W) => s_cls X c.cls _ W (hR.keep h (fun _ h => h.elim))
  have HS := fun W (h : Fr No w W) => s_none X c.cls _ W (hR.keep h (fun _ h => h.elim))
  have HK := fun W => s_l1In c.keeper 0 2 W
  have HT := fun W => s_l1In c.to 0 2 W
  clear hR
  have hB := Bx.new w 35 #[.int .i64 c.kind, .int .i64 c.keeper, .string c.name, .int .i64 c.to, .string c.cls.name, .string c.cls.super, .slice Af c.cls.fields.length cf, .slice Am c.cls.methods.length cm]
  obtain ⟨V, hV⟩ : ∃ V, V = chgB c := ⟨_, rfl⟩
  rw [← hV]
  unfold chgB at hV
  obtain ⟨kd, kp, nm, to, cl⟩ := c
  dsimp only at *
  have hcase : (decide (0 ≤ kp) && decide (kp ≤ 2)) = false ∨ ((decide (0 ≤ kp) && decide (kp ≤ 2)) = true ∧ namB nm = false) ∨ ((decide (0 ≤ kp) && decide (kp ≤ 2)) = true ∧ namB nm = true ∧ kd = 1) ∨ ((decide (0 ≤ kp) && decide (kp ≤ 2)) = true ∧ namB nm = true ∧ kd ≠ 1) := by
    generalize (decide (0 ≤ kp) && decide (kp ≤ 2)) = q
    cases q <;> cases namB nm <;> by_cases h : kd = 1 <;> simp [h]
  generalize clsB cl = bc at *
  generalize noneB cl = bn at *
  generalize namB nm = bm at *
  generalize hq : (decide (0 ≤ kp) && decide (kp ≤ 2)) = q at *
  generalize hq2 : (decide (0 ≤ to) && decide (to ≤ 2)) = q2 at *
  replace hV := Lib.hid hV
  replace hq := Lib.hid hq
  replace hq2 := Lib.hid hq2
  have ht : to = 0 ∨ (to == 0) = false := by
    by_cases h : to = 0
    · exact .inl h
    · exact .inr (by simpa using h)
  rcases ht with rfl | ht
  all_goals rcases hcase with rfl | ⟨rfl, rfl⟩ | ⟨rfl, rfl, rfl⟩ | ⟨rfl, rfl, hk⟩
  all_goals
    try (have hk1 : (kd == 1) = false := by simpa using hk)
    try (have hk2 : (kd != 1) = true := by simpa using hk)
    try clear hk
    go_enter Tryz.func10, Tryz.ntmps10
    go_wp2_with (first
      | (go_at_call 19; refine (HN _).mono ?_; rintro e w' ⟨rfl, rfl⟩)
      | (go_at_call_of 18 (Value.int .i64 kp); refine (HK _).mono ?_; rintro e w' ⟨rfl, rfl⟩)
      | (go_at_call 18; refine (HT _).mono ?_; rintro e w' ⟨rfl, rfl⟩)
      | (go_at_call 21; refine (HC _ (by (repeat (first | (with_reducible assumption) | (with_reducible exact Fr.refl _ _) | (with_reducible refine Fr.alloc ?_ _) | (with_reducible refine Fr.drew ?_) | (with_reducible refine Fr.drewN ?_ _) | (with_reducible refine Fr.setCellO ?_ ?_ _; (focus (first | (dsimp only; omega) | (simp; done) | (simp; omega)))) | (with_reducible refine Fr.trans0 ?_ (by assumption)) | (with_reducible refine Fr.trans0 ?_ (Fr.of0 (by assumption))))))).mono ?_; rintro e w1 ⟨rfl, hf1⟩; obtain ⟨e0, e1, e2, e3, e4, e5, e6, e7⟩ := (hB.keep hf1).c8; have hl1 := (hB.keep hf1).lt)
      | (go_at_call 20; refine (HS _ (by (repeat (first | (with_reducible assumption) | (with_reducible exact Fr.refl _ _) | (with_reducible refine Fr.alloc ?_ _) | (with_reducible refine Fr.drew ?_) | (with_reducible refine Fr.drewN ?_ _) | (with_reducible refine Fr.setCellO ?_ ?_ _; (focus (first | (dsimp only; omega) | (simp; done) | (simp; omega)))) | (with_reducible refine Fr.trans0 ?_ (by assumption)) | (with_reducible refine Fr.trans0 ?_ (Fr.of0 (by assumption))))))).mono ?_; rintro e w1 ⟨rfl, hf1⟩; obtain ⟨e0, e1, e2, e3, e4, e5, e6, e7⟩ := (hB.keep hf1).c8; have hl1 := (hB.keep hf1).lt))
  all_goals refine bodyPost_ret (v := .bool V) ?_ rfl (.mk rfl (by (repeat (first | (with_reducible assumption) | (with_reducible exact Fr.refl _ _) | (with_reducible refine Fr.alloc ?_ _) | (with_reducible refine Fr.drew ?_) | (with_reducible refine Fr.drewN ?_ _) | (with_reducible refine Fr.setCellO ?_ ?_ _; (focus (first | (dsimp only; omega) | (simp; done) | (simp; omega)))) | (with_reducible refine Fr.trans0 ?_ (by assumption)) | (with_reducible refine Fr.trans0 ?_ (Fr.of0 (by assumption)))))))
  all_goals simp [results, Tryz.results10, go_sem]
  all_goals rw [hV.out]
  all_goals replace hq := hq.out
  all_goals replace hq2 := hq2.out
  all_goals clear HN HC HS HK HT hB hV
  all_goals go_light
  all_goals try clear e0 e1 e2 e3 e4 e5 e6 e7
  all_goals try subst hq2
  all_goals simp at *
  all_goals try simp_all
  all_goals try omega
end Go.Proofs.YtlcdppoelflamaaGreatDoor
