/- The program's own reading of a change, and a change's text. -/
import Derived.Test.YtlcdppoelflamaaGreatDoorCsm
import Derived.Deep.Light
namespace Go.Proofs.YtlcdppoelflamaaGreatDoor
open Go.RowKit

def chgB (c : Chg) : Bool :=
  decide (0 ≤ c.keeper) && decide (c.keeper ≤ 2) && namB c.name &&
  (if c.kind = 1 then decide (c.to = 0) && clsB c.cls && c.cls.name.toList == c.name.toList
   else noneB c.cls && (if c.kind = 3 then decide (0 ≤ c.to) && decide (c.to ≤ 2) else (decide (c.kind = 2) || decide (c.kind = 4)) && decide (c.to = 0)))
/-- The change as the program holds it. -/
def changeV (c : Chg) (vf vm : Value) : Value :=
  if chgB c then (if c.kind = 1 then .iface 83 (.agg #[.string c.cls.name, .string c.cls.super, vf, vm])
    else if c.kind = 3 then .iface 87 (.agg #[.string c.name, .int .i64 c.to])
    else if c.kind = 2 then .iface 89 (.agg #[.string c.name])
    else .iface 90 (.agg #[.string c.name]))
  else .nilIface

set_option maxRecDepth 100000 in
set_option maxHeartbeats 4000000 in
theorem change_of (X : Nat → Prop) (c : Chg) (vf vm : Value) (w : World) (h : ChgC X w [.int .i64 c.kind, .int .i64 c.keeper, .string c.name, .int .i64 c.to, .string c.cls.name, .string c.cls.super, vf, vm] c) :
    Calls Tryz.prog 24 #[.agg #[.int .i64 c.kind, .int .i64 c.keeper, .string c.name, .int .i64 c.to, .string c.cls.name, .string c.cls.super, vf, vm]] w (Gives (changeV c vf vm) w) := by
  obtain ⟨vf', vm', he, hz0, hz1, hz2, hf, hm⟩ := h
  simp only [List.cons.injEq, and_true, true_and] at he
  obtain ⟨rfl, rfl⟩ := he
  have hR : ClsC X w [.string c.cls.name, .string c.cls.super, vf, vm] c.cls := ⟨_, _, rfl, hz1, hz2, hf, hm⟩
  obtain ⟨Af, cf, rfl, _, _⟩ := hf.form
  obtain ⟨Am, cm, rfl, _, _⟩ := hm.form
  clear hf hm
  have HN := fun W => nam_ok c.name W hz0
  have HC := fun W (h : Fr No w W) => cls_ok X c.cls _ W (hR.keep h (fun _ h => h.elim))
  have HS := fun W (h : Fr No w W) => cls_none X c.cls _ W (hR.keep h (fun _ h => h.elim))
  clear hR
  have hB := Bx.new w 35 #[.int .i64 c.kind, .int .i64 c.keeper, .string c.name, .int .i64 c.to, .string c.cls.name, .string c.cls.super, .slice Af c.cls.fields.length cf, .slice Am c.cls.methods.length cm]
  obtain ⟨V, hV⟩ : ∃ V, V = changeV c (.slice Af c.cls.fields.length cf) (.slice Am c.cls.methods.length cm) := ⟨_, rfl⟩
  rw [← hV]
  unfold changeV chgB at hV
  obtain ⟨kd, kp, nm, to, cl⟩ := c
  dsimp only at *
  generalize clsB cl = bc at *
  generalize noneB cl = bn at *
  generalize namB nm = bm at *
  replace hV := Lib.hid hV
  have ht : to = 0 ∨ (to != 0) = true := by
    by_cases h : to = 0
    · exact .inl h
    · exact .inr (by simpa using h)
  rcases ht with rfl | ht
  all_goals
    go_enter Tryz.func24, Tryz.ntmps24
    go_wp2_with (first
      | (go_at_call 36; refine (HN _).mono ?_; rintro e w' ⟨rfl, rfl⟩)
      | (go_at_call 37; refine (HC _ (by (repeat (first | (with_reducible assumption) | (with_reducible exact Fr.refl _ _) | (with_reducible refine Fr.alloc ?_ _) | (with_reducible refine Fr.drew ?_) | (with_reducible refine Fr.drewN ?_ _) | (with_reducible refine Fr.setCellO ?_ ?_ _; (focus (first | (dsimp only; omega) | (simp; done) | (simp; omega)))) | (with_reducible refine Fr.trans0 ?_ (by assumption)) | (with_reducible refine Fr.trans0 ?_ (Fr.of0 (by assumption))))))).mono ?_; rintro e w1 ⟨rfl, hf1⟩; obtain ⟨e0, e1, e2, e3, e4, e5, e6, e7⟩ := (hB.keep hf1).c8; have hl1 := (hB.keep hf1).lt)
      | (go_at_call 38; refine (HS _ (by (repeat (first | (with_reducible assumption) | (with_reducible exact Fr.refl _ _) | (with_reducible refine Fr.alloc ?_ _) | (with_reducible refine Fr.drew ?_) | (with_reducible refine Fr.drewN ?_ _) | (with_reducible refine Fr.setCellO ?_ ?_ _; (focus (first | (dsimp only; omega) | (simp; done) | (simp; omega)))) | (with_reducible refine Fr.trans0 ?_ (by assumption)) | (with_reducible refine Fr.trans0 ?_ (Fr.of0 (by assumption))))))).mono ?_; rintro e w1 ⟨rfl, hf1⟩; obtain ⟨e0, e1, e2, e3, e4, e5, e6, e7⟩ := (hB.keep hf1).c8; have hl1 := (hB.keep hf1).lt))

  all_goals refine bodyPost_ret (v := V) ?_ rfl (.mk rfl (by (repeat (first | (with_reducible assumption) | (with_reducible exact Fr.refl _ _) | (with_reducible refine Fr.alloc ?_ _) | (with_reducible refine Fr.drew ?_) | (with_reducible refine Fr.drewN ?_ _) | (with_reducible refine Fr.setCellO ?_ ?_ _; (focus (first | (dsimp only; omega) | (simp; done) | (simp; omega)))) | (with_reducible refine Fr.trans0 ?_ (by assumption)) | (with_reducible refine Fr.trans0 ?_ (Fr.of0 (by assumption)))))))
  all_goals simp [results, Tryz.results24, go_sem]
  all_goals rw [hV.out]
  all_goals clear HN HC HS hB hV
  all_goals go_light
  all_goals try clear e0 e1 e2 e3 e4 e5 e6 e7
  all_goals simp at *
  all_goals (repeat' split)
  all_goals simp_all
  all_goals first | omega | (intro h1 h2; exfalso; subst h2; simp only [Bool.true_eq_false, or_false] at *; omega)

set_option maxHeartbeats 400000 in
theorem chg_ok (X : Nat → Prop) (c : Chg) (cs : List Value) (w : World) (h : ChgC X w cs c) :
    Calls Tryz.prog 13 #[.agg cs.toArray] w (BoolFr (chgB c) w) := by
  obtain ⟨vf, vm, rfl, hz0, hz1, hz2, hf, hm⟩ := h
  have hR : ChgC X w [.int .i64 c.kind, .int .i64 c.keeper, .string c.name, .int .i64 c.to, .string c.cls.name, .string c.cls.super, vf, vm] c := ⟨_, _, rfl, hz0, hz1, hz2, hf, hm⟩
  have H := fun W (h : Fr No w W) => change_of X c vf vm W (hR.keep h (fun _ h => h.elim))
  clear hR hf hm
  have hcase : (chgB c = false ∧ changeV c vf vm = .nilIface) ∨ (chgB c = true ∧ ∃ t d, changeV c vf vm = .iface t d) := by
    unfold changeV
    cases chgB c
    · exact .inl ⟨rfl, rfl⟩
    · refine .inr ⟨rfl, ?_⟩
      rw [if_pos rfl]
      by_cases h1 : c.kind = 1
      · rw [if_pos h1]; exact ⟨_, _, rfl⟩
      · rw [if_neg h1]
        by_cases h3 : c.kind = 3
        · rw [if_pos h3]; exact ⟨_, _, rfl⟩
        · rw [if_neg h3]
          by_cases h2 : c.kind = 2
          · rw [if_pos h2]; exact ⟨_, _, rfl⟩
          · rw [if_neg h2]; exact ⟨_, _, rfl⟩
  rcases hcase with ⟨hc, hv⟩ | ⟨hc, t, d, hv⟩
  all_goals
    rw [hv] at H
    replace hc := Lib.hid hc
    clear hv
    go_enter Tryz.func13, Tryz.ntmps13
    go_wp2_with (go_at_call 24; refine (H _ (by (repeat (first | (with_reducible assumption) | (with_reducible exact Fr.refl _ _) | (with_reducible refine Fr.alloc ?_ _) | (with_reducible refine Fr.drew ?_) | (with_reducible refine Fr.drewN ?_ _) | (with_reducible refine Fr.setCellO ?_ ?_ _; (focus (first | (dsimp only; omega) | (simp; done) | (simp; omega)))) | (with_reducible refine Fr.trans0 ?_ (by assumption)) | (with_reducible refine Fr.trans0 ?_ (Fr.of0 (by assumption))))))).mono ?_; rintro e w1 ⟨rfl, hf1⟩)
    go_ret
    exact .mk hc.out.symm (by (repeat (first | (with_reducible assumption) | (with_reducible exact Fr.refl _ _) | (with_reducible refine Fr.alloc ?_ _) | (with_reducible refine Fr.drew ?_) | (with_reducible refine Fr.drewN ?_ _) | (with_reducible refine Fr.setCellO ?_ ?_ _; (focus (first | (dsimp only; omega) | (simp; done) | (simp; omega)))) | (with_reducible refine Fr.trans0 ?_ (by assumption)) | (with_reducible refine Fr.trans0 ?_ (Fr.of0 (by assumption))))))
end Go.Proofs.YtlcdppoelflamaaGreatDoor
