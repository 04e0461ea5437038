/- A change's text, as the program writes it. -/
import Derived.Test.YtlcdppoelflamaaGreatDoorChx
namespace Go.Proofs.YtlcdppoelflamaaGreatDoor
open Go.RowKit

/-- The text of 0, 1, 2. -/
def digS (k : Int) : Str := if k = 0 then ⟨#[48]⟩ else if k = 1 then ⟨#[49]⟩ else ⟨#[50]⟩

set_option maxHeartbeats 400000 in
theorem itoa3 (k : Int) (w : World) (h0 : 0 ≤ k) (h2 : k ≤ 2) : Calls Tryz.prog 14 #[.int .i64 k] w (Gives (.string (digS k)) w) := by
  have hk : k = 0 ∨ k = 1 ∨ k = 2 := by omega
  rcases hk with rfl | rfl | rfl
  all_goals
    go_enter Tryz.func14, Tryz.ntmps14
    go_wp2_with go_in
    go_ret
    exact .mk (by rfl) (by (repeat (first | (with_reducible assumption) | (with_reducible exact Fr.refl _ _) | (with_reducible refine Fr.alloc ?_ _) | (with_reducible refine Fr.drew ?_) | (with_reducible refine Fr.drewN ?_ _) | (with_reducible refine Fr.setCellO ?_ ?_ _; (focus (first | (dsimp only; omega) | (simp; done) | (simp; omega)))) | (with_reducible refine Fr.trans0 ?_ (by assumption)) | (with_reducible refine Fr.trans0 ?_ (Fr.of0 (by assumption))))))

theorem Gives.toFr {X : Nat → Prop} {v : Value} {a W w' : World} {e : Ending} (h : Gives v W e w') (hW : Fr X a W) : e = .returned v ∧ Fr X a w' := ⟨h.1, hW.trans0 h.2⟩
def strL (l : List UInt8) : Str := ⟨l.toArray⟩
theorem Gives.str {s t : Str} {w w' : World} (h : s = t) (hf : Fr No w w') : Gives (.string t) w (.returned (.string s)) w' := ⟨by rw [h], hf⟩
theorem digS_size (k : Int) : (digS k).size = 1 := by
  unfold digS
  split
  · rfl
  · split <;> rfl
/-- What a change is written as. -/
def chgText (c : Chg) : Str :=
  if chgB c then
    (if c.kind = 2 then strL ([116, 97, 107, 101, 32] ++ (digS c.keeper).data.toList ++ [32] ++ c.name.data.toList)
     else if c.kind = 3 then strL ([97, 115, 107, 32] ++ (digS c.keeper).data.toList ++ [32] ++ c.name.data.toList ++ [32] ++ (digS c.to).data.toList)
     else if c.kind = 4 then strL ([102, 114, 101, 101, 32] ++ (digS c.keeper).data.toList ++ [32] ++ c.name.data.toList) else strL [])
  else strL []
theorem namB_size {s : Str} (h : namB s = true) : s.size ≤ 6 := by
  unfold namB at h
  simp at h
  omega
theorem chgB_parts {c : Chg} (h : chgB c = true) : c.name.size ≤ 6 ∧ 0 ≤ c.keeper ∧ c.keeper ≤ 2 ∧ (c.kind = 1 ∨ c.kind = 2 ∨ (c.kind = 3 ∧ 0 ≤ c.to ∧ c.to ≤ 2) ∨ c.kind = 4) := by
  unfold chgB at h
  simp only [Bool.and_eq_true, decide_eq_true_eq] at h
  obtain ⟨⟨⟨h1, h2⟩, hn⟩, h3⟩ := h
  refine ⟨namB_size hn, h1, h2, ?_⟩
  by_cases k1 : c.kind = 1
  · exact .inl k1
  · rw [if_neg k1] at h3
    by_cases k3 : c.kind = 3
    · rw [if_pos k3] at h3
      simp only [Bool.and_eq_true, decide_eq_true_eq] at h3
      exact .inr (.inr (.inl ⟨k3, h3.2⟩))
    · rw [if_neg k3] at h3
      simp only [Bool.and_eq_true, Bool.or_eq_true, decide_eq_true_eq] at h3
      omega

set_option maxRecDepth 100000 in
set_option maxHeartbeats 1000000 in
theorem chg_text (X : Nat → Prop) (c : Chg) (cs : List Value) (w : World) (h : ChgC X w cs c) :
    Calls Tryz.prog 7 #[.agg cs.toArray] w (Gives (.string (chgText c)) w) := by
  have H := fun W (hW : Fr No w W) => chg_ok X c cs W (h.keep hW (fun _ h => h.elim))
  obtain ⟨vf, vm, rfl, hz0, hz1, hz2, hf, hm⟩ := h
  obtain ⟨Af, cf, rfl, _, _⟩ := hf.form
  obtain ⟨Am, cm, rfl, _, _⟩ := hm.form
  clear hf hm
  have hB := Bx.new w 35 #[.int .i64 c.kind, .int .i64 c.keeper, .string c.name, .int .i64 c.to, .string c.cls.name, .string c.cls.super, .slice Af c.cls.fields.length cf, .slice Am c.cls.methods.length cm]
  obtain ⟨V, hV⟩ : ∃ V, V = chgText c := ⟨_, rfl⟩
  rw [← hV]
  unfold chgText at hV
  have hcase : chgB c = false ∨ (chgB c = true ∧ c.kind = 1) ∨ (chgB c = true ∧ c.kind = 2) ∨ (chgB c = true ∧ c.kind = 3) ∨ (chgB c = true ∧ c.kind = 4) := by
    cases hb : chgB c
    · exact .inl rfl
    · obtain ⟨_, _, _, h⟩ := chgB_parts hb
      rcases h with h | h | ⟨h, _⟩ | h
      · exact .inr (.inl ⟨rfl, h⟩)
      · exact .inr (.inr (.inl ⟨rfl, h⟩))
      · exact .inr (.inr (.inr (.inl ⟨rfl, h⟩)))
      · exact .inr (.inr (.inr (.inr ⟨rfl, h⟩)))
  have hp := fun h => @chgB_parts c h
  generalize chgB c = bc at *
  obtain ⟨kd, kp, nm, to, cl⟩ := c
  dsimp only at *
  rcases hcase with rfl | ⟨rfl, rfl⟩ | ⟨rfl, rfl⟩ | ⟨rfl, rfl⟩ | ⟨rfl, rfl⟩
  · clear hp
    simp only [Bool.false_eq_true, if_false] at hV
    replace hV := Lib.hid hV
    go_enter Tryz.func7, Tryz.ntmps7
    go_wp2_with (go_at_call 13; refine (H _ (by (repeat (first | (with_reducible assumption) | (with_reducible exact Fr.refl _ _) | (with_reducible refine Fr.alloc ?_ _) | (with_reducible refine Fr.drew ?_) | (with_reducible refine Fr.drewN ?_ _) | (with_reducible refine Fr.setCellO ?_ ?_ _; (focus (first | (dsimp only; omega) | (simp; done) | (simp; omega)))) | (with_reducible refine Fr.trans0 ?_ (by assumption)) | (with_reducible refine Fr.trans0 ?_ (Fr.of0 (by assumption))))))).mono ?_; rintro e w1 ⟨rfl, hf1⟩)
    go_ret
    exact .mk (by rw [hV.out]; rfl) (by (repeat (first | (with_reducible assumption) | (with_reducible exact Fr.refl _ _) | (with_reducible refine Fr.alloc ?_ _) | (with_reducible refine Fr.drew ?_) | (with_reducible refine Fr.drewN ?_ _) | (with_reducible refine Fr.setCellO ?_ ?_ _; (focus (first | (dsimp only; omega) | (simp; done) | (simp; omega)))) | (with_reducible refine Fr.trans0 ?_ (by assumption)) | (with_reducible refine Fr.trans0 ?_ (Fr.of0 (by assumption))))))
  all_goals
    have hnm := (hp rfl).1
    have h0 := (hp rfl).2.1
    have h2 := (hp rfl).2.2.1
    have hto := (hp rfl).2.2.2
    clear hp
    have HK := fun W => itoa3 kp W h0 h2
    try have HT := fun W => itoa3 to W (by omega) (by omega)
    clear hto
    have hd1 := digS_size kp
    have hd2 := digS_size to
    unfold maxLen at hz0
    generalize digS kp = D at *
    generalize digS to = D' at *
    simp only [if_true, Int.reduceEq, if_false] at hV
    replace hV := Lib.hid hV
    go_enter Tryz.func7, Tryz.ntmps7
    go_wp2_with (go_at_call 13; refine (H _ (by (repeat (first | (with_reducible assumption) | (with_reducible exact Fr.refl _ _) | (with_reducible refine Fr.alloc ?_ _) | (with_reducible refine Fr.drew ?_) | (with_reducible refine Fr.drewN ?_ _) | (with_reducible refine Fr.setCellO ?_ ?_ _; (focus (first | (dsimp only; omega) | (simp; done) | (simp; omega)))) | (with_reducible refine Fr.trans0 ?_ (by assumption)) | (with_reducible refine Fr.trans0 ?_ (Fr.of0 (by assumption))))))).mono ?_; rintro e w1 ⟨rfl, hf1⟩)
    have hb1 := hB.keep hf1
    have q0 := fun W (h : Fr No w1 W) => (hb1.keep h).c8.1
    have q1 := fun W (h : Fr No w1 W) => (hb1.keep h).c8.2.1
    have q2 := fun W (h : Fr No w1 W) => (hb1.keep h).c8.2.2.1
    have q3 := fun W (h : Fr No w1 W) => (hb1.keep h).c8.2.2.2.1
    (refine wp_region_fr (X := No) (by kernel_rfl) (by kernel_rfl) ?_)
    (repeat (first | (go_big_quiet_skip; (try simp only [Act.put, List.setIfInBounds_toArray, List.set_cons_zero, List.set_cons_succ])) | (go_big_quiet_want; (apply Exists.intro; refine ⟨fun W hW => ?_, ?_⟩); (focus (go_simp; (try simp only [↓IntWalk.iteOmega, reduceIte]); first | done | exact rfl | exact ⟨trivial, rfl⟩ | exact ⟨rfl, rfl⟩ | (go_at_call 14; exact (HK W).mono (fun _ _ h => Gives.toFr h hW)))); go_big_quiet_on; (try simp only [Act.put, List.setIfInBounds_toArray, List.set_cons_zero, List.set_cons_succ])))); refine wpQuiet_nil ?_
    intro w2 hf2
    have hb2 := hb1.keep hf2
    clear q0 q1 q2 q3
    obtain ⟨e0, e1, e2, e3, e4, e5, e6, e7⟩ := hb2.c8
    go_wp2_with (go_at_call 14; refine (HT _).mono ?_; rintro e w3 ⟨rfl, hf3⟩)
    go_ret
    refine .str ?_ (by (repeat (first | (with_reducible assumption) | (with_reducible exact Fr.refl _ _) | (with_reducible refine Fr.alloc ?_ _) | (with_reducible refine Fr.drew ?_) | (with_reducible refine Fr.drewN ?_ _) | (with_reducible refine Fr.setCellO ?_ ?_ _; (focus (first | (dsimp only; omega) | (simp; done) | (simp; omega)))) | (with_reducible refine Fr.trans0 ?_ (by assumption)) | (with_reducible refine Fr.trans0 ?_ (Fr.of0 (by assumption))))))
    rw [hV.out]
    apply ByteArray.ext
    simp [strL, ByteArray.data_append]
end Go.Proofs.YtlcdppoelflamaaGreatDoor
