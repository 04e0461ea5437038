/- The reference's text of a change. -/
import Derived.Test.YtlcdppoelflamaaGreatDoorSpc7
import Derived.Laws.IdiomStrings
namespace Go.Proofs.YtlcdppoelflamaaGreatDoor
open Go.RowKit

theorem conv1 (W : World) (b : Nat) (d : UInt8) (hc : W.cell? ⟨b, 0, none⟩ = some (.int .u8 (d.toNat : Int))) :
    (convert 49 9 (.slice (some ⟨b, 0, none⟩) 1 1)).run Tryz.prog W = .ok (.string ⟨#[d]⟩) W := by
  have := run_convert_bytes_back (P := Tryz.prog) W 49 9 5 ⟨b, 0, none⟩ 1 [d] Tryz.underlying49 Tryz.underlying5 Tryz.underlying9 (fun j hj => by
    simp only [List.length_cons, List.length_nil] at hj
    obtain rfl : j = 0 := by omega
    exact hc)
  exact this

set_option maxRecDepth 100000 in
set_option maxHeartbeats 400000 in
theorem plain3 (k : Int) (w : World) (h0 : 0 ≤ k) (h2 : k ≤ 2) : Calls Tryz.prog 11 #[.int .i64 k] w (Gives (.string (digS k)) w) := by
  have hk : k = 0 ∨ k = 1 ∨ k = 2 := by omega
  rcases hk with rfl | rfl | rfl
  · have hcv := conv1 (w.alloc (.cells #[.int .u8 48] 5)) w.heap.size 48 (by simp)
    go_enter Tryz.func11, Tryz.ntmps11
    go_wp2
    go_loop [0, 3] (fun n s => n = .int .i64 0 ∧ s = .string ⟨#[]⟩) (fun _ _ => 0)
    case atStart => exact ⟨rfl, rfl⟩
    case round =>
      obtain ⟨rfl, rfl⟩ := hrel
      go_wp2
      go_ret
      exact .mk (by rfl) (by (repeat (first | (with_reducible assumption) | (with_reducible exact Fr.refl _ _) | (with_reducible refine Fr.alloc ?_ _) | (with_reducible refine Fr.drew ?_) | (with_reducible refine Fr.drewN ?_ _) | (with_reducible refine Fr.setCellO ?_ ?_ _; (focus (first | (dsimp only; omega) | (simp; done) | (simp; omega)))) | (with_reducible refine Fr.trans0 ?_ (by assumption)) | (with_reducible refine Fr.trans0 ?_ (Fr.of0 (by assumption))))))
  · have hcv := conv1 (w.alloc (.cells #[.int .u8 49] 5)) w.heap.size 49 (by simp)
    go_enter Tryz.func11, Tryz.ntmps11
    go_wp2
    go_loop [0, 3] (fun n s => n = .int .i64 1 ∧ s = .string ⟨#[]⟩) (fun _ _ => 0)
    case atStart => exact ⟨rfl, rfl⟩
    case round =>
      obtain ⟨rfl, rfl⟩ := hrel
      go_wp2
      go_ret
      exact .mk (by rfl) (by (repeat (first | (with_reducible assumption) | (with_reducible exact Fr.refl _ _) | (with_reducible refine Fr.alloc ?_ _) | (with_reducible refine Fr.drew ?_) | (with_reducible refine Fr.drewN ?_ _) | (with_reducible refine Fr.setCellO ?_ ?_ _; (focus (first | (dsimp only; omega) | (simp; done) | (simp; omega)))) | (with_reducible refine Fr.trans0 ?_ (by assumption)) | (with_reducible refine Fr.trans0 ?_ (Fr.of0 (by assumption))))))
  · have hcv := conv1 (w.alloc (.cells #[.int .u8 50] 5)) w.heap.size 50 (by simp)
    go_enter Tryz.func11, Tryz.ntmps11
    go_wp2
    go_loop [0, 3] (fun n s => n = .int .i64 2 ∧ s = .string ⟨#[]⟩) (fun _ _ => 0)
    case atStart => exact ⟨rfl, rfl⟩
    case round =>
      obtain ⟨rfl, rfl⟩ := hrel
      go_wp2
      go_ret
      exact .mk (by rfl) (by (repeat (first | (with_reducible assumption) | (with_reducible exact Fr.refl _ _) | (with_reducible refine Fr.alloc ?_ _) | (with_reducible refine Fr.drew ?_) | (with_reducible refine Fr.drewN ?_ _) | (with_reducible refine Fr.setCellO ?_ ?_ _; (focus (first | (dsimp only; omega) | (simp; done) | (simp; omega)))) | (with_reducible refine Fr.trans0 ?_ (by assumption)) | (with_reducible refine Fr.trans0 ?_ (Fr.of0 (by assumption))))))

set_option maxRecDepth 100000 in
set_option maxHeartbeats 1000000 in
theorem s_text (X : Nat → Prop) (c : Chg) (cs : List Value) (w : World) (h : ChgC X w cs c) :
    Calls Tryz.prog 5 #[.agg cs.toArray] w (Gives (.string (chgText c)) w) := by
  have H := fun W (hW : Fr No w W) => s_chg X c cs W (h.keep hW (fun _ h => h.elim))
  obtain ⟨vf, vm, rfl, hz0, hz1, hz2, hf, hm⟩ := h
  obtain ⟨Af, cf, rfl, _, _⟩ := hf.form
  obtain ⟨Am, cm, rfl, _, _⟩ := hm.form
  clear hf hm
  have hB := Bx.new w 35 #[.int .i64 c.kind, .int .i64 c.keeper, .string c.name, .int .i64 c.to, .string c.cls.name, .string c.cls.super, .slice Af c.cls.fields.length cf, .slice Am c.cls.methods.length cm]
  obtain ⟨V, hV⟩ : ∃ V, V = chgText c := ⟨_, rfl⟩
  rw [← hV]
  unfold chgText at hV
  have hcase : chgB c = false ∨ (chgB c = true ∧ c.kind = 1) ∨ (chgB c = true ∧ c.kind = 2) ∨ (chgB c = true ∧ c.kind = 3) ∨ (chgB c = true ∧ c.kind = 4) := by
    cases hb : chgB c
    · exact .inl rfl
    · obtain ⟨_, _, _, h⟩ := chgB_parts hb
      rcases h with h | h | ⟨h, _⟩ | h
      · exact .inr (.inl ⟨rfl, h⟩)
      · exact .inr (.inr (.inl ⟨rfl, h⟩))
      · exact .inr (.inr (.inr (.inl ⟨rfl, h⟩)))
      · exact .inr (.inr (.inr (.inr ⟨rfl, h⟩)))
  have hp := fun h => @chgB_parts c h
  generalize chgB c = bc at *
  obtain ⟨kd, kp, nm, to, cl⟩ := c
  dsimp only at *
  rcases hcase with rfl | ⟨rfl, rfl⟩ | ⟨rfl, rfl⟩ | ⟨rfl, rfl⟩ | ⟨rfl, rfl⟩
  · clear hp
    simp only [Bool.false_eq_true, if_false] at hV
    replace hV := Lib.hid hV
    go_enter Tryz.func5, Tryz.ntmps5
    go_wp2_with (go_at_call 10; refine (H _ (by (repeat (first | (with_reducible assumption) | (with_reducible exact Fr.refl _ _) | (with_reducible refine Fr.alloc ?_ _) | (with_reducible refine Fr.drew ?_) | (with_reducible refine Fr.drewN ?_ _) | (with_reducible refine Fr.setCellO ?_ ?_ _; (focus (first | (dsimp only; omega) | (simp; done) | (simp; omega)))) | (with_reducible refine Fr.trans0 ?_ (by assumption)) | (with_reducible refine Fr.trans0 ?_ (Fr.of0 (by assumption))))))).mono ?_; rintro e w1 ⟨rfl, hf1⟩)
    go_ret
    exact .mk (by rw [hV.out]; rfl) (by (repeat (first | (with_reducible assumption) | (with_reducible exact Fr.refl _ _) | (with_reducible refine Fr.alloc ?_ _) | (with_reducible refine Fr.drew ?_) | (with_reducible refine Fr.drewN ?_ _) | (with_reducible refine Fr.setCellO ?_ ?_ _; (focus (first | (dsimp only; omega) | (simp; done) | (simp; omega)))) | (with_reducible refine Fr.trans0 ?_ (by assumption)) | (with_reducible refine Fr.trans0 ?_ (Fr.of0 (by assumption))))))
  all_goals
    have hnm := (hp rfl).1
    have h0 := (hp rfl).2.1
    have h2 := (hp rfl).2.2.1
    have hto := (hp rfl).2.2.2
    clear hp
    have HK := fun W => plain3 kp W h0 h2
    try have HT := fun W => plain3 to W (by omega) (by omega)
    clear hto
    have hd1 := digS_size kp
    have hd2 := digS_size to
    unfold maxLen at hz0
    generalize digS kp = D at *
    generalize digS to = D' at *
    simp only [if_true, Int.reduceEq, if_false] at hV
    replace hV := Lib.hid hV
    go_enter Tryz.func5, Tryz.ntmps5
    go_wp2_with (go_at_call 10; refine (H _ (by (repeat (first | (with_reducible assumption) | (with_reducible exact Fr.refl _ _) | (with_reducible refine Fr.alloc ?_ _) | (with_reducible refine Fr.drew ?_) | (with_reducible refine Fr.drewN ?_ _) | (with_reducible refine Fr.setCellO ?_ ?_ _; (focus (first | (dsimp only; omega) | (simp; done) | (simp; omega)))) | (with_reducible refine Fr.trans0 ?_ (by assumption)) | (with_reducible refine Fr.trans0 ?_ (Fr.of0 (by assumption))))))).mono ?_; rintro e w1 ⟨rfl, hf1⟩)
    have hb1 := hB.keep hf1
    have q0 := fun W (h : Fr No w1 W) => (hb1.keep h).c8.1
    have q1 := fun W (h : Fr No w1 W) => (hb1.keep h).c8.2.1
    have q2 := fun W (h : Fr No w1 W) => (hb1.keep h).c8.2.2.1
    have q3 := fun W (h : Fr No w1 W) => (hb1.keep h).c8.2.2.2.1
    (refine wp_region_fr (X := No) (by kernel_rfl) (by kernel_rfl) ?_)
    (repeat (first | (go_big_quiet_skip; (try simp only [Act.put, List.setIfInBounds_toArray, List.set_cons_zero, List.set_cons_succ])) | (go_big_quiet_want; (apply Exists.intro; refine ⟨fun W hW => ?_, ?_⟩); (focus (go_simp; (try simp only [↓IntWalk.iteOmega, reduceIte]); first | done | exact rfl | exact ⟨trivial, rfl⟩ | exact ⟨rfl, rfl⟩ | (go_at_call 11; exact (HK W).mono (fun _ _ h => Gives.toFr h hW)))); go_big_quiet_on; (try simp only [Act.put, List.setIfInBounds_toArray, List.set_cons_zero, List.set_cons_succ])))); refine wpQuiet_nil ?_
    intro w2 hf2
    have hb2 := hb1.keep hf2
    clear q0 q1 q2 q3
    obtain ⟨e0, e1, e2, e3, e4, e5, e6, e7⟩ := hb2.c8
    go_wp2_with (go_at_call 11; refine (HT _).mono ?_; rintro e w3 ⟨rfl, hf3⟩)
    go_ret
    refine .str ?_ (by (repeat (first | (with_reducible assumption) | (with_reducible exact Fr.refl _ _) | (with_reducible refine Fr.alloc ?_ _) | (with_reducible refine Fr.drew ?_) | (with_reducible refine Fr.drewN ?_ _) | (with_reducible refine Fr.setCellO ?_ ?_ _; (focus (first | (dsimp only; omega) | (simp; done) | (simp; omega)))) | (with_reducible refine Fr.trans0 ?_ (by assumption)) | (with_reducible refine Fr.trans0 ?_ (Fr.of0 (by assumption))))))
    rw [hV.out]
    apply ByteArray.ext
    simp [strL, ByteArray.data_append]
end Go.Proofs.YtlcdppoelflamaaGreatDoor
