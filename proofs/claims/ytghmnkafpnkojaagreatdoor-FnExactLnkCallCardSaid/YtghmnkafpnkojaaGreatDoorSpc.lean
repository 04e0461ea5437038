/- The reference's checks of names, kinds, tags and instructions return what namB .. insB say. -/
import Derived.Test.YtghmnkafpnkojaaGreatDoorVal8
namespace Go.Proofs.YtghmnkafpnkojaaGreatDoor
open Go.RowKit

set_option maxHeartbeats 400000 in
theorem s_nam (s : Str) (w : World) (hs : s.size ≤ maxLen) :
    Calls Tryz.prog 17 #[.string s] w (IsBool (namB s) w) := by
  unfold maxLen at hs
  by_cases hr : 1 ≤ s.size ∧ s.size ≤ 6
  · obtain ⟨h1, h6⟩ := hr
    have d1 : decide ((s.size : Int) < 1) = false := by simp; omega
    have d2 : decide (6 < (s.size : Int)) = false := by simp; omega
    have d3 : ((s.size : Int) == 0) = false := beq_eq_false_iff_ne.2 (by omega)
    have hb : Hid (namB s = s.data.toList.all lower) := by unfold Hid namB; rw [d1, d2]; rfl
    go_enter Tryz.func17, Tryz.ntmps17
    go_wp2
    go_loop [3] (fun i => ∃ k : Nat, k ≤ s.size ∧ i = .int .i64 k ∧ Hid ((s.data.toList.take k).all lower = true)) (fun i => s.size - (intOf i).toNat)
    case atStart => exact ⟨0, Nat.zero_le _, rfl, by simp [Hid]⟩
    case round =>
      obtain ⟨k, hk, rfl, HA⟩ := hrel
      by_cases hlt : k < s.size
      · have hst := all_take_succ s k hlt lower
        by_cases hl : lower s[k] = true
        · have HS : Hid ((s.data.toList.take (k + 1)).all lower = true) := by rw [hst, HA.out, hl]; rfl
          clear hst HA
          have g1 : (97 : Int) ≤ (s[k].toNat : Int) := by simp [lower] at hl; omega
          have g2 : (s[k].toNat : Int) ≤ 122 := by simp [lower] at hl; omega
          clear hl
          go_wp2
          go_round
          case rel => exact ⟨k + 1, by omega, by go_num, HS⟩
          case measure => simp [intOf]; omega
        · have HF : Hid (s.data.toList.all lower = false) := all_false_of s k hlt lower (by simpa using hl)
          clear hst HA
          have g1 : (s[k].toNat : Int) < 97 ∨ 122 < (s[k].toNat : Int) := by simp [lower] at hl; omega
          clear hl
          go_wp2
          all_goals (go_ret; exact .mk (by rw [hb.out, HF.out]))
      · have HS : Hid (s.data.toList.all lower = true) := by have := HA.out; rwa [take_all s k (by omega)] at this
        clear HA
        go_wp2
        go_ret
        exact .mk (by rw [hb.out, HS.out])
  · have hb : Hid (namB s = false) := by simp [namB, Hid]; omega
    have hr' : s.size = 0 ∨ 6 < s.size := by omega
    clear hr
    rcases hr' with h1 | h1
    · have d3 : ((s.size : Int) == 0) = true := beq_iff_eq.2 (by omega)
      clear h1
      go_enter Tryz.func17, Tryz.ntmps17
      go_wp2
      go_ret
      exact .mk (by rw [hb.out])
    · have d3 : ((s.size : Int) == 0) = false := beq_eq_false_iff_ne.2 (by omega)
      go_enter Tryz.func17, Tryz.ntmps17
      go_wp2
      go_ret
      exact .mk (by rw [hb.out])

set_option maxHeartbeats 400000 in
theorem s_knd (k : Knd) (w : World) (hs : k.name.size ≤ maxLen) :
    Calls Tryz.prog 79 #[.agg #[.int .i64 k.kind, .string k.name]] w (BoolFr (kndB k) w) := by
  obtain ⟨k, s⟩ := k
  go_enter Tryz.func79, Tryz.ntmps79
  go_wp2_with (first | (go_at_call 17; refine (s_nam _ _ hs).mono ?_; rintro e w' ⟨rfl, rfl⟩) | go_in)
  all_goals (go_ret; exact .mk (by simp [kndB, *]) (by exact frc))

set_option maxHeartbeats 400000 in
theorem s_tag (t : Tag) (w : World) (hs : t.name.size ≤ maxLen) :
    Calls Tryz.prog 131 #[.agg #[.int .i64 t.kind, .string t.name]] w (BoolFr (tagB t) w) := by
  obtain ⟨k, s⟩ := t
  dsimp only at *
  have hcase : k = 0 ∨ k = 1 ∨ k = 2 ∨ k = 3 ∨ ((k == 0) = false ∧ (k == 1) = false ∧ (k == 2) = false ∧ (k == 3) = false) := by
    by_cases h0 : k = 0; · exact .inl h0
    by_cases h1 : k = 1; · exact .inr (.inl h1)
    by_cases h2 : k = 2; · exact .inr (.inr (.inl h2))
    by_cases h3 : k = 3; · exact .inr (.inr (.inr (.inl h3)))
    exact .inr (.inr (.inr (.inr ⟨beq_eq_false_iff_ne.2 h0, beq_eq_false_iff_ne.2 h1, beq_eq_false_iff_ne.2 h2, beq_eq_false_iff_ne.2 h3⟩)))
  rcases hcase with rfl | rfl | rfl | rfl | ⟨g0, g1, g2, g3⟩
  all_goals
    go_enter Tryz.func131, Tryz.ntmps131
    go_wp2_with (first | (go_at_call 17; refine (s_nam _ _ hs).mono ?_; rintro e w' ⟨rfl, rfl⟩) | go_in)
    all_goals go_ret
    all_goals exact .mk (by simp [tagB, *]) (by exact frc)

set_option maxRecDepth 100000 in
set_option maxHeartbeats 2000000 in
theorem s_ins (i : Ins) (w : World) (hs : i.name.size ≤ maxLen) (hm : i.member.size ≤ maxLen) :
    Calls Tryz.prog 116 #[.agg #[.int .i64 i.op, .int .i64 i.a, .string i.name, .string i.member]] w (BoolFr (insB i) w) := by
  obtain ⟨op, a, s, m⟩ := i
  dsimp only at *
  have hcase : op = 1 ∨ op = 2 ∨ op = 3 ∨ op = 4 ∨ op = 5 ∨ op = 6 ∨ op = 7 ∨ op = 8 ∨ op = 9 ∨ op = 10 ∨ op = 11 ∨ op = 12 ∨ op = 13 ∨ op = 14 ∨ op = 15 ∨ ((op == 1) = false ∧ (op == 2) = false ∧ (op == 3) = false ∧ (op == 4) = false ∧ (op == 5) = false ∧ (op == 6) = false ∧ (op == 7) = false ∧ (op == 8) = false ∧ (op == 9) = false ∧ (op == 10) = false ∧ (op == 11) = false ∧ (op == 12) = false ∧ (op == 13) = false ∧ (op == 14) = false ∧ (op == 15) = false) := by
    by_cases h : 1 ≤ op ∧ op ≤ 15
    · omega
    · have hn : ∀ n : Int, 1 ≤ n ∧ n ≤ 15 → (op == n) = false := fun n hn => beq_eq_false_iff_ne.2 (by omega)
      exact .inr (.inr (.inr (.inr (.inr (.inr (.inr (.inr (.inr (.inr (.inr (.inr (.inr (.inr (.inr (⟨hn 1 (by omega), hn 2 (by omega), hn 3 (by omega), hn 4 (by omega), hn 5 (by omega), hn 6 (by omega), hn 7 (by omega), hn 8 (by omega), hn 9 (by omega), hn 10 (by omega), hn 11 (by omega), hn 12 (by omega), hn 13 (by omega), hn 14 (by omega), hn 15 (by omega)⟩)))))))))))))))
  rcases hcase with rfl | rfl | rfl | rfl | rfl | rfl | rfl | rfl | rfl | rfl | rfl | rfl | rfl | rfl | rfl | ⟨g1, g2, g3, g4, g5, g6, g7, g8, g9, g10, g11, g12, g13, g14, g15⟩
  all_goals
    go_enter Tryz.func116, Tryz.ntmps116
    go_wp2_with (first | (go_at_call 17; refine (s_nam _ _ (by assumption)).mono ?_; rintro e w' ⟨rfl, rfl⟩) | go_in)
    all_goals go_ret
    all_goals refine .mk ?_ (by exact frc)
    all_goals simp [insB, opNum, opCls, opMem, opPln, numLo, numHi, *]
    all_goals omega
end Go.Proofs.YtghmnkafpnkojaaGreatDoor
