/- The program's own checks of names, kinds, tags, instructions, methods and classes return what the functions namB .. clsB say, and leave memory as it was. -/
import Derived.Test.YtghmnkafpnkojaaGreatDoorRep
import Derived.Test.YtghmnkafpnkojaaGreatDoorRows
import Derived.WalkSpells
import Derived.WalkLawsBesides
import Derived.BigQuiet
import Derived.Deep.QuietTactic
import Derived.Deep.RegionWith
namespace Go.Proofs.YtghmnkafpnkojaaGreatDoor
open Go.RowKit

def lower (c : UInt8) : Bool := !(decide ((c.toNat : Int) < 97) || decide (122 < (c.toNat : Int)))
def namB (s : Str) : Bool := !(decide ((s.size : Int) < 1) || decide (6 < (s.size : Int))) && s.data.toList.all lower
def kndB (k : Knd) : Bool := (k.kind == 1 && k.name.toList.isEmpty) || (k.kind == 2 && namB k.name)
def tagB (t : Tag) : Bool := if t.kind == 0 || t.kind == 1 || t.kind == 3 then t.name.toList.isEmpty else t.kind == 2 && namB t.name

theorem take_snoc (s : Str) (k : Nat) (h : k < s.size) : s.data.toList.take (k + 1) = s.data.toList.take k ++ [s[k]] := by
  rw [List.take_succ_eq_append_getElem (by simpa using h)]; rfl
theorem all_take_succ (s : Str) (k : Nat) (h : k < s.size) (f : UInt8 → Bool) : (s.data.toList.take (k + 1)).all f = ((s.data.toList.take k).all f && f s[k]) := by
  rw [take_snoc s k h]; simp
theorem all_false_of (s : Str) (k : Nat) (h : k < s.size) (f : UInt8 → Bool) (hf : f s[k] = false) : s.data.toList.all f = false := by
  rw [← Bool.not_eq_true, List.all_eq_true]
  intro hall
  have := hall s[k] (by exact Array.getElem_mem_toList h)
  rw [hf] at this; cases this
theorem take_all (s : Str) (k : Nat) (h : s.size ≤ k) : s.data.toList.take k = s.data.toList := List.take_of_length_le (by simpa using h)
theorem ret_bool {a b : Bool} (h : a = b) : Ending.returned (.bool a) = .returned (.bool b) := by rw [h]


set_option maxHeartbeats 400000 in
theorem word_ok (s : Str) (w : World) (hs : s.size ≤ maxLen) :
    Calls Tryz.prog 87 #[.string s] w (IsBool (namB s) w) := by
  unfold maxLen at hs
  by_cases hr : 1 ≤ s.size ∧ s.size ≤ 6
  · obtain ⟨h1, h6⟩ := hr
    have d1 : decide ((s.size : Int) < 1) = false := by simp; omega
    have d2 : decide (6 < (s.size : Int)) = false := by simp; omega
    have hb : Hid (namB s = s.data.toList.all lower) := by unfold Hid namB; rw [d1, d2]; rfl
    go_enter Tryz.func87, Tryz.ntmps87
    go_wp2
    go_loop [3] (fun i => ∃ k : Nat, k ≤ s.size ∧ i = .int .i64 k ∧ Hid ((s.data.toList.take k).all lower = true)) (fun i => s.size - (intOf i).toNat)
    case atStart => exact ⟨0, Nat.zero_le _, rfl, by simp [Hid]⟩
    case round =>
      obtain ⟨k, hk, rfl, HA⟩ := hrel
      by_cases hlt : k < s.size
      · have hst := all_take_succ s k hlt lower
        by_cases hl : lower s[k] = true
        · have HS : Hid ((s.data.toList.take (k + 1)).all lower = true) := by rw [hst, HA.out, hl]; rfl
          clear hst HA
          have g1 : (97 : Int) ≤ (s[k].toNat : Int) := by simp [lower] at hl; omega
          have g2 : (s[k].toNat : Int) ≤ 122 := by simp [lower] at hl; omega
          clear hl
          go_wp2
          go_round
          case rel => exact ⟨k + 1, by omega, by go_num, HS⟩
          case measure => simp [intOf]; omega
        · have HF : Hid (s.data.toList.all lower = false) := all_false_of s k hlt lower (by simpa using hl)
          clear hst HA
          have g1 : (s[k].toNat : Int) < 97 ∨ 122 < (s[k].toNat : Int) := by simp [lower] at hl; omega
          clear hl
          go_wp2
          all_goals (go_ret; exact .mk (by rw [hb.out, HF.out]))
      · have HS : Hid (s.data.toList.all lower = true) := by have := HA.out; rwa [take_all s k (by omega)] at this
        clear HA
        go_wp2
        go_ret
        exact .mk (by rw [hb.out, HS.out])
  · have hb : Hid (namB s = false) := by simp [namB, Hid]; omega
    have hr' : s.size < 1 ∨ 6 < s.size := by omega
    clear hr
    rcases hr' with h1 | h1
    all_goals
      go_enter Tryz.func87, Tryz.ntmps87
      go_wp2
      go_ret
      exact .mk (by rw [hb.out])


set_option maxHeartbeats 400000 in
theorem knd_ok (k : Knd) (w : World) (hs : k.name.size ≤ maxLen) :
    Calls Tryz.prog 85 #[.agg #[.int .i64 k.kind, .string k.name]] w (BoolFr (kndB k) w) := by
  obtain ⟨k, s⟩ := k
  go_enter Tryz.func85, Tryz.ntmps85
  go_wp2_with (first | (go_at_call 87; refine (word_ok _ _ hs).mono ?_; rintro e w' ⟨rfl, rfl⟩) | go_in)
  all_goals (go_ret; exact .mk (by simp [kndB, *]) (by exact frc))

set_option maxHeartbeats 400000 in
theorem tag_ok (t : Tag) (w : World) (hs : t.name.size ≤ maxLen) :
    Calls Tryz.prog 139 #[.agg #[.int .i64 t.kind, .string t.name]] w (BoolFr (tagB t) w) := by
  obtain ⟨k, s⟩ := t
  go_enter Tryz.func139, Tryz.ntmps139
  go_wp2_with (first | (go_at_call 87; refine (word_ok _ _ hs).mono ?_; rintro e w' ⟨rfl, rfl⟩) | go_in)
  all_goals go_ret
  all_goals exact .mk (by simp [tagB, *]) (by exact frc)

end Go.Proofs.YtghmnkafpnkojaaGreatDoor
