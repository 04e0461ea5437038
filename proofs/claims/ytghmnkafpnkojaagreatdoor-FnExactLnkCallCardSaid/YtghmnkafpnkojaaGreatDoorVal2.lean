/- The program's own checks of lists of tags, of instructions, methods and classes. -/
import Derived.Test.YtghmnkafpnkojaaGreatDoorVal
namespace Go.Proofs.YtghmnkafpnkojaaGreatDoor
open Go.RowKit

theorem all_snoc {α : Type} (f : α → Bool) (xs : List α) (k : Nat) (h : k < xs.length) : (xs.take (k + 1)).all f = ((xs.take k).all f && f xs[k]) := by
  rw [List.take_succ_eq_append_getElem h, List.all_append]; simp only [List.all_cons, List.all_nil, Bool.and_true]
theorem all_no {α : Type} (f : α → Bool) (xs : List α) (k : Nat) (h : k < xs.length) (hf : f xs[k] = false) : xs.all f = false := by
  rw [← Bool.not_eq_true, List.all_eq_true]
  intro hall
  have := hall xs[k] (List.getElem_mem h)
  rw [hf] at this; cases this
theorem all_yes {α : Type} (f : α → Bool) (xs : List α) (k : Nat) (h : xs.length ≤ k) (hf : (xs.take k).all f = true) : xs.all f = true := by
  rwa [List.take_of_length_le h] at hf

set_option maxHeartbeats 400000 in
theorem tags_ok (X : Nat → Prop) (v : Value) (ts : List Tag) (w : World) (h : Sl X w 2 TagC v ts) :
    Calls Tryz.prog 121 #[v] w (BoolFr (ts.all tagB) w) := by
  obtain ⟨A, cap, rfl, hcap, hlen⟩ := h.form
  have hlen' := hlen
  unfold maxLen at hlen'
  go_enter Tryz.func121, Tryz.ntmps121
  go_wp2
  go_loopw [7] (fun i wr => ∃ k : Nat, k ≤ ts.length ∧ i = .int .i64 k ∧ Hid ((ts.take k).all tagB = true) ∧ Fr No w wr) (fun i _ => ts.length - (intOf i).toNat)
  case atStart => exact ⟨0, Nat.zero_le _, rfl, by simp [Hid], Fr.refl _ _⟩
  case round =>
    obtain ⟨k, hk, rfl, ha, hf⟩ := hrel
    by_cases hlt : k < ts.length
    · obtain ⟨b, off, rfl, hX, c0, c1, hs⟩ := (h.keep hf (fun _ h => h.elim) (fun _ _ _ h => h)).tag hlt
      clear h
      have H := fun W => tag_ok ts[k] W hs
      have ha1 := all_snoc tagB ts k hlt
      rw [ha.out, Bool.true_and] at ha1
      clear ha
      cases ht : tagB ts[k] with
      | true =>
        have HS : Hid ((ts.take (k + 1)).all tagB = true) := ha1.trans ht
        clear ha1
        simp only [ht] at H
        clear ht
        go_wp2_with (go_at_call 139; refine (H _).mono ?_; rintro e w1 ⟨rfl, hf1⟩)
        go_roundw
        case rel => exact ⟨k + 1, by omega, by go_num, HS, by exact frc⟩
        case measure => simp [intOf]; omega
      | false =>
        have HS : Hid (ts.all tagB = false) := all_no tagB ts k hlt ht
        clear ha1
        simp only [ht] at H
        clear ht
        go_wp2_with (go_at_call 139; refine (H _).mono ?_; rintro e w1 ⟨rfl, hf1⟩)
        go_ret
        exact .mk HS.out.symm (by exact frc)
    · have HS : Hid (ts.all tagB = true) := all_yes tagB ts k (by omega) ha.out
      clear h ha
      go_wp2
      go_ret
      exact .mk HS.out.symm (by exact frc)
end Go.Proofs.YtghmnkafpnkojaaGreatDoor
