/- The reference's checks of tags, of a method's instructions. -/
import Derived.Test.YtghmnkafpnkojaaGreatDoorSpc
namespace Go.Proofs.YtghmnkafpnkojaaGreatDoor
open Go.RowKit

theorem s_l1In (n lo hi : Int) (w : World) : Calls Tryz.prog 16 #[.int .i64 n, .int .i64 lo, .int .i64 hi] w (IsBool (decide (lo ≤ n) && decide (n ≤ hi)) w) := by
  go_enter Tryz.func16, Tryz.ntmps16
  go_wp2
  all_goals go_ret
  all_goals exact .mk (by simp [*] <;> omega)

set_option maxHeartbeats 400000 in
theorem s_tags (X : Nat → Prop) (v : Value) (ts : List Tag) (w : World) (h : Sl X w 2 TagC v ts) :
    Calls Tryz.prog 117 #[v] w (BoolFr (ts.all tagB) w) := by
  obtain ⟨A, cap, rfl, hcap, hlen⟩ := h.form
  have hlen' := hlen
  unfold maxLen at hlen'
  go_enter Tryz.func117, Tryz.ntmps117
  go_wp2
  go_loopw [3] (fun i wr => ∃ k : Nat, k ≤ ts.length ∧ i = .int .i64 k ∧ Hid ((ts.take k).all tagB = true) ∧ Fr No w wr) (fun i _ => ts.length - (intOf i).toNat)
  case atStart => exact ⟨0, Nat.zero_le _, rfl, by simp [Hid], Fr.refl _ _⟩
  case round =>
    obtain ⟨k, hk, rfl, ha, hf⟩ := hrel
    by_cases hlt : k < ts.length
    · obtain ⟨b, off, rfl, hX, c0, c1, hs⟩ := (h.keep hf (fun _ h => h.elim) (fun _ _ _ h => h)).tag hlt
      clear h
      have H := fun W => s_tag ts[k] W hs
      have ha1 := all_snoc tagB ts k hlt
      rw [ha.out, Bool.true_and] at ha1
      clear ha
      cases ht : tagB ts[k] with
      | true =>
        have HS : Hid ((ts.take (k + 1)).all tagB = true) := ha1.trans ht
        clear ha1
        simp only [ht] at H
        clear ht
        go_wp2_with (go_at_call 131; refine (H _).mono ?_; rintro e w1 ⟨rfl, hf1⟩)
        go_roundw
        case rel => exact ⟨k + 1, by omega, by go_num, HS, by exact frc⟩
        case measure => simp [intOf]; omega
      | false =>
        have HS : Hid (ts.all tagB = false) := all_no tagB ts k hlt ht
        clear ha1
        simp only [ht] at H
        clear ht
        go_wp2_with (go_at_call 131; refine (H _).mono ?_; rintro e w1 ⟨rfl, hf1⟩)
        go_ret
        exact .mk HS.out.symm (by exact frc)
    · have HS : Hid (ts.all tagB = true) := all_yes tagB ts k (by omega) ha.out
      clear h ha
      go_wp2
      go_ret
      exact .mk HS.out.symm (by exact frc)

set_option maxRecDepth 100000 in
set_option maxHeartbeats 1000000 in
theorem s_code (X : Nat → Prop) (m : Mth) (cs : List Value) (w : World) (h : MthC X w cs m) :
    Calls Tryz.prog 101 #[.agg cs.toArray] w (BoolFr (codeB m) w) := by
  obtain ⟨va, vc, vm, rfl, _, _, ha, hc, hm⟩ := h
  obtain ⟨A, cap, rfl, hcap, hlen⟩ := hc.form
  have hlen' := hlen
  unfold maxLen at hlen'
  clear ha hm
  have hB := Bx.new w 85 #[.string m.name, va, .int .i64 m.ret.kind, .string m.ret.name, .int .i64 m.locals, .int .i64 m.stack, .slice A m.code.length cap, vm]
  have hw0 : Fr No w (w.alloc (.cells #[.string m.name, va, .int .i64 m.ret.kind, .string m.ret.name, .int .i64 m.locals, .int .i64 m.stack, .slice A m.code.length cap, vm] 85)) := (Fr.refl No w).alloc _
  by_cases hr : 1 ≤ m.code.length ∧ m.code.length ≤ 16
  · obtain ⟨h1, h16⟩ := hr
    have hb : Hid (codeB m = m.code.all (insAt m.locals m.code.length)) := by unfold Hid codeB; rw [decide_eq_true h1, decide_eq_true h16]; rfl
    have H0 := fun W => s_l1In m.code.length 1 16 W
    rw [decide_eq_true (show (1 : Int) ≤ m.code.length by omega), decide_eq_true (show (m.code.length : Int) ≤ 16 by omega)] at H0
    go_enter Tryz.func101, Tryz.ntmps101
    go_wp2_with (go_at_call 16; refine (H0 _).mono ?_; rintro e w1 ⟨rfl, rfl⟩)
    go_loopw [3, 2] (fun i r wr => ∃ k : Nat, k ≤ m.code.length ∧ i = .int .i64 k ∧ r = .bool false ∧ Hid ((m.code.take k).all (insAt m.locals m.code.length) = true) ∧
      Bx wr w.heap.size 85 #[.string m.name, va, .int .i64 m.ret.kind, .string m.ret.name, .int .i64 m.locals, .int .i64 m.stack, .slice A m.code.length cap, vm] ∧ Fr No w wr) (fun i _ _ => m.code.length - (intOf i).toNat)
    case atStart => exact ⟨0, Nat.zero_le _, rfl, rfl, by simp [Hid], hB, hw0⟩
    case round =>
      clear H0 hB hw0
      obtain ⟨k, hk, rfl, rfl, ha, hB', hw⟩ := hrel
      obtain ⟨b0, b1, b2, b3, b4, b5, b6, b7⟩ := hB'.c8
      have hBl := hB'.lt
      by_cases hlt : k < m.code.length
      · obtain ⟨b, off, rfl, hX, c0, c1, c2, c3, hs, hs'⟩ := (hc.keep hw (fun _ h => h.elim) (fun _ _ _ h => h)).ins hlt
        clear hc
        have H := fun W => s_ins m.code[k] W hs hs'
        have ha1 := all_snoc (insAt m.locals m.code.length) m.code k hlt
        rw [ha.out, Bool.true_and] at ha1
        clear ha
        have HS : insAt m.locals m.code.length m.code[k] = true → Hid ((m.code.take (k + 1)).all (insAt m.locals m.code.length) = true) := fun h => ha1.trans h
        have HN : insAt m.locals m.code.length m.code[k] = false → Hid (m.code.all (insAt m.locals m.code.length) = false) := fun h => all_no _ m.code k hlt h
        clear ha1
        have HS := Lib.hid HS
        have HN := Lib.hid HN
        generalize m.code[k] = i at *
        cases ht : insB i
        all_goals
          simp only [ht] at H
          have ht := Lib.hid ht
          go_wp2_with (go_at_call 116; refine (H _).mono ?_; rintro e w1 ⟨rfl, hf1⟩; obtain ⟨e0, e1, e2, e3, e4, e5, e6, e7⟩ := (hB'.keep (by exact ((Fr.refl No wr).alloc _).trans0 hf1)).c8; obtain ⟨f0, f1, f2, f3⟩ := ((Bx.new wr 216 #[.int .i64 i.op, .int .i64 i.a, .string i.name, .string i.member]).keep hf1).c4)
        all_goals first
          | (go_roundw; (case rel => exact ⟨k + 1, by omega, by go_num, rfl, HS.out (by simp [insAt, ht.out, *]), hB'.keep (by exact frc), by exact frc⟩); (case measure => simp [intOf]; omega))
          | (go_ret; exact .mk (by rw [hb.out, HN.out (by simp [insAt, ht.out, *])]) (by exact frc))
      · have HS : Hid (m.code.all (insAt m.locals m.code.length) = true) := all_yes _ m.code k (by omega) ha.out
        clear ha hc
        go_wp2
        go_ret
        exact .mk (by rw [hb.out, HS.out]) (by exact frc)
  · have hb : Hid (codeB m = false) := by unfold Hid codeB; rw [Bool.and_eq_false_iff, Bool.and_eq_false_iff, decide_eq_false_iff_not, decide_eq_false_iff_not]; omega
    have H0 := fun W => s_l1In m.code.length 1 16 W
    have hd : (decide ((1 : Int) ≤ m.code.length) && decide ((m.code.length : Int) ≤ 16)) = false := by rw [Bool.and_eq_false_iff, decide_eq_false_iff_not, decide_eq_false_iff_not]; omega
    rw [hd] at H0
    clear hr hc hd
    go_enter Tryz.func101, Tryz.ntmps101
    go_wp2_with (go_at_call 16; refine (H0 _).mono ?_; rintro e w1 ⟨rfl, rfl⟩)
    go_ret
    exact .mk (by rw [hb.out]) (by exact frc)
end Go.Proofs.YtghmnkafpnkojaaGreatDoor
