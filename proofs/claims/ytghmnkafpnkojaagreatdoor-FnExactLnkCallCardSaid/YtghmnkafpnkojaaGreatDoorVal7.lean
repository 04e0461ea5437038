/- The program's own check of a method. -/
import Derived.Test.YtghmnkafpnkojaaGreatDoorVal6
namespace Go.Proofs.YtghmnkafpnkojaaGreatDoor
open Go.RowKit

theorem nam_ok (s : Str) (w : World) (hs : s.size ≤ maxLen) :
    Calls Tryz.prog 63 #[.string s] w (IsBool (namB s) w) := by
  go_enter Tryz.func63, Tryz.ntmps63
  go_wp2_with (go_at_call 87; refine (word_ok _ _ hs).mono ?_; rintro e w' ⟨rfl, rfl⟩)
  go_ret
  exact .mk rfl

def mthB (m : Mth) : Bool :=
  namB m.name && decide (m.args.length ≤ 3) && kndB m.ret && m.args.all kndB && decide ((m.args.length : Int) + 1 ≤ m.locals) && decide (m.locals ≤ 6) && decide (1 ≤ m.stack) && decide (m.stack ≤ 5) && codeB m && mapsB m
theorem mthB_no {m : Mth} (g : namB m.name = false ∨ 3 < m.args.length ∨ kndB m.ret = false ∨ m.args.all kndB = false ∨ m.locals < (m.args.length : Int) + 1 ∨ 6 < m.locals ∨ m.stack < 1 ∨ 5 < m.stack ∨ codeB m = false ∨ mapsB m = false) : mthB m = false := by
  unfold mthB
  rcases g with g | g | g | g | g | g | g | g | g | g
  · rw [g]; simp
  · rw [decide_eq_false (show ¬ m.args.length ≤ 3 by omega)]; simp
  · rw [g]; simp
  · rw [g]; simp
  · rw [decide_eq_false (show ¬ (m.args.length : Int) + 1 ≤ m.locals by omega)]; simp
  · rw [decide_eq_false (show ¬ m.locals ≤ 6 by omega)]; simp
  · rw [decide_eq_false (show ¬ 1 ≤ m.stack by omega)]; simp
  · rw [decide_eq_false (show ¬ m.stack ≤ 5 by omega)]; simp
  · rw [g]; simp
  · rw [g]; simp
theorem mthB_yes {m : Mth} (g1 : namB m.name = true) (g2 : m.args.length ≤ 3) (g3 : kndB m.ret = true) (g4 : m.args.all kndB = true) (g5 : (m.args.length : Int) + 1 ≤ m.locals) (g6 : m.locals ≤ 6) (g7 : 1 ≤ m.stack) (g8 : m.stack ≤ 5) (g9 : codeB m = true) (g10 : mapsB m = true) : mthB m = true := by
  simp only [mthB, g1, g2, g3, g4, g5, g6, g7, g8, g9, g10, decide_true, Bool.and_true]

set_option maxRecDepth 100000 in
set_option maxHeartbeats 1000000 in
theorem mth_ok (X : Nat → Prop) (m : Mth) (cs : List Value) (w : World) (h : MthC X w cs m) :
    Calls Tryz.prog 86 #[.agg cs.toArray] w (BoolFr (mthB m) w) := by
  have hcod := fun W (hW : Fr No w W) => code_ok X m cs W (h.keep hW (fun _ h => h.elim))
  have hmap := fun W (hW : Fr No w W) => maps_ok X m cs W (h.keep hW (fun _ h => h.elim))
  obtain ⟨va, vc, vm, rfl, hn, hrn, ha, _, _⟩ := h
  obtain ⟨A, cap, rfl, hcap, hlen⟩ := ha.form
  have hlen' := hlen
  unfold maxLen at hlen'
  have hB := Bx.new w 85 #[.string m.name, .slice A m.args.length cap, .int .i64 m.ret.kind, .string m.ret.name, .int .i64 m.locals, .int .i64 m.stack, vc, vm]
  have hN := fun W => nam_ok m.name W hn
  have hR := fun W => knd_ok m.ret W hrn
  have hcase : namB m.name = false ∨ (namB m.name = true ∧ 3 < m.args.length) ∨ (namB m.name = true ∧ m.args.length ≤ 3 ∧ kndB m.ret = false) ∨ (namB m.name = true ∧ m.args.length ≤ 3 ∧ kndB m.ret = true) := by
    cases namB m.name <;> cases kndB m.ret <;> simp <;> omega
  rcases hcase with g1 | ⟨g1, g2⟩ | ⟨g1, g2, g3⟩ | ⟨g1, g2, g3⟩
  all_goals
    try simp only [g1] at hN
    try simp only [g3] at hR
    have G1 := Lib.hid g1
    try have G3 := Lib.hid g3
    go_enter Tryz.func86, Tryz.ntmps86
    go_wp2_with (first
      | (go_at_call 63; refine (hN _).mono ?_; rintro e w' ⟨rfl, rfl⟩)
      | (go_at_call 85; refine (hR _).mono ?_; rintro e w1 ⟨rfl, hf1⟩; have hB1 := hB.keep hf1; obtain ⟨e0, e1, e2, e3, e4, e5, e6, e7⟩ := hB1.c8; have hBl := hB1.lt))
  · go_ret; exact .mk (by rw [mthB_no (.inl G1.out)]) (by exact frc)
  · go_ret; exact .mk (by rw [mthB_no (.inr (.inl (by omega)))]) (by exact frc)
  · go_ret; exact .mk (by rw [mthB_no (.inr (.inr (.inl G3.out)))]) (by exact frc)
  · have hw1 : Fr No w w1 := ((Fr.refl No w).alloc _).trans0 hf1
    clear e0 e1 e2 e3 e4 e5 e6 e7 hBl hN hR hB hf1
    go_loopw [24, 2] (fun i r wr => ∃ k : Nat, k ≤ m.args.length ∧ i = .int .i64 k ∧ r = .bool false ∧ Hid (m.args.all kndB = (m.args.drop k).all kndB) ∧ Fr No w1 wr) (fun i _ _ => m.args.length - (intOf i).toNat)
    case atStart => exact ⟨0, Nat.zero_le _, rfl, rfl, rfl, Fr.refl _ _⟩
    case round =>
      obtain ⟨k, hk, rfl, rfl, hd, hf⟩ := hrel
      have hw : Fr No w wr := hw1.trans0 hf
      have hB' := hB1.keep hf
      obtain ⟨b0, b1, b2, b3, b4, b5, b6, b7⟩ := hB'.c8
      have hBl := hB'.lt
      clear hB1
      by_cases hlt : k < m.args.length
      · obtain ⟨b, off, rfl, hX, c0, c1, hs⟩ := (ha.keep hw (fun _ h => h.elim) (fun _ _ _ h => h)).knd hlt
        clear ha hcod hmap
        have H := fun W => knd_ok m.args[k] W hs
        rw [List.drop_eq_getElem_cons hlt, List.all_cons] at hd
        have hd := Lib.hid hd
        generalize m.args[k] = x at *
        cases hx : kndB x
        all_goals
          simp only [hx] at H
          have hx := Lib.hid hx
          go_wp2_with (go_at_call 85; refine (H _).mono ?_; rintro e w2 ⟨rfl, hf2⟩)
        · have HS : Hid (m.args.all kndB = false) := by have := hd.out.out; rwa [hx.out, Bool.false_and] at this
          go_ret; exact .mk (by rw [mthB_no (.inr (.inr (.inr (.inl HS.out))))]) (by exact frc)
        · go_roundw
          case rel => exact ⟨k + 1, by omega, by go_num, rfl, by have := hd.out.out; rwa [hx.out, Bool.true_and] at this, by exact frc⟩
          case measure => simp [intOf]; omega
      · have ha' : Hid (m.args.all kndB = true) := by have := hd.out; rwa [List.drop_eq_nil_of_le (by omega)] at this
        clear ha hd
        have hcase : m.locals < (m.args.length : Int) + 1 ∨ ((m.args.length : Int) + 1 ≤ m.locals ∧ 6 < m.locals) ∨ ((m.args.length : Int) + 1 ≤ m.locals ∧ m.locals ≤ 6 ∧ m.stack < 1) ∨
            ((m.args.length : Int) + 1 ≤ m.locals ∧ m.locals ≤ 6 ∧ 1 ≤ m.stack ∧ 5 < m.stack) ∨ ((m.args.length : Int) + 1 ≤ m.locals ∧ m.locals ≤ 6 ∧ 1 ≤ m.stack ∧ m.stack ≤ 5 ∧ codeB m = false) ∨
            ((m.args.length : Int) + 1 ≤ m.locals ∧ m.locals ≤ 6 ∧ 1 ≤ m.stack ∧ m.stack ≤ 5 ∧ codeB m = true) := by
          cases codeB m <;> simp <;> omega
        have hcod := hcod wr hw
        have hmap := fun W (h : Fr No wr W) => hmap W (hw.trans0 h)
        rcases hcase with g1 | ⟨g1, g2⟩ | ⟨g1, g2, g3⟩ | ⟨g1, g2, g3, g4⟩ | ⟨g1, g2, g3, g4, g5⟩ | ⟨g1, g2, g3, g4, g5⟩
        all_goals
          try simp only [g5] at hcod
          try have G5 := Lib.hid g5
          go_wp2_with (first
            | (go_at_call 107; refine hcod.mono ?_; rintro e w2 ⟨rfl, hf2⟩; obtain ⟨f0, f1, f2, f3, f4, f5, f6, f7⟩ := (hB'.keep hf2).c8)
            | (go_at_call 108; refine (hmap _ (by exact frc)).mono ?_; rintro e w3 ⟨rfl, hf3⟩))
        · go_ret; exact .mk (by rw [mthB_no (by omega)]) (by exact frc)
        · go_ret; exact .mk (by rw [mthB_no (by omega)]) (by exact frc)
        · go_ret; exact .mk (by rw [mthB_no (by omega)]) (by exact frc)
        · go_ret; exact .mk (by rw [mthB_no (by omega)]) (by exact frc)
        · go_ret; exact .mk (by rw [mthB_no (by simp [G5.out])]) (by exact frc)
        · go_ret; exact .mk (by
            cases hm : mapsB m
            · rw [mthB_no (by simp [hm])]
            · rw [mthB_yes G1.out (by omega) G3.out ha'.out g1 (by omega) (by omega) (by omega) G5.out hm]) (by exact frc)
end Go.Proofs.YtghmnkafpnkojaaGreatDoor
