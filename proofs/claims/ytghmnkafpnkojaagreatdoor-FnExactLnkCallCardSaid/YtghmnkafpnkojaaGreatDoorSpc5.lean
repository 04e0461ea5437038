/- The reference's check of a method. -/
import Derived.Test.YtghmnkafpnkojaaGreatDoorSpc3
namespace Go.Proofs.YtghmnkafpnkojaaGreatDoor
open Go.RowKit

theorem mthB_chain (m : Mth) : mthB m = (namB m.name && decide (m.args.length ≤ 3) && kndB m.ret && (decide ((m.args.length : Int) + 1 ≤ m.locals) && decide (m.locals ≤ 6)) && (decide (1 ≤ m.stack) && decide (m.stack ≤ 5)) && codeB m && mapsB m && m.args.all kndB) := by
  unfold mthB
  ac_rfl

set_option maxRecDepth 100000 in
set_option maxHeartbeats 4000000 in
theorem s_mth (X : Nat → Prop) (m : Mth) (cs : List Value) (w : World) (h : MthC X w cs m) :
    Calls Tryz.prog 81 #[.agg cs.toArray] w (BoolFr (mthB m) w) := by
  have hcod := fun W (hW : Fr No w W) => s_code X m cs W (h.keep hW (fun _ h => h.elim))
  have hmap := fun W (hW : Fr No w W) => s_maps X m cs W (h.keep hW (fun _ h => h.elim))
  obtain ⟨va, vc, vm, rfl, hn, hrn, ha, hvc, hvm⟩ := h
  obtain ⟨A, cap, rfl, hcap, hlen⟩ := ha.form
  obtain ⟨Ac, cc, rfl, _, _⟩ := hvc.form
  obtain ⟨Am, cm, rfl, _, _⟩ := hvm.form
  clear hvc hvm
  have hlen' := hlen
  unfold maxLen at hlen'
  have hB := Bx.new w 85 #[.string m.name, .slice A m.args.length cap, .int .i64 m.ret.kind, .string m.ret.name, .int .i64 m.locals, .int .i64 m.stack, .slice Ac m.code.length cc, .slice Am m.maps.length cm]
  have hN := fun W => s_nam m.name W hn
  have hR := fun W => s_knd m.ret W hrn
  have hL := fun W => s_l1In m.locals ((m.args.length : Int) + 1) 6 W
  have hS := fun W => s_l1In m.stack 1 5 W
  have HE := Lib.hid (mthB_chain m)
  have hcase : namB m.name = false ∨ (namB m.name = true ∧ decide (m.args.length ≤ 3) = false) ∨ (namB m.name = true ∧ decide (m.args.length ≤ 3) = true ∧ kndB m.ret = false) ∨
      (namB m.name = true ∧ decide (m.args.length ≤ 3) = true ∧ kndB m.ret = true ∧ (decide ((m.args.length : Int) + 1 ≤ m.locals) && decide (m.locals ≤ 6)) = false) ∨
      (namB m.name = true ∧ decide (m.args.length ≤ 3) = true ∧ kndB m.ret = true ∧ (decide ((m.args.length : Int) + 1 ≤ m.locals) && decide (m.locals ≤ 6)) = true ∧ (decide (1 ≤ m.stack) && decide (m.stack ≤ 5)) = false) ∨
      (namB m.name = true ∧ decide (m.args.length ≤ 3) = true ∧ kndB m.ret = true ∧ (decide ((m.args.length : Int) + 1 ≤ m.locals) && decide (m.locals ≤ 6)) = true ∧ (decide (1 ≤ m.stack) && decide (m.stack ≤ 5)) = true ∧ codeB m = false) ∨
      (namB m.name = true ∧ decide (m.args.length ≤ 3) = true ∧ kndB m.ret = true ∧ (decide ((m.args.length : Int) + 1 ≤ m.locals) && decide (m.locals ≤ 6)) = true ∧ (decide (1 ≤ m.stack) && decide (m.stack ≤ 5)) = true ∧ codeB m = true ∧ mapsB m = false) ∨
      (namB m.name = true ∧ decide (m.args.length ≤ 3) = true ∧ kndB m.ret = true ∧ (decide ((m.args.length : Int) + 1 ≤ m.locals) && decide (m.locals ≤ 6)) = true ∧ (decide (1 ≤ m.stack) && decide (m.stack ≤ 5)) = true ∧ codeB m = true ∧ mapsB m = true) := by
    generalize namB m.name = q1
    generalize decide (m.args.length ≤ 3) = q2
    generalize kndB m.ret = q3
    generalize (decide ((m.args.length : Int) + 1 ≤ m.locals) && decide (m.locals ≤ 6)) = q4
    generalize (decide (1 ≤ m.stack) && decide (m.stack ≤ 5)) = q5
    generalize codeB m = q6
    generalize mapsB m = q7
    cases q1 <;> cases q2 <;> cases q3 <;> cases q4 <;> cases q5 <;> cases q6 <;> cases q7 <;> simp
  rcases hcase with g1 | ⟨g1, g2⟩ | ⟨g1, g2, g3⟩ | ⟨g1, g2, g3, g4⟩ | ⟨g1, g2, g3, g4, g5⟩ | ⟨g1, g2, g3, g4, g5, g6⟩ | ⟨g1, g2, g3, g4, g5, g6, g7⟩ | ⟨g1, g2, g3, g4, g5, g6, g7⟩
  all_goals
    rw [g1] at hN
    try rw [g3] at hR
    try rw [g4] at hL
    try rw [g5] at hS
    try simp only [g6] at hcod
    try simp only [g7] at hmap
    have G1 := Lib.hid g1
    try have G2 := Lib.hid g2
    try have G3 := Lib.hid g3
    try have G4 := Lib.hid g4
    try have G5 := Lib.hid g5
    try have G6 := Lib.hid g6
    try have G7 := Lib.hid g7
    try (have g2' : decide (3 < (m.args.length : Int)) = true := by simp at g2 ⊢; omega)
    try (have g2' : decide (3 < (m.args.length : Int)) = false := by simp at g2 ⊢; omega)
    try (have g2b : m.args.length ≤ 3 := of_decide_eq_true g2)
    clear g1
    try clear g2
    try clear g3
    try clear g4
    try clear g5
    try clear g6
    try clear g7
    go_enter Tryz.func81, Tryz.ntmps81
    go_wp2_with (first
      | (go_at_call 17; refine (hN _).mono ?_; rintro e w' ⟨rfl, rfl⟩)
      | (go_at_call 79; refine (hR _).mono ?_; rintro e w1 ⟨rfl, hf1⟩; have hB1 := hB.keep hf1; obtain ⟨e0, e1, e2, e3, e4, e5, e6, e7⟩ := hB1.c8; have hBl1 := hB1.lt; have hw1 : Fr No w w1 := ((Fr.refl No w).alloc _).trans0 hf1)
      | (go_at_call_of 16 (Value.int .i64 m.locals); refine (hL _).mono ?_; rintro e w' ⟨rfl, rfl⟩)
      | (go_at_call_of 16 (Value.int .i64 m.stack); refine (hS _).mono ?_; rintro e w' ⟨rfl, rfl⟩)
      | (go_at_call 101; refine (hcod _ hw1).mono ?_; rintro e w2 ⟨rfl, hf2⟩; have hB2 := hB1.keep hf2; obtain ⟨f0, f1, f2, f3, f4, f5, f6, f7⟩ := hB2.c8; have hBl2 := hB2.lt; have hw2 := hw1.trans0 hf2)
      | (go_at_call 102; refine (hmap _ hw2).mono ?_; rintro e w3 ⟨rfl, hf3⟩; have hB3 := hB2.keep hf3; obtain ⟨d0, d1, d2, d3, d4, d5, d6, d7⟩ := hB3.c8; have hBl3 := hB3.lt; have hw3 := hw2.trans0 hf3))
  · go_ret; exact .mk (by rw [HE.out, G1.out]; simp) (by exact frc)
  · go_ret; exact .mk (by rw [HE.out, G2.out]; simp) (by exact frc)
  · go_ret; exact .mk (by rw [HE.out, G3.out]; simp) (by exact frc)
  · go_ret; exact .mk (by rw [HE.out, G4.out]; simp) (by exact frc)
  · go_ret; exact .mk (by rw [HE.out, G5.out]; simp) (by exact frc)
  · go_ret; exact .mk (by rw [HE.out, G6.out]; simp) (by exact frc)
  · go_ret; exact .mk (by rw [HE.out, G7.out]; simp) (by exact frc)
  · have HE' : Hid (mthB m = m.args.all kndB) := by have := HE.out; rw [G1.out, G2.out, G3.out, G4.out, G5.out, G6.out, G7.out] at this; show mthB m = _; simpa using this
    clear e0 e1 e2 e3 e4 e5 e6 e7 f0 f1 f2 f3 f4 f5 f6 f7 d0 d1 d2 d3 d4 d5 d6 d7 hN hR hL hS hcod hmap hB hB1 hB2 hf1 hf2 hf3 hBl1 hBl2 HE G1 G2 G3 G4 G5 G6 G7
    go_loopw [3, 2] (fun i r wr => ∃ k : Nat, k ≤ m.args.length ∧ i = .int .i64 k ∧ r = .bool false ∧ Hid (m.args.all kndB = (m.args.drop k).all kndB) ∧ Fr No w3 wr) (fun i _ _ => m.args.length - (intOf i).toNat)
    case atStart => exact ⟨0, Nat.zero_le _, rfl, rfl, rfl, Fr.refl _ _⟩
    case round =>
      obtain ⟨k, hk, rfl, rfl, hd, hf⟩ := hrel
      have hw : Fr No w wr := hw3.trans0 hf
      have hB' := hB3.keep hf
      obtain ⟨b0, b1, b2, b3, b4, b5, b6, b7⟩ := hB'.c8
      have hBl := hB'.lt
      clear hB3
      by_cases hlt : k < m.args.length
      · obtain ⟨b, off, rfl, hX, c0, c1, hs⟩ := (ha.keep hw (fun _ h => h.elim) (fun _ _ _ h => h)).knd hlt
        clear ha
        have H := fun W => s_knd m.args[k] W hs
        rw [List.drop_eq_getElem_cons hlt, List.all_cons] at hd
        have hd := Lib.hid hd
        generalize m.args[k] = x at *
        cases hx : kndB x
        all_goals
          simp only [hx] at H
          have hx := Lib.hid hx
          go_wp2_with (go_at_call 79; refine (H _).mono ?_; rintro e w4 ⟨rfl, hf4⟩)
        · have HS : Hid (m.args.all kndB = false) := by have := hd.out.out; rwa [hx.out, Bool.false_and] at this
          go_ret; exact .mk (by rw [HE'.out, HS.out]) (by exact frc)
        · go_roundw
          case rel => exact ⟨k + 1, by omega, by go_num, rfl, by have := hd.out.out; rwa [hx.out, Bool.true_and] at this, by exact frc⟩
          case measure => simp [intOf]; omega
      · have ha' : Hid (m.args.all kndB = true) := by have := hd.out; rwa [List.drop_eq_nil_of_le (by omega)] at this
        clear ha hd
        go_wp2
        go_ret
        exact .mk (by rw [HE'.out, ha'.out]) (by exact frc)
end Go.Proofs.YtghmnkafpnkojaaGreatDoor
