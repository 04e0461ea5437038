/- What the laws' marks lay on a layout, and how they are found again. -/
import Derived.Test.YtoagehacllkchaaGreatMtx
import Derived.Test.YtoagehacllkchaaGreatCwd
import Derived.Test.YtoagehacllkchaaGreatMon
import Derived.Test.YtoagehacllkchaaGreatRows
import Derived.WalkSpells
import Derived.WalkLawsBesides
namespace Go.Proofs.YtoagehacllkchaaGreat
open Go.RowKit

def mcell (k : Int) (i : Nat) : Value := if i % 5 = 1 ∨ i % 5 = 4 then .string (markS (k + i)) else .int .i64 (k + i)
theorem mcI {k x : Int} {i : Nat} (h : ¬ (i % 5 = 1 ∨ i % 5 = 4)) (hx : x = k + i) : Value.int .i64 x = mcell k i := by rw [mcell, if_neg h, hx]
theorem mcS {k x : Int} {i : Nat} (h : i % 5 = 1 ∨ i % 5 = 4) (hx : x = k + i) : Value.string (markS x) = mcell k i := by rw [mcell, if_pos h, hx]
structure Mk5 (g off : Nat) (k : Int) (w : World) (m : Nat) (W : World) : Prop where
  tw : Tw (fun b => b = g) w W
  cells : ∀ i, i < m → W.cell? ⟨g, off + i, none⟩ = some (mcell k i)
section
variable {g off m a : Nat} {k x : Int} {w W W' : World}
theorem Mk5.of0 (h : Mk5 g off k w m W) (hf : Fr No W W') : Mk5 g off k w m W' := ⟨h.tw.trans (.of0 hf), fun i hi => hf.keep0 (h.cells i hi)⟩
theorem Mk5.step {u v : Value} (h : Mk5 g off k w m W) (ha : a = off + m) (hu : u = mcell k m) (hc : W.cell? ⟨g, a, none⟩ = some v) (hl : LkV v u) : Mk5 g off k w (m + 1) (W.setCell ⟨g, a, none⟩ u) := by
  subst ha
  refine ⟨h.tw.trans (.set hc hl rfl), fun i hi => ?_⟩
  by_cases he : i = m
  · subst he; rw [World.cell?_setCell_same _ _ _ hc, hu]
  · rw [World.cell?_setCell_other W ⟨g, off + m, none⟩ ⟨g, off + i, none⟩ u (fun e => he (by injection e with _ h2 _; omega))]
    exact h.cells i (by omega)
theorem Mk5.stepI (h : Mk5 g off k w m W) (hc : ∀ W, Tw (fun b => b = g) w W → ∃ x, W.cell? ⟨g, a, none⟩ = some (.int .i64 x)) (ha : a = off + m) (hr : ¬ (m % 5 = 1 ∨ m % 5 = 4)) (hx : x = k + m) : Mk5 g off k w (m + 1) (W.setCell ⟨g, a, none⟩ (.int .i64 x)) :=
  let ⟨_, hv⟩ := hc W h.tw; h.step ha (mcI hr hx) hv (.inr (.inl ⟨_, _, rfl, rfl⟩))
theorem Mk5.stepS (h : Mk5 g off k w m W) (hc : ∀ W, Tw (fun b => b = g) w W → ∃ x, W.cell? ⟨g, a, none⟩ = some (.string x)) (ha : a = off + m) (hr : m % 5 = 1 ∨ m % 5 = 4) (hx : x = k + m) : Mk5 g off k w (m + 1) (W.setCell ⟨g, a, none⟩ (.string (markS x))) :=
  let ⟨_, hv⟩ := hc W h.tw; h.step ha (mcS hr hx) hv (.inr (.inr ⟨_, _, rfl, rfl⟩))
end
theorem srtI {g a i : Nat} {w : World} (h : ∃ v, w.cell? ⟨g, a, none⟩ = some v ∧ LkV (mcell 0 i) v) (hr : ¬ (i % 5 = 1 ∨ i % 5 = 4)) : ∀ W, Tw (fun b => b = g) w W → ∃ x, W.cell? ⟨g, a, none⟩ = some (.int .i64 x) := fun W hT => by
  obtain ⟨v, h1, h2⟩ := h
  rw [mcell, if_neg hr] at h2
  obtain ⟨v', h3, h4⟩ := hT.like _ _ _ h1
  obtain ⟨x, rfl⟩ := (h2.trans h4).int
  exact ⟨x, h3⟩
theorem srtS {g a i : Nat} {w : World} (h : ∃ v, w.cell? ⟨g, a, none⟩ = some v ∧ LkV (mcell 0 i) v) (hr : i % 5 = 1 ∨ i % 5 = 4) : ∀ W, Tw (fun b => b = g) w W → ∃ x, W.cell? ⟨g, a, none⟩ = some (.string x) := fun W hT => by
  obtain ⟨v, h1, h2⟩ := h
  rw [mcell, if_pos hr] at h2
  obtain ⟨v', h3, h4⟩ := hT.like _ _ _ h1
  obtain ⟨x, rfl⟩ := (h2.trans h4).str
  exact ⟨x, h3⟩

set_option maxRecDepth 100000 in
set_option maxHeartbeats 4000000 in
theorem markLnkFieldS_go (A : Option Addr) (g off L cap : Nat) (k : Int) (w : World) (hcap : L ≤ cap) (hlen : L ≤ 9223372036854775807) (hA : 0 < L → A = some ⟨g, off, none⟩ ∧ (∀ o, w.frozen? ⟨g, o, none⟩ = false) ∧ g < w.heap.size)
    (hs : ∀ i, i < L * 5 → ∃ v, w.cell? ⟨g, off + i, none⟩ = some v ∧ LkV (mcell 0 i) v) (h0 : 0 ≤ k) (hk : k + L * 5 ≤ 1000000000) :
    Calls Tryz.prog 40 #[.slice A L cap, .int .i64 k] w (fun e w' => e = .returned (.int .i64 (k + L * 5)) ∧ Mk5 g off k w (L * 5) w') := by
  go_enter Tryz.func40, Tryz.ntmps40
  go_wp2
  go_loopw [5, 1] (fun i l wr => ∃ (j : Nat) (n : Int), j ≤ L ∧ i = .int .i64 j ∧ l = .int .i64 n ∧ n = k + j * 5 ∧ Mk5 g off k w (j * 5) wr) (fun i _ _ => L - (intOf i).toNat)
  case atStart => exact ⟨0, k, Nat.zero_le _, rfl, rfl, by simp, .refl _ _, fun i hi => by omega⟩
  case round =>
    obtain ⟨j, n, hj, rfl, rfl, hn, hT⟩ := hrel
    by_cases hlt : j < L
    · obtain ⟨rfl, hF, hG⟩ := hA (by omega)
      have hc_0 := srtI (hs (j * 5) (by omega)) (by omega)
      have hc_1 := srtS (hs (j * 5 + 1) (by omega)) (by omega)
      have hc_2 := srtI (hs (j * 5 + 2) (by omega)) (by omega)
      have hc_3 := srtI (hs (j * 5 + 3) (by omega)) (by omega)
      have hc_4 := srtS (hs (j * 5 + 4) (by omega)) (by omega)
      simp only [← Nat.add_assoc] at hc_0 hc_1 hc_2 hc_3 hc_4
      have hfr : ∀ W, Tw (fun b => b = g) w W → (∀ o, W.frozen? ⟨g, o, none⟩ = false) ∧ g < W.heap.size := fun W h => ⟨fun o => by rw [h.froz g o hG]; exact hF o, Nat.lt_of_lt_of_le hG h.fr.size⟩
      clear hs hA
      replace hc_0 := Lib.hid hc_0
      replace hc_1 := Lib.hid hc_1
      replace hc_2 := Lib.hid hc_2
      replace hc_3 := Lib.hid hc_3
      replace hc_4 := Lib.hid hc_4
      replace hfr := Lib.hid hfr
      have hb : n + 5 ≤ 1000000000 := by omega
      have hb0 : 0 ≤ n := by omega
      obtain ⟨qx0, q0⟩ := hc_0.out wr hT.tw
      obtain ⟨qx1, q1⟩ := hc_1.out wr hT.tw
      obtain ⟨qf, ql⟩ := hfr.out wr hT.tw
      go_wp2_with fail
      refine calls_world (fun W => Mk5 g off k w (j * 5 + 1) W) (hT.stepI hc_0.out rfl (by omega) (by omega)) ?_
      intro W1 hT1
      clear q0 q1 qf ql
      refine (markText_ok _ _ (by omega)).mono ?_
      rintro e w1 ⟨rfl, hf1⟩
      have hT1' := hT1.of0 hf1
      clear hT1 hf1
      obtain ⟨rx1, r1⟩ := hc_1.out w1 hT1'.tw
      obtain ⟨rx2, r2⟩ := hc_2.out w1 hT1'.tw
      obtain ⟨rx3, r3⟩ := hc_3.out w1 hT1'.tw
      obtain ⟨rf, rl⟩ := hfr.out w1 hT1'.tw
      go_wp2_with fail
      refine calls_world (fun W => Mk5 g off k w (j * 5 + 4) W) (((hT1'.stepS hc_1.out (by omega) (by omega) (by omega)).stepI hc_2.out (by omega) (by omega) (by omega)).stepI hc_3.out (by omega) (by omega) (by omega)) ?_
      intro W2 hT2
      clear r1 r2 r3 rf rl
      refine (markText_ok _ _ (by omega)).mono ?_
      rintro e w2 ⟨rfl, hf2⟩
      have hT2' := hT2.of0 hf2
      clear hT2 hf2
      obtain ⟨sx4, s4⟩ := hc_4.out w2 hT2'.tw
      obtain ⟨sf, sl⟩ := hfr.out w2 hT2'.tw
      go_wp2
      go_roundw
      case rel => exact ⟨j + 1, _, by omega, by go_num, rfl, by omega, by rw [show (j + 1) * 5 = j * 5 + 4 + 1 by omega]; exact hT2'.stepS hc_4.out (by omega) (by omega) (by omega)⟩
      case measure => simp [intOf]; omega
    · obtain rfl : j = L := by omega
      go_wp2
      go_ret
      exact ⟨by rw [hn]; rfl, hT⟩

set_option maxRecDepth 100000 in
set_option maxHeartbeats 4000000 in
theorem heldLnkFieldS_go (A : Option Addr) (g off L cap : Nat) (k : Int) (w : World) (hcap : L ≤ cap) (hlen : L ≤ 9223372036854775807) (hA : 0 < L → A = some ⟨g, off, none⟩)
    (hs : ∀ i, i < L * 5 → w.cell? ⟨g, off + i, none⟩ = some (mcell k i)) (h0 : 0 ≤ k) (hk : k + L * 5 ≤ 1000000000) :
    Calls Tryz.prog 41 #[.slice A L cap, .int .i64 k] w (Gives (.int .i64 (k + L * 5)) w) := by
  go_enter Tryz.func41, Tryz.ntmps41
  go_wp2
  go_loopw [5, 1] (fun i l wr => ∃ (j : Nat) (n : Int), j ≤ L ∧ i = .int .i64 j ∧ l = .int .i64 n ∧ n = k + j * 5 ∧ Fr No w wr) (fun i _ _ => L - (intOf i).toNat)
  case atStart => exact ⟨0, k, Nat.zero_le _, rfl, rfl, by simp, Fr.refl _ _⟩
  case round =>
    obtain ⟨j, n, hj, rfl, rfl, hn, hT⟩ := hrel
    by_cases hlt : j < L
    · obtain rfl := hA (by omega)
      have hc_0 := (hs (j * 5) (by omega)).trans (congrArg some (mcI (x := n) (by omega) (by omega)).symm)
      have hc_1 := (hs (j * 5 + 1) (by omega)).trans (congrArg some (mcS (x := n + 1) (by omega) (by omega)).symm)
      have hc_2 := (hs (j * 5 + 2) (by omega)).trans (congrArg some (mcI (x := n + 1 + 1) (by omega) (by omega)).symm)
      have hc_3 := (hs (j * 5 + 3) (by omega)).trans (congrArg some (mcI (x := n + 1 + 1 + 1) (by omega) (by omega)).symm)
      have hc_4 := (hs (j * 5 + 4) (by omega)).trans (congrArg some (mcS (x := n + 1 + 1 + 1 + 1) (by omega) (by omega)).symm)
      simp only [← Nat.add_assoc] at hc_0 hc_1 hc_2 hc_3 hc_4
      clear hs hA
      have hb : n + 5 ≤ 1000000000 := by omega
      have hb0 : 0 ≤ n := by omega
      have q0 := hT.keep0 hc_0
      have K1 := fun W (hW : Fr No wr W) => (hT.trans0 hW).keep0 hc_1
      have M1 := fun W (_ : Fr No wr W) => markText_ok (n + 1) W (by omega)
      replace hn := Lib.hid hn
      replace hc_0 := Lib.hid hc_0
      replace hc_1 := Lib.hid hc_1
      replace hc_2 := Lib.hid hc_2
      replace hc_3 := Lib.hid hc_3
      replace hc_4 := Lib.hid hc_4
      go_wp2_with fail
      refine wp_region_monL 8 [isV (.slice (some ⟨g, off, none⟩) L cap), isV (.int .i64 j), isV (.pointer (some ⟨g, off + j * 5, none⟩)), isV (.pointer (some ⟨g, off + j * 5, none⟩)), isV (.pointer (some ⟨g, off + j * 5 + 1, none⟩)), isV (.string (markS (n + 1))), isV (.int .i64 (n + 1)), isV (.string (markS (n + 1)))] [false, false, false, false, false, false, false, false] [false, false, false, false, false, false, false, false] ?_ (by kernel_rfl) (by kernel_rfl) ?_ ?_ ?_ ?_
      · intro x hx hb v W h
        simp only [List.zip_cons_cons, List.zip_nil_left, List.mem_cons, List.not_mem_nil, or_false] at hx
        rcases hx with rfl | rfl | rfl | rfl | rfl | rfl | rfl | rfl <;> first | (cases hb; done) | exact atB_bk h
      · intro o ho d hd; simp only [List.take_succ_cons, List.take_zero, List.mem_cons, List.not_mem_nil, or_false] at ho; rcases ho with rfl | rfl | rfl | rfl | rfl | rfl | rfl | rfl <;> (cases hd; simp)
      · intro x hx
        simp only [List.mem_cons, List.not_mem_nil, or_false] at hx
        rcases hx with rfl | rfl | rfl | rfl | rfl | rfl | rfl | rfl
        · exact isV_mono _
        · exact isV_mono _
        · exact isV_mono _
        · exact isV_mono _
        · exact isV_mono _
        · exact isV_mono _
        · exact isV_mono _
        · exact isV_mono _
      · intro k o ho a' W hW hoff hdep
        have hbs := hW.size
        have H0 := hoff 0 (by simp)
        have H5 := hoff 5 (by simp)
        have H1 := hoff 1 (by simp)
        simp only [Act.eval] at H0 H5 H1
        simp only [List.take_succ_cons, List.take_zero] at ho hdep
        rcases k with _ | _ | _ | _ | _ | _ | _ | _ | k
        all_goals (first | (simp at ho; done) | skip)
        all_goals simp only [List.getElem?_cons_zero, List.getElem?_cons_succ, Option.some.injEq] at ho
        all_goals subst ho
        · refine ⟨fun h => absurd h (by decide), fun _ => ?_⟩
          unfold opGives
          simp [execOp, Act.eval, H0, go_sem, givesUpon]
          exact ⟨Fr.refl _ _, rfl⟩
        · refine ⟨fun h => absurd h (by decide), fun _ => ?_⟩
          unfold opGives
          simp [execOp, Act.eval, H5, go_sem, givesUpon]
          exact ⟨Fr.refl _ _, rfl⟩
        · have D22 : a'.eval (.tmp 22) = .slice (some ⟨g, off, none⟩) L cap := hdep ⟨0, .data⟩ (by simp) rfl _ 22 rfl rfl
          have D23 : a'.eval (.tmp 23) = .int .i64 j := hdep ⟨1, .data⟩ (by simp) rfl _ 23 rfl rfl
          simp only [Act.eval] at D22 D23
          refine ⟨fun h => absurd h (by decide), fun _ => ?_⟩
          unfold opGives
          simp [execOp, Act.eval, go_sem, givesUpon, *]
          exact ⟨Fr.refl _ _, rfl⟩
        · have D24 : a'.eval (.tmp 24) = .pointer (some ⟨g, off + j * 5, none⟩) := hdep ⟨2, .data⟩ (by simp) rfl _ 24 rfl rfl
          simp only [Act.eval] at D24
          refine ⟨fun h => absurd h (by decide), fun _ => ?_⟩
          unfold opGives
          simp [execOp, Act.eval, D24, go_sem, givesUpon]
          exact ⟨Fr.refl _ _, rfl⟩
        · have D25 : a'.eval (.tmp 25) = .pointer (some ⟨g, off + j * 5, none⟩) := hdep ⟨3, .data⟩ (by simp) rfl _ 25 rfl rfl
          simp only [Act.eval] at D25
          refine ⟨fun h => absurd h (by decide), fun _ => ?_⟩
          unfold opGives
          simp [execOp, Act.eval, D25, go_sem, givesUpon]
          exact ⟨Fr.refl _ _, rfl⟩
        · have D26 : a'.eval (.tmp 26) = .pointer (some ⟨g, off + j * 5 + 1, none⟩) := hdep ⟨4, .data⟩ (by simp) rfl _ 26 rfl rfl
          simp only [Act.eval] at D26
          refine ⟨fun h => absurd h (by decide), fun _ => ?_⟩
          unfold opGives
          simp [execOp, Act.eval, go_sem, givesUpon, *]
          exact ⟨Fr.refl _ _, rfl⟩
        · refine ⟨fun h => absurd h (by decide), fun _ => ?_⟩
          unfold opGives
          simp [execOp, Act.eval, H1, go_sem, givesUpon]
          exact ⟨Fr.refl _ _, rfl⟩
        · have D28 : a'.eval (.tmp 28) = .int .i64 (n + 1) := hdep ⟨6, .data⟩ (by simp) rfl _ 28 rfl rfl
          simp only [Act.eval] at D28
          refine ⟨fun h => absurd h (by decide), fun _ => ?_⟩
          unfold opGives
          simp [Act.eval, D28, go_sem, givesUpon]
          exact (M1 _ hW).mono fun e w'' h => ⟨_, h.1, h.2, rfl⟩
      intro vs WR hWR hv hne
      have e0 : vs 0 = _ := hv 0 (by omega)
      have e1 : vs 1 = _ := hv 1 (by omega)
      have e2 : vs 2 = _ := hv 2 (by omega)
      have e3 : vs 3 = _ := hv 3 (by omega)
      have e4 : vs 4 = _ := hv 4 (by omega)
      have e5 : vs 5 = _ := hv 5 (by omega)
      have e6 : vs 6 = _ := hv 6 (by omega)
      have e7 : vs 7 = _ := hv 7 (by omega)
      simp only [List.take_succ_cons, List.take_zero, List.drop_succ_cons, List.drop_zero, putsL, if_true, Nat.zero_add, Nat.reduceAdd, e0, e1, e2, e3, e4, e5, e6, e7]
      simp only [Act.put, List.setIfInBounds_toArray, List.set_cons_zero, List.set_cons_succ]
      clear e0 e1 e2 e3 e4 e5 e6 e7 hv
      clear K1 M1
      have hT1 := hT.trans0 hWR
      have r2 := hT1.keep0 hc_2.out
      have r3 := hT1.keep0 hc_3.out
      have K4 := fun W (hW : Fr No WR W) => (hT1.trans0 hW).keep0 hc_4.out
      have M4 := fun W (_ : Fr No WR W) => markText_ok (n + 1 + 1 + 1 + 1) W (by omega)
      clear q0
      generalize WR = WR1 at *
      go_wp2_with fail
      refine wp_region_monL 8 [isV (.slice (some ⟨g, off, none⟩) L cap), isV (.int .i64 j), isV (.pointer (some ⟨g, off + j * 5, none⟩)), isV (.pointer (some ⟨g, off + j * 5 + 3, none⟩)), isV (.pointer (some ⟨g, off + j * 5 + 4, none⟩)), isV (.string (markS (n + 1 + 1 + 1 + 1))), isV (.int .i64 (n + 1 + 1 + 1 + 1)), isV (.string (markS (n + 1 + 1 + 1 + 1)))] [false, false, false, false, false, false, false, false] [false, false, false, false, false, false, false, false] ?_ (by kernel_rfl) (by kernel_rfl) ?_ ?_ ?_ ?_
      · intro x hx hb v W h
        simp only [List.zip_cons_cons, List.zip_nil_left, List.mem_cons, List.not_mem_nil, or_false] at hx
        rcases hx with rfl | rfl | rfl | rfl | rfl | rfl | rfl | rfl <;> first | (cases hb; done) | exact atB_bk h
      · intro o ho d hd; simp only [List.take_succ_cons, List.take_zero, List.mem_cons, List.not_mem_nil, or_false] at ho; rcases ho with rfl | rfl | rfl | rfl | rfl | rfl | rfl | rfl <;> (cases hd; simp)
      · intro x hx
        simp only [List.mem_cons, List.not_mem_nil, or_false] at hx
        rcases hx with rfl | rfl | rfl | rfl | rfl | rfl | rfl | rfl
        · exact isV_mono _
        · exact isV_mono _
        · exact isV_mono _
        · exact isV_mono _
        · exact isV_mono _
        · exact isV_mono _
        · exact isV_mono _
        · exact isV_mono _
      · intro k o ho a' W hW hoff hdep
        have hbs := hW.size
        have H0 := hoff 0 (by simp)
        have H5 := hoff 5 (by simp)
        have H1 := hoff 1 (by simp)
        simp only [Act.eval] at H0 H5 H1
        simp only [List.take_succ_cons, List.take_zero] at ho hdep
        rcases k with _ | _ | _ | _ | _ | _ | _ | _ | k
        all_goals (first | (simp at ho; done) | skip)
        all_goals simp only [List.getElem?_cons_zero, List.getElem?_cons_succ, Option.some.injEq] at ho
        all_goals subst ho
        · refine ⟨fun h => absurd h (by decide), fun _ => ?_⟩
          unfold opGives
          simp [execOp, Act.eval, H0, go_sem, givesUpon]
          exact ⟨Fr.refl _ _, rfl⟩
        · refine ⟨fun h => absurd h (by decide), fun _ => ?_⟩
          unfold opGives
          simp [execOp, Act.eval, H5, go_sem, givesUpon]
          exact ⟨Fr.refl _ _, rfl⟩
        · have D52 : a'.eval (.tmp 52) = .slice (some ⟨g, off, none⟩) L cap := hdep ⟨0, .data⟩ (by simp) rfl _ 52 rfl rfl
          have D53 : a'.eval (.tmp 53) = .int .i64 j := hdep ⟨1, .data⟩ (by simp) rfl _ 53 rfl rfl
          simp only [Act.eval] at D52 D53
          refine ⟨fun h => absurd h (by decide), fun _ => ?_⟩
          unfold opGives
          simp [execOp, Act.eval, go_sem, givesUpon, *]
          exact ⟨Fr.refl _ _, rfl⟩
        · have D54 : a'.eval (.tmp 54) = .pointer (some ⟨g, off + j * 5, none⟩) := hdep ⟨2, .data⟩ (by simp) rfl _ 54 rfl rfl
          simp only [Act.eval] at D54
          refine ⟨fun h => absurd h (by decide), fun _ => ?_⟩
          unfold opGives
          simp [execOp, Act.eval, D54, go_sem, givesUpon]
          exact ⟨Fr.refl _ _, rfl⟩
        · have D55 : a'.eval (.tmp 55) = .pointer (some ⟨g, off + j * 5 + 3, none⟩) := hdep ⟨3, .data⟩ (by simp) rfl _ 55 rfl rfl
          simp only [Act.eval] at D55
          refine ⟨fun h => absurd h (by decide), fun _ => ?_⟩
          unfold opGives
          simp [execOp, Act.eval, D55, go_sem, givesUpon]
          exact ⟨Fr.refl _ _, rfl⟩
        · have D56 : a'.eval (.tmp 56) = .pointer (some ⟨g, off + j * 5 + 4, none⟩) := hdep ⟨4, .data⟩ (by simp) rfl _ 56 rfl rfl
          simp only [Act.eval] at D56
          refine ⟨fun h => absurd h (by decide), fun _ => ?_⟩
          unfold opGives
          simp [execOp, Act.eval, go_sem, givesUpon, *]
          exact ⟨Fr.refl _ _, rfl⟩
        · refine ⟨fun h => absurd h (by decide), fun _ => ?_⟩
          unfold opGives
          simp [execOp, Act.eval, H1, go_sem, givesUpon]
          exact ⟨Fr.refl _ _, rfl⟩
        · have D58 : a'.eval (.tmp 58) = .int .i64 (n + 1 + 1 + 1 + 1) := hdep ⟨6, .data⟩ (by simp) rfl _ 58 rfl rfl
          simp only [Act.eval] at D58
          refine ⟨fun h => absurd h (by decide), fun _ => ?_⟩
          unfold opGives
          simp [Act.eval, D58, go_sem, givesUpon]
          exact (M4 _ hW).mono fun e w'' h => ⟨_, h.1, h.2, rfl⟩
      intro vs WR hWR hv hne
      have e0 : vs 0 = _ := hv 0 (by omega)
      have e1 : vs 1 = _ := hv 1 (by omega)
      have e2 : vs 2 = _ := hv 2 (by omega)
      have e3 : vs 3 = _ := hv 3 (by omega)
      have e4 : vs 4 = _ := hv 4 (by omega)
      have e5 : vs 5 = _ := hv 5 (by omega)
      have e6 : vs 6 = _ := hv 6 (by omega)
      have e7 : vs 7 = _ := hv 7 (by omega)
      simp only [List.take_succ_cons, List.take_zero, List.drop_succ_cons, List.drop_zero, putsL, if_true, Nat.zero_add, Nat.reduceAdd, e0, e1, e2, e3, e4, e5, e6, e7]
      simp only [Act.put, List.setIfInBounds_toArray, List.set_cons_zero, List.set_cons_succ]
      clear e0 e1 e2 e3 e4 e5 e6 e7 hv
      clear K4 M4 r2 r3
      have hT2 := hT1.trans0 hWR
      go_wp2
      go_roundw
      case rel => exact ⟨j + 1, _, by omega, by go_num, rfl, by have := hn.out; omega, hT2⟩
      case measure => simp [intOf]; omega
    · obtain rfl : j = L := by omega
      go_wp2
      go_ret
      exact .mk (by rw [hn]; rfl) hT
end Go.Proofs.YtoagehacllkchaaGreat
