/- The sizes that the laws count. -/
import Derived.Test.YthdibgikjekneaaGreatSz
namespace Go.Proofs.YthdibgikjekneaaGreat
open Go.RowKit

set_option maxRecDepth 100000 in
set_option maxHeartbeats 2000000 in
theorem szClsS_go (X : Nat → Prop) (v : Value) (xs : List Cls) (left : Int) (w : World) (h : Sl X w 4 (ClsC X w) v xs) (h0 : 0 ≤ left) (h1 : left ≤ 1048576) :
    Calls Tryz.prog 122 #[v, .int .i64 left] w (SzPost (szL szCls xs) left w) := by
  obtain ⟨A, cap, rfl, hcap, hlen⟩ := h.form
  unfold maxLen at hlen
  have hsl := szL_len szCls xs
  have hsum : szL szCls xs = xs.length + sumL szCls xs := rfl
  have hsl := Lib.hid hsl
  have hsum := Lib.hid hsum
  go_enter Tryz.func122, Tryz.ntmps122
  by_cases hl0 : (xs.length : Int) ≤ left
  · go_wp2
    go_loopw [5, 1, 4] (fun i l r wr => ∃ (k : Nat) (n : Int), k ≤ xs.length ∧ i = .int .i64 k ∧ l = .int .i64 n ∧ r = .int .i64 0 ∧ 0 ≤ n ∧ n ≤ 1048576 ∧ Hid (n = left - xs.length - sumL szCls (xs.take k)) ∧ Fr No w wr) (fun i _ _ _ => xs.length - (intOf i).toNat)
    case atStart => exact ⟨0, left - xs.length, Nat.zero_le _, rfl, rfl, rfl, by omega, by omega, by simp [Hid, sumL], Fr.refl _ _⟩
    case round =>
      obtain ⟨k, n, hk, rfl, rfl, rfl, hn0, hn1, hn, hf⟩ := hrel
      by_cases hlt : k < xs.length
      · obtain ⟨b, off, A_fields, c_fields, A_methods, c_methods, rfl, hX, c0, c1, c2, c3, z0, z1, h_fields, h_methods, _, _, _, _⟩ := (h.keep hf (fun _ h => h.elim) (fun _ _ _ h9 => h9.keep hf (fun _ h => h.elim))).cls hlt
        have hR : ClsC X wr [.string xs[k].name, .string xs[k].super, .slice A_fields xs[k].fields.length c_fields, .slice A_methods xs[k].methods.length c_methods] xs[k] := ⟨_, _, rfl, z0, z1, h_fields, h_methods⟩
        clear h
        have H := fun W l (h : Fr No wr W) => szCls_go X xs[k] _ l W (hR.keep h (fun _ h => h.elim))
        clear hR
        clear h_fields
        clear h_methods
        have hst := Lib.hid (sumL_take szCls xs k hlt)
        have hle := Lib.hid (sumL_take_le szCls xs (k + 1))
        generalize xs[k] = x at *
        go_wp2_with (go_at_call 173; refine (H _ _ ?_ ?_ ?_).mono ?_; (focus (exact frc)); omega; omega; rintro e w1 ⟨n1, rfl, hn1', hf1⟩)
        · go_ret
          refine SzPost.mk _ ?_ (by exact frc)
          (first | (left; refine ⟨?_, ?_⟩ <;> ((try unfold Hid at *); (try unfold Hid at *); omega)) | (right; refine ⟨rfl, ?_⟩; ((try unfold Hid at *); (try unfold Hid at *); omega)))
        · go_roundw
          case rel => exact ⟨k + 1, n1, by omega, by go_num, rfl, rfl, by omega, by (simp only [Hid] at *; omega), by (simp only [Hid] at *; omega), by exact frc⟩
          case measure => simp [intOf]; omega
      · clear h
        have hst : Hid (sumL szCls (xs.take k) = sumL szCls xs) := by rw [List.take_of_length_le (by omega)]; exact rfl
        go_wp2
        go_ret
        refine SzPost.mk _ ?_ (by exact frc)
        (first | (left; refine ⟨?_, ?_⟩ <;> ((try unfold Hid at *); (try unfold Hid at *); omega)) | (right; refine ⟨rfl, ?_⟩; ((try unfold Hid at *); (try unfold Hid at *); omega)))
  · go_wp2
    go_ret
    refine SzPost.mk _ ?_ (by exact frc)
    (first | (left; refine ⟨?_, ?_⟩ <;> ((try unfold Hid at *); (try unfold Hid at *); omega)) | (right; refine ⟨rfl, ?_⟩; ((try unfold Hid at *); (try unfold Hid at *); omega)))

def szAsk (x : Ask) : Nat := x.name.size
set_option maxRecDepth 100000 in
set_option maxHeartbeats 2000000 in
theorem szAsk_go (x : Ask) (cs : List Value) (left : Int) (w : World) (h : AskC cs x) (h0 : 0 ≤ left) (h1 : left ≤ 1048576) :
    Calls Tryz.prog 174 #[.agg cs.toArray, .int .i64 left] w (SzPost (szAsk x) left w) := by
  obtain ⟨rfl, hz0⟩ := h
  unfold maxLen at hz0
  go_enter Tryz.func174, Tryz.ntmps174
  go_wp2
  all_goals go_ret
  all_goals refine SzPost.mk _ ?_ (by exact frc)
  all_goals (first | (left; refine ⟨?_, ?_⟩ <;> ((try unfold szAsk at *); (try unfold Hid at *); omega)) | (right; refine ⟨rfl, ?_⟩; ((try unfold szAsk at *); (try unfold Hid at *); omega)))

set_option maxRecDepth 100000 in
set_option maxHeartbeats 2000000 in
theorem szAskS_go (X : Nat → Prop) (v : Value) (xs : List Ask) (left : Int) (w : World) (h : Sl X w 2 AskC v xs) (h0 : 0 ≤ left) (h1 : left ≤ 1048576) :
    Calls Tryz.prog 123 #[v, .int .i64 left] w (SzPost (szL szAsk xs) left w) := by
  obtain ⟨A, cap, rfl, hcap, hlen⟩ := h.form
  unfold maxLen at hlen
  have hsl := szL_len szAsk xs
  have hsum : szL szAsk xs = xs.length + sumL szAsk xs := rfl
  have hsl := Lib.hid hsl
  have hsum := Lib.hid hsum
  go_enter Tryz.func123, Tryz.ntmps123
  by_cases hl0 : (xs.length : Int) ≤ left
  · go_wp2
    go_loopw [5, 1, 4] (fun i l r wr => ∃ (k : Nat) (n : Int), k ≤ xs.length ∧ i = .int .i64 k ∧ l = .int .i64 n ∧ r = .int .i64 0 ∧ 0 ≤ n ∧ n ≤ 1048576 ∧ Hid (n = left - xs.length - sumL szAsk (xs.take k)) ∧ Fr No w wr) (fun i _ _ _ => xs.length - (intOf i).toNat)
    case atStart => exact ⟨0, left - xs.length, Nat.zero_le _, rfl, rfl, rfl, by omega, by omega, by simp [Hid, sumL], Fr.refl _ _⟩
    case round =>
      obtain ⟨k, n, hk, rfl, rfl, rfl, hn0, hn1, hn, hf⟩ := hrel
      by_cases hlt : k < xs.length
      · obtain ⟨b, off, rfl, hX, c0, c1, z0⟩ := (h.keep hf (fun _ h => h.elim) (fun _ _ _ h => h)).ask hlt
        clear h
        have H := fun W l (h : Fr No wr W) => szAsk_go xs[k] _ l W ⟨rfl, z0⟩
        have hst := Lib.hid (sumL_take szAsk xs k hlt)
        have hle := Lib.hid (sumL_take_le szAsk xs (k + 1))
        generalize xs[k] = x at *
        go_wp2_with (go_at_call 174; refine (H _ _ ?_ ?_ ?_).mono ?_; (focus (exact frc)); omega; omega; rintro e w1 ⟨n1, rfl, hn1', hf1⟩)
        · go_ret
          refine SzPost.mk _ ?_ (by exact frc)
          (first | (left; refine ⟨?_, ?_⟩ <;> ((try unfold Hid at *); (try unfold Hid at *); omega)) | (right; refine ⟨rfl, ?_⟩; ((try unfold Hid at *); (try unfold Hid at *); omega)))
        · go_roundw
          case rel => exact ⟨k + 1, n1, by omega, by go_num, rfl, rfl, by omega, by (simp only [Hid] at *; omega), by (simp only [Hid] at *; omega), by exact frc⟩
          case measure => simp [intOf]; omega
      · clear h
        have hst : Hid (sumL szAsk (xs.take k) = sumL szAsk xs) := by rw [List.take_of_length_le (by omega)]; exact rfl
        go_wp2
        go_ret
        refine SzPost.mk _ ?_ (by exact frc)
        (first | (left; refine ⟨?_, ?_⟩ <;> ((try unfold Hid at *); (try unfold Hid at *); omega)) | (right; refine ⟨rfl, ?_⟩; ((try unfold Hid at *); (try unfold Hid at *); omega)))
  · go_wp2
    go_ret
    refine SzPost.mk _ ?_ (by exact frc)
    (first | (left; refine ⟨?_, ?_⟩ <;> ((try unfold Hid at *); (try unfold Hid at *); omega)) | (right; refine ⟨rfl, ?_⟩; ((try unfold Hid at *); (try unfold Hid at *); omega)))

def szKpr (x : Kpr) : Nat := szL szCls x.owns + szL szAsk x.asks
set_option maxRecDepth 100000 in
set_option maxHeartbeats 2000000 in
theorem szKpr_go (X : Nat → Prop) (x : Kpr) (cs : List Value) (left : Int) (w : World) (h : KprC X w cs x) (h0 : 0 ≤ left) (h1 : left ≤ 1048576) :
    Calls Tryz.prog 75 #[.agg cs.toArray, .int .i64 left] w (SzPost (szKpr x) left w) := by
  obtain ⟨v_owns, v_asks, rfl, h_owns, h_asks⟩ := h
  have H_owns := fun W l (h : Fr No w W) => szClsS_go X _ x.owns l W (h_owns.keep h (fun _ h => h.elim) (fun _ _ _ h9 => h9.keep h (fun _ h => h.elim)))
  have H_asks := fun W l (h : Fr No w W) => szAskS_go X _ x.asks l W (h_asks.keep h (fun _ h => h.elim) (fun _ _ _ h => h))
  obtain ⟨A_owns, c_owns, rfl, p_owns, q_owns⟩ := h_owns.form
  obtain ⟨A_asks, c_asks, rfl, p_asks, q_asks⟩ := h_asks.form
  clear h_owns
  clear h_asks
  go_enter Tryz.func75, Tryz.ntmps75
  have hB := Bx.new w 138 #[.slice A_owns x.owns.length c_owns, .slice A_asks x.asks.length c_asks]
  go_wp2_with (first
    | (go_at_call_of 122 (Value.slice A_owns x.owns.length c_owns); refine (H_owns _ _ ?_ ?_ ?_).mono ?_; (focus (exact frc)); omega; omega; rintro e w0 ⟨n0, rfl, hn0, hf0⟩; have hnb0 : n0 ≤ 1048576 := (by have := hn0.out; omega); have hb0 := Bx.keepTo w0 hB (by exact frc); obtain ⟨e0_0, e0_1⟩ := hb0.c2; have hl0 := hb0.lt; have hw0 : Fr No w w0 := (by exact frc))
    | (go_at_call_of 123 (Value.slice A_asks x.asks.length c_asks); refine (H_asks _ _ ?_ ?_ ?_).mono ?_; (focus (exact frc)); omega; omega; rintro e w1 ⟨n1, rfl, hn1, hf1⟩; have hnb1 : n1 ≤ 1048576 := (by have := hn1.out; omega); have hb1 := Bx.keepTo w1 hb0 (by exact frc); obtain ⟨e1_0, e1_1⟩ := hb1.c2; have hl1 := hb1.lt; have hw1 : Fr No w w1 := (by exact frc)))
  all_goals go_ret
  all_goals refine SzPost.mk _ ?_ (by exact frc)
  all_goals (first | (left; refine ⟨?_, ?_⟩ <;> ((try unfold szKpr at *); (try unfold Hid at *); omega)) | (right; refine ⟨rfl, ?_⟩; ((try unfold szKpr at *); (try unfold Hid at *); omega)))

set_option maxRecDepth 100000 in
set_option maxHeartbeats 2000000 in
theorem szKprS_go (X : Nat → Prop) (v : Value) (xs : List Kpr) (left : Int) (w : World) (h : Sl X w 2 (KprC X w) v xs) (h0 : 0 ≤ left) (h1 : left ≤ 1048576) :
    Calls Tryz.prog 36 #[v, .int .i64 left] w (SzPost (szL szKpr xs) left w) := by
  obtain ⟨A, cap, rfl, hcap, hlen⟩ := h.form
  unfold maxLen at hlen
  have hsl := szL_len szKpr xs
  have hsum : szL szKpr xs = xs.length + sumL szKpr xs := rfl
  have hsl := Lib.hid hsl
  have hsum := Lib.hid hsum
  go_enter Tryz.func36, Tryz.ntmps36
  by_cases hl0 : (xs.length : Int) ≤ left
  · go_wp2
    go_loopw [5, 1, 4] (fun i l r wr => ∃ (k : Nat) (n : Int), k ≤ xs.length ∧ i = .int .i64 k ∧ l = .int .i64 n ∧ r = .int .i64 0 ∧ 0 ≤ n ∧ n ≤ 1048576 ∧ Hid (n = left - xs.length - sumL szKpr (xs.take k)) ∧ Fr No w wr) (fun i _ _ _ => xs.length - (intOf i).toNat)
    case atStart => exact ⟨0, left - xs.length, Nat.zero_le _, rfl, rfl, rfl, by omega, by omega, by simp [Hid, sumL], Fr.refl _ _⟩
    case round =>
      obtain ⟨k, n, hk, rfl, rfl, rfl, hn0, hn1, hn, hf⟩ := hrel
      by_cases hlt : k < xs.length
      · obtain ⟨b, off, A_owns, c_owns, A_asks, c_asks, rfl, hX, c0, c1, h_owns, h_asks, _, _, _, _⟩ := (h.keep hf (fun _ h => h.elim) (fun _ _ _ h9 => h9.keep hf (fun _ h => h.elim))).kpr hlt
        have hR : KprC X wr [.slice A_owns xs[k].owns.length c_owns, .slice A_asks xs[k].asks.length c_asks] xs[k] := ⟨_, _, rfl, h_owns, h_asks⟩
        clear h
        have H := fun W l (h : Fr No wr W) => szKpr_go X xs[k] _ l W (hR.keep h (fun _ h => h.elim))
        clear hR
        clear h_owns
        clear h_asks
        have hst := Lib.hid (sumL_take szKpr xs k hlt)
        have hle := Lib.hid (sumL_take_le szKpr xs (k + 1))
        generalize xs[k] = x at *
        go_wp2_with (go_at_call 75; refine (H _ _ ?_ ?_ ?_).mono ?_; (focus (exact frc)); omega; omega; rintro e w1 ⟨n1, rfl, hn1', hf1⟩)
        · go_ret
          refine SzPost.mk _ ?_ (by exact frc)
          (first | (left; refine ⟨?_, ?_⟩ <;> ((try unfold Hid at *); (try unfold Hid at *); omega)) | (right; refine ⟨rfl, ?_⟩; ((try unfold Hid at *); (try unfold Hid at *); omega)))
        · go_roundw
          case rel => exact ⟨k + 1, n1, by omega, by go_num, rfl, rfl, by omega, by (simp only [Hid] at *; omega), by (simp only [Hid] at *; omega), by exact frc⟩
          case measure => simp [intOf]; omega
      · clear h
        have hst : Hid (sumL szKpr (xs.take k) = sumL szKpr xs) := by rw [List.take_of_length_le (by omega)]; exact rfl
        go_wp2
        go_ret
        refine SzPost.mk _ ?_ (by exact frc)
        (first | (left; refine ⟨?_, ?_⟩ <;> ((try unfold Hid at *); (try unfold Hid at *); omega)) | (right; refine ⟨rfl, ?_⟩; ((try unfold Hid at *); (try unfold Hid at *); omega)))
  · go_wp2
    go_ret
    refine SzPost.mk _ ?_ (by exact frc)
    (first | (left; refine ⟨?_, ?_⟩ <;> ((try unfold Hid at *); (try unfold Hid at *); omega)) | (right; refine ⟨rfl, ?_⟩; ((try unfold Hid at *); (try unfold Hid at *); omega)))

def szPlan (x : Plan) : Nat := szL szKpr x.keepers
set_option maxRecDepth 100000 in
set_option maxHeartbeats 2000000 in
theorem szPlan_go (X : Nat → Prop) (x : Plan) (cs : List Value) (left : Int) (w : World) (h : PlanC X w cs x) (h0 : 0 ≤ left) (h1 : left ≤ 1048576) :
    Calls Tryz.prog 8 #[.agg cs.toArray, .int .i64 left] w (SzPost (szPlan x) left w) := by
  obtain ⟨v_keepers, rfl, h_keepers⟩ := h
  have H_keepers := fun W l (h : Fr No w W) => szKprS_go X _ x.keepers l W (h_keepers.keep h (fun _ h => h.elim) (fun _ _ _ h9 => h9.keep h (fun _ h => h.elim)))
  obtain ⟨A_keepers, c_keepers, rfl, p_keepers, q_keepers⟩ := h_keepers.form
  clear h_keepers
  go_enter Tryz.func8, Tryz.ntmps8
  have hB := Bx.new w 24 #[.slice A_keepers x.keepers.length c_keepers]
  go_wp2_with (first
    | (go_at_call_of 36 (Value.slice A_keepers x.keepers.length c_keepers); refine (H_keepers _ _ ?_ ?_ ?_).mono ?_; (focus (exact frc)); omega; omega; rintro e w0 ⟨n0, rfl, hn0, hf0⟩; have hnb0 : n0 ≤ 1048576 := (by have := hn0.out; omega); have hb0 := Bx.keepTo w0 hB (by exact frc); have e0_0 := hb0.c1; have hl0 := hb0.lt; have hw0 : Fr No w w0 := (by exact frc)))
  all_goals go_ret
  all_goals refine SzPost.mk _ ?_ (by exact frc)
  all_goals (first | (left; refine ⟨?_, ?_⟩ <;> ((try unfold szPlan at *); (try unfold Hid at *); omega)) | (right; refine ⟨rfl, ?_⟩; ((try unfold szPlan at *); (try unfold Hid at *); omega)))
end Go.Proofs.YthdibgikjekneaaGreat
