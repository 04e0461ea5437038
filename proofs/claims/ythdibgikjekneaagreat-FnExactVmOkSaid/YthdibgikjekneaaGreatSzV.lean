/- The sizes that the laws count: values, things, runs. -/
import Derived.Test.YthdibgikjekneaaGreatSzL
import Derived.Test.YthdibgikjekneaaGreatToR
import Derived.Test.YthdibgikjekneaaGreatVmd
namespace Go.Proofs.YthdibgikjekneaaGreat
open Go.RowKit

def szVal (_ : Val) : Nat := 0
theorem szL_Val (xs : List Val) : szL szVal xs = xs.length := by
  have h : ∀ ys : List Val, sumL szVal ys = 0 := fun ys => by
    induction ys with
    | nil => rfl
    | cons y ys ih => rw [sumL, ih]; rfl
  unfold szL; rw [h]; rfl
set_option maxRecDepth 100000 in
set_option maxHeartbeats 2000000 in
theorem szValS_go (X : Nat → Prop) (v : Value) (xs : List Val) (left : Int) (w : World) (h : Sl X w 2 ValC v xs) (h0 : 0 ≤ left) (h1 : left ≤ 1048576) :
    Calls Tryz.prog 103 #[v, .int .i64 left] w (SzPost (szL szVal xs) left w) := by
  obtain ⟨A, cap, rfl, hcap, hlen⟩ := h.form
  unfold maxLen at hlen
  rw [szL_Val]
  clear h
  go_enter Tryz.func103, Tryz.ntmps103
  by_cases hl0 : (xs.length : Int) ≤ left
  · go_wp2
    go_ret
    refine SzPost.mk _ ?_ (by exact frc)
    (first | (left; refine ⟨?_, ?_⟩ <;> ((try unfold Hid at *); (try unfold Hid at *); omega)) | (right; refine ⟨rfl, ?_⟩; ((try unfold Hid at *); (try unfold Hid at *); omega)))
  · go_wp2
    go_ret
    refine SzPost.mk _ ?_ (by exact frc)
    (first | (left; refine ⟨?_, ?_⟩ <;> ((try unfold Hid at *); (try unfold Hid at *); omega)) | (right; refine ⟨rfl, ?_⟩; ((try unfold Hid at *); (try unfold Hid at *); omega)))

def szInt (_ : Int) : Nat := 0
theorem szL_Int (xs : List Int) : szL szInt xs = xs.length := by
  have h : ∀ ys : List Int, sumL szInt ys = 0 := fun ys => by
    induction ys with
    | nil => rfl
    | cons y ys ih => rw [sumL, ih]; rfl
  unfold szL; rw [h]; rfl
set_option maxRecDepth 100000 in
set_option maxHeartbeats 2000000 in
theorem szIntS_go (X : Nat → Prop) (v : Value) (xs : List Int) (left : Int) (w : World) (h : Sl X w 1 OutC v xs) (h0 : 0 ≤ left) (h1 : left ≤ 1048576) :
    Calls Tryz.prog 67 #[v, .int .i64 left] w (SzPost (szL szInt xs) left w) := by
  obtain ⟨A, cap, rfl, hcap, hlen⟩ := h.form
  unfold maxLen at hlen
  rw [szL_Int]
  clear h
  go_enter Tryz.func67, Tryz.ntmps67
  by_cases hl0 : (xs.length : Int) ≤ left
  · go_wp2
    go_ret
    refine SzPost.mk _ ?_ (by exact frc)
    (first | (left; refine ⟨?_, ?_⟩ <;> ((try unfold Hid at *); (try unfold Hid at *); omega)) | (right; refine ⟨rfl, ?_⟩; ((try unfold Hid at *); (try unfold Hid at *); omega)))
  · go_wp2
    go_ret
    refine SzPost.mk _ ?_ (by exact frc)
    (first | (left; refine ⟨?_, ?_⟩ <;> ((try unfold Hid at *); (try unfold Hid at *); omega)) | (right; refine ⟨rfl, ?_⟩; ((try unfold Hid at *); (try unfold Hid at *); omega)))

def szLMth (x : LMth) : Nat := szRef x.of_
set_option maxRecDepth 100000 in
set_option maxHeartbeats 2000000 in
theorem szLMth_go (x : LMth) (cs : List Value) (left : Int) (w : World) (h : LMthC cs x) (h0 : 0 ≤ left) (h1 : left ≤ 1048576) :
    Calls Tryz.prog 170 #[.agg cs.toArray, .int .i64 left] w (SzPost (szLMth x) left w) := by
  obtain ⟨rfl, hz0⟩ := h
  unfold maxLen at hz0
  have H_of_ := fun W l (_ : Fr No w W) => szRef_go x.of_ _ l W ⟨rfl, (by unfold maxLen; exact hz0)⟩
  go_enter Tryz.func170, Tryz.ntmps170
  have hB := Bx.new w 194 #[.int .i64 x.of_.keeper, .string x.of_.name, .int .i64 x.at_]
  go_wp2_with (first
    | (go_at_call 9; refine (H_of_ _ _ ?_ ?_ ?_).mono ?_; (focus (exact frc)); omega; omega; rintro e w0 ⟨n0, rfl, hn0, hf0⟩; have hnb0 : n0 ≤ 1048576 := (by have := hn0.out; omega); have hb0 := Bx.keepTo w0 hB (by exact frc); obtain ⟨e0_0, e0_1, e0_2⟩ := hb0.c3; have hl0 := hb0.lt; have hw0 : Fr No w w0 := (by exact frc)))
  all_goals go_ret
  all_goals refine SzPost.mk _ ?_ (by exact frc)
  all_goals (first | (left; refine ⟨?_, ?_⟩ <;> ((try unfold szLMth at *); (try unfold Hid at *); omega)) | (right; refine ⟨rfl, ?_⟩; ((try unfold szLMth at *); (try unfold Hid at *); omega)))

def szFrm (x : Frm) : Nat := szLMth x.of_ + szL szVal x.locals + szL szVal x.stack
set_option maxRecDepth 100000 in
set_option maxHeartbeats 2000000 in
theorem szFrm_go (X : Nat → Prop) (x : Frm) (cs : List Value) (left : Int) (w : World) (h : FrmC X w cs x) (h0 : 0 ≤ left) (h1 : left ≤ 1048576) :
    Calls Tryz.prog 117 #[.agg cs.toArray, .int .i64 left] w (SzPost (szFrm x) left w) := by
  obtain ⟨v_locals, v_stack, rfl, hz0, h_locals, h_stack⟩ := h
  unfold maxLen at hz0
  have H_of_ := fun W l (_ : Fr No w W) => szLMth_go x.of_ _ l W ⟨rfl, (by unfold maxLen; exact hz0)⟩
  have H_locals := fun W l (h : Fr No w W) => szValS_go X _ x.locals l W (h_locals.keep h (fun _ h => h.elim) (fun _ _ _ h => h))
  have H_stack := fun W l (h : Fr No w W) => szValS_go X _ x.stack l W (h_stack.keep h (fun _ h => h.elim) (fun _ _ _ h => h))
  obtain ⟨A_locals, c_locals, rfl, p_locals, q_locals⟩ := h_locals.form
  obtain ⟨A_stack, c_stack, rfl, p_stack, q_stack⟩ := h_stack.form
  clear h_locals
  clear h_stack
  go_enter Tryz.func117, Tryz.ntmps117
  have hB := Bx.new w 196 #[.int .i64 x.of_.of_.keeper, .string x.of_.of_.name, .int .i64 x.of_.at_, .int .i64 x.pc, .slice A_locals x.locals.length c_locals, .slice A_stack x.stack.length c_stack]
  go_wp2_with (first
    | (go_at_call 170; refine (H_of_ _ _ ?_ ?_ ?_).mono ?_; (focus (exact frc)); omega; omega; rintro e w0 ⟨n0, rfl, hn0, hf0⟩; have hnb0 : n0 ≤ 1048576 := (by have := hn0.out; omega); have hb0 := Bx.keepTo w0 hB (by exact frc); obtain ⟨e0_0, e0_1, e0_2, e0_3, e0_4, e0_5⟩ := hb0.c6; have hl0 := hb0.lt; have hw0 : Fr No w w0 := (by exact frc))
    | (go_at_call_of 103 (Value.slice A_locals x.locals.length c_locals); refine (H_locals _ _ ?_ ?_ ?_).mono ?_; (focus (exact frc)); omega; omega; rintro e w1 ⟨n1, rfl, hn1, hf1⟩; have hnb1 : n1 ≤ 1048576 := (by have := hn1.out; omega); have hb1 := Bx.keepTo w1 hb0 (by exact frc); obtain ⟨e1_0, e1_1, e1_2, e1_3, e1_4, e1_5⟩ := hb1.c6; have hl1 := hb1.lt; have hw1 : Fr No w w1 := (by exact frc))
    | (go_at_call_of 103 (Value.slice A_stack x.stack.length c_stack); refine (H_stack _ _ ?_ ?_ ?_).mono ?_; (focus (exact frc)); omega; omega; rintro e w2 ⟨n2, rfl, hn2, hf2⟩; have hnb2 : n2 ≤ 1048576 := (by have := hn2.out; omega); have hb2 := Bx.keepTo w2 hb1 (by exact frc); obtain ⟨e2_0, e2_1, e2_2, e2_3, e2_4, e2_5⟩ := hb2.c6; have hl2 := hb2.lt; have hw2 : Fr No w w2 := (by exact frc)))
  all_goals go_ret
  all_goals refine SzPost.mk _ ?_ (by exact frc)
  all_goals (first | (left; refine ⟨?_, ?_⟩ <;> ((try unfold szFrm at *); (try unfold Hid at *); omega)) | (right; refine ⟨rfl, ?_⟩; ((try unfold szFrm at *); (try unfold Hid at *); omega)))

set_option maxRecDepth 100000 in
set_option maxHeartbeats 2000000 in
theorem szFrmS_go (X : Nat → Prop) (v : Value) (xs : List Frm) (left : Int) (w : World) (h : Sl X w 6 (FrmC X w) v xs) (h0 : 0 ≤ left) (h1 : left ≤ 1048576) :
    Calls Tryz.prog 66 #[v, .int .i64 left] w (SzPost (szL szFrm xs) left w) := by
  obtain ⟨A, cap, rfl, hcap, hlen⟩ := h.form
  unfold maxLen at hlen
  have hsl := szL_len szFrm xs
  have hsum : szL szFrm xs = xs.length + sumL szFrm xs := rfl
  have hsl := Lib.hid hsl
  have hsum := Lib.hid hsum
  go_enter Tryz.func66, Tryz.ntmps66
  by_cases hl0 : (xs.length : Int) ≤ left
  · go_wp2
    go_loopw [5, 1, 4] (fun i l r wr => ∃ (k : Nat) (n : Int), k ≤ xs.length ∧ i = .int .i64 k ∧ l = .int .i64 n ∧ r = .int .i64 0 ∧ 0 ≤ n ∧ n ≤ 1048576 ∧ Hid (n = left - xs.length - sumL szFrm (xs.take k)) ∧ Fr No w wr) (fun i _ _ _ => xs.length - (intOf i).toNat)
    case atStart => exact ⟨0, left - xs.length, Nat.zero_le _, rfl, rfl, rfl, by omega, by omega, by simp [Hid, sumL], Fr.refl _ _⟩
    case round =>
      obtain ⟨k, n, hk, rfl, rfl, rfl, hn0, hn1, hn, hf⟩ := hrel
      by_cases hlt : k < xs.length
      · obtain ⟨b, off, A_locals, c_locals, A_stack, c_stack, rfl, hX, c0, c1, c2, c3, c4, c5, z0, h_locals, h_stack, _, _, _, _⟩ := (h.keep hf (fun _ h => h.elim) (fun _ _ _ h9 => h9.keep hf (fun _ h => h.elim))).frm hlt
        have hR : FrmC X wr [.int .i64 xs[k].of_.of_.keeper, .string xs[k].of_.of_.name, .int .i64 xs[k].of_.at_, .int .i64 xs[k].pc, .slice A_locals xs[k].locals.length c_locals, .slice A_stack xs[k].stack.length c_stack] xs[k] := ⟨_, _, rfl, z0, h_locals, h_stack⟩
        clear h
        have H := fun W l (h : Fr No wr W) => szFrm_go X xs[k] _ l W (hR.keep h (fun _ h => h.elim))
        clear hR
        clear h_locals
        clear h_stack
        have hst := Lib.hid (sumL_take szFrm xs k hlt)
        have hle := Lib.hid (sumL_take_le szFrm xs (k + 1))
        generalize xs[k] = x at *
        go_wp2_with (go_at_call 117; refine (H _ _ ?_ ?_ ?_).mono ?_; (focus (exact frc)); omega; omega; rintro e w1 ⟨n1, rfl, hn1', hf1⟩)
        · go_ret
          refine SzPost.mk _ ?_ (by exact frc)
          (first | (left; refine ⟨?_, ?_⟩ <;> ((try unfold Hid at *); (try unfold Hid at *); omega)) | (right; refine ⟨rfl, ?_⟩; ((try unfold Hid at *); (try unfold Hid at *); omega)))
        · go_roundw
          case rel => exact ⟨k + 1, n1, by omega, by go_num, rfl, rfl, by omega, by (simp only [Hid] at *; omega), by (simp only [Hid] at *; omega), by exact frc⟩
          case measure => simp [intOf]; omega
      · clear h
        have hst : Hid (sumL szFrm (xs.take k) = sumL szFrm xs) := by rw [List.take_of_length_le (by omega)]; exact rfl
        go_wp2
        go_ret
        refine SzPost.mk _ ?_ (by exact frc)
        (first | (left; refine ⟨?_, ?_⟩ <;> ((try unfold Hid at *); (try unfold Hid at *); omega)) | (right; refine ⟨rfl, ?_⟩; ((try unfold Hid at *); (try unfold Hid at *); omega)))
  · go_wp2
    go_ret
    refine SzPost.mk _ ?_ (by exact frc)
    (first | (left; refine ⟨?_, ?_⟩ <;> ((try unfold Hid at *); (try unfold Hid at *); omega)) | (right; refine ⟨rfl, ?_⟩; ((try unfold Hid at *); (try unfold Hid at *); omega)))

def szObj (x : Obj) : Nat := szRef x.of_ + szL szVal x.fields
set_option maxRecDepth 100000 in
set_option maxHeartbeats 2000000 in
theorem szObj_go (X : Nat → Prop) (x : Obj) (cs : List Value) (left : Int) (w : World) (h : ObjC X w cs x) (h0 : 0 ≤ left) (h1 : left ≤ 1048576) :
    Calls Tryz.prog 54 #[.agg cs.toArray, .int .i64 left] w (SzPost (szObj x) left w) := by
  obtain ⟨v_fields, rfl, hz0, h_fields⟩ := h
  unfold maxLen at hz0
  have H_of_ := fun W l (_ : Fr No w W) => szRef_go x.of_ _ l W ⟨rfl, (by unfold maxLen; exact hz0)⟩
  have H_fields := fun W l (h : Fr No w W) => szValS_go X _ x.fields l W (h_fields.keep h (fun _ h => h.elim) (fun _ _ _ h => h))
  obtain ⟨A_fields, c_fields, rfl, p_fields, q_fields⟩ := h_fields.form
  clear h_fields
  go_enter Tryz.func54, Tryz.ntmps54
  have hB := Bx.new w 110 #[.int .i64 x.of_.keeper, .string x.of_.name, .slice A_fields x.fields.length c_fields]
  go_wp2_with (first
    | (go_at_call 9; refine (H_of_ _ _ ?_ ?_ ?_).mono ?_; (focus (exact frc)); omega; omega; rintro e w0 ⟨n0, rfl, hn0, hf0⟩; have hnb0 : n0 ≤ 1048576 := (by have := hn0.out; omega); have hb0 := Bx.keepTo w0 hB (by exact frc); obtain ⟨e0_0, e0_1, e0_2⟩ := hb0.c3; have hl0 := hb0.lt; have hw0 : Fr No w w0 := (by exact frc))
    | (go_at_call_of 103 (Value.slice A_fields x.fields.length c_fields); refine (H_fields _ _ ?_ ?_ ?_).mono ?_; (focus (exact frc)); omega; omega; rintro e w1 ⟨n1, rfl, hn1, hf1⟩; have hnb1 : n1 ≤ 1048576 := (by have := hn1.out; omega); have hb1 := Bx.keepTo w1 hb0 (by exact frc); obtain ⟨e1_0, e1_1, e1_2⟩ := hb1.c3; have hl1 := hb1.lt; have hw1 : Fr No w w1 := (by exact frc)))
  all_goals go_ret
  all_goals refine SzPost.mk _ ?_ (by exact frc)
  all_goals (first | (left; refine ⟨?_, ?_⟩ <;> ((try unfold szObj at *); (try unfold Hid at *); omega)) | (right; refine ⟨rfl, ?_⟩; ((try unfold szObj at *); (try unfold Hid at *); omega)))

set_option maxRecDepth 100000 in
set_option maxHeartbeats 2000000 in
theorem szObjS_go (X : Nat → Prop) (v : Value) (xs : List Obj) (left : Int) (w : World) (h : Sl X w 3 (ObjC X w) v xs) (h0 : 0 ≤ left) (h1 : left ≤ 1048576) :
    Calls Tryz.prog 23 #[v, .int .i64 left] w (SzPost (szL szObj xs) left w) := by
  obtain ⟨A, cap, rfl, hcap, hlen⟩ := h.form
  unfold maxLen at hlen
  have hsl := szL_len szObj xs
  have hsum : szL szObj xs = xs.length + sumL szObj xs := rfl
  have hsl := Lib.hid hsl
  have hsum := Lib.hid hsum
  go_enter Tryz.func23, Tryz.ntmps23
  by_cases hl0 : (xs.length : Int) ≤ left
  · go_wp2
    go_loopw [5, 1, 4] (fun i l r wr => ∃ (k : Nat) (n : Int), k ≤ xs.length ∧ i = .int .i64 k ∧ l = .int .i64 n ∧ r = .int .i64 0 ∧ 0 ≤ n ∧ n ≤ 1048576 ∧ Hid (n = left - xs.length - sumL szObj (xs.take k)) ∧ Fr No w wr) (fun i _ _ _ => xs.length - (intOf i).toNat)
    case atStart => exact ⟨0, left - xs.length, Nat.zero_le _, rfl, rfl, rfl, by omega, by omega, by simp [Hid, sumL], Fr.refl _ _⟩
    case round =>
      obtain ⟨k, n, hk, rfl, rfl, rfl, hn0, hn1, hn, hf⟩ := hrel
      by_cases hlt : k < xs.length
      · obtain ⟨b, off, A_fields, c_fields, rfl, hX, c0, c1, c2, z0, h_fields, _, _⟩ := (h.keep hf (fun _ h => h.elim) (fun _ _ _ h9 => h9.keep hf (fun _ h => h.elim))).obj hlt
        have hR : ObjC X wr [.int .i64 xs[k].of_.keeper, .string xs[k].of_.name, .slice A_fields xs[k].fields.length c_fields] xs[k] := ⟨_, rfl, z0, h_fields⟩
        clear h
        have H := fun W l (h : Fr No wr W) => szObj_go X xs[k] _ l W (hR.keep h (fun _ h => h.elim))
        clear hR
        clear h_fields
        have hst := Lib.hid (sumL_take szObj xs k hlt)
        have hle := Lib.hid (sumL_take_le szObj xs (k + 1))
        generalize xs[k] = x at *
        go_wp2_with (go_at_call 54; refine (H _ _ ?_ ?_ ?_).mono ?_; (focus (exact frc)); omega; omega; rintro e w1 ⟨n1, rfl, hn1', hf1⟩)
        · go_ret
          refine SzPost.mk _ ?_ (by exact frc)
          (first | (left; refine ⟨?_, ?_⟩ <;> ((try unfold Hid at *); (try unfold Hid at *); omega)) | (right; refine ⟨rfl, ?_⟩; ((try unfold Hid at *); (try unfold Hid at *); omega)))
        · go_roundw
          case rel => exact ⟨k + 1, n1, by omega, by go_num, rfl, rfl, by omega, by (simp only [Hid] at *; omega), by (simp only [Hid] at *; omega), by exact frc⟩
          case measure => simp [intOf]; omega
      · clear h
        have hst : Hid (sumL szObj (xs.take k) = sumL szObj xs) := by rw [List.take_of_length_le (by omega)]; exact rfl
        go_wp2
        go_ret
        refine SzPost.mk _ ?_ (by exact frc)
        (first | (left; refine ⟨?_, ?_⟩ <;> ((try unfold Hid at *); (try unfold Hid at *); omega)) | (right; refine ⟨rfl, ?_⟩; ((try unfold Hid at *); (try unfold Hid at *); omega)))
  · go_wp2
    go_ret
    refine SzPost.mk _ ?_ (by exact frc)
    (first | (left; refine ⟨?_, ?_⟩ <;> ((try unfold Hid at *); (try unfold Hid at *); omega)) | (right; refine ⟨rfl, ?_⟩; ((try unfold Hid at *); (try unfold Hid at *); omega)))

def szSt (x : St) : Nat := szL szFrm x.frames + szL szObj x.heap + szL szInt x.outs
set_option maxRecDepth 100000 in
set_option maxHeartbeats 2000000 in
theorem szSt_go (X : Nat → Prop) (x : St) (cs : List Value) (left : Int) (w : World) (h : StC X w cs x) (h0 : 0 ≤ left) (h1 : left ≤ 1048576) :
    Calls Tryz.prog 31 #[.agg cs.toArray, .int .i64 left] w (SzPost (szSt x) left w) := by
  obtain ⟨v_frames, v_heap, v_outs, rfl, h_frames, h_heap, h_outs⟩ := h
  have H_frames := fun W l (h : Fr No w W) => szFrmS_go X _ x.frames l W (h_frames.keep h (fun _ h => h.elim) (fun _ _ _ h9 => h9.keep h (fun _ h => h.elim)))
  have H_heap := fun W l (h : Fr No w W) => szObjS_go X _ x.heap l W (h_heap.keep h (fun _ h => h.elim) (fun _ _ _ h9 => h9.keep h (fun _ h => h.elim)))
  have H_outs := fun W l (h : Fr No w W) => szIntS_go X _ x.outs l W (h_outs.keep h (fun _ h => h.elim) (fun _ _ _ h => h))
  obtain ⟨A_frames, c_frames, rfl, p_frames, q_frames⟩ := h_frames.form
  obtain ⟨A_heap, c_heap, rfl, p_heap, q_heap⟩ := h_heap.form
  obtain ⟨A_outs, c_outs, rfl, p_outs, q_outs⟩ := h_outs.form
  clear h_frames
  clear h_heap
  clear h_outs
  go_enter Tryz.func31, Tryz.ntmps31
  have hB := Bx.new w 66 #[.int .i64 x.status, .slice A_frames x.frames.length c_frames, .slice A_heap x.heap.length c_heap, .slice A_outs x.outs.length c_outs, .int .i64 x.back.kind, .int .i64 x.back.n]
  go_wp2_with (first
    | (go_at_call_of 66 (Value.slice A_frames x.frames.length c_frames); refine (H_frames _ _ ?_ ?_ ?_).mono ?_; (focus (exact frc)); omega; omega; rintro e w0 ⟨n0, rfl, hn0, hf0⟩; have hnb0 : n0 ≤ 1048576 := (by have := hn0.out; omega); have hb0 := Bx.keepTo w0 hB (by exact frc); obtain ⟨e0_0, e0_1, e0_2, e0_3, e0_4, e0_5⟩ := hb0.c6; have hl0 := hb0.lt; have hw0 : Fr No w w0 := (by exact frc))
    | (go_at_call_of 23 (Value.slice A_heap x.heap.length c_heap); refine (H_heap _ _ ?_ ?_ ?_).mono ?_; (focus (exact frc)); omega; omega; rintro e w1 ⟨n1, rfl, hn1, hf1⟩; have hnb1 : n1 ≤ 1048576 := (by have := hn1.out; omega); have hb1 := Bx.keepTo w1 hb0 (by exact frc); obtain ⟨e1_0, e1_1, e1_2, e1_3, e1_4, e1_5⟩ := hb1.c6; have hl1 := hb1.lt; have hw1 : Fr No w w1 := (by exact frc))
    | (go_at_call_of 67 (Value.slice A_outs x.outs.length c_outs); refine (H_outs _ _ ?_ ?_ ?_).mono ?_; (focus (exact frc)); omega; omega; rintro e w2 ⟨n2, rfl, hn2, hf2⟩; have hnb2 : n2 ≤ 1048576 := (by have := hn2.out; omega); have hb2 := Bx.keepTo w2 hb1 (by exact frc); obtain ⟨e2_0, e2_1, e2_2, e2_3, e2_4, e2_5⟩ := hb2.c6; have hl2 := hb2.lt; have hw2 : Fr No w w2 := (by exact frc)))
  all_goals go_ret
  all_goals refine SzPost.mk _ ?_ (by exact frc)
  all_goals (first | (left; refine ⟨?_, ?_⟩ <;> ((try unfold szSt at *); (try unfold Hid at *); omega)) | (right; refine ⟨rfl, ?_⟩; ((try unfold szSt at *); (try unfold Hid at *); omega)))

end Go.Proofs.YthdibgikjekneaaGreat

/- The laws' own copies of values, things, runs: new memory that reads as the same data. -/
namespace Go.Proofs.YthdibgikjekneaaGreat
open Go.RowKit

set_option maxRecDepth 100000 in
set_option maxHeartbeats 2000000 in
theorem toLMth_go (x : LMth) (cs : List Value) (w : World) (h : LMthC cs x) :
    Calls Tryz.prog 171 #[.agg cs.toArray] w (Gives (.agg cs.toArray) w) := by
  obtain ⟨rfl, z0⟩ := h
  have H_of_ := fun W (_ : Fr No w W) => toRef_go x.of_ _ W ⟨rfl, (by assumption)⟩
  go_enter Tryz.func171, Tryz.ntmps171
  go_wp2_with fail
  refine (H_of_ _ ?_).mono ?_
  · exact frc
  rintro e w1 ⟨rfl, hf1⟩
  have hb1 : Bx w1 w.heap.size 194 #[.int .i64 x.of_.keeper, .string x.of_.name, .int .i64 x.at_] := Bx.keepTo w1 (by exact bxc) hf1
  have hr1 : Bx w1 (w.heap.size + 1) 98 #[.int .i64 0, .string ⟨#[]⟩, .int .i64 0] := Bx.keepTo w1 (by exact bxc) hf1
  have ho1 : Bx w1 (w.heap.size + 1 + 1) 98 #[.int .i64 0, .string ⟨#[]⟩, .int .i64 0] := Bx.keepTo w1 (by exact bxc) hf1
  obtain ⟨a1_0, a1_1, a1_2⟩ := hb1.c3
  obtain ⟨b1_0, b1_1, b1_2⟩ := hr1.c3
  obtain ⟨c1_0, c1_1, c1_2⟩ := ho1.c3
  have fr1 := fun j => hr1.frozen j
  have fo1 := fun j => ho1.frozen j
  go_wp2
  refine bodyPost_ret (v := .agg #[.int .i64 x.of_.keeper, .string x.of_.name, .int .i64 x.at_]) (by simp [results, Tryz.results171, go_sem, *]) rfl ?_
  exact .mk rfl (by exact frc)

set_option maxRecDepth 100000 in
set_option maxHeartbeats 2000000 in
theorem toVal_go (x : Val) (cs : List Value) (w : World) (h : ValC cs x) :
    Calls Tryz.prog 27 #[.agg cs.toArray] w (Gives (.agg cs.toArray) w) := by
  obtain rfl := h
  go_enter Tryz.func27, Tryz.ntmps27
  go_wp2
  refine bodyPost_ret (v := .agg #[.int .i64 x.kind, .int .i64 x.n]) (by simp [results, Tryz.results27, go_sem]) rfl ?_
  exact .mk rfl (by exact frc)

theorem info_Val : (Tryz.prog.info? 57).map (fun i => (i.zero, i.size, i.bytes)) = some (some (.agg #[.int .i64 0, .int .i64 0]), 2, 16) := by kernel_rfl
set_option maxRecDepth 100000 in
set_option maxHeartbeats 2000000 in
theorem toValS_go (X : Nat → Prop) (v : Value) (xs : List Val) (w : World) (h : Sl X w 2 ValC v xs) (hs : szL szVal xs ≤ 1048576) :
    Calls Tryz.prog 109 #[v] w (ToSPost 2 (fun _ _ => ValC) xs w) := by
  have hlen : xs.length ≤ 1048576 := by have := szL_len szVal xs; omega
  obtain ⟨A, cap, rfl, _, _⟩ := h.form
  have hmk := fun W => run_make_n 115 57 _ _ _ Tryz.underlying115 info_Val xs.length (by omega) (by omega) W
  go_enter Tryz.func109, Tryz.ntmps109
  go_wp2
  have hF0 : Fill (w.alloc (.cells (madeCells #[.int .i64 0, .int .i64 0] (xs.length * 2)) 57)) w.heap.size 57 2 xs.length 0 ValC xs := Fill.start (Bx.new _ _ _) (size_madeCells _ _)
  clear hmk
  go_loopw [4] (fun i wr => ∃ k : Nat, k ≤ xs.length ∧ i = .int .i64 k ∧ Fill wr w.heap.size 57 2 xs.length k ValC xs ∧ Fr No w wr) (fun i _ => xs.length - (intOf i).toNat)
  case atStart => exact ⟨0, Nat.zero_le _, rfl, hF0, by exact frc⟩
  case round =>
    clear hF0
    obtain ⟨k, hk, rfl, hF, hf⟩ := hrel
    by_cases hlt : k < xs.length
    · obtain ⟨b, off, rfl, hX, c0, c1⟩ := (h.keep hf (fun _ h => h.elim) (fun _ _ _ h => h)).val hlt
      have H := fun W => toVal_go xs[k] _ W rfl
      clear h
      go_wp2_with fail
      refine (H _).mono ?_
      rintro e w1 ⟨rfl, hf1⟩
      have hF1 := hF.keep hf1 (fun h => h) (fun _ _ _ h => h)
      obtain ⟨o0, ho0⟩ := hF1.cell? (o := k * 2) (by omega)
      obtain ⟨o1, ho1⟩ := hF1.cell? (o := k * 2 + 1) (by omega)
      have hfz := fun o => hF1.frozen o
      clear c0 c1 H hF
      have hF1 := Lib.hid hF1
      go_wp2
      go_roundw
      case rel => exact ⟨k + 1, by omega, by go_num, hF1.out.step (cs := [.int .i64 xs[k].kind, .int .i64 xs[k].n]) hlt hlt rfl rfl, by exact frc⟩
      case measure => simp [intOf]; omega
    · have he : k = xs.length := by omega
      subst he
      clear h
      have hF := Lib.hid hF
      go_wp2
      go_ret
      have hF := hF.out
      exact ⟨_, rfl, hF.done (X := fun b => b < w.heap.size) (by omega) (by unfold maxLen; omega), by exact frc⟩

set_option maxRecDepth 100000 in
set_option maxHeartbeats 2000000 in
theorem toFrm_go (X : Nat → Prop) (x : Frm) (cs : List Value) (w : World) (h : FrmC X w cs x) (hs : szFrm x ≤ 1048576) :
    Calls Tryz.prog 119 #[.agg cs.toArray] w (ToPost FrmC x w) := by
  obtain ⟨v_locals, v_stack, rfl, z0, h_locals, h_stack⟩ := h
  unfold szFrm at hs
  have H_of_ := fun W (_ : Fr No w W) => toLMth_go x.of_ _ W ⟨rfl, (by assumption)⟩
  have H_locals := fun W (h : Fr No w W) => toValS_go X _ x.locals W (h_locals.keep h (fun _ h => h.elim) (fun _ _ _ h => h)) (by omega)
  have H_stack := fun W (h : Fr No w W) => toValS_go X _ x.stack W (h_stack.keep h (fun _ h => h.elim) (fun _ _ _ h => h)) (by omega)
  obtain ⟨A_locals, c_locals, rfl, _, _⟩ := h_locals.form
  clear h_locals
  obtain ⟨A_stack, c_stack, rfl, _, _⟩ := h_stack.form
  clear h_stack
  clear hs
  go_enter Tryz.func119, Tryz.ntmps119
  go_wp2_with fail
  refine (H_of_ _ ?_).mono ?_
  · exact frc
  rintro e w1 ⟨rfl, hf1⟩
  have hb1 : Bx w1 w.heap.size 196 #[.int .i64 x.of_.of_.keeper, .string x.of_.of_.name, .int .i64 x.of_.at_, .int .i64 x.pc, .slice A_locals x.locals.length c_locals, .slice A_stack x.stack.length c_stack] := Bx.keepTo w1 (by exact bxc) hf1
  have hr1 : Bx w1 (w.heap.size + 1) 127 #[.int .i64 0, .string ⟨#[]⟩, .int .i64 0, .int .i64 0, .slice none 0 0, .slice none 0 0] := Bx.keepTo w1 (by exact bxc) hf1
  have ho1 : Bx w1 (w.heap.size + 1 + 1) 127 #[.int .i64 0, .string ⟨#[]⟩, .int .i64 0, .int .i64 0, .slice none 0 0, .slice none 0 0] := Bx.keepTo w1 (by exact bxc) hf1
  obtain ⟨a1_0, a1_1, a1_2, a1_3, a1_4, a1_5⟩ := hb1.c6
  obtain ⟨b1_0, b1_1, b1_2, b1_3, b1_4, b1_5⟩ := hr1.c6
  obtain ⟨c1_0, c1_1, c1_2, c1_3, c1_4, c1_5⟩ := ho1.c6
  have fr1 := fun j => hr1.frozen j
  have fo1 := fun j => ho1.frozen j
  go_wp2_with fail
  refine (H_locals _ ?_).mono ?_
  · exact frc
  rintro e w2 ⟨v2, rfl, s_locals, hf2⟩
  obtain ⟨B_locals, d_locals, rfl, _, _⟩ := s_locals.form
  have hlo := ho1.lt
  have t_locals := s_locals.weaken (Y := fun b => b < w.heap.size + 3) (fun b (hb : b < w.heap.size + 3) => Nat.lt_of_lt_of_le hb (by first | (simp; done) | (simp; omega))) (fun _ _ _ h => h)
  clear s_locals hlo
  have hb2 : Bx w2 w.heap.size 196 #[.int .i64 x.of_.of_.keeper, .string x.of_.of_.name, .int .i64 x.of_.at_, .int .i64 x.pc, .slice A_locals x.locals.length c_locals, .slice A_stack x.stack.length c_stack] := Bx.keepTo w2 (by exact bxc) hf2
  have hr2 : Bx w2 (w.heap.size + 1) 127 #[.int .i64 0, .string ⟨#[]⟩, .int .i64 0, .int .i64 0, .slice none 0 0, .slice none 0 0] := Bx.keepTo w2 (by exact bxc) hf2
  have ho2 : Bx w2 (w.heap.size + 1 + 1) 127 #[.int .i64 x.of_.of_.keeper, .string x.of_.of_.name, .int .i64 x.of_.at_, .int .i64 x.pc, .slice none 0 0, .slice none 0 0] := Bx.keepTo w2 (by exact bxc) hf2
  clear a1_0 a1_1 a1_2 a1_3 a1_4 a1_5 b1_0 b1_1 b1_2 b1_3 b1_4 b1_5 c1_0 c1_1 c1_2 c1_3 c1_4 c1_5 fr1 fo1 hb1 hr1 ho1
  obtain ⟨a2_0, a2_1, a2_2, a2_3, a2_4, a2_5⟩ := hb2.c6
  obtain ⟨b2_0, b2_1, b2_2, b2_3, b2_4, b2_5⟩ := hr2.c6
  obtain ⟨c2_0, c2_1, c2_2, c2_3, c2_4, c2_5⟩ := ho2.c6
  have fr2 := fun j => hr2.frozen j
  have fo2 := fun j => ho2.frozen j
  go_wp2_with fail
  refine (H_stack _ ?_).mono ?_
  · exact frc
  rintro e w3 ⟨v3, rfl, s_stack, hf3⟩
  obtain ⟨B_stack, d_stack, rfl, _, _⟩ := s_stack.form
  have hlo := ho2.lt
  have t_stack := s_stack.weaken (Y := fun b => b < w.heap.size + 3) (fun b (hb : b < w.heap.size + 3) => Nat.lt_of_lt_of_le hb (by first | (simp; done) | (simp; omega))) (fun _ _ _ h => h)
  clear s_stack hlo
  have hb3 : Bx w3 w.heap.size 196 #[.int .i64 x.of_.of_.keeper, .string x.of_.of_.name, .int .i64 x.of_.at_, .int .i64 x.pc, .slice A_locals x.locals.length c_locals, .slice A_stack x.stack.length c_stack] := Bx.keepTo w3 (by exact bxc) hf3
  have hr3 : Bx w3 (w.heap.size + 1) 127 #[.int .i64 0, .string ⟨#[]⟩, .int .i64 0, .int .i64 0, .slice none 0 0, .slice none 0 0] := Bx.keepTo w3 (by exact bxc) hf3
  have ho3 : Bx w3 (w.heap.size + 1 + 1) 127 #[.int .i64 x.of_.of_.keeper, .string x.of_.of_.name, .int .i64 x.of_.at_, .int .i64 x.pc, .slice B_locals x.locals.length d_locals, .slice none 0 0] := Bx.keepTo w3 (by exact bxc) hf3
  clear a2_0 a2_1 a2_2 a2_3 a2_4 a2_5 b2_0 b2_1 b2_2 b2_3 b2_4 b2_5 c2_0 c2_1 c2_2 c2_3 c2_4 c2_5 fr2 fo2 hb2 hr2 ho2
  obtain ⟨a3_0, a3_1, a3_2, a3_3, a3_4, a3_5⟩ := hb3.c6
  obtain ⟨b3_0, b3_1, b3_2, b3_3, b3_4, b3_5⟩ := hr3.c6
  obtain ⟨c3_0, c3_1, c3_2, c3_3, c3_4, c3_5⟩ := ho3.c6
  have fr3 := fun j => hr3.frozen j
  have fo3 := fun j => ho3.frozen j
  go_wp2
  refine bodyPost_ret (v := .agg #[.int .i64 x.of_.of_.keeper, .string x.of_.of_.name, .int .i64 x.of_.at_, .int .i64 x.pc, .slice B_locals x.locals.length d_locals, .slice B_stack x.stack.length d_stack]) (by simp [results, Tryz.results119, go_sem, *]) rfl ?_
  refine ⟨_, rfl, ⟨_, _, rfl, z0, ?_, ?_⟩, by exact frc⟩
  · exact (t_locals.keep (Y := fun b => b < w.heap.size + 3) (by exact frx) (fun _ h => h) (fun _ _ _ h => h)).weaken (fun b hb => Nat.lt_add_right 3 hb) (fun _ _ _ h => h)
  · exact (t_stack.keep (Y := fun b => b < w.heap.size + 3) (by exact frx) (fun _ h => h) (fun _ _ _ h => h)).weaken (fun b hb => Nat.lt_add_right 3 hb) (fun _ _ _ h => h)

theorem info_Frm : (Tryz.prog.info? 127).map (fun i => (i.zero, i.size, i.bytes)) = some (some (.agg #[.int .i64 0, .string ⟨#[]⟩, .int .i64 0, .int .i64 0, .slice none 0 0, .slice none 0 0]), 6, 88) := by kernel_rfl
set_option maxRecDepth 100000 in
set_option maxHeartbeats 2000000 in
theorem toFrmS_go (X : Nat → Prop) (v : Value) (xs : List Frm) (w : World) (h : Sl X w 6 (FrmC X w) v xs) (hs : szL szFrm xs ≤ 1048576) :
    Calls Tryz.prog 69 #[v] w (ToSPost 6 FrmC xs w) := by
  have hlen : xs.length ≤ 1048576 := by have := szL_len szFrm xs; omega
  obtain ⟨A, cap, rfl, _, _⟩ := h.form
  have hmk := fun W => run_make_n 69 127 _ _ _ Tryz.underlying69 info_Frm xs.length (by omega) (by omega) W
  go_enter Tryz.func69, Tryz.ntmps69
  go_wp2
  have hF0 : Fill (w.alloc (.cells (madeCells #[.int .i64 0, .string ⟨#[]⟩, .int .i64 0, .int .i64 0, .slice none 0 0, .slice none 0 0] (xs.length * 6)) 127)) w.heap.size 127 6 xs.length 0 (FrmC (fun b => b < w.heap.size + 1) (w.alloc (.cells (madeCells #[.int .i64 0, .string ⟨#[]⟩, .int .i64 0, .int .i64 0, .slice none 0 0, .slice none 0 0] (xs.length * 6)) 127))) xs := Fill.start (Bx.new _ _ _) (size_madeCells _ _)
  clear hmk
  go_loopw [4] (fun i wr => ∃ k : Nat, k ≤ xs.length ∧ i = .int .i64 k ∧ Fill wr w.heap.size 127 6 xs.length k (FrmC (fun b => b < w.heap.size + 1) wr) xs ∧ Fr No w wr) (fun i _ => xs.length - (intOf i).toNat)
  case atStart => exact ⟨0, Nat.zero_le _, rfl, hF0, by exact frc⟩
  case round =>
    clear hF0
    obtain ⟨k, hk, rfl, hF, hf⟩ := hrel
    by_cases hlt : k < xs.length
    · obtain ⟨b, off, A_locals, c_locals, A_stack, c_stack, rfl, hX, c0, c1, c2, c3, c4, c5, z0, h_locals, h_stack, _, _, _, _⟩ := (h.keep hf (fun _ h => h.elim) (fun _ _ _ h9 => h9.keep hf (fun _ h => h.elim))).frm hlt
      have H := toFrm_go X xs[k] _ wr (show FrmC X wr [.int .i64 xs[k].of_.of_.keeper, .string xs[k].of_.of_.name, .int .i64 xs[k].of_.at_, .int .i64 xs[k].pc, .slice A_locals xs[k].locals.length c_locals, .slice A_stack xs[k].stack.length c_stack] xs[k] from ⟨_, _, rfl, z0, h_locals, h_stack⟩) (by have := szL_mem szFrm xs k hlt; omega)
      clear h
      go_wp2_with fail
      refine H.mono ?_
      rintro e w1 ⟨cs1, rfl, ⟨u_locals, u_stack, rfl, y0, g_locals, g_stack⟩, hf1⟩
      obtain ⟨B_locals, d_locals, rfl, _, _⟩ := g_locals.form
      obtain ⟨B_stack, d_stack, rfl, _, _⟩ := g_stack.form
      have hF1 := hF.keep hf1 (fun h => h) (fun _ _ _ h => h.keep hf1 (fun _ h => h.elim))
      have hgl : ∀ b, b < w.heap.size + 1 → b < wr.heap.size := fun b hb => by have := hF.lt; omega
      have hR1 : FrmC (fun b => b < w.heap.size + 1) w1 [.int .i64 xs[k].of_.of_.keeper, .string xs[k].of_.of_.name, .int .i64 xs[k].of_.at_, .int .i64 xs[k].pc, .slice B_locals xs[k].locals.length d_locals, .slice B_stack xs[k].stack.length d_stack] xs[k] := (show FrmC (fun b => b < wr.heap.size) w1 [.int .i64 xs[k].of_.of_.keeper, .string xs[k].of_.of_.name, .int .i64 xs[k].of_.at_, .int .i64 xs[k].pc, .slice B_locals xs[k].locals.length d_locals, .slice B_stack xs[k].stack.length d_stack] xs[k] from ⟨_, _, rfl, y0, g_locals, g_stack⟩).weaken hgl
      obtain ⟨o0, ho0⟩ := hF1.cell? (o := k * 6) (by omega)
      obtain ⟨o1, ho1⟩ := hF1.cell? (o := k * 6 + 1) (by omega)
      obtain ⟨o2, ho2⟩ := hF1.cell? (o := k * 6 + 2) (by omega)
      obtain ⟨o3, ho3⟩ := hF1.cell? (o := k * 6 + 3) (by omega)
      obtain ⟨o4, ho4⟩ := hF1.cell? (o := k * 6 + 4) (by omega)
      obtain ⟨o5, ho5⟩ := hF1.cell? (o := k * 6 + 5) (by omega)
      have hfz := fun o => hF1.frozen o
      clear c0 c1 c2 c3 c4 c5 H hF
      have hF1 := Lib.hid hF1
      go_wp2
      go_roundw
      case rel => exact ⟨k + 1, by omega, by go_num, (hF1.out.step (cs := [.int .i64 xs[k].of_.of_.keeper, .string xs[k].of_.of_.name, .int .i64 xs[k].of_.at_, .int .i64 xs[k].pc, .slice B_locals xs[k].locals.length d_locals, .slice B_stack xs[k].stack.length d_stack]) hlt hlt hR1 rfl).keep (Fr.refl No _) (fun h => h) (fun _ _ _ h => h.keep (Y := fun b => b < w.heap.size + 1) (by exact frx) (fun _ h => h)), by exact frc⟩
      case measure => simp [intOf]; omega
    · have he : k = xs.length := by omega
      subst he
      clear h
      have hF := Lib.hid hF
      go_wp2
      go_ret
      have hF := hF.out
      exact ⟨_, rfl, (hF.done (X := fun b => b < w.heap.size) (by omega) (by unfold maxLen; omega)).weaken (fun _ h => h) (fun _ _ _ h => h.weaken (fun b hb => Nat.lt_add_right 1 hb)), by exact frc⟩

set_option maxRecDepth 100000 in
set_option maxHeartbeats 2000000 in
theorem toObj_go (X : Nat → Prop) (x : Obj) (cs : List Value) (w : World) (h : ObjC X w cs x) (hs : szObj x ≤ 1048576) :
    Calls Tryz.prog 59 #[.agg cs.toArray] w (ToPost ObjC x w) := by
  obtain ⟨v_fields, rfl, z0, h_fields⟩ := h
  unfold szObj at hs
  have H_of_ := fun W (_ : Fr No w W) => toRef_go x.of_ _ W ⟨rfl, (by assumption)⟩
  have H_fields := fun W (h : Fr No w W) => toValS_go X _ x.fields W (h_fields.keep h (fun _ h => h.elim) (fun _ _ _ h => h)) (by omega)
  obtain ⟨A_fields, c_fields, rfl, _, _⟩ := h_fields.form
  clear h_fields
  clear hs
  go_enter Tryz.func59, Tryz.ntmps59
  go_wp2_with fail
  refine (H_of_ _ ?_).mono ?_
  · exact frc
  rintro e w1 ⟨rfl, hf1⟩
  have hb1 : Bx w1 w.heap.size 110 #[.int .i64 x.of_.keeper, .string x.of_.name, .slice A_fields x.fields.length c_fields] := Bx.keepTo w1 (by exact bxc) hf1
  have hr1 : Bx w1 (w.heap.size + 1) 117 #[.int .i64 0, .string ⟨#[]⟩, .slice none 0 0] := Bx.keepTo w1 (by exact bxc) hf1
  have ho1 : Bx w1 (w.heap.size + 1 + 1) 117 #[.int .i64 0, .string ⟨#[]⟩, .slice none 0 0] := Bx.keepTo w1 (by exact bxc) hf1
  obtain ⟨a1_0, a1_1, a1_2⟩ := hb1.c3
  obtain ⟨b1_0, b1_1, b1_2⟩ := hr1.c3
  obtain ⟨c1_0, c1_1, c1_2⟩ := ho1.c3
  have fr1 := fun j => hr1.frozen j
  have fo1 := fun j => ho1.frozen j
  go_wp2_with fail
  refine (H_fields _ ?_).mono ?_
  · exact frc
  rintro e w2 ⟨v2, rfl, s_fields, hf2⟩
  obtain ⟨B_fields, d_fields, rfl, _, _⟩ := s_fields.form
  have hlo := ho1.lt
  have t_fields := s_fields.weaken (Y := fun b => b < w.heap.size + 3) (fun b (hb : b < w.heap.size + 3) => Nat.lt_of_lt_of_le hb (by first | (simp; done) | (simp; omega))) (fun _ _ _ h => h)
  clear s_fields hlo
  have hb2 : Bx w2 w.heap.size 110 #[.int .i64 x.of_.keeper, .string x.of_.name, .slice A_fields x.fields.length c_fields] := Bx.keepTo w2 (by exact bxc) hf2
  have hr2 : Bx w2 (w.heap.size + 1) 117 #[.int .i64 0, .string ⟨#[]⟩, .slice none 0 0] := Bx.keepTo w2 (by exact bxc) hf2
  have ho2 : Bx w2 (w.heap.size + 1 + 1) 117 #[.int .i64 x.of_.keeper, .string x.of_.name, .slice none 0 0] := Bx.keepTo w2 (by exact bxc) hf2
  clear a1_0 a1_1 a1_2 b1_0 b1_1 b1_2 c1_0 c1_1 c1_2 fr1 fo1 hb1 hr1 ho1
  obtain ⟨a2_0, a2_1, a2_2⟩ := hb2.c3
  obtain ⟨b2_0, b2_1, b2_2⟩ := hr2.c3
  obtain ⟨c2_0, c2_1, c2_2⟩ := ho2.c3
  have fr2 := fun j => hr2.frozen j
  have fo2 := fun j => ho2.frozen j
  go_wp2
  refine bodyPost_ret (v := .agg #[.int .i64 x.of_.keeper, .string x.of_.name, .slice B_fields x.fields.length d_fields]) (by simp [results, Tryz.results59, go_sem, *]) rfl ?_
  refine ⟨_, rfl, ⟨_, rfl, z0, ?_⟩, by exact frc⟩
  · exact (t_fields.keep (Y := fun b => b < w.heap.size + 3) (by exact frx) (fun _ h => h) (fun _ _ _ h => h)).weaken (fun b hb => Nat.lt_add_right 3 hb) (fun _ _ _ h => h)

theorem info_Obj : (Tryz.prog.info? 117).map (fun i => (i.zero, i.size, i.bytes)) = some (some (.agg #[.int .i64 0, .string ⟨#[]⟩, .slice none 0 0]), 3, 48) := by kernel_rfl
set_option maxRecDepth 100000 in
set_option maxHeartbeats 2000000 in
theorem toObjS_go (X : Nat → Prop) (v : Value) (xs : List Obj) (w : World) (h : Sl X w 3 (ObjC X w) v xs) (hs : szL szObj xs ≤ 1048576) :
    Calls Tryz.prog 26 #[v] w (ToSPost 3 ObjC xs w) := by
  have hlen : xs.length ≤ 1048576 := by have := szL_len szObj xs; omega
  obtain ⟨A, cap, rfl, _, _⟩ := h.form
  have hmk := fun W => run_make_n 55 117 _ _ _ Tryz.underlying55 info_Obj xs.length (by omega) (by omega) W
  go_enter Tryz.func26, Tryz.ntmps26
  go_wp2
  have hF0 : Fill (w.alloc (.cells (madeCells #[.int .i64 0, .string ⟨#[]⟩, .slice none 0 0] (xs.length * 3)) 117)) w.heap.size 117 3 xs.length 0 (ObjC (fun b => b < w.heap.size + 1) (w.alloc (.cells (madeCells #[.int .i64 0, .string ⟨#[]⟩, .slice none 0 0] (xs.length * 3)) 117))) xs := Fill.start (Bx.new _ _ _) (size_madeCells _ _)
  clear hmk
  go_loopw [4] (fun i wr => ∃ k : Nat, k ≤ xs.length ∧ i = .int .i64 k ∧ Fill wr w.heap.size 117 3 xs.length k (ObjC (fun b => b < w.heap.size + 1) wr) xs ∧ Fr No w wr) (fun i _ => xs.length - (intOf i).toNat)
  case atStart => exact ⟨0, Nat.zero_le _, rfl, hF0, by exact frc⟩
  case round =>
    clear hF0
    obtain ⟨k, hk, rfl, hF, hf⟩ := hrel
    by_cases hlt : k < xs.length
    · obtain ⟨b, off, A_fields, c_fields, rfl, hX, c0, c1, c2, z0, h_fields, _, _⟩ := (h.keep hf (fun _ h => h.elim) (fun _ _ _ h9 => h9.keep hf (fun _ h => h.elim))).obj hlt
      have H := toObj_go X xs[k] _ wr (show ObjC X wr [.int .i64 xs[k].of_.keeper, .string xs[k].of_.name, .slice A_fields xs[k].fields.length c_fields] xs[k] from ⟨_, rfl, z0, h_fields⟩) (by have := szL_mem szObj xs k hlt; omega)
      clear h
      go_wp2_with fail
      refine H.mono ?_
      rintro e w1 ⟨cs1, rfl, ⟨u_fields, rfl, y0, g_fields⟩, hf1⟩
      obtain ⟨B_fields, d_fields, rfl, _, _⟩ := g_fields.form
      have hF1 := hF.keep hf1 (fun h => h) (fun _ _ _ h => h.keep hf1 (fun _ h => h.elim))
      have hgl : ∀ b, b < w.heap.size + 1 → b < wr.heap.size := fun b hb => by have := hF.lt; omega
      have hR1 : ObjC (fun b => b < w.heap.size + 1) w1 [.int .i64 xs[k].of_.keeper, .string xs[k].of_.name, .slice B_fields xs[k].fields.length d_fields] xs[k] := (show ObjC (fun b => b < wr.heap.size) w1 [.int .i64 xs[k].of_.keeper, .string xs[k].of_.name, .slice B_fields xs[k].fields.length d_fields] xs[k] from ⟨_, rfl, y0, g_fields⟩).weaken hgl
      obtain ⟨o0, ho0⟩ := hF1.cell? (o := k * 3) (by omega)
      obtain ⟨o1, ho1⟩ := hF1.cell? (o := k * 3 + 1) (by omega)
      obtain ⟨o2, ho2⟩ := hF1.cell? (o := k * 3 + 2) (by omega)
      have hfz := fun o => hF1.frozen o
      clear c0 c1 c2 H hF
      have hF1 := Lib.hid hF1
      go_wp2
      go_roundw
      case rel => exact ⟨k + 1, by omega, by go_num, (hF1.out.step (cs := [.int .i64 xs[k].of_.keeper, .string xs[k].of_.name, .slice B_fields xs[k].fields.length d_fields]) hlt hlt hR1 rfl).keep (Fr.refl No _) (fun h => h) (fun _ _ _ h => h.keep (Y := fun b => b < w.heap.size + 1) (by exact frx) (fun _ h => h)), by exact frc⟩
      case measure => simp [intOf]; omega
    · have he : k = xs.length := by omega
      subst he
      clear h
      have hF := Lib.hid hF
      go_wp2
      go_ret
      have hF := hF.out
      exact ⟨_, rfl, (hF.done (X := fun b => b < w.heap.size) (by omega) (by unfold maxLen; omega)).weaken (fun _ h => h) (fun _ _ _ h => h.weaken (fun b hb => Nat.lt_add_right 1 hb)), by exact frc⟩

theorem info_Int : (Tryz.prog.info? 3).map (fun i => (i.zero, i.size, i.bytes)) = some (some (.int .i64 0), 1, 8) := by kernel_rfl
set_option maxRecDepth 100000 in
set_option maxHeartbeats 2000000 in
theorem toIntS_go (X : Nat → Prop) (v : Value) (xs : List Int) (w : World) (h : Sl X w 1 OutC v xs) (hs : szL szInt xs ≤ 1048576) :
    Calls Tryz.prog 70 #[v] w (ToSPost 1 (fun _ _ => OutC) xs w) := by
  have hlen : xs.length ≤ 1048576 := by have := szL_len szInt xs; omega
  obtain ⟨A, cap, rfl, _, _⟩ := h.form
  have hmk := fun W => run_make_n 64 3 _ _ _ Tryz.underlying64 info_Int xs.length (by omega) (by omega) W
  go_enter Tryz.func70, Tryz.ntmps70
  go_wp2
  have hF0 : Fill (w.alloc (.cells (madeCells #[.int .i64 0] (xs.length * 1)) 3)) w.heap.size 3 1 xs.length 0 OutC xs := Fill.start (Bx.new _ _ _) (size_madeCells _ _)
  rw [Nat.mul_one] at hF0
  clear hmk
  go_loopw [4] (fun i wr => ∃ k : Nat, k ≤ xs.length ∧ i = .int .i64 k ∧ Fill wr w.heap.size 3 1 xs.length k OutC xs ∧ Fr No w wr) (fun i _ => xs.length - (intOf i).toNat)
  case atStart => exact ⟨0, Nat.zero_le _, rfl, hF0, by exact frc⟩
  case round =>
    clear hF0
    obtain ⟨k, hk, rfl, hF, hf⟩ := hrel
    by_cases hlt : k < xs.length
    · obtain ⟨b, off, rfl, hX, c0⟩ := (h.keep hf (fun _ h => h.elim) (fun _ _ _ h => h)).num hlt
      clear h
      obtain ⟨o0, ho0⟩ := hF.cell? (o := k) (by omega)
      have hfz := fun o => hF.frozen o
      have hF1 := Lib.hid hF
      clear hF
      go_wp2
      go_roundw
      case rel => exact ⟨k + 1, by omega, by go_num, by (have hs := hF1.out.step (cs := [.int .i64 xs[k]]) hlt hlt rfl rfl; rw [Nat.mul_one] at hs; exact hs), by exact frc⟩
      case measure => simp [intOf]; omega
    · have he : k = xs.length := by omega
      subst he
      clear h
      have hF := Lib.hid hF
      go_wp2
      go_ret
      have hF := hF.out
      exact ⟨_, rfl, hF.done (X := fun b => b < w.heap.size) (by omega) (by unfold maxLen; omega), by exact frc⟩

set_option maxRecDepth 100000 in
set_option maxHeartbeats 2000000 in
theorem toSt_go (X : Nat → Prop) (x : St) (cs : List Value) (w : World) (h : StC X w cs x) (hs : szSt x ≤ 1048576) :
    Calls Tryz.prog 33 #[.agg cs.toArray] w (ToPost StC x w) := by
  obtain ⟨v_frames, v_heap, v_outs, rfl, h_frames, h_heap, h_outs⟩ := h
  unfold szSt at hs
  have H_frames := fun W (h : Fr No w W) => toFrmS_go X _ x.frames W (h_frames.keep h (fun _ h => h.elim) (fun _ _ _ h9 => h9.keep h (fun _ h => h.elim))) (by omega)
  have H_heap := fun W (h : Fr No w W) => toObjS_go X _ x.heap W (h_heap.keep h (fun _ h => h.elim) (fun _ _ _ h9 => h9.keep h (fun _ h => h.elim))) (by omega)
  have H_outs := fun W (h : Fr No w W) => toIntS_go X _ x.outs W (h_outs.keep h (fun _ h => h.elim) (fun _ _ _ h => h)) (by omega)
  have H_back := fun W (_ : Fr No w W) => toVal_go x.back _ W rfl
  obtain ⟨A_frames, c_frames, rfl, _, _⟩ := h_frames.form
  clear h_frames
  obtain ⟨A_heap, c_heap, rfl, _, _⟩ := h_heap.form
  clear h_heap
  obtain ⟨A_outs, c_outs, rfl, _, _⟩ := h_outs.form
  clear h_outs
  clear hs
  go_enter Tryz.func33, Tryz.ntmps33
  go_wp2_with fail
  refine (H_frames _ ?_).mono ?_
  · exact frc
  rintro e w1 ⟨v1, rfl, s_frames, hf1⟩
  obtain ⟨B_frames, d_frames, rfl, _, _⟩ := s_frames.form
  have t_frames := s_frames.weaken (Y := fun b => b < w.heap.size + 3) (fun b (hb : b < w.heap.size + 3) => Nat.lt_of_lt_of_le hb (by first | (simp; done) | (simp; omega))) (fun _ _ _ h9 => h9.weaken (fun b (hb : b < w.heap.size + 3) => Nat.lt_of_lt_of_le hb (by first | (simp; done) | (simp; omega))))
  clear s_frames
  have hb1 : Bx w1 w.heap.size 66 #[.int .i64 x.status, .slice A_frames x.frames.length c_frames, .slice A_heap x.heap.length c_heap, .slice A_outs x.outs.length c_outs, .int .i64 x.back.kind, .int .i64 x.back.n] := Bx.keepTo w1 (by exact bxc) hf1
  have hr1 : Bx w1 (w.heap.size + 1) 71 #[.int .i64 0, .slice none 0 0, .slice none 0 0, .slice none 0 0, .int .i64 0, .int .i64 0] := Bx.keepTo w1 (by exact bxc) hf1
  have ho1 : Bx w1 (w.heap.size + 1 + 1) 71 #[.int .i64 x.status, .slice none 0 0, .slice none 0 0, .slice none 0 0, .int .i64 0, .int .i64 0] := Bx.keepTo w1 (by exact bxc) hf1
  obtain ⟨a1_0, a1_1, a1_2, a1_3, a1_4, a1_5⟩ := hb1.c6
  obtain ⟨b1_0, b1_1, b1_2, b1_3, b1_4, b1_5⟩ := hr1.c6
  obtain ⟨c1_0, c1_1, c1_2, c1_3, c1_4, c1_5⟩ := ho1.c6
  have fr1 := fun j => hr1.frozen j
  have fo1 := fun j => ho1.frozen j
  go_wp2_with fail
  refine (H_heap _ ?_).mono ?_
  · exact frc
  rintro e w2 ⟨v2, rfl, s_heap, hf2⟩
  obtain ⟨B_heap, d_heap, rfl, _, _⟩ := s_heap.form
  have hlo := ho1.lt
  have t_heap := s_heap.weaken (Y := fun b => b < w.heap.size + 3) (fun b (hb : b < w.heap.size + 3) => Nat.lt_of_lt_of_le hb (by first | (simp; done) | (simp; omega))) (fun _ _ _ h9 => h9.weaken (fun b (hb : b < w.heap.size + 3) => Nat.lt_of_lt_of_le hb (by first | (simp; done) | (simp; omega))))
  clear s_heap hlo
  have hb2 : Bx w2 w.heap.size 66 #[.int .i64 x.status, .slice A_frames x.frames.length c_frames, .slice A_heap x.heap.length c_heap, .slice A_outs x.outs.length c_outs, .int .i64 x.back.kind, .int .i64 x.back.n] := Bx.keepTo w2 (by exact bxc) hf2
  have hr2 : Bx w2 (w.heap.size + 1) 71 #[.int .i64 0, .slice none 0 0, .slice none 0 0, .slice none 0 0, .int .i64 0, .int .i64 0] := Bx.keepTo w2 (by exact bxc) hf2
  have ho2 : Bx w2 (w.heap.size + 1 + 1) 71 #[.int .i64 x.status, .slice B_frames x.frames.length d_frames, .slice none 0 0, .slice none 0 0, .int .i64 0, .int .i64 0] := Bx.keepTo w2 (by exact bxc) hf2
  clear a1_0 a1_1 a1_2 a1_3 a1_4 a1_5 b1_0 b1_1 b1_2 b1_3 b1_4 b1_5 c1_0 c1_1 c1_2 c1_3 c1_4 c1_5 fr1 fo1 hb1 hr1 ho1
  obtain ⟨a2_0, a2_1, a2_2, a2_3, a2_4, a2_5⟩ := hb2.c6
  obtain ⟨b2_0, b2_1, b2_2, b2_3, b2_4, b2_5⟩ := hr2.c6
  obtain ⟨c2_0, c2_1, c2_2, c2_3, c2_4, c2_5⟩ := ho2.c6
  have fr2 := fun j => hr2.frozen j
  have fo2 := fun j => ho2.frozen j
  go_wp2_with fail
  refine (H_outs _ ?_).mono ?_
  · exact frc
  rintro e w3 ⟨v3, rfl, s_outs, hf3⟩
  obtain ⟨B_outs, d_outs, rfl, _, _⟩ := s_outs.form
  have hlo := ho2.lt
  have t_outs := s_outs.weaken (Y := fun b => b < w.heap.size + 3) (fun b (hb : b < w.heap.size + 3) => Nat.lt_of_lt_of_le hb (by first | (simp; done) | (simp; omega))) (fun _ _ _ h => h)
  clear s_outs hlo
  have hb3 : Bx w3 w.heap.size 66 #[.int .i64 x.status, .slice A_frames x.frames.length c_frames, .slice A_heap x.heap.length c_heap, .slice A_outs x.outs.length c_outs, .int .i64 x.back.kind, .int .i64 x.back.n] := Bx.keepTo w3 (by exact bxc) hf3
  have hr3 : Bx w3 (w.heap.size + 1) 71 #[.int .i64 0, .slice none 0 0, .slice none 0 0, .slice none 0 0, .int .i64 0, .int .i64 0] := Bx.keepTo w3 (by exact bxc) hf3
  have ho3 : Bx w3 (w.heap.size + 1 + 1) 71 #[.int .i64 x.status, .slice B_frames x.frames.length d_frames, .slice B_heap x.heap.length d_heap, .slice none 0 0, .int .i64 0, .int .i64 0] := Bx.keepTo w3 (by exact bxc) hf3
  clear a2_0 a2_1 a2_2 a2_3 a2_4 a2_5 b2_0 b2_1 b2_2 b2_3 b2_4 b2_5 c2_0 c2_1 c2_2 c2_3 c2_4 c2_5 fr2 fo2 hb2 hr2 ho2
  obtain ⟨a3_0, a3_1, a3_2, a3_3, a3_4, a3_5⟩ := hb3.c6
  obtain ⟨b3_0, b3_1, b3_2, b3_3, b3_4, b3_5⟩ := hr3.c6
  obtain ⟨c3_0, c3_1, c3_2, c3_3, c3_4, c3_5⟩ := ho3.c6
  have fr3 := fun j => hr3.frozen j
  have fo3 := fun j => ho3.frozen j
  go_wp2_with fail
  refine (H_back _ ?_).mono ?_
  · exact frc
  rintro e w4 ⟨rfl, hf4⟩
  have hb4 : Bx w4 w.heap.size 66 #[.int .i64 x.status, .slice A_frames x.frames.length c_frames, .slice A_heap x.heap.length c_heap, .slice A_outs x.outs.length c_outs, .int .i64 x.back.kind, .int .i64 x.back.n] := Bx.keepTo w4 (by exact bxc) hf4
  have hr4 : Bx w4 (w.heap.size + 1) 71 #[.int .i64 0, .slice none 0 0, .slice none 0 0, .slice none 0 0, .int .i64 0, .int .i64 0] := Bx.keepTo w4 (by exact bxc) hf4
  have ho4 : Bx w4 (w.heap.size + 1 + 1) 71 #[.int .i64 x.status, .slice B_frames x.frames.length d_frames, .slice B_heap x.heap.length d_heap, .slice B_outs x.outs.length d_outs, .int .i64 0, .int .i64 0] := Bx.keepTo w4 (by exact bxc) hf4
  clear a3_0 a3_1 a3_2 a3_3 a3_4 a3_5 b3_0 b3_1 b3_2 b3_3 b3_4 b3_5 c3_0 c3_1 c3_2 c3_3 c3_4 c3_5 fr3 fo3 hb3 hr3 ho3
  obtain ⟨a4_0, a4_1, a4_2, a4_3, a4_4, a4_5⟩ := hb4.c6
  obtain ⟨b4_0, b4_1, b4_2, b4_3, b4_4, b4_5⟩ := hr4.c6
  obtain ⟨c4_0, c4_1, c4_2, c4_3, c4_4, c4_5⟩ := ho4.c6
  have fr4 := fun j => hr4.frozen j
  have fo4 := fun j => ho4.frozen j
  go_wp2
  refine bodyPost_ret (v := .agg #[.int .i64 x.status, .slice B_frames x.frames.length d_frames, .slice B_heap x.heap.length d_heap, .slice B_outs x.outs.length d_outs, .int .i64 x.back.kind, .int .i64 x.back.n]) (by simp [results, Tryz.results33, go_sem, *]) rfl ?_
  refine ⟨_, rfl, ⟨_, _, _, rfl, ?_, ?_, ?_⟩, by exact frc⟩
  · exact (t_frames.keep (Y := fun b => b < w.heap.size + 3) (by exact frx) (fun _ h => h) (fun _ _ _ h9 => h9.keep (Y := fun b => b < w.heap.size + 3) (by exact frx) (fun _ h => h))).weaken (fun b hb => Nat.lt_add_right 3 hb) (fun _ _ _ h9 => h9.weaken (fun b hb => Nat.lt_add_right 3 hb))
  · exact (t_heap.keep (Y := fun b => b < w.heap.size + 3) (by exact frx) (fun _ h => h) (fun _ _ _ h9 => h9.keep (Y := fun b => b < w.heap.size + 3) (by exact frx) (fun _ h => h))).weaken (fun b hb => Nat.lt_add_right 3 hb) (fun _ _ _ h9 => h9.weaken (fun b hb => Nat.lt_add_right 3 hb))
  · exact (t_outs.keep (Y := fun b => b < w.heap.size + 3) (by exact frx) (fun _ h => h) (fun _ _ _ h => h)).weaken (fun b hb => Nat.lt_add_right 3 hb) (fun _ _ _ h => h)

end Go.Proofs.YthdibgikjekneaaGreat
