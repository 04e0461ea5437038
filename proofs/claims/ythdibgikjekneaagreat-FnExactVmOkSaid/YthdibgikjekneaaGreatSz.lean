/- The sizes that the laws count. -/
import Derived.Test.YthdibgikjekneaaGreatRep
import Derived.Test.YthdibgikjekneaaGreatRows
import Derived.WalkSpells
import Derived.WalkLawsBesides
import Derived.Deep.RegionWith
namespace Go.Proofs.YthdibgikjekneaaGreat
open Go.RowKit

/-- What a law's count of sizes gives back. -/
def SzPost (b : Nat) (left : Int) (w : World) (e : Ending) (w' : World) : Prop := ∃ n : Int, e = .returned (.int .i64 n) ∧ Hid ((0 ≤ n ∧ n = left - b) ∨ (n = -1 ∧ left < b)) ∧ Fr No w w'
theorem SzPost.mk {b : Nat} {left : Int} {w w' : World} (n : Int) (h : (0 ≤ n ∧ n = left - b) ∨ (n = -1 ∧ left < b)) (hf : Fr No w w') : SzPost b left w (.returned (.int .i64 n)) w' := ⟨n, rfl, h, hf⟩

def szKnd (x : Knd) : Nat := x.name.size
set_option maxRecDepth 100000 in
set_option maxHeartbeats 2000000 in
theorem szKnd_go (x : Knd) (cs : List Value) (left : Int) (w : World) (h : KndC cs x) (h0 : 0 ≤ left) (h1 : left ≤ 1048576) :
    Calls Tryz.prog 253 #[.agg cs.toArray, .int .i64 left] w (SzPost (szKnd x) left w) := by
  obtain ⟨rfl, hz0⟩ := h
  unfold maxLen at hz0
  go_enter Tryz.func253, Tryz.ntmps253
  go_wp2
  all_goals go_ret
  all_goals refine SzPost.mk _ ?_ (by exact frc)
  all_goals (first | (left; refine ⟨?_, ?_⟩ <;> ((try unfold szKnd at *); (try unfold Hid at *); omega)) | (right; refine ⟨rfl, ?_⟩; ((try unfold szKnd at *); (try unfold Hid at *); omega)))

set_option maxRecDepth 100000 in
set_option maxHeartbeats 2000000 in
theorem szKndS_go (X : Nat → Prop) (v : Value) (xs : List Knd) (left : Int) (w : World) (h : Sl X w 2 KndC v xs) (h0 : 0 ≤ left) (h1 : left ≤ 1048576) :
    Calls Tryz.prog 254 #[v, .int .i64 left] w (SzPost (szL szKnd xs) left w) := by
  obtain ⟨A, cap, rfl, hcap, hlen⟩ := h.form
  unfold maxLen at hlen
  have hsl := szL_len szKnd xs
  have hsum : szL szKnd xs = xs.length + sumL szKnd xs := rfl
  have hsl := Lib.hid hsl
  have hsum := Lib.hid hsum
  go_enter Tryz.func254, Tryz.ntmps254
  by_cases hl0 : (xs.length : Int) ≤ left
  · go_wp2
    go_loopw [5, 1, 4] (fun i l r wr => ∃ (k : Nat) (n : Int), k ≤ xs.length ∧ i = .int .i64 k ∧ l = .int .i64 n ∧ r = .int .i64 0 ∧ 0 ≤ n ∧ n ≤ 1048576 ∧ Hid (n = left - xs.length - sumL szKnd (xs.take k)) ∧ Fr No w wr) (fun i _ _ _ => xs.length - (intOf i).toNat)
    case atStart => exact ⟨0, left - xs.length, Nat.zero_le _, rfl, rfl, rfl, by omega, by omega, by simp [Hid, sumL], Fr.refl _ _⟩
    case round =>
      obtain ⟨k, n, hk, rfl, rfl, rfl, hn0, hn1, hn, hf⟩ := hrel
      by_cases hlt : k < xs.length
      · obtain ⟨b, off, rfl, hX, c0, c1, z0⟩ := (h.keep hf (fun _ h => h.elim) (fun _ _ _ h => h)).knd hlt
        clear h
        have H := fun W l (h : Fr No wr W) => szKnd_go xs[k] _ l W ⟨rfl, z0⟩
        have hst := Lib.hid (sumL_take szKnd xs k hlt)
        have hle := Lib.hid (sumL_take_le szKnd xs (k + 1))
        generalize xs[k] = x at *
        go_wp2_with (go_at_call 253; refine (H _ _ ?_ ?_ ?_).mono ?_; (focus (exact frc)); omega; omega; rintro e w1 ⟨n1, rfl, hn1', hf1⟩)
        · go_ret
          refine SzPost.mk _ ?_ (by exact frc)
          (first | (left; refine ⟨?_, ?_⟩ <;> ((try unfold Hid at *); (try unfold Hid at *); omega)) | (right; refine ⟨rfl, ?_⟩; ((try unfold Hid at *); (try unfold Hid at *); omega)))
        · go_roundw
          case rel => exact ⟨k + 1, n1, by omega, by go_num, rfl, rfl, by omega, by (simp only [Hid] at *; omega), by (simp only [Hid] at *; omega), by exact frc⟩
          case measure => simp [intOf]; omega
      · clear h
        have hst : Hid (sumL szKnd (xs.take k) = sumL szKnd xs) := by rw [List.take_of_length_le (by omega)]; exact rfl
        go_wp2
        go_ret
        refine SzPost.mk _ ?_ (by exact frc)
        (first | (left; refine ⟨?_, ?_⟩ <;> ((try unfold Hid at *); (try unfold Hid at *); omega)) | (right; refine ⟨rfl, ?_⟩; ((try unfold Hid at *); (try unfold Hid at *); omega)))
  · go_wp2
    go_ret
    refine SzPost.mk _ ?_ (by exact frc)
    (first | (left; refine ⟨?_, ?_⟩ <;> ((try unfold Hid at *); (try unfold Hid at *); omega)) | (right; refine ⟨rfl, ?_⟩; ((try unfold Hid at *); (try unfold Hid at *); omega)))

def szTag (x : Tag) : Nat := x.name.size
set_option maxRecDepth 100000 in
set_option maxHeartbeats 2000000 in
theorem szTag_go (x : Tag) (cs : List Value) (left : Int) (w : World) (h : TagC cs x) (h0 : 0 ≤ left) (h1 : left ≤ 1048576) :
    Calls Tryz.prog 24 #[.agg cs.toArray, .int .i64 left] w (SzPost (szTag x) left w) := by
  obtain ⟨rfl, hz0⟩ := h
  unfold maxLen at hz0
  go_enter Tryz.func24, Tryz.ntmps24
  go_wp2
  all_goals go_ret
  all_goals refine SzPost.mk _ ?_ (by exact frc)
  all_goals (first | (left; refine ⟨?_, ?_⟩ <;> ((try unfold szTag at *); (try unfold Hid at *); omega)) | (right; refine ⟨rfl, ?_⟩; ((try unfold szTag at *); (try unfold Hid at *); omega)))

set_option maxRecDepth 100000 in
set_option maxHeartbeats 2000000 in
theorem szTagS_go (X : Nat → Prop) (v : Value) (xs : List Tag) (left : Int) (w : World) (h : Sl X w 2 TagC v xs) (h0 : 0 ≤ left) (h1 : left ≤ 1048576) :
    Calls Tryz.prog 275 #[v, .int .i64 left] w (SzPost (szL szTag xs) left w) := by
  obtain ⟨A, cap, rfl, hcap, hlen⟩ := h.form
  unfold maxLen at hlen
  have hsl := szL_len szTag xs
  have hsum : szL szTag xs = xs.length + sumL szTag xs := rfl
  have hsl := Lib.hid hsl
  have hsum := Lib.hid hsum
  go_enter Tryz.func275, Tryz.ntmps275
  by_cases hl0 : (xs.length : Int) ≤ left
  · go_wp2
    go_loopw [5, 1, 4] (fun i l r wr => ∃ (k : Nat) (n : Int), k ≤ xs.length ∧ i = .int .i64 k ∧ l = .int .i64 n ∧ r = .int .i64 0 ∧ 0 ≤ n ∧ n ≤ 1048576 ∧ Hid (n = left - xs.length - sumL szTag (xs.take k)) ∧ Fr No w wr) (fun i _ _ _ => xs.length - (intOf i).toNat)
    case atStart => exact ⟨0, left - xs.length, Nat.zero_le _, rfl, rfl, rfl, by omega, by omega, by simp [Hid, sumL], Fr.refl _ _⟩
    case round =>
      obtain ⟨k, n, hk, rfl, rfl, rfl, hn0, hn1, hn, hf⟩ := hrel
      by_cases hlt : k < xs.length
      · obtain ⟨b, off, rfl, hX, c0, c1, z0⟩ := (h.keep hf (fun _ h => h.elim) (fun _ _ _ h => h)).tag hlt
        clear h
        have H := fun W l (h : Fr No wr W) => szTag_go xs[k] _ l W ⟨rfl, z0⟩
        have hst := Lib.hid (sumL_take szTag xs k hlt)
        have hle := Lib.hid (sumL_take_le szTag xs (k + 1))
        generalize xs[k] = x at *
        go_wp2_with (go_at_call 24; refine (H _ _ ?_ ?_ ?_).mono ?_; (focus (exact frc)); omega; omega; rintro e w1 ⟨n1, rfl, hn1', hf1⟩)
        · go_ret
          refine SzPost.mk _ ?_ (by exact frc)
          (first | (left; refine ⟨?_, ?_⟩ <;> ((try unfold Hid at *); (try unfold Hid at *); omega)) | (right; refine ⟨rfl, ?_⟩; ((try unfold Hid at *); (try unfold Hid at *); omega)))
        · go_roundw
          case rel => exact ⟨k + 1, n1, by omega, by go_num, rfl, rfl, by omega, by (simp only [Hid] at *; omega), by (simp only [Hid] at *; omega), by exact frc⟩
          case measure => simp [intOf]; omega
      · clear h
        have hst : Hid (sumL szTag (xs.take k) = sumL szTag xs) := by rw [List.take_of_length_le (by omega)]; exact rfl
        go_wp2
        go_ret
        refine SzPost.mk _ ?_ (by exact frc)
        (first | (left; refine ⟨?_, ?_⟩ <;> ((try unfold Hid at *); (try unfold Hid at *); omega)) | (right; refine ⟨rfl, ?_⟩; ((try unfold Hid at *); (try unfold Hid at *); omega)))
  · go_wp2
    go_ret
    refine SzPost.mk _ ?_ (by exact frc)
    (first | (left; refine ⟨?_, ?_⟩ <;> ((try unfold Hid at *); (try unfold Hid at *); omega)) | (right; refine ⟨rfl, ?_⟩; ((try unfold Hid at *); (try unfold Hid at *); omega)))

def szIns (x : Ins) : Nat := x.name.size + x.member.size
set_option maxRecDepth 100000 in
set_option maxHeartbeats 2000000 in
theorem szIns_go (x : Ins) (cs : List Value) (left : Int) (w : World) (h : InsC cs x) (h0 : 0 ≤ left) (h1 : left ≤ 1048576) :
    Calls Tryz.prog 268 #[.agg cs.toArray, .int .i64 left] w (SzPost (szIns x) left w) := by
  obtain ⟨rfl, hz0, hz1⟩ := h
  unfold maxLen at hz0
  unfold maxLen at hz1
  go_enter Tryz.func268, Tryz.ntmps268
  go_wp2
  all_goals go_ret
  all_goals refine SzPost.mk _ ?_ (by exact frc)
  all_goals (first | (left; refine ⟨?_, ?_⟩ <;> ((try unfold szIns at *); (try unfold Hid at *); omega)) | (right; refine ⟨rfl, ?_⟩; ((try unfold szIns at *); (try unfold Hid at *); omega)))

set_option maxRecDepth 100000 in
set_option maxHeartbeats 2000000 in
theorem szInsS_go (X : Nat → Prop) (v : Value) (xs : List Ins) (left : Int) (w : World) (h : Sl X w 4 InsC v xs) (h0 : 0 ≤ left) (h1 : left ≤ 1048576) :
    Calls Tryz.prog 255 #[v, .int .i64 left] w (SzPost (szL szIns xs) left w) := by
  obtain ⟨A, cap, rfl, hcap, hlen⟩ := h.form
  unfold maxLen at hlen
  have hsl := szL_len szIns xs
  have hsum : szL szIns xs = xs.length + sumL szIns xs := rfl
  have hsl := Lib.hid hsl
  have hsum := Lib.hid hsum
  go_enter Tryz.func255, Tryz.ntmps255
  by_cases hl0 : (xs.length : Int) ≤ left
  · go_wp2
    go_loopw [5, 1, 4] (fun i l r wr => ∃ (k : Nat) (n : Int), k ≤ xs.length ∧ i = .int .i64 k ∧ l = .int .i64 n ∧ r = .int .i64 0 ∧ 0 ≤ n ∧ n ≤ 1048576 ∧ Hid (n = left - xs.length - sumL szIns (xs.take k)) ∧ Fr No w wr) (fun i _ _ _ => xs.length - (intOf i).toNat)
    case atStart => exact ⟨0, left - xs.length, Nat.zero_le _, rfl, rfl, rfl, by omega, by omega, by simp [Hid, sumL], Fr.refl _ _⟩
    case round =>
      obtain ⟨k, n, hk, rfl, rfl, rfl, hn0, hn1, hn, hf⟩ := hrel
      by_cases hlt : k < xs.length
      · obtain ⟨b, off, rfl, hX, c0, c1, c2, c3, z0, z1⟩ := (h.keep hf (fun _ h => h.elim) (fun _ _ _ h => h)).ins hlt
        clear h
        have H := fun W l (h : Fr No wr W) => szIns_go xs[k] _ l W ⟨rfl, z0, z1⟩
        have hst := Lib.hid (sumL_take szIns xs k hlt)
        have hle := Lib.hid (sumL_take_le szIns xs (k + 1))
        generalize xs[k] = x at *
        go_wp2_with (go_at_call 268; refine (H _ _ ?_ ?_ ?_).mono ?_; (focus (exact frc)); omega; omega; rintro e w1 ⟨n1, rfl, hn1', hf1⟩)
        · go_ret
          refine SzPost.mk _ ?_ (by exact frc)
          (first | (left; refine ⟨?_, ?_⟩ <;> ((try unfold Hid at *); (try unfold Hid at *); omega)) | (right; refine ⟨rfl, ?_⟩; ((try unfold Hid at *); (try unfold Hid at *); omega)))
        · go_roundw
          case rel => exact ⟨k + 1, n1, by omega, by go_num, rfl, rfl, by omega, by (simp only [Hid] at *; omega), by (simp only [Hid] at *; omega), by exact frc⟩
          case measure => simp [intOf]; omega
      · clear h
        have hst : Hid (sumL szIns (xs.take k) = sumL szIns xs) := by rw [List.take_of_length_le (by omega)]; exact rfl
        go_wp2
        go_ret
        refine SzPost.mk _ ?_ (by exact frc)
        (first | (left; refine ⟨?_, ?_⟩ <;> ((try unfold Hid at *); (try unfold Hid at *); omega)) | (right; refine ⟨rfl, ?_⟩; ((try unfold Hid at *); (try unfold Hid at *); omega)))
  · go_wp2
    go_ret
    refine SzPost.mk _ ?_ (by exact frc)
    (first | (left; refine ⟨?_, ?_⟩ <;> ((try unfold Hid at *); (try unfold Hid at *); omega)) | (right; refine ⟨rfl, ?_⟩; ((try unfold Hid at *); (try unfold Hid at *); omega)))

def szFld (x : Fld) : Nat := x.name.size + szKnd x.kind
set_option maxRecDepth 100000 in
set_option maxHeartbeats 2000000 in
theorem szFld_go (x : Fld) (cs : List Value) (left : Int) (w : World) (h : FldC cs x) (h0 : 0 ≤ left) (h1 : left ≤ 1048576) :
    Calls Tryz.prog 237 #[.agg cs.toArray, .int .i64 left] w (SzPost (szFld x) left w) := by
  obtain ⟨rfl, hz0, hz1⟩ := h
  unfold maxLen at hz0
  unfold maxLen at hz1
  have H_kind := fun W l (_ : Fr No w W) => szKnd_go x.kind _ l W ⟨rfl, (by unfold maxLen; exact hz1)⟩
  go_enter Tryz.func237, Tryz.ntmps237
  have hB := Bx.new w 327 #[.string x.name, .int .i64 x.kind.kind, .string x.kind.name]
  go_wp2_with (first
    | (go_at_call 253; refine (H_kind _ _ ?_ ?_ ?_).mono ?_; (focus (exact frc)); omega; omega; rintro e w0 ⟨n0, rfl, hn0, hf0⟩; have hnb0 : n0 ≤ 1048576 := (by have := hn0.out; omega); have hb0 := Bx.keepTo w0 hB (by exact frc); obtain ⟨e0_0, e0_1, e0_2⟩ := hb0.c3; have hl0 := hb0.lt; have hw0 : Fr No w w0 := (by exact frc)))
  all_goals go_ret
  all_goals refine SzPost.mk _ ?_ (by exact frc)
  all_goals (first | (left; refine ⟨?_, ?_⟩ <;> ((try unfold szFld at *); (try unfold Hid at *); omega)) | (right; refine ⟨rfl, ?_⟩; ((try unfold szFld at *); (try unfold Hid at *); omega)))

set_option maxRecDepth 100000 in
set_option maxHeartbeats 2000000 in
theorem szFldS_go (X : Nat → Prop) (v : Value) (xs : List Fld) (left : Int) (w : World) (h : Sl X w 3 FldC v xs) (h0 : 0 ≤ left) (h1 : left ≤ 1048576) :
    Calls Tryz.prog 212 #[v, .int .i64 left] w (SzPost (szL szFld xs) left w) := by
  obtain ⟨A, cap, rfl, hcap, hlen⟩ := h.form
  unfold maxLen at hlen
  have hsl := szL_len szFld xs
  have hsum : szL szFld xs = xs.length + sumL szFld xs := rfl
  have hsl := Lib.hid hsl
  have hsum := Lib.hid hsum
  go_enter Tryz.func212, Tryz.ntmps212
  by_cases hl0 : (xs.length : Int) ≤ left
  · go_wp2
    go_loopw [5, 1, 4] (fun i l r wr => ∃ (k : Nat) (n : Int), k ≤ xs.length ∧ i = .int .i64 k ∧ l = .int .i64 n ∧ r = .int .i64 0 ∧ 0 ≤ n ∧ n ≤ 1048576 ∧ Hid (n = left - xs.length - sumL szFld (xs.take k)) ∧ Fr No w wr) (fun i _ _ _ => xs.length - (intOf i).toNat)
    case atStart => exact ⟨0, left - xs.length, Nat.zero_le _, rfl, rfl, rfl, by omega, by omega, by simp [Hid, sumL], Fr.refl _ _⟩
    case round =>
      obtain ⟨k, n, hk, rfl, rfl, rfl, hn0, hn1, hn, hf⟩ := hrel
      by_cases hlt : k < xs.length
      · obtain ⟨b, off, rfl, hX, c0, c1, c2, z0, z1⟩ := (h.keep hf (fun _ h => h.elim) (fun _ _ _ h => h)).fld hlt
        clear h
        have H := fun W l (h : Fr No wr W) => szFld_go xs[k] _ l W ⟨rfl, z0, z1⟩
        have hst := Lib.hid (sumL_take szFld xs k hlt)
        have hle := Lib.hid (sumL_take_le szFld xs (k + 1))
        generalize xs[k] = x at *
        go_wp2_with (go_at_call 237; refine (H _ _ ?_ ?_ ?_).mono ?_; (focus (exact frc)); omega; omega; rintro e w1 ⟨n1, rfl, hn1', hf1⟩)
        · go_ret
          refine SzPost.mk _ ?_ (by exact frc)
          (first | (left; refine ⟨?_, ?_⟩ <;> ((try unfold Hid at *); (try unfold Hid at *); omega)) | (right; refine ⟨rfl, ?_⟩; ((try unfold Hid at *); (try unfold Hid at *); omega)))
        · go_roundw
          case rel => exact ⟨k + 1, n1, by omega, by go_num, rfl, rfl, by omega, by (simp only [Hid] at *; omega), by (simp only [Hid] at *; omega), by exact frc⟩
          case measure => simp [intOf]; omega
      · clear h
        have hst : Hid (sumL szFld (xs.take k) = sumL szFld xs) := by rw [List.take_of_length_le (by omega)]; exact rfl
        go_wp2
        go_ret
        refine SzPost.mk _ ?_ (by exact frc)
        (first | (left; refine ⟨?_, ?_⟩ <;> ((try unfold Hid at *); (try unfold Hid at *); omega)) | (right; refine ⟨rfl, ?_⟩; ((try unfold Hid at *); (try unfold Hid at *); omega)))
  · go_wp2
    go_ret
    refine SzPost.mk _ ?_ (by exact frc)
    (first | (left; refine ⟨?_, ?_⟩ <;> ((try unfold Hid at *); (try unfold Hid at *); omega)) | (right; refine ⟨rfl, ?_⟩; ((try unfold Hid at *); (try unfold Hid at *); omega)))

def szMp (x : Mp) : Nat := szL szTag x.locals + szL szTag x.stack
set_option maxRecDepth 100000 in
set_option maxHeartbeats 2000000 in
theorem szMp_go (X : Nat → Prop) (x : Mp) (cs : List Value) (left : Int) (w : World) (h : MapC X w cs x) (h0 : 0 ≤ left) (h1 : left ≤ 1048576) :
    Calls Tryz.prog 269 #[.agg cs.toArray, .int .i64 left] w (SzPost (szMp x) left w) := by
  obtain ⟨v_locals, v_stack, rfl, h_locals, h_stack⟩ := h
  have H_locals := fun W l (h : Fr No w W) => szTagS_go X _ x.locals l W (h_locals.keep h (fun _ h => h.elim) (fun _ _ _ h => h))
  have H_stack := fun W l (h : Fr No w W) => szTagS_go X _ x.stack l W (h_stack.keep h (fun _ h => h.elim) (fun _ _ _ h => h))
  obtain ⟨A_locals, c_locals, rfl, p_locals, q_locals⟩ := h_locals.form
  obtain ⟨A_stack, c_stack, rfl, p_stack, q_stack⟩ := h_stack.form
  clear h_locals
  clear h_stack
  go_enter Tryz.func269, Tryz.ntmps269
  have hB := Bx.new w 363 #[.int .i64 x.at_, .slice A_locals x.locals.length c_locals, .slice A_stack x.stack.length c_stack]
  go_wp2_with (first
    | (go_at_call_of 275 (Value.slice A_locals x.locals.length c_locals); refine (H_locals _ _ ?_ ?_ ?_).mono ?_; (focus (exact frc)); omega; omega; rintro e w0 ⟨n0, rfl, hn0, hf0⟩; have hnb0 : n0 ≤ 1048576 := (by have := hn0.out; omega); have hb0 := Bx.keepTo w0 hB (by exact frc); obtain ⟨e0_0, e0_1, e0_2⟩ := hb0.c3; have hl0 := hb0.lt; have hw0 : Fr No w w0 := (by exact frc))
    | (go_at_call_of 275 (Value.slice A_stack x.stack.length c_stack); refine (H_stack _ _ ?_ ?_ ?_).mono ?_; (focus (exact frc)); omega; omega; rintro e w1 ⟨n1, rfl, hn1, hf1⟩; have hnb1 : n1 ≤ 1048576 := (by have := hn1.out; omega); have hb1 := Bx.keepTo w1 hb0 (by exact frc); obtain ⟨e1_0, e1_1, e1_2⟩ := hb1.c3; have hl1 := hb1.lt; have hw1 : Fr No w w1 := (by exact frc)))
  all_goals go_ret
  all_goals refine SzPost.mk _ ?_ (by exact frc)
  all_goals (first | (left; refine ⟨?_, ?_⟩ <;> ((try unfold szMp at *); (try unfold Hid at *); omega)) | (right; refine ⟨rfl, ?_⟩; ((try unfold szMp at *); (try unfold Hid at *); omega)))

set_option maxRecDepth 100000 in
set_option maxHeartbeats 2000000 in
theorem szMpS_go (X : Nat → Prop) (v : Value) (xs : List Mp) (left : Int) (w : World) (h : Sl X w 3 (MapC X w) v xs) (h0 : 0 ≤ left) (h1 : left ≤ 1048576) :
    Calls Tryz.prog 256 #[v, .int .i64 left] w (SzPost (szL szMp xs) left w) := by
  obtain ⟨A, cap, rfl, hcap, hlen⟩ := h.form
  unfold maxLen at hlen
  have hsl := szL_len szMp xs
  have hsum : szL szMp xs = xs.length + sumL szMp xs := rfl
  have hsl := Lib.hid hsl
  have hsum := Lib.hid hsum
  go_enter Tryz.func256, Tryz.ntmps256
  by_cases hl0 : (xs.length : Int) ≤ left
  · go_wp2
    go_loopw [5, 1, 4] (fun i l r wr => ∃ (k : Nat) (n : Int), k ≤ xs.length ∧ i = .int .i64 k ∧ l = .int .i64 n ∧ r = .int .i64 0 ∧ 0 ≤ n ∧ n ≤ 1048576 ∧ Hid (n = left - xs.length - sumL szMp (xs.take k)) ∧ Fr No w wr) (fun i _ _ _ => xs.length - (intOf i).toNat)
    case atStart => exact ⟨0, left - xs.length, Nat.zero_le _, rfl, rfl, rfl, by omega, by omega, by simp [Hid, sumL], Fr.refl _ _⟩
    case round =>
      obtain ⟨k, n, hk, rfl, rfl, rfl, hn0, hn1, hn, hf⟩ := hrel
      by_cases hlt : k < xs.length
      · obtain ⟨b, off, A_locals, c_locals, A_stack, c_stack, rfl, hX, c0, c1, c2, h_locals, h_stack, _, _, _, _⟩ := (h.keep hf (fun _ h => h.elim) (fun _ _ _ h9 => h9.keep hf (fun _ h => h.elim))).map hlt
        have hR : MapC X wr [.int .i64 xs[k].at_, .slice A_locals xs[k].locals.length c_locals, .slice A_stack xs[k].stack.length c_stack] xs[k] := ⟨_, _, rfl, h_locals, h_stack⟩
        clear h
        have H := fun W l (h : Fr No wr W) => szMp_go X xs[k] _ l W (hR.keep h (fun _ h => h.elim))
        clear hR
        clear h_locals
        clear h_stack
        have hst := Lib.hid (sumL_take szMp xs k hlt)
        have hle := Lib.hid (sumL_take_le szMp xs (k + 1))
        generalize xs[k] = x at *
        go_wp2_with (go_at_call 269; refine (H _ _ ?_ ?_ ?_).mono ?_; (focus (exact frc)); omega; omega; rintro e w1 ⟨n1, rfl, hn1', hf1⟩)
        · go_ret
          refine SzPost.mk _ ?_ (by exact frc)
          (first | (left; refine ⟨?_, ?_⟩ <;> ((try unfold Hid at *); (try unfold Hid at *); omega)) | (right; refine ⟨rfl, ?_⟩; ((try unfold Hid at *); (try unfold Hid at *); omega)))
        · go_roundw
          case rel => exact ⟨k + 1, n1, by omega, by go_num, rfl, rfl, by omega, by (simp only [Hid] at *; omega), by (simp only [Hid] at *; omega), by exact frc⟩
          case measure => simp [intOf]; omega
      · clear h
        have hst : Hid (sumL szMp (xs.take k) = sumL szMp xs) := by rw [List.take_of_length_le (by omega)]; exact rfl
        go_wp2
        go_ret
        refine SzPost.mk _ ?_ (by exact frc)
        (first | (left; refine ⟨?_, ?_⟩ <;> ((try unfold Hid at *); (try unfold Hid at *); omega)) | (right; refine ⟨rfl, ?_⟩; ((try unfold Hid at *); (try unfold Hid at *); omega)))
  · go_wp2
    go_ret
    refine SzPost.mk _ ?_ (by exact frc)
    (first | (left; refine ⟨?_, ?_⟩ <;> ((try unfold Hid at *); (try unfold Hid at *); omega)) | (right; refine ⟨rfl, ?_⟩; ((try unfold Hid at *); (try unfold Hid at *); omega)))

def szMth (x : Mth) : Nat := x.name.size + szL szKnd x.args + szKnd x.ret + szL szIns x.code + szL szMp x.maps
set_option maxRecDepth 100000 in
set_option maxHeartbeats 2000000 in
theorem szMth_go (X : Nat → Prop) (x : Mth) (cs : List Value) (left : Int) (w : World) (h : MthC X w cs x) (h0 : 0 ≤ left) (h1 : left ≤ 1048576) :
    Calls Tryz.prog 238 #[.agg cs.toArray, .int .i64 left] w (SzPost (szMth x) left w) := by
  obtain ⟨v_args, v_code, v_maps, rfl, hz0, hz1, h_args, h_code, h_maps⟩ := h
  unfold maxLen at hz0
  unfold maxLen at hz1
  have H_args := fun W l (h : Fr No w W) => szKndS_go X _ x.args l W (h_args.keep h (fun _ h => h.elim) (fun _ _ _ h => h))
  have H_ret := fun W l (_ : Fr No w W) => szKnd_go x.ret _ l W ⟨rfl, (by unfold maxLen; exact hz1)⟩
  have H_code := fun W l (h : Fr No w W) => szInsS_go X _ x.code l W (h_code.keep h (fun _ h => h.elim) (fun _ _ _ h => h))
  have H_maps := fun W l (h : Fr No w W) => szMpS_go X _ x.maps l W (h_maps.keep h (fun _ h => h.elim) (fun _ _ _ h9 => h9.keep h (fun _ h => h.elim)))
  obtain ⟨A_args, c_args, rfl, p_args, q_args⟩ := h_args.form
  obtain ⟨A_code, c_code, rfl, p_code, q_code⟩ := h_code.form
  obtain ⟨A_maps, c_maps, rfl, p_maps, q_maps⟩ := h_maps.form
  clear h_args
  clear h_code
  clear h_maps
  go_enter Tryz.func238, Tryz.ntmps238
  have hB := Bx.new w 333 #[.string x.name, .slice A_args x.args.length c_args, .int .i64 x.ret.kind, .string x.ret.name, .int .i64 x.locals, .int .i64 x.stack, .slice A_code x.code.length c_code, .slice A_maps x.maps.length c_maps]
  go_wp2_with (first
    | (go_at_call_of 254 (Value.slice A_args x.args.length c_args); refine (H_args _ _ ?_ ?_ ?_).mono ?_; (focus (exact frc)); omega; omega; rintro e w0 ⟨n0, rfl, hn0, hf0⟩; have hnb0 : n0 ≤ 1048576 := (by have := hn0.out; omega); have hb0 := Bx.keepTo w0 hB (by exact frc); obtain ⟨e0_0, e0_1, e0_2, e0_3, e0_4, e0_5, e0_6, e0_7⟩ := hb0.c8; have hl0 := hb0.lt; have hw0 : Fr No w w0 := (by exact frc))
    | (go_at_call 253; refine (H_ret _ _ ?_ ?_ ?_).mono ?_; (focus (exact frc)); omega; omega; rintro e w1 ⟨n1, rfl, hn1, hf1⟩; have hnb1 : n1 ≤ 1048576 := (by have := hn1.out; omega); have hb1 := Bx.keepTo w1 hb0 (by exact frc); obtain ⟨e1_0, e1_1, e1_2, e1_3, e1_4, e1_5, e1_6, e1_7⟩ := hb1.c8; have hl1 := hb1.lt; have hw1 : Fr No w w1 := (by exact frc))
    | (go_at_call_of 255 (Value.slice A_code x.code.length c_code); refine (H_code _ _ ?_ ?_ ?_).mono ?_; (focus (exact frc)); omega; omega; rintro e w2 ⟨n2, rfl, hn2, hf2⟩; have hnb2 : n2 ≤ 1048576 := (by have := hn2.out; omega); have hb2 := Bx.keepTo w2 hb1 (by exact frc); obtain ⟨e2_0, e2_1, e2_2, e2_3, e2_4, e2_5, e2_6, e2_7⟩ := hb2.c8; have hl2 := hb2.lt; have hw2 : Fr No w w2 := (by exact frc))
    | (go_at_call_of 256 (Value.slice A_maps x.maps.length c_maps); refine (H_maps _ _ ?_ ?_ ?_).mono ?_; (focus (exact frc)); omega; omega; rintro e w3 ⟨n3, rfl, hn3, hf3⟩; have hnb3 : n3 ≤ 1048576 := (by have := hn3.out; omega); have hb3 := Bx.keepTo w3 hb2 (by exact frc); obtain ⟨e3_0, e3_1, e3_2, e3_3, e3_4, e3_5, e3_6, e3_7⟩ := hb3.c8; have hl3 := hb3.lt; have hw3 : Fr No w w3 := (by exact frc)))
  all_goals go_ret
  all_goals refine SzPost.mk _ ?_ (by exact frc)
  all_goals (first | (left; refine ⟨?_, ?_⟩ <;> ((try unfold szMth at *); (try unfold Hid at *); omega)) | (right; refine ⟨rfl, ?_⟩; ((try unfold szMth at *); (try unfold Hid at *); omega)))

set_option maxRecDepth 100000 in
set_option maxHeartbeats 2000000 in
theorem szMthS_go (X : Nat → Prop) (v : Value) (xs : List Mth) (left : Int) (w : World) (h : Sl X w 8 (MthC X w) v xs) (h0 : 0 ≤ left) (h1 : left ≤ 1048576) :
    Calls Tryz.prog 213 #[v, .int .i64 left] w (SzPost (szL szMth xs) left w) := by
  obtain ⟨A, cap, rfl, hcap, hlen⟩ := h.form
  unfold maxLen at hlen
  have hsl := szL_len szMth xs
  have hsum : szL szMth xs = xs.length + sumL szMth xs := rfl
  have hsl := Lib.hid hsl
  have hsum := Lib.hid hsum
  go_enter Tryz.func213, Tryz.ntmps213
  by_cases hl0 : (xs.length : Int) ≤ left
  · go_wp2
    go_loopw [5, 1, 4] (fun i l r wr => ∃ (k : Nat) (n : Int), k ≤ xs.length ∧ i = .int .i64 k ∧ l = .int .i64 n ∧ r = .int .i64 0 ∧ 0 ≤ n ∧ n ≤ 1048576 ∧ Hid (n = left - xs.length - sumL szMth (xs.take k)) ∧ Fr No w wr) (fun i _ _ _ => xs.length - (intOf i).toNat)
    case atStart => exact ⟨0, left - xs.length, Nat.zero_le _, rfl, rfl, rfl, by omega, by omega, by simp [Hid, sumL], Fr.refl _ _⟩
    case round =>
      obtain ⟨k, n, hk, rfl, rfl, rfl, hn0, hn1, hn, hf⟩ := hrel
      by_cases hlt : k < xs.length
      · obtain ⟨b, off, A_args, c_args, A_code, c_code, A_maps, c_maps, rfl, hX, c0, c1, c2, c3, c4, c5, c6, c7, z0, z1, h_args, h_code, h_maps, _, _, _, _, _, _⟩ := (h.keep hf (fun _ h => h.elim) (fun _ _ _ h9 => h9.keep hf (fun _ h => h.elim))).mth hlt
        have hR : MthC X wr [.string xs[k].name, .slice A_args xs[k].args.length c_args, .int .i64 xs[k].ret.kind, .string xs[k].ret.name, .int .i64 xs[k].locals, .int .i64 xs[k].stack, .slice A_code xs[k].code.length c_code, .slice A_maps xs[k].maps.length c_maps] xs[k] := ⟨_, _, _, rfl, z0, z1, h_args, h_code, h_maps⟩
        clear h
        have H := fun W l (h : Fr No wr W) => szMth_go X xs[k] _ l W (hR.keep h (fun _ h => h.elim))
        clear hR
        clear h_args
        clear h_code
        clear h_maps
        have hst := Lib.hid (sumL_take szMth xs k hlt)
        have hle := Lib.hid (sumL_take_le szMth xs (k + 1))
        generalize xs[k] = x at *
        go_wp2_with (go_at_call 238; refine (H _ _ ?_ ?_ ?_).mono ?_; (focus (exact frc)); omega; omega; rintro e w1 ⟨n1, rfl, hn1', hf1⟩)
        · go_ret
          refine SzPost.mk _ ?_ (by exact frc)
          (first | (left; refine ⟨?_, ?_⟩ <;> ((try unfold Hid at *); (try unfold Hid at *); omega)) | (right; refine ⟨rfl, ?_⟩; ((try unfold Hid at *); (try unfold Hid at *); omega)))
        · go_roundw
          case rel => exact ⟨k + 1, n1, by omega, by go_num, rfl, rfl, by omega, by (simp only [Hid] at *; omega), by (simp only [Hid] at *; omega), by exact frc⟩
          case measure => simp [intOf]; omega
      · clear h
        have hst : Hid (sumL szMth (xs.take k) = sumL szMth xs) := by rw [List.take_of_length_le (by omega)]; exact rfl
        go_wp2
        go_ret
        refine SzPost.mk _ ?_ (by exact frc)
        (first | (left; refine ⟨?_, ?_⟩ <;> ((try unfold Hid at *); (try unfold Hid at *); omega)) | (right; refine ⟨rfl, ?_⟩; ((try unfold Hid at *); (try unfold Hid at *); omega)))
  · go_wp2
    go_ret
    refine SzPost.mk _ ?_ (by exact frc)
    (first | (left; refine ⟨?_, ?_⟩ <;> ((try unfold Hid at *); (try unfold Hid at *); omega)) | (right; refine ⟨rfl, ?_⟩; ((try unfold Hid at *); (try unfold Hid at *); omega)))

def szCls (x : Cls) : Nat := x.name.size + x.super.size + szL szFld x.fields + szL szMth x.methods
set_option maxRecDepth 100000 in
set_option maxHeartbeats 2000000 in
theorem szCls_go (X : Nat → Prop) (x : Cls) (cs : List Value) (left : Int) (w : World) (h : ClsC X w cs x) (h0 : 0 ≤ left) (h1 : left ≤ 1048576) :
    Calls Tryz.prog 173 #[.agg cs.toArray, .int .i64 left] w (SzPost (szCls x) left w) := by
  obtain ⟨v_fields, v_methods, rfl, hz0, hz1, h_fields, h_methods⟩ := h
  unfold maxLen at hz0
  unfold maxLen at hz1
  have H_fields := fun W l (h : Fr No w W) => szFldS_go X _ x.fields l W (h_fields.keep h (fun _ h => h.elim) (fun _ _ _ h => h))
  have H_methods := fun W l (h : Fr No w W) => szMthS_go X _ x.methods l W (h_methods.keep h (fun _ h => h.elim) (fun _ _ _ h9 => h9.keep h (fun _ h => h.elim)))
  obtain ⟨A_fields, c_fields, rfl, p_fields, q_fields⟩ := h_fields.form
  obtain ⟨A_methods, c_methods, rfl, p_methods, q_methods⟩ := h_methods.form
  clear h_fields
  clear h_methods
  go_enter Tryz.func173, Tryz.ntmps173
  have hB := Bx.new w 249 #[.string x.name, .string x.super, .slice A_fields x.fields.length c_fields, .slice A_methods x.methods.length c_methods]
  go_wp2_with (first
    | (go_at_call_of 212 (Value.slice A_fields x.fields.length c_fields); refine (H_fields _ _ ?_ ?_ ?_).mono ?_; (focus (exact frc)); omega; omega; rintro e w0 ⟨n0, rfl, hn0, hf0⟩; have hnb0 : n0 ≤ 1048576 := (by have := hn0.out; omega); have hb0 := Bx.keepTo w0 hB (by exact frc); obtain ⟨e0_0, e0_1, e0_2, e0_3⟩ := hb0.c4; have hl0 := hb0.lt; have hw0 : Fr No w w0 := (by exact frc))
    | (go_at_call_of 213 (Value.slice A_methods x.methods.length c_methods); refine (H_methods _ _ ?_ ?_ ?_).mono ?_; (focus (exact frc)); omega; omega; rintro e w1 ⟨n1, rfl, hn1, hf1⟩; have hnb1 : n1 ≤ 1048576 := (by have := hn1.out; omega); have hb1 := Bx.keepTo w1 hb0 (by exact frc); obtain ⟨e1_0, e1_1, e1_2, e1_3⟩ := hb1.c4; have hl1 := hb1.lt; have hw1 : Fr No w w1 := (by exact frc)))
  all_goals go_ret
  all_goals refine SzPost.mk _ ?_ (by exact frc)
  all_goals (first | (left; refine ⟨?_, ?_⟩ <;> ((try unfold szCls at *); (try unfold Hid at *); omega)) | (right; refine ⟨rfl, ?_⟩; ((try unfold szCls at *); (try unfold Hid at *); omega)))

end Go.Proofs.YthdibgikjekneaaGreat

