/- Where a field, a method stands (the reference's search), and whether a class is nothing. -/
import Derived.Test.YthdibgikjekneaaGreatVal
namespace Go.Proofs.YthdibgikjekneaaGreat
open Go.RowKit

/-- Where the first that fits stands; -1, if none does. -/
def ixOf {α : Type} (p : α → Bool) (xs : List α) : Int := if xs.all (fun x => !p x) then -1 else (xs.findIdx p : Nat)
theorem ixOf_no {α : Type} {p : α → Bool} {xs : List α} (h : xs.all (fun x => !p x) = true) : ixOf p xs = -1 := by unfold ixOf; rw [h]; rfl
theorem ixOf_at {α : Type} {p : α → Bool} {xs : List α} {k : Nat} (hk : k < xs.length) (ha : (xs.take k).all (fun x => !p x) = true) (hp : p xs[k] = true) : ixOf p xs = (k : Nat) := by
  have h1 : xs.all (fun x => !p x) = false := all_no _ xs k hk (by rw [hp]; rfl)
  have h2 : xs.findIdx p = k := (List.findIdx_eq hk).2 ⟨hp, fun j hj => by
    rw [List.all_eq_true] at ha
    have := ha xs[j] (List.mem_take_iff_getElem.2 ⟨j, by omega, rfl⟩)
    simpa using this⟩
  unfold ixOf
  rw [h1, h2]; rfl
theorem ixOf_neg {α : Type} (p : α → Bool) (xs : List α) : decide (0 ≤ ixOf p xs) = !xs.all (fun x => !p x) := by
  unfold ixOf
  cases xs.all (fun x => !p x) <;> simp
theorem ixOf_range {α : Type} (p : α → Bool) (xs : List α) : ixOf p xs = -1 ∨ (0 ≤ ixOf p xs ∧ ixOf p xs < xs.length) := by
  unfold ixOf
  by_cases h : xs.all (fun x => !p x) = true
  · rw [if_pos h]; exact .inl rfl
  · rw [if_neg h]
    refine .inr ⟨by omega, ?_⟩
    rw [List.all_eq_true] at h
    have : ∃ x ∈ xs, p x := by
      apply Classical.byContradiction
      intro hn
      exact h fun x hx => by
        cases hp : p x
        · rfl
        · exact absurd ⟨x, hx, hp⟩ hn
    have := List.findIdx_lt_length.2 this
    omega
def fldIs (s : Str) (g : Fld) : Bool := g.name.toList == s.toList
def mthIs (s : Str) (g : Mth) : Bool := g.name.toList == s.toList

/-- A number in memory that has grown. -/
def IntFr (n : Int) (w : World) (e : Ending) (w' : World) : Prop := e = .returned (.int .i64 n) ∧ Fr No w w'
theorem IntFr.mk {n m : Int} {w w' : World} (h : n = m) (hf : Fr No w w') : IntFr m w (.returned (.int .i64 n)) w' := ⟨by rw [h], hf⟩

set_option maxHeartbeats 400000 in
theorem s_field (X : Nat → Prop) (v : Value) (xs : List Fld) (s : Str) (w : World) (h : Sl X w 3 FldC v xs) (_hs : s.size ≤ maxLen) :
    Calls Tryz.prog 178 #[v, .string s] w (IntFr (ixOf (fldIs s) xs) w) := by
  obtain ⟨A, cap, rfl, hcap, hlen⟩ := h.form
  unfold maxLen at hlen
  go_enter Tryz.func178, Tryz.ntmps178
  go_wp2
  go_loopw [5, 4] (fun i r wr => ∃ k : Nat, k ≤ xs.length ∧ i = .int .i64 k ∧ r = .int .i64 0 ∧ Hid ((xs.take k).all (fun x => !fldIs s x) = true) ∧ Fr No w wr) (fun i _ _ => xs.length - (intOf i).toNat)
  case atStart => exact ⟨0, Nat.zero_le _, rfl, rfl, by simp [Hid], Fr.refl _ _⟩
  case round =>
    obtain ⟨k, hk, rfl, rfl, ha, hf⟩ := hrel
    by_cases hlt : k < xs.length
    · obtain ⟨b, off, rfl, hX, c0, c1, c2, _, _⟩ := (h.keep hf (fun _ h => h.elim) (fun _ _ _ h => h)).fld hlt
      clear h
      have HS : fldIs s xs[k] = false → Hid ((xs.take (k + 1)).all (fun x => !fldIs s x) = true) := fun h => by
        have := all_snoc (fun x => !fldIs s x) xs k hlt
        rw [ha.out, h] at this; exact this
      have HN : fldIs s xs[k] = true → Hid (ixOf (fldIs s) xs = (k : Nat)) := fun h => ixOf_at hlt ha.out h
      have HS := Lib.hid HS
      have HN := Lib.hid HN
      unfold fldIs at HS HN
      clear ha
      generalize xs[k] = f at *
      cases hq : (f.name.toList == s.toList)
      · have HS := HS.out hq
        clear HN
        go_wp2
        go_roundw
        case rel => exact ⟨k + 1, by omega, by go_num, rfl, HS, by exact frc⟩
        case measure => simp [intOf]; omega
      · have HN := HN.out hq
        clear HS
        go_wp2
        go_ret
        exact .mk HN.out.symm (by exact frc)
    · have HS := Lib.hid (ixOf_no (all_yes _ xs k (by omega) ha.out))
      clear h ha
      go_wp2
      go_ret
      exact .mk HS.out.symm (by exact frc)

set_option maxHeartbeats 400000 in
theorem s_method (X : Nat → Prop) (v : Value) (xs : List Mth) (s : Str) (w : World) (h : Sl X w 8 (MthC X w) v xs) (_hs : s.size ≤ maxLen) :
    Calls Tryz.prog 175 #[v, .string s] w (IntFr (ixOf (mthIs s) xs) w) := by
  obtain ⟨A, cap, rfl, hcap, hlen⟩ := h.form
  unfold maxLen at hlen
  go_enter Tryz.func175, Tryz.ntmps175
  go_wp2
  go_loopw [5, 4] (fun i r wr => ∃ k : Nat, k ≤ xs.length ∧ i = .int .i64 k ∧ r = .int .i64 0 ∧ Hid ((xs.take k).all (fun x => !mthIs s x) = true) ∧ Fr No w wr) (fun i _ _ => xs.length - (intOf i).toNat)
  case atStart => exact ⟨0, Nat.zero_le _, rfl, rfl, by simp [Hid], Fr.refl _ _⟩
  case round =>
    obtain ⟨k, hk, rfl, rfl, ha, hf⟩ := hrel
    by_cases hlt : k < xs.length
    · obtain ⟨b, off, Aa, ca, Ac, cc, Ax, cx, rfl, hX, c0, c1, c2, c3, c4, c5, c6, c7, _, _, _, _, _, _, _, _, _, _, _⟩ := (h.keep hf (fun _ h => h.elim) (fun _ _ _ h => h.keep hf (fun _ h => h.elim))).mth hlt
      clear h
      have HS : mthIs s xs[k] = false → Hid ((xs.take (k + 1)).all (fun x => !mthIs s x) = true) := fun h => by
        have := all_snoc (fun x => !mthIs s x) xs k hlt
        rw [ha.out, h] at this; exact this
      have HN : mthIs s xs[k] = true → Hid (ixOf (mthIs s) xs = (k : Nat)) := fun h => ixOf_at hlt ha.out h
      have HS := Lib.hid HS
      have HN := Lib.hid HN
      unfold mthIs at HS HN
      clear ha
      generalize xs[k] = f at *
      cases hq : (f.name.toList == s.toList)
      · have HS := HS.out hq
        clear HN
        go_wp2
        go_roundw
        case rel => exact ⟨k + 1, by omega, by go_num, rfl, HS, by exact frc⟩
        case measure => simp [intOf]; omega
      · have HN := HN.out hq
        clear HS
        go_wp2
        go_ret
        exact .mk HN.out.symm (by exact frc)
    · have HS := Lib.hid (ixOf_no (all_yes _ xs k (by omega) ha.out))
      clear h ha
      go_wp2
      go_ret
      exact .mk HS.out.symm (by exact frc)

end Go.Proofs.YthdibgikjekneaaGreat
