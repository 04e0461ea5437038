/- The fields of a layout, and their names: the plain law. No program is named here. -/
import Derived.Test.YthdibgikjekneaaGreatAgr2
namespace Go.Proofs.YthdibgikjekneaaGreat
open Go.RowKit

def refIs (q r : Ref) : Bool := decide (q.keeper = r.keeper) && (q.name.toList == r.name.toList)
theorem refIs_iff {q r : Ref} : refIs q r = true ↔ q = r := by
  obtain ⟨qk, qn⟩ := q
  obtain ⟨rk, rn⟩ := r
  unfold refIs
  simp only [Bool.and_eq_true, decide_eq_true_eq, beq_iff_eq, Ref.mk.injEq]
  exact ⟨fun h => ⟨h.1, str_eq h.2⟩, fun h => ⟨h.1, by rw [h.2]⟩⟩
theorem refIs_self (r : Ref) : refIs r r = true := refIs_iff.2 rfl
theorem refIs_no {q r : Ref} (h : q ≠ r) : refIs q r = false := by
  rw [← Bool.not_eq_true]; intro h'; exact h (refIs_iff.1 h')

theorem upGo_mono {p : Plan} : ∀ {n m : Nat} {r : Ref} {rs : List Ref}, upGo p n r = some rs → n ≤ m → upGo p m r = some rs
  | 0, _, _, _, h, _ => by cases h
  | n + 1, 0, _, _, _, hm => absurd hm (by omega)
  | n + 1, m + 1, r, rs, h, hm => by
    rw [upGo] at h ⊢
    by_cases h1 : (clsAt p r).super.toList.isEmpty = true
    · rw [if_pos h1] at h ⊢; exact h
    · rw [if_neg h1] at h ⊢
      by_cases h2 : (whose p r.keeper (clsAt p r).super).2 = 1
      · rw [if_pos h2] at h ⊢
        rw [Option.map_eq_some_iff] at h ⊢
        obtain ⟨xs, hx, he⟩ := h
        exact ⟨xs, upGo_mono hx (by omega), he⟩
      · rw [if_neg h2] at h; cases h
theorem upGo_tail {p : Plan} : ∀ {n : Nat} {r : Ref} {rs : List Ref}, upGo p n r = some rs → ∀ (k : Nat) (hk : k < rs.length), ∃ m, upGo p m rs[k] = some (rs.drop k)
  | 0, _, _, h, _, _ => by cases h
  | n + 1, r, rs, h, k, hk => by
    have h0 := h
    rw [upGo] at h
    by_cases h1 : (clsAt p r).super.toList.isEmpty = true
    · rw [if_pos h1] at h
      cases h
      obtain rfl : k = 0 := by simpa using hk
      exact ⟨n + 1, h0⟩
    · rw [if_neg h1] at h
      by_cases h2 : (whose p r.keeper (clsAt p r).super).2 = 1
      · rw [if_pos h2] at h
        rw [Option.map_eq_some_iff] at h
        obtain ⟨xs, hx, rfl⟩ := h
        cases k with
        | zero => exact ⟨n + 1, h0⟩
        | succ k => exact upGo_tail hx k (by simpa using hk)
      · rw [if_neg h2] at h; cases h
theorem upGo_nodup {p : Plan} : ∀ {n : Nat} {r : Ref} {rs : List Ref}, upGo p n r = some rs → rs.Nodup
  | 0, _, _, h => by cases h
  | n + 1, r, rs, h => by
    have h0 := h
    rw [upGo] at h
    by_cases h1 : (clsAt p r).super.toList.isEmpty = true
    · rw [if_pos h1] at h
      cases h
      simp
    · rw [if_neg h1] at h
      by_cases h2 : (whose p r.keeper (clsAt p r).super).2 = 1
      · rw [if_pos h2] at h
        rw [Option.map_eq_some_iff] at h
        obtain ⟨xs, hx, rfl⟩ := h
        rw [List.nodup_cons]
        refine ⟨fun hm => ?_, upGo_nodup hx⟩
        obtain ⟨k, hk, he⟩ := List.getElem_of_mem hm
        obtain ⟨m, hm⟩ := upGo_tail hx k hk
        rw [he] at hm
        have a := upGo_mono hm (Nat.le_max_left m (n + 1))
        have b := upGo_mono h0 (Nat.le_max_right m (n + 1))
        rw [a] at b
        have := congrArg (Option.map List.length) b
        simp at this
        omega
      · rw [if_neg h2] at h; cases h
theorem chainK_nodup {p : Plan} (hp : lodB p = true) (r : Ref) : (chainK p r).Nodup := by
  rcases chainK_cases hp r with h | ⟨k, i, _, h⟩
  · rw [h]; simp
  · exact upGo_nodup h

/-- All fields of classes, one behind the other, each with its class. -/
def fldsOf (p : Plan) (rs : List Ref) : List (Ref × Fld) := rs.flatMap fun r => (clsAt p r).fields.map (r, ·)
theorem fldsOf_cons (p : Plan) (r : Ref) (rs : List Ref) : fldsOf p (r :: rs) = (clsAt p r).fields.map (r, ·) ++ fldsOf p rs := by simp [fldsOf]
theorem fldsOf_append (p : Plan) (rs ts : List Ref) : fldsOf p (rs ++ ts) = fldsOf p rs ++ fldsOf p ts := by simp [fldsOf]
/-- Where a class's fields begin. -/
def firstLen (p : Plan) : List Ref → Ref → Nat
  | [], _ => 0
  | r :: rs, q => if refIs r q then 0 else (clsAt p r).fields.length + firstLen p rs q
theorem fldsOf_mem {p : Plan} {rs : List Ref} {x : Ref × Fld} (h : x ∈ fldsOf p rs) : x.1 ∈ rs ∧ x.2 ∈ (clsAt p x.1).fields := by
  unfold fldsOf at h
  rw [List.mem_flatMap] at h
  obtain ⟨r, hr, hx⟩ := h
  rw [List.mem_map] at hx
  obtain ⟨f, hf, rfl⟩ := hx
  exact ⟨hr, hf⟩
theorem fld_at {p : Plan} : ∀ {rs : List Ref}, rs.Nodup → ∀ (i : Nat) (hi : i < (fldsOf p rs).length),
    firstLen p rs ((fldsOf p rs)[i]).1 ≤ i ∧ (clsAt p ((fldsOf p rs)[i]).1).fields[i - firstLen p rs ((fldsOf p rs)[i]).1]? = some ((fldsOf p rs)[i]).2 ∧
    (((fldsOf p rs).take i).filter (fun x => refIs x.1 ((fldsOf p rs)[i]).1)).length = i - firstLen p rs ((fldsOf p rs)[i]).1
  | [], _, i, hi => by simp [fldsOf] at hi
  | r :: rs, hn, i, hi => by
    rw [List.nodup_cons] at hn
    have he := fldsOf_cons p r rs
    by_cases hlt : i < (clsAt p r).fields.length
    · have hx : (fldsOf p (r :: rs))[i] = (r, (clsAt p r).fields[i]) := by
        simp only [he]
        rw [List.getElem_append_left (by simpa using hlt)]
        simp
      rw [hx]
      have hf : firstLen p (r :: rs) r = 0 := by rw [firstLen, if_pos (refIs_self r)]
      dsimp only
      rw [hf, Nat.sub_zero]
      refine ⟨Nat.zero_le _, List.getElem?_eq_getElem hlt, ?_⟩
      rw [he, List.take_append_of_le_length (by simp; omega), List.filter_eq_self.2, List.length_take, List.length_map]
      · omega
      · intro x hx
        have := List.mem_of_mem_take hx
        rw [List.mem_map] at this
        obtain ⟨f, _, rfl⟩ := this
        exact refIs_self r
    · have hl : (fldsOf p (r :: rs)).length = (clsAt p r).fields.length + (fldsOf p rs).length := by rw [he]; simp
      have hi' : i - (clsAt p r).fields.length < (fldsOf p rs).length := by omega
      obtain ⟨h1, h2, h3⟩ := fld_at hn.2 _ hi'
      have hx : (fldsOf p (r :: rs))[i] = (fldsOf p rs)[i - (clsAt p r).fields.length] := by
        simp only [he]
        rw [List.getElem_append_right (by simpa using Nat.le_of_not_lt hlt)]
        simp
      rw [hx]
      have hne : r ≠ ((fldsOf p rs)[i - (clsAt p r).fields.length]).1 := fun e => hn.1 (by rw [e]; exact (fldsOf_mem (List.getElem_mem hi')).1)
      generalize (fldsOf p rs)[i - (clsAt p r).fields.length] = y at *
      have hf : firstLen p (r :: rs) y.1 = (clsAt p r).fields.length + firstLen p rs y.1 := by rw [firstLen, if_neg (by rw [refIs_no hne]; simp)]
      rw [hf]
      refine ⟨by omega, by rw [← h2]; congr 1; omega, ?_⟩
      rw [he, List.take_append, List.filter_append, List.length_append, List.length_map, h3]
      have h0 : (((clsAt p r).fields.map (r, ·)).take i).filter (fun x => refIs x.1 y.1) = [] := by
        rw [List.filter_eq_nil_iff]
        intro x hx
        have := List.mem_of_mem_take hx
        rw [List.mem_map] at this
        obtain ⟨f, _, rfl⟩ := this
        rw [refIs_no hne]; simp
      rw [h0]
      simp
      omega

structure LFld where
  of_ : Ref
  at_ : Int
  kind : Knd
/-- All fields of a thing of a class with this chain, those from above first. -/
def layGo (i : Nat) : List (Ref × Fld) → List LFld
  | [] => []
  | x :: xs => ⟨x.1, i, x.2.kind⟩ :: layGo (i + 1) xs
theorem layGo_append : ∀ (xs ys : List (Ref × Fld)) (i : Nat), layGo i (xs ++ ys) = layGo i xs ++ layGo (i + xs.length) ys
  | [], ys, i => by simp [layGo]
  | x :: xs, ys, i => by rw [List.cons_append, layGo, layGo_append xs ys, layGo, List.cons_append, List.length_cons]; congr 3; omega
theorem layGo_len : ∀ (xs : List (Ref × Fld)) (i : Nat), (layGo i xs).length = xs.length
  | [], _ => rfl
  | x :: xs, i => by rw [layGo, List.length_cons, layGo_len xs, List.length_cons]
theorem layGo_get : ∀ (xs : List (Ref × Fld)) (i k : Nat) (hk : k < xs.length), (layGo i xs)[k]'(by rw [layGo_len]; exact hk) = ⟨xs[k].1, ((i + k : Nat) : Int), xs[k].2.kind⟩
  | x :: xs, i, 0, _ => rfl
  | x :: xs, i, k + 1, hk => by
    have := layGo_get xs (i + 1) k (by simpa using hk)
    simp only [layGo, List.getElem_cons_succ]
    rw [this]
    congr 2
    omega
def layL (p : Plan) (rs : List Ref) : List LFld := layGo 0 (fldsOf p rs.reverse)
def layK (p : Plan) (r : Ref) : List LFld := layL p (chainK p r)
def layB (p : Plan) (r : Ref) : List LFld := if canB p r then layK p r else []
theorem clsB_fields {c : Cls} (h : clsB c = true) : c.fields.length ≤ 3 := by
  unfold clsB at h
  simp only [Bool.and_eq_true, decide_eq_true_eq] at h
  omega
theorem fldsOf_len {p : Plan} (hp : lodB p = true) : ∀ {rs : List Ref}, AllHere p rs → (fldsOf p rs).length ≤ 3 * rs.length
  | [], _ => by simp [fldsOf]
  | r :: rs, h => by
    have ih := fldsOf_len hp (rs := rs) (fun x hx => h x (by simp [hx]))
    rw [fldsOf_cons]
    simp
    obtain ⟨_, k, i, hh⟩ := h r (by simp)
    have := clsB_fields (Here.clsB hp hh)
    omega
/-- Where a name first stands. -/
def getGo (p : Plan) (k : Int) (m : Str) (i : Nat) : List (Ref × Fld) → LFld × Int
  | [] => (⟨noRef, 0, ⟨0, ⟨#[]⟩⟩⟩, 3)
  | x :: xs => if x.2.name.toList == m.toList then (if agreeK p k x.1.keeper x.2.kind then (⟨x.1, i, x.2.kind⟩, 1) else (⟨noRef, 0, ⟨0, ⟨#[]⟩⟩⟩, 4)) else getGo p k m (i + 1) xs
end Go.Proofs.YthdibgikjekneaaGreat
