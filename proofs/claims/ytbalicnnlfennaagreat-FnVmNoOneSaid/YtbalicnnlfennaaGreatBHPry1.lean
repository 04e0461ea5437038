/- What the statement's reading of an argument tells of the cells: lists of structs behind slices. -/
import Derived.Test.YtbalicnnlfennaaGreatBG1
import Derived.Test.YtbalicnnlfennaaGreatRows
import Derived.ProofKit
import Derived.KernelRfl
namespace Go.Proofs.YtbalicnnlfennaaGreat
open Go.RowKit

theorem exists_list {α : Type} : ∀ (n : Nat) (p : Nat → α → Prop), (∀ i, i < n → ∃ a, p i a) → ∃ l : List α, l.length = n ∧ ∀ i (hi : i < l.length), p i l[i]
  | 0, _, _ => ⟨[], rfl, fun i hi => absurd hi (by simp)⟩
  | n + 1, p, h => by
    obtain ⟨a, ha⟩ := h 0 (by omega)
    obtain ⟨l, hl, hp⟩ := exists_list n (fun i => p (i + 1)) (fun i hi => h (i + 1) (by omega))
    refine ⟨a :: l, by simp [hl], fun i hi => ?_⟩
    cases i with
    | zero => exact ha
    | succ j => exact hp j (by simpa using hi)
theorem openSl {α : Type} {R : List Value → α → Prop} {H : Type} {enc : TypeId × Value → H} {P : Program} {W : World} {sp : Nat → Bool} {held : Bool} {t e : TypeId} {sz : Nat} {v : Value} {fuel : Nat} {x : DataW H × List MemPlace}
    (ht : P.underlying t = some (.slice e)) (hc : P.cellsOf e = sz) (hpos : 0 < sz) (hR : ∀ fuel cs (y : DataW H × List MemPlace), DataW.trod enc P W 0 sp held fuel e cs = some y → ∃ a, R cs a)
    (h : DataW.trod enc P W 0 sp held fuel t [v] = some x) : ∃ xs : List α, Sl No W sz R v xs := by
  rcases DataW.trod_slice ht h with ⟨hv, _⟩ | ⟨a, len, cap, elems, rest, n, _, hv, _, _, hlc, hcm, hel, he, _, _⟩
  · obtain rfl := (List.cons.inj hv).1
    exact ⟨[], Sl.nil _ _ _ _⟩
  · obtain rfl := (List.cons.inj hv).1
    rw [hc] at he
    obtain ⟨xs, hxl, hxs⟩ := exists_list (α := α) len (fun i y => ∃ cs, R cs y ∧ cs.length = sz ∧ ∀ j, j < sz → W.cell? ((a.add (i * sz)).add j) = cs[j]?) (fun i hi => by
      have h1 := he i hi
      rw [List.getElem?_eq_getElem (show i < elems.length by omega), Option.bind_eq_some_iff] at h1
      obtain ⟨cs, h2, h3⟩ := h1
      obtain ⟨y, hy⟩ := hR _ _ _ h3
      obtain ⟨_, h4, h5⟩ := World.cells?_some h2
      exact ⟨y, cs, hy, h4, h5⟩)
    refine ⟨xs, some a, cap, by rw [hxl], by omega, by omega, fun h0 => ?_⟩
    have hspot : a.spot = none := by
      obtain ⟨cs, _, hl, hcell⟩ := hxs 0 h0
      have h1 := hcell 0 hpos
      rw [List.getElem?_eq_getElem (show 0 < cs.length by omega)] at h1
      have h2 : W.cell? a = some cs[0] := by
        have e : (a.add (0 * sz)).add 0 = a := by simp [Addr.add]
        rwa [e] at h1
      unfold World.cell? at h2
      split at h2
      · cases hs : a.spot
        · rfl
        · rw [hs] at h2; simp at h2
      · cases h2
    obtain ⟨b, off, spot⟩ := a
    dsimp only at hspot
    subst hspot
    refine ⟨b, off, rfl, fun h => h.elim, fun k hk => ?_⟩
    obtain ⟨cs, hRc, hl, hcell⟩ := hxs k hk
    refine ⟨cs, hRc, hl, fun j hj => ?_⟩
    rw [← hcell j hj]
    congr 1
    unfold Addr.add
    split <;> split <;> simp_all [Nat.add_assoc]

section
variable {H : Type} {enc : TypeId × Value → H} {W : World} {sp : Nat → Bool} {held : Bool}
end
end Go.Proofs.YtbalicnnlfennaaGreat
