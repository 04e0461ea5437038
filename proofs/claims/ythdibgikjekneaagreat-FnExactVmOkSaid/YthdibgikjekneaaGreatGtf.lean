/- A layout's fields in memory. -/
import Derived.Test.YthdibgikjekneaaGreatLys
namespace Go.Proofs.YthdibgikjekneaaGreat
open Go.RowKit

theorem flat_get5 : ∀ (pre : List LFld) (k : Nat) (hk : k < pre.length) (j : Nat), j < 5 → (pre.flatMap lfCells)[k * 5 + j]? = (lfCells pre[k])[j]?
  | a :: pre, 0, _, j, hj => by
    rw [List.flatMap_cons, List.getElem?_append_left (by simp [lfCells]; omega)]
    simp
  | a :: pre, k + 1, hk, j, hj => by
    rw [List.flatMap_cons, List.getElem?_append_right (by simp [lfCells]; omega)]
    have := flat_get5 pre k (by simpa using hk) j hj
    have e : (k + 1) * 5 + j - (lfCells a).length = k * 5 + j := by simp [lfCells]; omega
    rw [e, this]
    simp
theorem flds_sl {w : World} {base : Nat} {v : Value} {pre : List LFld} (h : w.ownsRow base 232 5 v pre.length (pre.flatMap lfCells)) (hn : ∀ x ∈ pre, x.of_.name.size ≤ maxLen ∧ x.kind.name.size ≤ maxLen) : Sl (fun b => b < base) w 5 LFldC v pre := by
  obtain ⟨_, ⟨rfl, h0⟩ | ⟨g, cap, cur, rfl, hg, hb, h1, h2, h3, h4⟩⟩ := h
  · obtain rfl := List.length_eq_zero_iff.1 h0
    exact Sl.nil _ _ _ _
  · have hb' : Bx w g 232 cur := hb
    refine ⟨_, cap, rfl, h1, by omega, fun _ => ⟨g, 0, rfl, by omega, fun k hk => ⟨lfCells pre[k], ⟨rfl, hn _ (List.getElem_mem hk)⟩, rfl, fun j hj => ?_⟩⟩⟩
    rw [hb'.cell, ← flat_get5 pre k hk j hj, ← h4, List.getElem?_take, if_pos (by omega)]
    simp
theorem Sl.lfld {X : Nat → Prop} {w : World} {A : Option Addr} {n cap : Nat} {xs : List LFld} (h : Sl X w 5 LFldC (.slice A n cap) xs) {k : Nat} (hk : k < xs.length) :
    ∃ b off, A = some ⟨b, off, none⟩ ∧ ¬ X b ∧ w.cell? ⟨b, off + k * 5, none⟩ = some (.int .i64 xs[k].of_.keeper) ∧ w.cell? ⟨b, off + k * 5 + 1, none⟩ = some (.string xs[k].of_.name) ∧ w.cell? ⟨b, off + k * 5 + 2, none⟩ = some (.int .i64 xs[k].at_) ∧
      w.cell? ⟨b, off + k * 5 + 3, none⟩ = some (.int .i64 xs[k].kind.kind) ∧ w.cell? ⟨b, off + k * 5 + 4, none⟩ = some (.string xs[k].kind.name) ∧ xs[k].of_.name.size ≤ maxLen ∧ xs[k].kind.name.size ≤ maxLen := by
  obtain ⟨b, off, cs, hA, hX, ⟨rfl, hsz⟩, hc⟩ := h.cells hk
  exact ⟨b, off, hA, hX, hc 0 _ (by decide) rfl, hc 1 _ (by decide) rfl, hc 2 _ (by decide) rfl, hc 3 _ (by decide) rfl, hc 4 _ (by decide) rfl, hsz⟩
end Go.Proofs.YthdibgikjekneaaGreat
