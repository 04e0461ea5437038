/- Instructions in a new block. -/
import Derived.Test.YtbalicnnlfennaaGreatHPrm3
namespace Go.Proofs.YtbalicnnlfennaaGreat
open Go.RowKit

theorem Sl.ofBx {α : Type} {w : World} {b : Nat} {t : TypeId} {sz : Nat} {R : List Value → α → Prop} {C : α → List Value} {xs : List α} (hC : ∀ x, (C x).length = sz) (h : Bx w b t (xs.flatMap C).toArray) (hR : ∀ x ∈ xs, R (C x) x) (hl : xs.length ≤ maxLen) : Sl No w sz R (.slice (some ⟨b, 0, none⟩) xs.length xs.length) xs :=
  ⟨_, _, rfl, Nat.le_refl _, hl, fun _ => ⟨b, 0, rfl, fun h => h, fun k hk => ⟨C xs[k], hR _ (List.getElem_mem hk), hC _, fun j hj => by
    have h9 := flatW_get hC xs k hk j hj
    rw [Nat.zero_add, h.cell (k * sz + j)]
    simpa using h9⟩⟩⟩
def insCells (i : Ins) : List Value := [.int .i64 i.op, .int .i64 i.a, .string i.name, .string i.member]
theorem Sl.insBx {w : World} {b : Nat} {t : TypeId} {xs : List Ins} (h : Bx w b t (xs.flatMap insCells).toArray) (hR : ∀ x ∈ xs, x.name.size ≤ maxLen ∧ x.member.size ≤ maxLen) (hl : xs.length ≤ maxLen) : Sl No w 4 InsC (.slice (some ⟨b, 0, none⟩) xs.length xs.length) xs :=
  Sl.ofBx (fun _ => rfl) h (fun x hx => ⟨rfl, hR x hx⟩) hl
theorem Sl.tagBx {w : World} {b : Nat} {t : TypeId} {xs : List Tag} (h : Bx w b t (xs.flatMap tagCells).toArray) (hR : ∀ x ∈ xs, x.name.size ≤ maxLen) (hl : xs.length ≤ maxLen) : Sl No w 2 TagC (.slice (some ⟨b, 0, none⟩) xs.length xs.length) xs :=
  Sl.ofBx (fun _ => rfl) h (fun x hx => ⟨rfl, hR x hx⟩) hl
/-- What a run that has ended so says of itself. -/
theorem StC.status {X : Nat → Prop} {w : World} {cs : List Value} {s : St} (h : StC X w cs s) : ∃ v1 v2 v3 v4 v5, cs = [.int .i64 s.status, v1, v2, v3, v4, v5] := by
  obtain ⟨vf, vh, vo, rfl, _⟩ := h
  exact ⟨_, _, _, _, _, rfl⟩
end Go.Proofs.YtbalicnnlfennaaGreat
