/- What is new is not frozen: it may be written. -/
import Derived.Test.YthdibgikjekneaaGreatRep
namespace Go.Proofs.YthdibgikjekneaaGreat
open Go.RowKit

/-- No block that is new from w to w' is frozen. -/
structure NF (w w' : World) : Prop where
  size : w.heap.size ≤ w'.heap.size
  free : ∀ b o, w.heap.size ≤ b → w'.frozen? ⟨b, o, none⟩ = false
section
variable {a w w' : World}
theorem frozen_out {w : World} {b o : Nat} (h : w.heap.size ≤ b) : w.frozen? ⟨b, o, none⟩ = false := by
  simp [World.frozen?, Array.getElem?_eq_none h]
theorem NF.refl (w : World) : NF w w := ⟨Nat.le_refl _, fun _ _ h => frozen_out h⟩
theorem NF.alloc (h : NF a w) (cs : Array Value) (t : TypeId) : NF a (w.alloc (.cells cs t)) := by
  refine ⟨Nat.le_trans h.size (by simp), fun b o hb => ?_⟩
  by_cases hn : b = w.heap.size
  · subst hn
    exact (Bx.new w t cs).frozen o
  · have e : (w.alloc (.cells cs t)).frozen? ⟨b, o, none⟩ = w.frozen? ⟨b, o, none⟩ := by
      simp only [World.alloc, World.frozen?, Array.getElem?_push]
      simp [hn]
    rw [e]
    exact h.free b o hb
theorem NF.setCell (h : NF a w) (p : Addr) (u : Value) : NF a (w.setCell p u) :=
  ⟨by simpa [World.setCell] using h.size, fun b o hb => by rw [World.frozen?_setCell]; exact h.free b o hb⟩
theorem NF.drew (h : NF a w) : NF a w.drew := ⟨h.size, h.free⟩
theorem NF.transO (h2 : NF w w') (hf : Fr No w w') (h : NF a w) : NF a w' := by
  refine ⟨Nat.le_trans h.size h2.size, fun b o hb => ?_⟩
  by_cases hn : b < w.heap.size
  · rw [hf.frozen o hn]; exact h.free b o hb
  · exact h2.free b o (by omega)
end
def GivesN (v : Value) (w : World) (e : Ending) (w' : World) : Prop := e = .returned v ∧ Fr No w w' ∧ NF w w'
theorem GivesN.mk {v u : Value} {w w' : World} (h : v = u) (hf : Fr No w w') (hn : NF w w') : GivesN u w (.returned v) w' := ⟨by rw [h], hf, hn⟩
def ToPostN {α : Type} (R : (Nat → Prop) → World → List Value → α → Prop) (x : α) (w : World) (e : Ending) (w' : World) : Prop :=
  ∃ cs, e = .returned (.agg cs.toArray) ∧ R (fun b => b < w.heap.size) w' cs x ∧ Fr No w w' ∧ NF w w'
def ToSPostN {α : Type} (sz : Nat) (R : (Nat → Prop) → World → List Value → α → Prop) (xs : List α) (w : World) (e : Ending) (w' : World) : Prop :=
  ∃ v, e = .returned v ∧ Sl (fun b => b < w.heap.size) w' sz (R (fun b => b < w.heap.size) w') v xs ∧ Fr No w w' ∧ NF w w'
/-- Closes a goal NF off the context. -/
theorem nfc {a w : World} (h : NF a w := by (repeat (first | (with_reducible assumption) | (with_reducible exact NF.refl _) | (with_reducible refine NF.alloc ?_ _ _) | (with_reducible refine NF.drew ?_) | (with_reducible refine NF.setCell ?_ _ _) | (with_reducible refine NF.transO (by assumption) (by assumption) ?_)))) : NF a w := h
end Go.Proofs.YthdibgikjekneaaGreat
