/- Keepers in new memory. -/
import Derived.Test.YthdibgikjekneaaGreatMon
namespace Go.Proofs.YthdibgikjekneaaGreat
open Go.RowKit

/-- Keepers in new memory. -/
def planB (p : Plan) (base : Nat) : Value → World → Prop := fun v W => ∃ vk, v = .agg #[vk] ∧ Sl (fun b => b < base) W 2 (KprC (fun b => b < base) W) vk p.keepers
theorem planB_mono (p : Plan) (base : Nat) : MonP (planB p base) := fun _ _ _ ⟨vk, h1, h2⟩ hf => ⟨vk, h1, h2.keep hf (fun _ h => h.elim) (fun _ _ _ h => h.keep hf (fun _ h => h.elim))⟩
theorem planB_of {p : Plan} {W w' : World} {e : Ending} {base : Nat} (h : ToPost PlanC p W e w') (hb : base ≤ W.heap.size) : ∃ v, e = .returned v ∧ Fr No W w' ∧ planB p base v w' := by
  obtain ⟨cs, rfl, ⟨vk, rfl, h⟩, hf⟩ := h
  exact ⟨_, rfl, hf, vk, rfl, h.weaken (fun b (hb' : b < base) => Nat.lt_of_lt_of_le hb' hb) (fun _ _ _ h => h.weaken (fun b (hb' : b < base) => Nat.lt_of_lt_of_le hb' hb))⟩
end Go.Proofs.YthdibgikjekneaaGreat
