/- The plan of the laws of the machine: loMain. -/
import Derived.Test.YtbalicnnlfennaaGreatCK22
namespace Go.Proofs.YtbalicnnlfennaaGreat
open Go.RowKit

def mainMth (code : List Ins) (maps : List Mp) : Mth := ⟨sRun, [⟨1, noS⟩], ⟨1, noS⟩, 3, 3, code, maps⟩
def mainCls (code : List Ins) (maps : List Mp) : Cls := ⟨sMain, noS, [], [mainMth code maps]⟩
def mainP (more : List Cls) (code : List Ins) (maps : List Mp) : Plan := ⟨[⟨more ++ [mainCls code maps], []⟩]⟩
theorem info_clsc : (Tryz.prog.info? 62).map (fun i => (i.zero, i.size, i.bytes)) = some (some (.agg #[.string ⟨#[]⟩, .string ⟨#[]⟩, .slice none 0 0, .slice none 0 0]), 4, 80) := by kernel_rfl
theorem Sl.oneBx {α : Type} {w : World} {b : Nat} {t : TypeId} {cs : List Value} {sz : Nat} {R : List Value → α → Prop} {x : α} (h : Bx w b t cs.toArray) (hl : cs.length = sz) (hR : R cs x) : Sl No w sz R (.slice (some ⟨b, 0, none⟩) 1 1) [x] :=
 ⟨_, _, rfl, Nat.le_refl _, by unfold maxLen; simp, fun _ => ⟨b, 0, rfl, fun h => h, fun k hk => by
  obtain rfl : k = 0 := by simp at hk; omega
  refine ⟨cs, hR, hl, fun j hj => ?_⟩
  have := h.cell j
  simp only [Nat.zero_mul, Nat.zero_add]
  rw [this]
  simp⟩⟩
theorem slNil {α : Type} {X : Nat → Prop} {w : World} {sz : Nat} {R : List Value → α → Prop} : Sl X w sz R (.slice none 0 0) [] := ⟨none, 0, rfl, Nat.le_refl _, by unfold maxLen; simp, fun h => absurd h (by simp)⟩
def PlanPost (p : Plan) (w : World) (e : Ending) (w' : World) : Prop := (∃ pv, e = .returned (.agg #[pv]) ∧ Sl No w' 2 (KprC No w') pv p.keepers) ∧ Fr No w w'

end Go.Proofs.YtbalicnnlfennaaGreat
