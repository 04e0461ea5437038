/- What is known of a thing, and when it is enough; the plain law. No program is named here. -/
import Derived.Test.YthdibgikjekneaaGreatGtp
namespace Go.Proofs.YthdibgikjekneaaGreat
open Go.RowKit

def noS : Str := ⟨#[]⟩
def tagEq (a b : Tag) : Bool := decide (a.kind = b.kind) && (a.name.toList == b.name.toList)
theorem tagEq_iff {a b : Tag} : tagEq a b = true ↔ a = b := by
  obtain ⟨ak, an⟩ := a
  obtain ⟨bk, bn⟩ := b
  unfold tagEq
  simp only [Bool.and_eq_true, decide_eq_true_eq, beq_iff_eq, Tag.mk.injEq]
  exact ⟨fun h => ⟨h.1, str_eq h.2⟩, fun h => ⟨h.1, by rw [h.2]⟩⟩
def noT : Tag := ⟨0, noS⟩
def numT : Tag := ⟨1, noS⟩
def nullT : Tag := ⟨3, noS⟩
def clsT (s : Str) : Tag := ⟨2, s⟩
def tagOf (k : Knd) : Tag := if kndB k then ⟨k.kind, k.name⟩ else noT
/-- Is a class another one, or under it? -/
def underK (p : Plan) (low top : Ref) : Bool := (chainK p low).any (fun r => refIs r top)
/-- Is what is known enough for what is to be known, as a keeper means it? -/
def mayK (p : Plan) (k : Int) (a b : Tag) : Bool :=
  if b.kind = 0 then true else if tagEq a b then true else if b.kind ≠ 2 then false else if a.kind = 3 then true else if a.kind ≠ 2 then false else
  if (findK p k a.name).2 = 1 then (if (findK p k b.name).2 = 1 then underK p (findK p k a.name).1 (findK p k b.name).1 else false) else false
end Go.Proofs.YthdibgikjekneaaGreat
