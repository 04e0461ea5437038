/- A call's world, cut off. -/
import Derived.Test.YthdibgikjekneaaGreatRep
namespace Go.Proofs.YthdibgikjekneaaGreat
open Go.RowKit

theorem calls_world {P : Program} {f : FuncId} {args : Array Value} {w : World} {Q : Ending → World → Prop} (R : World → Prop) (h : R w) (k : ∀ W, R W → Calls P f args W Q) : Calls P f args w Q := k w h
end Go.Proofs.YthdibgikjekneaaGreat
