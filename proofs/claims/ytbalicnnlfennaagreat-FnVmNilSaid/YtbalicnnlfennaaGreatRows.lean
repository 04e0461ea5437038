/-
  No cell of these rows narrows 'for every input' (looked for: loops, veiled, ifaces, maps, wideKeys, modest, calm, conditions, laid).
  DERIVED. THE GIVEN ROWS OF THIS SEAT. 7 by the template 'for every input the law returns true; each argument reads behind the call as it read before'; 0 by the template 'total and deterministic' (their statements: YtbalicnnlfennaaGreatTotals.lean).
  GIVEN WITH THE SEED: the statements are not yours to turn. If you find one false, say at which input.
  Laid BY PROGRAM, IN A SANDBOX (cutbox-rows.mjs): the forced cells as the released guide's own fill.sh prints them over the translation 92615ef0b6f0e531… (all of the seat's roots in one cut). By AI agents, Wed Nov 11 2026. No macro, syntax, notation, axiom, sorry.
-/
import Derived.Test.YtbalicnnlfennaaGreatChecked
import GoSem.Claim
import GoSem.ClaimJoined
import GoSem.ClaimMapViews
import Derived.JoinedTies
import Derived.KernelRfl
namespace Go.Proofs.YtbalicnnlfennaaGreat
/- THE CELL 'sum', in the pinned program and in every row, IS THE sha256 OF THE DUMP (.gsa) THAT YtbalicnnlfennaaGreatProg.lean LOADS. Nothing in Lean hashes anything: it is a label: what it is worth is what the hold of that sum in a sandbox is worth. -/
noncomputable def Tryz.pinned : Pinned := { name := "ytbalicnnlfennaagreat", sum := "92615ef0b6f0e53174d9a35d512db139cf8b97bb4d88e08c01c9ba46818a37bb", checked := Tryz.checked }
namespace Rows
def none {H : Type} : Left H := { results := [], args := [] }

/-- 'laws.FnVmMost': WHATEVER THE INPUT: true; the input reads as it did. -/
def fnVmMostSpec : ChangeSpec := { name := "fnVmMost", fn := fun _ => fun
  | [d] => { results := [.lit (.bool true)], args := [d] }
  | _ => none }
def fnVmMostRow : OpenClaim := { program := "ytbalicnnlfennaagreat", sum := "92615ef0b6f0e53174d9a35d512db139cf8b97bb4d88e08c01c9ba46818a37bb", func := "loop.example/lodgekeeper/laws.FnVmMost", spec := "fnVmMost", unfollowed := true, recurses := true, plainKeys := false, apart := false }
def FnVmMostSaid : Prop := fnVmMostRow.holds Tryz.pinned (OpenSpec.ofChange fnVmMostSpec)

/-- ITS FALSE NEIGHBOUR: 'it returns false'. Refute it at one input. -/
def fnVmMostWrong : ChangeSpec := { name := "fnVmMost", fn := fun _ => fun
  | [d] => { results := [.lit (.bool false)], args := [d] }
  | _ => none }
def FnVmMostWrongFalsely : Prop := fnVmMostRow.holds Tryz.pinned (OpenSpec.ofChange fnVmMostWrong)

/-- 'laws.FnVmAdd': WHATEVER THE INPUT: true; the input reads as it did. -/
def fnVmAddSpec : ChangeSpec := { name := "fnVmAdd", fn := fun _ => fun
  | [d] => { results := [.lit (.bool true)], args := [d] }
  | _ => none }
def fnVmAddRow : OpenClaim := { program := "ytbalicnnlfennaagreat", sum := "92615ef0b6f0e53174d9a35d512db139cf8b97bb4d88e08c01c9ba46818a37bb", func := "loop.example/lodgekeeper/laws.FnVmAdd", spec := "fnVmAdd", unfollowed := true, recurses := true, plainKeys := false, apart := false }
def FnVmAddSaid : Prop := fnVmAddRow.holds Tryz.pinned (OpenSpec.ofChange fnVmAddSpec)

/-- ITS FALSE NEIGHBOUR: 'it returns false'. Refute it at one input. -/
def fnVmAddWrong : ChangeSpec := { name := "fnVmAdd", fn := fun _ => fun
  | [d] => { results := [.lit (.bool false)], args := [d] }
  | _ => none }
def FnVmAddWrongFalsely : Prop := fnVmAddRow.holds Tryz.pinned (OpenSpec.ofChange fnVmAddWrong)

/-- 'laws.FnVmNoOne': WHATEVER THE INPUT: true; the input reads as it did. -/
def fnVmNoOneSpec : ChangeSpec := { name := "fnVmNoOne", fn := fun _ => fun
  | [d] => { results := [.lit (.bool true)], args := [d] }
  | _ => none }
def fnVmNoOneRow : OpenClaim := { program := "ytbalicnnlfennaagreat", sum := "92615ef0b6f0e53174d9a35d512db139cf8b97bb4d88e08c01c9ba46818a37bb", func := "loop.example/lodgekeeper/laws.FnVmNoOne", spec := "fnVmNoOne", unfollowed := true, recurses := true, plainKeys := false, apart := false }
def FnVmNoOneSaid : Prop := fnVmNoOneRow.holds Tryz.pinned (OpenSpec.ofChange fnVmNoOneSpec)

/-- ITS FALSE NEIGHBOUR: 'it returns false'. Refute it at one input. -/
def fnVmNoOneWrong : ChangeSpec := { name := "fnVmNoOne", fn := fun _ => fun
  | [d] => { results := [.lit (.bool false)], args := [d] }
  | _ => none }
def FnVmNoOneWrongFalsely : Prop := fnVmNoOneRow.holds Tryz.pinned (OpenSpec.ofChange fnVmNoOneWrong)

/-- 'laws.FnVmPut': WHATEVER THE INPUT: true; the input reads as it did. -/
def fnVmPutSpec : ChangeSpec := { name := "fnVmPut", fn := fun _ => fun
  | [d] => { results := [.lit (.bool true)], args := [d] }
  | _ => none }
def fnVmPutRow : OpenClaim := { program := "ytbalicnnlfennaagreat", sum := "92615ef0b6f0e53174d9a35d512db139cf8b97bb4d88e08c01c9ba46818a37bb", func := "loop.example/lodgekeeper/laws.FnVmPut", spec := "fnVmPut", unfollowed := true, recurses := true, plainKeys := false, apart := false }
def FnVmPutSaid : Prop := fnVmPutRow.holds Tryz.pinned (OpenSpec.ofChange fnVmPutSpec)

/-- ITS FALSE NEIGHBOUR: 'it returns false'. Refute it at one input. -/
def fnVmPutWrong : ChangeSpec := { name := "fnVmPut", fn := fun _ => fun
  | [d] => { results := [.lit (.bool false)], args := [d] }
  | _ => none }
def FnVmPutWrongFalsely : Prop := fnVmPutRow.holds Tryz.pinned (OpenSpec.ofChange fnVmPutWrong)

/-- 'laws.FnVmZero': WHATEVER THE INPUT: true; the input reads as it did. -/
def fnVmZeroSpec : ChangeSpec := { name := "fnVmZero", fn := fun _ => fun
  | [d] => { results := [.lit (.bool true)], args := [d] }
  | _ => none }
def fnVmZeroRow : OpenClaim := { program := "ytbalicnnlfennaagreat", sum := "92615ef0b6f0e53174d9a35d512db139cf8b97bb4d88e08c01c9ba46818a37bb", func := "loop.example/lodgekeeper/laws.FnVmZero", spec := "fnVmZero", unfollowed := true, recurses := true, plainKeys := false, apart := false }
def FnVmZeroSaid : Prop := fnVmZeroRow.holds Tryz.pinned (OpenSpec.ofChange fnVmZeroSpec)

/-- ITS FALSE NEIGHBOUR: 'it returns false'. Refute it at one input. -/
def fnVmZeroWrong : ChangeSpec := { name := "fnVmZero", fn := fun _ => fun
  | [d] => { results := [.lit (.bool false)], args := [d] }
  | _ => none }
def FnVmZeroWrongFalsely : Prop := fnVmZeroRow.holds Tryz.pinned (OpenSpec.ofChange fnVmZeroWrong)

/-- 'laws.FnLookWrong': WHATEVER THE INPUT: true; the input reads as it did. -/
def fnLookWrongSpec : ChangeSpec := { name := "fnLookWrong", fn := fun _ => fun
  | [d] => { results := [.lit (.bool true)], args := [d] }
  | _ => none }
def fnLookWrongRow : OpenClaim := { program := "ytbalicnnlfennaagreat", sum := "92615ef0b6f0e53174d9a35d512db139cf8b97bb4d88e08c01c9ba46818a37bb", func := "loop.example/lodgekeeper/laws.FnLookWrong", spec := "fnLookWrong", unfollowed := true, recurses := true, plainKeys := false, apart := false }
def FnLookWrongSaid : Prop := fnLookWrongRow.holds Tryz.pinned (OpenSpec.ofChange fnLookWrongSpec)

/-- ITS FALSE NEIGHBOUR: 'it returns false'. Refute it at one input. -/
def fnLookWrongWrong : ChangeSpec := { name := "fnLookWrong", fn := fun _ => fun
  | [d] => { results := [.lit (.bool false)], args := [d] }
  | _ => none }
def FnLookWrongWrongFalsely : Prop := fnLookWrongRow.holds Tryz.pinned (OpenSpec.ofChange fnLookWrongWrong)

/-- 'laws.FnVmNil': WHATEVER THE INPUT: true; the input reads as it did. -/
def fnVmNilSpec : ChangeSpec := { name := "fnVmNil", fn := fun _ => fun
  | [d] => { results := [.lit (.bool true)], args := [d] }
  | _ => none }
def fnVmNilRow : OpenClaim := { program := "ytbalicnnlfennaagreat", sum := "92615ef0b6f0e53174d9a35d512db139cf8b97bb4d88e08c01c9ba46818a37bb", func := "loop.example/lodgekeeper/laws.FnVmNil", spec := "fnVmNil", unfollowed := true, recurses := true, plainKeys := false, apart := false }
def FnVmNilSaid : Prop := fnVmNilRow.holds Tryz.pinned (OpenSpec.ofChange fnVmNilSpec)

/-- ITS FALSE NEIGHBOUR: 'it returns false'. Refute it at one input. -/
def fnVmNilWrong : ChangeSpec := { name := "fnVmNil", fn := fun _ => fun
  | [d] => { results := [.lit (.bool false)], args := [d] }
  | _ => none }
def FnVmNilWrongFalsely : Prop := fnVmNilRow.holds Tryz.pinned (OpenSpec.ofChange fnVmNilWrong)

/- THE SECOND FORM. 'bulk': how many values and letters a reading holds, each counted each time it is reached (what is shared counts as often as it is met; a slice's spare places count too). A statement '..UptoSaid' is the law's where the arguments, and the package variables that the reading takes, are together of bulk at most 1048576: NARROWER than '..Said'. Prove '..Said' where nothing that the law and all that it calls make is longer than what came in: it says more and counts as full. Else prove '..UptoSaid'. A law counts once. -/
mutual
def uptoBulk {H : Type} : DataW H → Nat
  | .lit (.string bytes) => bytes.length + 1
  | .lit _ => 1
  | .nil => 1
  | .ptr d => uptoBulk d + 1
  | .slice elems spare => uptoBulkAll elems + uptoBulkAll spare + 1
  | .agg parts => uptoBulkAll parts + 1
  | .iface _ d => uptoBulk d + 1
  | .map entries => uptoBulkEntries entries + 1
  | .held _ => 1
def uptoBulkAll {H : Type} : List (DataW H) → Nat
  | [] => 0
  | d :: r => uptoBulk d + uptoBulkAll r
def uptoBulkEntries {H : Type} : List (Lit × DataW H) → Nat
  | [] => 0
  | x :: r => uptoBulkEntry x + uptoBulkEntries r
def uptoBulkEntry {H : Type} : Lit × DataW H → Nat
  | (.string bytes, d) => bytes.length + uptoBulk d + 1
  | (_, d) => uptoBulk d + 1
 end
def uptoSmall : (H : Type) → List (DataW H) → Bool := fun _ ds => decide (uptoBulkAll ds ≤ 1048576)
def OpenSpec.upto (s : _root_.Go.ChangeSpec) : _root_.Go.OpenSpec := { _root_.Go.OpenSpec.ofChange s with cond := some uptoSmall }

/-- 'laws.FnVmMost', WHERE WHAT IT READS IS OF BULK AT MOST 1048576: true; the input reads as it did. -/
def fnVmMostUptoRow : OpenClaim := { program := "ytbalicnnlfennaagreat", sum := "92615ef0b6f0e53174d9a35d512db139cf8b97bb4d88e08c01c9ba46818a37bb", func := "loop.example/lodgekeeper/laws.FnVmMost", spec := "fnVmMost", unfollowed := true, recurses := true, plainKeys := false, apart := false, narrowed := true }
def FnVmMostUptoSaid : Prop := fnVmMostUptoRow.holds Tryz.pinned (OpenSpec.upto fnVmMostSpec)

/-- 'laws.FnVmAdd', WHERE WHAT IT READS IS OF BULK AT MOST 1048576: true; the input reads as it did. -/
def fnVmAddUptoRow : OpenClaim := { program := "ytbalicnnlfennaagreat", sum := "92615ef0b6f0e53174d9a35d512db139cf8b97bb4d88e08c01c9ba46818a37bb", func := "loop.example/lodgekeeper/laws.FnVmAdd", spec := "fnVmAdd", unfollowed := true, recurses := true, plainKeys := false, apart := false, narrowed := true }
def FnVmAddUptoSaid : Prop := fnVmAddUptoRow.holds Tryz.pinned (OpenSpec.upto fnVmAddSpec)

/-- 'laws.FnVmNoOne', WHERE WHAT IT READS IS OF BULK AT MOST 1048576: true; the input reads as it did. -/
def fnVmNoOneUptoRow : OpenClaim := { program := "ytbalicnnlfennaagreat", sum := "92615ef0b6f0e53174d9a35d512db139cf8b97bb4d88e08c01c9ba46818a37bb", func := "loop.example/lodgekeeper/laws.FnVmNoOne", spec := "fnVmNoOne", unfollowed := true, recurses := true, plainKeys := false, apart := false, narrowed := true }
def FnVmNoOneUptoSaid : Prop := fnVmNoOneUptoRow.holds Tryz.pinned (OpenSpec.upto fnVmNoOneSpec)

/-- 'laws.FnVmPut', WHERE WHAT IT READS IS OF BULK AT MOST 1048576: true; the input reads as it did. -/
def fnVmPutUptoRow : OpenClaim := { program := "ytbalicnnlfennaagreat", sum := "92615ef0b6f0e53174d9a35d512db139cf8b97bb4d88e08c01c9ba46818a37bb", func := "loop.example/lodgekeeper/laws.FnVmPut", spec := "fnVmPut", unfollowed := true, recurses := true, plainKeys := false, apart := false, narrowed := true }
def FnVmPutUptoSaid : Prop := fnVmPutUptoRow.holds Tryz.pinned (OpenSpec.upto fnVmPutSpec)

/-- 'laws.FnVmZero', WHERE WHAT IT READS IS OF BULK AT MOST 1048576: true; the input reads as it did. -/
def fnVmZeroUptoRow : OpenClaim := { program := "ytbalicnnlfennaagreat", sum := "92615ef0b6f0e53174d9a35d512db139cf8b97bb4d88e08c01c9ba46818a37bb", func := "loop.example/lodgekeeper/laws.FnVmZero", spec := "fnVmZero", unfollowed := true, recurses := true, plainKeys := false, apart := false, narrowed := true }
def FnVmZeroUptoSaid : Prop := fnVmZeroUptoRow.holds Tryz.pinned (OpenSpec.upto fnVmZeroSpec)

/-- 'laws.FnLookWrong', WHERE WHAT IT READS IS OF BULK AT MOST 1048576: true; the input reads as it did. -/
def fnLookWrongUptoRow : OpenClaim := { program := "ytbalicnnlfennaagreat", sum := "92615ef0b6f0e53174d9a35d512db139cf8b97bb4d88e08c01c9ba46818a37bb", func := "loop.example/lodgekeeper/laws.FnLookWrong", spec := "fnLookWrong", unfollowed := true, recurses := true, plainKeys := false, apart := false, narrowed := true }
def FnLookWrongUptoSaid : Prop := fnLookWrongUptoRow.holds Tryz.pinned (OpenSpec.upto fnLookWrongSpec)

/-- 'laws.FnVmNil', WHERE WHAT IT READS IS OF BULK AT MOST 1048576: true; the input reads as it did. -/
def fnVmNilUptoRow : OpenClaim := { program := "ytbalicnnlfennaagreat", sum := "92615ef0b6f0e53174d9a35d512db139cf8b97bb4d88e08c01c9ba46818a37bb", func := "loop.example/lodgekeeper/laws.FnVmNil", spec := "fnVmNil", unfollowed := true, recurses := true, plainKeys := false, apart := false, narrowed := true }
def FnVmNilUptoSaid : Prop := fnVmNilUptoRow.holds Tryz.pinned (OpenSpec.upto fnVmNilSpec)

end Rows
end Go.Proofs.YtbalicnnlfennaaGreat
