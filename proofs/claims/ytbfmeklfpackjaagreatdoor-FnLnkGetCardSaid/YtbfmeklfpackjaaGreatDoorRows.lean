/-
  NARROWER THAN 'FOR EVERY INPUT', by the rows' own cells (each row's printed sentence says how): FnLnkCall: laid · FnLnkGet: laid · FnLnkNone: laid.
  DERIVED. THE GIVEN ROWS OF THIS SEAT. 3 by the template 'for every input the law returns true; each argument reads behind the call as it read before'; 0 by the template 'total and deterministic' (their statements: YtbfmeklfpackjaaGreatDoorTotals.lean).
  GIVEN WITH THE SEED: the statements are not yours to turn. If you find one false, say at which input.
  Laid BY PROGRAM, IN A SANDBOX (cutbox-rows.mjs): the forced cells as the released guide's own fill.sh prints them over the translation ccdc57ab78843315… (all of the seat's roots in one cut). By AI agents, Wed Nov 11 2026. No macro, syntax, notation, axiom, sorry.
-/
import Derived.Test.YtbfmeklfpackjaaGreatDoorChecked
import GoSem.Claim
import GoSem.ClaimJoined
import GoSem.ClaimMapViews
import Derived.JoinedTies
import Derived.KernelRfl
namespace Go.Proofs.YtbfmeklfpackjaaGreatDoor
/- THE CELL 'sum', in the pinned program and in every row, IS THE sha256 OF THE DUMP (.gsa) THAT YtbfmeklfpackjaaGreatDoorProg.lean LOADS. Nothing in Lean hashes anything: it is a label: what it is worth is what the hold of that sum in a sandbox is worth. -/
noncomputable def Tryz.pinned : Pinned := { name := "ytbfmeklfpackjaagreatdoor", sum := "ccdc57ab788433156cbb45386e7e352d7f6af4af21d67470aafdda79b20ff461", checked := Tryz.checked }
namespace Rows
def none {H : Type} : Left H := { results := [], args := [] }

/- WHAT THE LISTED PACKAGE-LEVEL VARIABLES READ AS WHEN THE CALL BEGINS. Each datum BY PROGRAM (the guide's laid-datum.mjs) off the statement by which the dump's own 'gosem.cut.vars' lays the variable. In a bare row this is a premise. The card (YtbfmeklfpackjaaGreatDoorCards.lean) ties it to the program's text. -/
def laid_errors_errorType {H : Type} : DataW H := .iface "internal/reflectlite.rtype" (.agg [.ptr (.lit (.string [101, 114, 114, 111, 114]))])

/-- 'laws.FnLnkCall': WHATEVER THE INPUT: true; the input reads as it did. -/
def fnLnkCallSpec : ChangeSpec := { name := "fnLnkCall", fn := fun _ => fun
  | [d] => { results := [.lit (.bool true)], args := [d] }
  | _ => none }
def fnLnkCallRow : OpenClaim := { program := "ytbfmeklfpackjaagreatdoor", sum := "ccdc57ab788433156cbb45386e7e352d7f6af4af21d67470aafdda79b20ff461", func := "loop.example/lodgekeeper/laws.FnLnkCall", spec := "fnLnkCall", inPlace := ["internal/reflectlite.ValueOf", "(internal/reflectlite.Value).Type", "(internal/reflectlite.Value).IsNil", "internal/reflectlite.TypeOf", "(internal/reflectlite.Value).Elem", "(internal/reflectlite.Value).Set"], unfollowed := true, recurses := true, named := ["errors.errorType"], plainKeys := false, apart := false, laid := [("errors.errorType", laid_errors_errorType)] }
def FnLnkCallSaid : Prop := fnLnkCallRow.holds Tryz.pinned (OpenSpec.ofChange fnLnkCallSpec)

/-- ITS FALSE NEIGHBOUR: 'it returns false'. Refute it at one input. -/
def fnLnkCallWrong : ChangeSpec := { name := "fnLnkCall", fn := fun _ => fun
  | [d] => { results := [.lit (.bool false)], args := [d] }
  | _ => none }
def FnLnkCallWrongFalsely : Prop := fnLnkCallRow.holds Tryz.pinned (OpenSpec.ofChange fnLnkCallWrong)

/-- 'laws.FnLnkGet': WHATEVER THE INPUT: true; the input reads as it did. -/
def fnLnkGetSpec : ChangeSpec := { name := "fnLnkGet", fn := fun _ => fun
  | [d] => { results := [.lit (.bool true)], args := [d] }
  | _ => none }
def fnLnkGetRow : OpenClaim := { program := "ytbfmeklfpackjaagreatdoor", sum := "ccdc57ab788433156cbb45386e7e352d7f6af4af21d67470aafdda79b20ff461", func := "loop.example/lodgekeeper/laws.FnLnkGet", spec := "fnLnkGet", inPlace := ["internal/reflectlite.ValueOf", "(internal/reflectlite.Value).Type", "(internal/reflectlite.Value).IsNil", "internal/reflectlite.TypeOf", "(internal/reflectlite.Value).Elem", "(internal/reflectlite.Value).Set"], unfollowed := true, recurses := true, named := ["errors.errorType"], plainKeys := false, apart := false, laid := [("errors.errorType", laid_errors_errorType)] }
def FnLnkGetSaid : Prop := fnLnkGetRow.holds Tryz.pinned (OpenSpec.ofChange fnLnkGetSpec)

/-- ITS FALSE NEIGHBOUR: 'it returns false'. Refute it at one input. -/
def fnLnkGetWrong : ChangeSpec := { name := "fnLnkGet", fn := fun _ => fun
  | [d] => { results := [.lit (.bool false)], args := [d] }
  | _ => none }
def FnLnkGetWrongFalsely : Prop := fnLnkGetRow.holds Tryz.pinned (OpenSpec.ofChange fnLnkGetWrong)

/-- 'laws.FnLnkNone': WHATEVER THE INPUT: true; the input reads as it did. -/
def fnLnkNoneSpec : ChangeSpec := { name := "fnLnkNone", fn := fun _ => fun
  | [d] => { results := [.lit (.bool true)], args := [d] }
  | _ => none }
def fnLnkNoneRow : OpenClaim := { program := "ytbfmeklfpackjaagreatdoor", sum := "ccdc57ab788433156cbb45386e7e352d7f6af4af21d67470aafdda79b20ff461", func := "loop.example/lodgekeeper/laws.FnLnkNone", spec := "fnLnkNone", inPlace := ["internal/reflectlite.ValueOf", "(internal/reflectlite.Value).Type", "(internal/reflectlite.Value).IsNil", "internal/reflectlite.TypeOf", "(internal/reflectlite.Value).Elem", "(internal/reflectlite.Value).Set"], unfollowed := true, recurses := true, named := ["errors.errorType"], plainKeys := false, apart := false, laid := [("errors.errorType", laid_errors_errorType)] }
def FnLnkNoneSaid : Prop := fnLnkNoneRow.holds Tryz.pinned (OpenSpec.ofChange fnLnkNoneSpec)

/-- ITS FALSE NEIGHBOUR: 'it returns false'. Refute it at one input. -/
def fnLnkNoneWrong : ChangeSpec := { name := "fnLnkNone", fn := fun _ => fun
  | [d] => { results := [.lit (.bool false)], args := [d] }
  | _ => none }
def FnLnkNoneWrongFalsely : Prop := fnLnkNoneRow.holds Tryz.pinned (OpenSpec.ofChange fnLnkNoneWrong)

/- THE SECOND FORM. 'bulk': how many values and letters a reading holds, each counted each time it is reached (what is shared counts as often as it is met; a slice's spare places count too). A statement '..UptoSaid' is the law's where the arguments, and the package variables that the reading takes, are together of bulk at most 1048576: NARROWER than '..Said'. Prove '..Said' where nothing that the law and all that it calls make is longer than what came in: it says more and counts as full. Else prove '..UptoSaid'. A law counts once. -/
mutual
def uptoBulk {H : Type} : DataW H → Nat
  | .lit (.string bytes) => bytes.length + 1
  | .lit _ => 1
  | .nil => 1
  | .ptr d => uptoBulk d + 1
  | .slice elems spare => uptoBulkAll elems + uptoBulkAll spare + 1
  | .agg parts => uptoBulkAll parts + 1
  | .iface _ d => uptoBulk d + 1
  | .map entries => uptoBulkEntries entries + 1
  | .held _ => 1
def uptoBulkAll {H : Type} : List (DataW H) → Nat
  | [] => 0
  | d :: r => uptoBulk d + uptoBulkAll r
def uptoBulkEntries {H : Type} : List (Lit × DataW H) → Nat
  | [] => 0
  | x :: r => uptoBulkEntry x + uptoBulkEntries r
def uptoBulkEntry {H : Type} : Lit × DataW H → Nat
  | (.string bytes, d) => bytes.length + uptoBulk d + 1
  | (_, d) => uptoBulk d + 1
 end
def uptoSmall : (H : Type) → List (DataW H) → Bool := fun _ ds => decide (uptoBulkAll ds ≤ 1048576)
def OpenSpec.upto (s : _root_.Go.ChangeSpec) : _root_.Go.OpenSpec := { _root_.Go.OpenSpec.ofChange s with cond := some uptoSmall }

/-- 'laws.FnLnkCall', WHERE WHAT IT READS IS OF BULK AT MOST 1048576: true; the input reads as it did. -/
def fnLnkCallUptoRow : OpenClaim := { program := "ytbfmeklfpackjaagreatdoor", sum := "ccdc57ab788433156cbb45386e7e352d7f6af4af21d67470aafdda79b20ff461", func := "loop.example/lodgekeeper/laws.FnLnkCall", spec := "fnLnkCall", inPlace := ["internal/reflectlite.ValueOf", "(internal/reflectlite.Value).Type", "(internal/reflectlite.Value).IsNil", "internal/reflectlite.TypeOf", "(internal/reflectlite.Value).Elem", "(internal/reflectlite.Value).Set"], unfollowed := true, recurses := true, named := ["errors.errorType"], plainKeys := false, apart := false, laid := [("errors.errorType", laid_errors_errorType)], narrowed := true }
def FnLnkCallUptoSaid : Prop := fnLnkCallUptoRow.holds Tryz.pinned (OpenSpec.upto fnLnkCallSpec)

/-- 'laws.FnLnkGet', WHERE WHAT IT READS IS OF BULK AT MOST 1048576: true; the input reads as it did. -/
def fnLnkGetUptoRow : OpenClaim := { program := "ytbfmeklfpackjaagreatdoor", sum := "ccdc57ab788433156cbb45386e7e352d7f6af4af21d67470aafdda79b20ff461", func := "loop.example/lodgekeeper/laws.FnLnkGet", spec := "fnLnkGet", inPlace := ["internal/reflectlite.ValueOf", "(internal/reflectlite.Value).Type", "(internal/reflectlite.Value).IsNil", "internal/reflectlite.TypeOf", "(internal/reflectlite.Value).Elem", "(internal/reflectlite.Value).Set"], unfollowed := true, recurses := true, named := ["errors.errorType"], plainKeys := false, apart := false, laid := [("errors.errorType", laid_errors_errorType)], narrowed := true }
def FnLnkGetUptoSaid : Prop := fnLnkGetUptoRow.holds Tryz.pinned (OpenSpec.upto fnLnkGetSpec)

/-- 'laws.FnLnkNone', WHERE WHAT IT READS IS OF BULK AT MOST 1048576: true; the input reads as it did. -/
def fnLnkNoneUptoRow : OpenClaim := { program := "ytbfmeklfpackjaagreatdoor", sum := "ccdc57ab788433156cbb45386e7e352d7f6af4af21d67470aafdda79b20ff461", func := "loop.example/lodgekeeper/laws.FnLnkNone", spec := "fnLnkNone", inPlace := ["internal/reflectlite.ValueOf", "(internal/reflectlite.Value).Type", "(internal/reflectlite.Value).IsNil", "internal/reflectlite.TypeOf", "(internal/reflectlite.Value).Elem", "(internal/reflectlite.Value).Set"], unfollowed := true, recurses := true, named := ["errors.errorType"], plainKeys := false, apart := false, laid := [("errors.errorType", laid_errors_errorType)], narrowed := true }
def FnLnkNoneUptoSaid : Prop := fnLnkNoneUptoRow.holds Tryz.pinned (OpenSpec.upto fnLnkNoneSpec)

end Rows
end Go.Proofs.YtbfmeklfpackjaaGreatDoor
