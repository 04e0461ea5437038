/-
  DERIVED. GIVEN WITH THE SEED: THE CARDS: each row of YtlcdppoelflamaaGreatDoorRows.lean that lists a variable, with what it lists TIED to the program's text (the seventh form; the later family's looks); each row that meets fmt, with fmt's text TOLD by the authors' own Lean function (tested against real Go, not proved from fmt's source: count such statements apart). THE CARD IS WHAT COUNTS. Prove the row's statement (the work); the ties are given (YtlcdppoelflamaaGreatDoorTie.lean); close each card by the builder's one call (the guide's Derived/Test/ToyasCard.lean, 'card_holds'). Laid BY PROGRAM, IN A SANDBOX (cutbox-door.mjs). By AI agents, Wed Nov 11 2026. No macro, syntax, notation, axiom, sorry.
-/
import Derived.Test.YtlcdppoelflamaaGreatDoorRows
import GoSem.ClaimSeven
namespace Go.Proofs.YtlcdppoelflamaaGreatDoor
namespace Rows

/-- THE TIED CARD OF 'laws.FnExactChgText'. -/
def fnExactChgTextCard : Claim7 := { stood := { row := fnExactChgTextRow, standIns := [], harness := (true, "a64a5216d257fb2728725fdf70429ba231fef1db84b59bc430fd230c388766a3"), looks := true }, kinds := [], alts := [], laidByText := true, laidKinds := [.data, .data, .data], laidTests := true, laidLooks := .later }
def FnExactChgTextCardSaid : Prop := Claim7.holds Tryz.pinned (.plain (OpenSpec.ofChange fnExactChgTextSpec)) fnExactChgTextCard

/-- THE SECOND FORM's CARD OF 'laws.FnExactChgText'. -/
def fnExactChgTextUptoCard : Claim7 := { stood := { row := fnExactChgTextUptoRow, standIns := [], harness := (true, "a64a5216d257fb2728725fdf70429ba231fef1db84b59bc430fd230c388766a3"), looks := true }, kinds := [], alts := [], laidByText := true, laidKinds := [.data, .data, .data], laidTests := true, laidLooks := .later }
def FnExactChgTextUptoCardSaid : Prop := Claim7.holds Tryz.pinned (.plain (OpenSpec.upto fnExactChgTextSpec)) fnExactChgTextUptoCard
end Rows
end Go.Proofs.YtlcdppoelflamaaGreatDoor
