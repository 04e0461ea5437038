/-
  DERIVED. GIVEN WITH THE SEED: THE CARDS: each row of YtmeaibjmnjcdfaaGreatDoorRows.lean that lists a variable, with what it lists TIED to the program's text (the seventh form; the later family's looks); each row that meets fmt, with fmt's text TOLD by the authors' own Lean function (tested against real Go, not proved from fmt's source: count such statements apart). THE CARD IS WHAT COUNTS. Prove the row's statement (the work); the ties are given (YtmeaibjmnjcdfaaGreatDoorTie.lean); close each card by the builder's one call (the guide's Derived/Test/ToyasCard.lean, 'card_holds'). Laid BY PROGRAM, IN A SANDBOX (cutbox-door.mjs). By AI agents, Wed Nov 11 2026. No macro, syntax, notation, axiom, sorry.
-/
import Derived.Test.YtmeaibjmnjcdfaaGreatDoorRows
import GoSem.ClaimSeven
namespace Go.Proofs.YtmeaibjmnjcdfaaGreatDoor
namespace Rows

/-- THE TIED CARD OF 'laws.FnExactLodPrint'. -/
def fnExactLodPrintCard : Claim7 := { stood := { row := fnExactLodPrintRow, standIns := [], harness := (true, "9124b850aac5cfc90f610222e9cb62aecee10715e104a0906ba355c2cb25046c"), looks := true }, kinds := [], alts := [], laidByText := true, laidKinds := [.data, .data, .data], laidTests := true, laidLooks := .later }
def FnExactLodPrintCardSaid : Prop := Claim7.holds Tryz.pinned (.plain (OpenSpec.ofChange fnExactLodPrintSpec)) fnExactLodPrintCard

/-- THE TIED CARD OF 'laws.FnExactLodParse'. -/
def fnExactLodParseCard : Claim7 := { stood := { row := fnExactLodParseRow, standIns := [], harness := (true, "9124b850aac5cfc90f610222e9cb62aecee10715e104a0906ba355c2cb25046c"), looks := true }, kinds := [], alts := [], laidByText := true, laidKinds := [.data, .data, .data, .data, .sentinel, .sentinel, .pinned], laidTests := true, laidLooks := .later }
def FnExactLodParseCardSaid : Prop := Claim7.holds Tryz.pinned (.plain (OpenSpec.ofChange fnExactLodParseSpec)) fnExactLodParseCard

/-- THE TIED CARD OF 'laws.FnLodPrint'. -/
def fnLodPrintCard : Claim7 := { stood := { row := fnLodPrintRow, standIns := [], harness := (true, "9124b850aac5cfc90f610222e9cb62aecee10715e104a0906ba355c2cb25046c"), looks := true }, kinds := [], alts := [], laidByText := true, laidKinds := [.data, .data, .data, .data, .sentinel, .sentinel, .pinned], laidTests := true, laidLooks := .later }
def FnLodPrintCardSaid : Prop := Claim7.holds Tryz.pinned (.plain (OpenSpec.ofChange fnLodPrintSpec)) fnLodPrintCard

/-- THE TIED CARD OF 'laws.FnLodParse'. -/
def fnLodParseCard : Claim7 := { stood := { row := fnLodParseRow, standIns := [], harness := (true, "9124b850aac5cfc90f610222e9cb62aecee10715e104a0906ba355c2cb25046c"), looks := true }, kinds := [], alts := [], laidByText := true, laidKinds := [.data, .data, .data, .data, .sentinel, .sentinel, .pinned], laidTests := true, laidLooks := .later }
def FnLodParseCardSaid : Prop := Claim7.holds Tryz.pinned (.plain (OpenSpec.ofChange fnLodParseSpec)) fnLodParseCard

/-- THE SECOND FORM's CARD OF 'laws.FnExactLodPrint'. -/
def fnExactLodPrintUptoCard : Claim7 := { stood := { row := fnExactLodPrintUptoRow, standIns := [], harness := (true, "9124b850aac5cfc90f610222e9cb62aecee10715e104a0906ba355c2cb25046c"), looks := true }, kinds := [], alts := [], laidByText := true, laidKinds := [.data, .data, .data], laidTests := true, laidLooks := .later }
def FnExactLodPrintUptoCardSaid : Prop := Claim7.holds Tryz.pinned (.plain (OpenSpec.upto fnExactLodPrintSpec)) fnExactLodPrintUptoCard

/-- THE SECOND FORM's CARD OF 'laws.FnExactLodParse'. -/
def fnExactLodParseUptoCard : Claim7 := { stood := { row := fnExactLodParseUptoRow, standIns := [], harness := (true, "9124b850aac5cfc90f610222e9cb62aecee10715e104a0906ba355c2cb25046c"), looks := true }, kinds := [], alts := [], laidByText := true, laidKinds := [.data, .data, .data, .data, .sentinel, .sentinel, .pinned], laidTests := true, laidLooks := .later }
def FnExactLodParseUptoCardSaid : Prop := Claim7.holds Tryz.pinned (.plain (OpenSpec.upto fnExactLodParseSpec)) fnExactLodParseUptoCard

/-- THE SECOND FORM's CARD OF 'laws.FnLodPrint'. -/
def fnLodPrintUptoCard : Claim7 := { stood := { row := fnLodPrintUptoRow, standIns := [], harness := (true, "9124b850aac5cfc90f610222e9cb62aecee10715e104a0906ba355c2cb25046c"), looks := true }, kinds := [], alts := [], laidByText := true, laidKinds := [.data, .data, .data, .data, .sentinel, .sentinel, .pinned], laidTests := true, laidLooks := .later }
def FnLodPrintUptoCardSaid : Prop := Claim7.holds Tryz.pinned (.plain (OpenSpec.upto fnLodPrintSpec)) fnLodPrintUptoCard

/-- THE SECOND FORM's CARD OF 'laws.FnLodParse'. -/
def fnLodParseUptoCard : Claim7 := { stood := { row := fnLodParseUptoRow, standIns := [], harness := (true, "9124b850aac5cfc90f610222e9cb62aecee10715e104a0906ba355c2cb25046c"), looks := true }, kinds := [], alts := [], laidByText := true, laidKinds := [.data, .data, .data, .data, .sentinel, .sentinel, .pinned], laidTests := true, laidLooks := .later }
def FnLodParseUptoCardSaid : Prop := Claim7.holds Tryz.pinned (.plain (OpenSpec.upto fnLodParseSpec)) fnLodParseUptoCard
end Rows
end Go.Proofs.YtmeaibjmnjcdfaaGreatDoor
