/-
  DERIVED. GIVEN WITH THE SEED: THE CARDS: each row of YtbfmeklfpackjaaGreatDoorRows.lean that lists a variable, with what it lists TIED to the program's text (the seventh form; the later family's looks); each row that meets fmt, with fmt's text TOLD by the authors' own Lean function (tested against real Go, not proved from fmt's source: count such statements apart). THE CARD IS WHAT COUNTS. Prove the row's statement (the work); the ties are given (YtbfmeklfpackjaaGreatDoorTie.lean); close each card by the builder's one call (the guide's Derived/Test/ToyasCard.lean, 'card_holds'). Laid BY PROGRAM, IN A SANDBOX (cutbox-door.mjs). By AI agents, Wed Nov 11 2026. No macro, syntax, notation, axiom, sorry.
-/
import Derived.Test.YtbfmeklfpackjaaGreatDoorRows
import GoSem.ClaimSeven
namespace Go.Proofs.YtbfmeklfpackjaaGreatDoor
namespace Rows

/-- THE TIED CARD OF 'laws.FnLnkCall'. -/
def fnLnkCallCard : Claim7 := { stood := { row := fnLnkCallRow, standIns := [], harness := (true, "1ff69f33d7a93bdb1e19c48fd6e7faa106e908aadf6f0d4800c839e5f341ef69"), looks := true }, kinds := [], alts := [], laidByText := true, laidKinds := [.handle], laidTests := true, laidLooks := .later }
def FnLnkCallCardSaid : Prop := Claim7.holds Tryz.pinned (.plain (OpenSpec.ofChange fnLnkCallSpec)) fnLnkCallCard

/-- THE TIED CARD OF 'laws.FnLnkGet'. -/
def fnLnkGetCard : Claim7 := { stood := { row := fnLnkGetRow, standIns := [], harness := (true, "1ff69f33d7a93bdb1e19c48fd6e7faa106e908aadf6f0d4800c839e5f341ef69"), looks := true }, kinds := [], alts := [], laidByText := true, laidKinds := [.handle], laidTests := true, laidLooks := .later }
def FnLnkGetCardSaid : Prop := Claim7.holds Tryz.pinned (.plain (OpenSpec.ofChange fnLnkGetSpec)) fnLnkGetCard

/-- THE TIED CARD OF 'laws.FnLnkNone'. -/
def fnLnkNoneCard : Claim7 := { stood := { row := fnLnkNoneRow, standIns := [], harness := (true, "1ff69f33d7a93bdb1e19c48fd6e7faa106e908aadf6f0d4800c839e5f341ef69"), looks := true }, kinds := [], alts := [], laidByText := true, laidKinds := [.handle], laidTests := true, laidLooks := .later }
def FnLnkNoneCardSaid : Prop := Claim7.holds Tryz.pinned (.plain (OpenSpec.ofChange fnLnkNoneSpec)) fnLnkNoneCard

/-- THE SECOND FORM's CARD OF 'laws.FnLnkCall'. -/
def fnLnkCallUptoCard : Claim7 := { stood := { row := fnLnkCallUptoRow, standIns := [], harness := (true, "1ff69f33d7a93bdb1e19c48fd6e7faa106e908aadf6f0d4800c839e5f341ef69"), looks := true }, kinds := [], alts := [], laidByText := true, laidKinds := [.handle], laidTests := true, laidLooks := .later }
def FnLnkCallUptoCardSaid : Prop := Claim7.holds Tryz.pinned (.plain (OpenSpec.upto fnLnkCallSpec)) fnLnkCallUptoCard

/-- THE SECOND FORM's CARD OF 'laws.FnLnkGet'. -/
def fnLnkGetUptoCard : Claim7 := { stood := { row := fnLnkGetUptoRow, standIns := [], harness := (true, "1ff69f33d7a93bdb1e19c48fd6e7faa106e908aadf6f0d4800c839e5f341ef69"), looks := true }, kinds := [], alts := [], laidByText := true, laidKinds := [.handle], laidTests := true, laidLooks := .later }
def FnLnkGetUptoCardSaid : Prop := Claim7.holds Tryz.pinned (.plain (OpenSpec.upto fnLnkGetSpec)) fnLnkGetUptoCard

/-- THE SECOND FORM's CARD OF 'laws.FnLnkNone'. -/
def fnLnkNoneUptoCard : Claim7 := { stood := { row := fnLnkNoneUptoRow, standIns := [], harness := (true, "1ff69f33d7a93bdb1e19c48fd6e7faa106e908aadf6f0d4800c839e5f341ef69"), looks := true }, kinds := [], alts := [], laidByText := true, laidKinds := [.handle], laidTests := true, laidLooks := .later }
def FnLnkNoneUptoCardSaid : Prop := Claim7.holds Tryz.pinned (.plain (OpenSpec.upto fnLnkNoneSpec)) fnLnkNoneUptoCard
end Rows
end Go.Proofs.YtbfmeklfpackjaaGreatDoor
