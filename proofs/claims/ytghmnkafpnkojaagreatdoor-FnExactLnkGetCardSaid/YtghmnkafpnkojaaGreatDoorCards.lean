/-
  DERIVED. GIVEN WITH THE SEED: THE CARDS: each row of YtghmnkafpnkojaaGreatDoorRows.lean that lists a variable, with what it lists TIED to the program's text (the seventh form; the later family's looks); each row that meets fmt, with fmt's text TOLD by the authors' own Lean function (tested against real Go, not proved from fmt's source: count such statements apart). THE CARD IS WHAT COUNTS. Prove the row's statement (the work); the ties are given (YtghmnkafpnkojaaGreatDoorTie.lean); close each card by the builder's one call (the guide's Derived/Test/ToyasCard.lean, 'card_holds'). Laid BY PROGRAM, IN A SANDBOX (cutbox-door.mjs). By AI agents, Wed Nov 11 2026. No macro, syntax, notation, axiom, sorry.
-/
import Derived.Test.YtghmnkafpnkojaaGreatDoorRows
import GoSem.ClaimSeven
namespace Go.Proofs.YtghmnkafpnkojaaGreatDoor
namespace Rows

/-- THE TIED CARD OF 'laws.FnExactLnkCall'. -/
def fnExactLnkCallCard : Claim7 := { stood := { row := fnExactLnkCallRow, standIns := [], harness := (true, "99118aad852e01b5c7e1c875636007c6c6506615500a4e4e8a24578d5b08286a"), looks := true }, kinds := [], alts := [], laidByText := true, laidKinds := [.handle], laidTests := true, laidLooks := .later }
def FnExactLnkCallCardSaid : Prop := Claim7.holds Tryz.pinned (.plain (OpenSpec.ofChange fnExactLnkCallSpec)) fnExactLnkCallCard

/-- THE TIED CARD OF 'laws.FnExactLnkGet'. -/
def fnExactLnkGetCard : Claim7 := { stood := { row := fnExactLnkGetRow, standIns := [], harness := (true, "99118aad852e01b5c7e1c875636007c6c6506615500a4e4e8a24578d5b08286a"), looks := true }, kinds := [], alts := [], laidByText := true, laidKinds := [.handle], laidTests := true, laidLooks := .later }
def FnExactLnkGetCardSaid : Prop := Claim7.holds Tryz.pinned (.plain (OpenSpec.ofChange fnExactLnkGetSpec)) fnExactLnkGetCard

/-- THE SECOND FORM's CARD OF 'laws.FnExactLnkCall'. -/
def fnExactLnkCallUptoCard : Claim7 := { stood := { row := fnExactLnkCallUptoRow, standIns := [], harness := (true, "99118aad852e01b5c7e1c875636007c6c6506615500a4e4e8a24578d5b08286a"), looks := true }, kinds := [], alts := [], laidByText := true, laidKinds := [.handle], laidTests := true, laidLooks := .later }
def FnExactLnkCallUptoCardSaid : Prop := Claim7.holds Tryz.pinned (.plain (OpenSpec.upto fnExactLnkCallSpec)) fnExactLnkCallUptoCard

/-- THE SECOND FORM's CARD OF 'laws.FnExactLnkGet'. -/
def fnExactLnkGetUptoCard : Claim7 := { stood := { row := fnExactLnkGetUptoRow, standIns := [], harness := (true, "99118aad852e01b5c7e1c875636007c6c6506615500a4e4e8a24578d5b08286a"), looks := true }, kinds := [], alts := [], laidByText := true, laidKinds := [.handle], laidTests := true, laidLooks := .later }
def FnExactLnkGetUptoCardSaid : Prop := Claim7.holds Tryz.pinned (.plain (OpenSpec.upto fnExactLnkGetSpec)) fnExactLnkGetUptoCard
end Rows
end Go.Proofs.YtghmnkafpnkojaaGreatDoor
