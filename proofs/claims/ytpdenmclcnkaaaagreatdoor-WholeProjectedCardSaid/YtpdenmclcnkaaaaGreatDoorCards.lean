/-
  DERIVED. GIVEN WITH THE SEED: THE CARDS: each row of YtpdenmclcnkaaaaGreatDoorRows.lean that lists a variable, with what it lists TIED to the program's text (the seventh form; the later family's looks); each row that meets fmt, with fmt's text TOLD by the authors' own Lean function (tested against real Go, not proved from fmt's source: count such statements apart). THE CARD IS WHAT COUNTS. Prove the row's statement (the work); the ties are given (YtpdenmclcnkaaaaGreatDoorTie.lean); close each card by the builder's one call (the guide's Derived/Test/ToyasCard.lean, 'card_holds'). Laid BY PROGRAM, IN A SANDBOX (cutbox-door.mjs). By AI agents, Wed Nov 11 2026. No macro, syntax, notation, axiom, sorry.
-/
import Derived.Test.YtpdenmclcnkaaaaGreatDoorRows
import GoSem.ClaimSeven
namespace Go.Proofs.YtpdenmclcnkaaaaGreatDoor
namespace Rows

/-- THE TIED CARD OF 'tabelliontop.WholeProjected'. -/
def wholeProjectedCard : Claim7 := { stood := { row := wholeProjectedRow, standIns := [], harness := (true, "96833b2ea66076fe733e20abc5fd5c64e987c94b1f44dfb7f1ad87c2b6acd707"), looks := false }, kinds := [], alts := [], laidByText := true, laidKinds := [.data], laidTests := true, laidLooks := .later }
def WholeProjectedCardSaid : Prop := Claim7.holds Tryz.pinned (.plain (OpenSpec.ofChange wholeProjectedSpec)) wholeProjectedCard

/-- THE SECOND FORM's CARD OF 'tabelliontop.WholeProjected'. -/
def wholeProjectedUptoCard : Claim7 := { stood := { row := wholeProjectedUptoRow, standIns := [], harness := (true, "96833b2ea66076fe733e20abc5fd5c64e987c94b1f44dfb7f1ad87c2b6acd707"), looks := false }, kinds := [], alts := [], laidByText := true, laidKinds := [.data], laidTests := true, laidLooks := .later }
def WholeProjectedUptoCardSaid : Prop := Claim7.holds Tryz.pinned (.plain (OpenSpec.upto wholeProjectedSpec)) wholeProjectedUptoCard
end Rows
end Go.Proofs.YtpdenmclcnkaaaaGreatDoor
