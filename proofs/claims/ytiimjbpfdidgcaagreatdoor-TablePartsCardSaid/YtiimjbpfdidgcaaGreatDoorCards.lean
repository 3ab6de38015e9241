/-
  DERIVED. GIVEN WITH THE SEED: THE CARDS: each row of YtiimjbpfdidgcaaGreatDoorRows.lean that lists a variable, with what it lists TIED to the program's text (the seventh form; the later family's looks); each row that meets fmt, with fmt's text TOLD by the authors' own Lean function (tested against real Go, not proved from fmt's source: count such statements apart). THE CARD IS WHAT COUNTS. Prove the row's statement (the work); the ties are given (YtiimjbpfdidgcaaGreatDoorTie.lean); close each card by the builder's one call (the guide's Derived/Test/ToyasCard.lean, 'card_holds'). Laid BY PROGRAM, IN A SANDBOX (cutbox-door.mjs). By AI agents, Wed Nov 11 2026. No macro, syntax, notation, axiom, sorry.
-/
import Derived.Test.YtiimjbpfdidgcaaGreatDoorRows
import GoSem.ClaimSeven
namespace Go.Proofs.YtiimjbpfdidgcaaGreatDoor
namespace Rows

/-- THE TIED CARD OF 'quadrillelaw07.TableParts'. -/
def tablePartsCard : Claim7 := { stood := { row := tablePartsRow, standIns := [], harness := (true, "bdf42bf68c38772a1ae3947adffab8054dac844d8398943c816a8803a8be8a0b"), looks := false }, kinds := [], alts := [], laidByText := true, laidKinds := [.data, .data, .data], laidTests := true, laidLooks := .later }
def TablePartsCardSaid : Prop := Claim7.holds Tryz.pinned (.plain (OpenSpec.ofChange tablePartsSpec)) tablePartsCard

/-- THE SECOND FORM's CARD OF 'quadrillelaw07.TableParts'. -/
def tablePartsUptoCard : Claim7 := { stood := { row := tablePartsUptoRow, standIns := [], harness := (true, "bdf42bf68c38772a1ae3947adffab8054dac844d8398943c816a8803a8be8a0b"), looks := false }, kinds := [], alts := [], laidByText := true, laidKinds := [.data, .data, .data], laidTests := true, laidLooks := .later }
def TablePartsUptoCardSaid : Prop := Claim7.holds Tryz.pinned (.plain (OpenSpec.upto tablePartsSpec)) tablePartsUptoCard
end Rows
end Go.Proofs.YtiimjbpfdidgcaaGreatDoor
