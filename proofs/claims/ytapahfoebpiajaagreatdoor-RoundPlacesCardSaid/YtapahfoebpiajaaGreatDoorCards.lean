/-
  DERIVED. GIVEN WITH THE SEED: THE CARDS: each row of YtapahfoebpiajaaGreatDoorRows.lean that lists a variable, with what it lists TIED to the program's text (the seventh form; the later family's looks); each row that meets fmt, with fmt's text TOLD by the authors' own Lean function (tested against real Go, not proved from fmt's source: count such statements apart). THE CARD IS WHAT COUNTS. Prove the row's statement (the work); the ties are given (YtapahfoebpiajaaGreatDoorTie.lean); close each card by the builder's one call (the guide's Derived/Test/ToyasCard.lean, 'card_holds'). Laid BY PROGRAM, IN A SANDBOX (cutbox-door.mjs). By AI agents, Wed Nov 11 2026. No macro, syntax, notation, axiom, sorry.
-/
import Derived.Test.YtapahfoebpiajaaGreatDoorRows
import GoSem.ClaimSeven
namespace Go.Proofs.YtapahfoebpiajaaGreatDoor
namespace Rows

/-- THE TIED CARD OF 'quadrillelaw03.RoundTells'. -/
def roundTellsCard : Claim7 := { stood := { row := roundTellsRow, standIns := [], harness := (true, "8a358b7e40fbcfd5132dbf70b736091609f05bcbf310b3fc9ed616c2a758e1f9"), looks := true }, kinds := [], alts := [], laidByText := true, laidKinds := [.data, .data, .data, .data, .sentinel, .sentinel, .pinned], laidTests := true, laidLooks := .later }
def RoundTellsCardSaid : Prop := Claim7.holds Tryz.pinned (.plain (OpenSpec.ofChange roundTellsSpec)) roundTellsCard

/-- THE TIED CARD OF 'quadrillelaw03.RoundParts'. -/
def roundPartsCard : Claim7 := { stood := { row := roundPartsRow, standIns := [], harness := (true, "8a358b7e40fbcfd5132dbf70b736091609f05bcbf310b3fc9ed616c2a758e1f9"), looks := true }, kinds := [], alts := [], laidByText := true, laidKinds := [.data, .data, .data, .data, .sentinel, .sentinel, .pinned], laidTests := true, laidLooks := .later }
def RoundPartsCardSaid : Prop := Claim7.holds Tryz.pinned (.plain (OpenSpec.ofChange roundPartsSpec)) roundPartsCard

/-- THE TIED CARD OF 'quadrillelaw03.RoundBetween'. -/
def roundBetweenCard : Claim7 := { stood := { row := roundBetweenRow, standIns := [], harness := (true, "8a358b7e40fbcfd5132dbf70b736091609f05bcbf310b3fc9ed616c2a758e1f9"), looks := true }, kinds := [], alts := [], laidByText := true, laidKinds := [.data, .data, .data, .data, .sentinel, .sentinel, .pinned], laidTests := true, laidLooks := .later }
def RoundBetweenCardSaid : Prop := Claim7.holds Tryz.pinned (.plain (OpenSpec.ofChange roundBetweenSpec)) roundBetweenCard

/-- THE TIED CARD OF 'quadrillelaw03.RoundPlaces'. -/
def roundPlacesCard : Claim7 := { stood := { row := roundPlacesRow, standIns := [], harness := (true, "8a358b7e40fbcfd5132dbf70b736091609f05bcbf310b3fc9ed616c2a758e1f9"), looks := true }, kinds := [], alts := [], laidByText := true, laidKinds := [.data, .data, .data, .data, .sentinel, .sentinel, .pinned], laidTests := true, laidLooks := .later }
def RoundPlacesCardSaid : Prop := Claim7.holds Tryz.pinned (.plain (OpenSpec.ofChange roundPlacesSpec)) roundPlacesCard

/-- THE TIED CARD OF 'quadrillelaw03.RoundBack'. -/
def roundBackCard : Claim7 := { stood := { row := roundBackRow, standIns := [], harness := (true, "8a358b7e40fbcfd5132dbf70b736091609f05bcbf310b3fc9ed616c2a758e1f9"), looks := true }, kinds := [], alts := [], laidByText := true, laidKinds := [.data, .data, .data, .data, .sentinel, .sentinel, .pinned], laidTests := true, laidLooks := .later }
def RoundBackCardSaid : Prop := Claim7.holds Tryz.pinned (.plain (OpenSpec.ofChange roundBackSpec)) roundBackCard

/-- THE TIED CARD OF 'quadrillelaw03.RoundOdd'. -/
def roundOddCard : Claim7 := { stood := { row := roundOddRow, standIns := [], harness := (true, "8a358b7e40fbcfd5132dbf70b736091609f05bcbf310b3fc9ed616c2a758e1f9"), looks := true }, kinds := [], alts := [], laidByText := true, laidKinds := [.data, .data, .data, .data, .sentinel, .sentinel, .pinned], laidTests := true, laidLooks := .later }
def RoundOddCardSaid : Prop := Claim7.holds Tryz.pinned (.plain (OpenSpec.ofChange roundOddSpec)) roundOddCard

/-- THE TIED CARD OF 'quadrillelaw03.RoundRises'. -/
def roundRisesCard : Claim7 := { stood := { row := roundRisesRow, standIns := [], harness := (true, "8a358b7e40fbcfd5132dbf70b736091609f05bcbf310b3fc9ed616c2a758e1f9"), looks := true }, kinds := [], alts := [], laidByText := true, laidKinds := [.data, .data, .data, .data, .sentinel, .sentinel, .pinned], laidTests := true, laidLooks := .later }
def RoundRisesCardSaid : Prop := Claim7.holds Tryz.pinned (.plain (OpenSpec.ofChange roundRisesSpec)) roundRisesCard

/-- THE SECOND FORM's CARD OF 'quadrillelaw03.RoundTells'. -/
def roundTellsUptoCard : Claim7 := { stood := { row := roundTellsUptoRow, standIns := [], harness := (true, "8a358b7e40fbcfd5132dbf70b736091609f05bcbf310b3fc9ed616c2a758e1f9"), looks := true }, kinds := [], alts := [], laidByText := true, laidKinds := [.data, .data, .data, .data, .sentinel, .sentinel, .pinned], laidTests := true, laidLooks := .later }
def RoundTellsUptoCardSaid : Prop := Claim7.holds Tryz.pinned (.plain (OpenSpec.upto roundTellsSpec)) roundTellsUptoCard

/-- THE SECOND FORM's CARD OF 'quadrillelaw03.RoundParts'. -/
def roundPartsUptoCard : Claim7 := { stood := { row := roundPartsUptoRow, standIns := [], harness := (true, "8a358b7e40fbcfd5132dbf70b736091609f05bcbf310b3fc9ed616c2a758e1f9"), looks := true }, kinds := [], alts := [], laidByText := true, laidKinds := [.data, .data, .data, .data, .sentinel, .sentinel, .pinned], laidTests := true, laidLooks := .later }
def RoundPartsUptoCardSaid : Prop := Claim7.holds Tryz.pinned (.plain (OpenSpec.upto roundPartsSpec)) roundPartsUptoCard

/-- THE SECOND FORM's CARD OF 'quadrillelaw03.RoundBetween'. -/
def roundBetweenUptoCard : Claim7 := { stood := { row := roundBetweenUptoRow, standIns := [], harness := (true, "8a358b7e40fbcfd5132dbf70b736091609f05bcbf310b3fc9ed616c2a758e1f9"), looks := true }, kinds := [], alts := [], laidByText := true, laidKinds := [.data, .data, .data, .data, .sentinel, .sentinel, .pinned], laidTests := true, laidLooks := .later }
def RoundBetweenUptoCardSaid : Prop := Claim7.holds Tryz.pinned (.plain (OpenSpec.upto roundBetweenSpec)) roundBetweenUptoCard

/-- THE SECOND FORM's CARD OF 'quadrillelaw03.RoundPlaces'. -/
def roundPlacesUptoCard : Claim7 := { stood := { row := roundPlacesUptoRow, standIns := [], harness := (true, "8a358b7e40fbcfd5132dbf70b736091609f05bcbf310b3fc9ed616c2a758e1f9"), looks := true }, kinds := [], alts := [], laidByText := true, laidKinds := [.data, .data, .data, .data, .sentinel, .sentinel, .pinned], laidTests := true, laidLooks := .later }
def RoundPlacesUptoCardSaid : Prop := Claim7.holds Tryz.pinned (.plain (OpenSpec.upto roundPlacesSpec)) roundPlacesUptoCard

/-- THE SECOND FORM's CARD OF 'quadrillelaw03.RoundBack'. -/
def roundBackUptoCard : Claim7 := { stood := { row := roundBackUptoRow, standIns := [], harness := (true, "8a358b7e40fbcfd5132dbf70b736091609f05bcbf310b3fc9ed616c2a758e1f9"), looks := true }, kinds := [], alts := [], laidByText := true, laidKinds := [.data, .data, .data, .data, .sentinel, .sentinel, .pinned], laidTests := true, laidLooks := .later }
def RoundBackUptoCardSaid : Prop := Claim7.holds Tryz.pinned (.plain (OpenSpec.upto roundBackSpec)) roundBackUptoCard

/-- THE SECOND FORM's CARD OF 'quadrillelaw03.RoundOdd'. -/
def roundOddUptoCard : Claim7 := { stood := { row := roundOddUptoRow, standIns := [], harness := (true, "8a358b7e40fbcfd5132dbf70b736091609f05bcbf310b3fc9ed616c2a758e1f9"), looks := true }, kinds := [], alts := [], laidByText := true, laidKinds := [.data, .data, .data, .data, .sentinel, .sentinel, .pinned], laidTests := true, laidLooks := .later }
def RoundOddUptoCardSaid : Prop := Claim7.holds Tryz.pinned (.plain (OpenSpec.upto roundOddSpec)) roundOddUptoCard

/-- THE SECOND FORM's CARD OF 'quadrillelaw03.RoundRises'. -/
def roundRisesUptoCard : Claim7 := { stood := { row := roundRisesUptoRow, standIns := [], harness := (true, "8a358b7e40fbcfd5132dbf70b736091609f05bcbf310b3fc9ed616c2a758e1f9"), looks := true }, kinds := [], alts := [], laidByText := true, laidKinds := [.data, .data, .data, .data, .sentinel, .sentinel, .pinned], laidTests := true, laidLooks := .later }
def RoundRisesUptoCardSaid : Prop := Claim7.holds Tryz.pinned (.plain (OpenSpec.upto roundRisesSpec)) roundRisesUptoCard
end Rows
end Go.Proofs.YtapahfoebpiajaaGreatDoor
