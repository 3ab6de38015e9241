/-
  DERIVED. GIVEN WITH THE SEED: THE CARDS: each row of YtlbokicainimnaaGreatDoorRows.lean that lists a variable, with what it lists TIED to the program's text (the seventh form; the later family's looks); each row that meets fmt, with fmt's text TOLD by the authors' own Lean function (tested against real Go, not proved from fmt's source: count such statements apart). THE CARD IS WHAT COUNTS. Prove the row's statement (the work); the ties are given (YtlbokicainimnaaGreatDoorTie.lean); close each card by the builder's one call (the guide's Derived/Test/ToyasCard.lean, 'card_holds'). Laid BY PROGRAM, IN A SANDBOX (cutbox-door.mjs). By AI agents, Wed Nov 11 2026. No macro, syntax, notation, axiom, sorry.
-/
import Derived.Test.YtlbokicainimnaaGreatDoorRows
import GoSem.ClaimSeven
namespace Go.Proofs.YtlbokicainimnaaGreatDoor
namespace Rows

/-- THE TIED CARD OF 'quadrillelaw07.TablePlaces'. -/
def tablePlacesCard : Claim7 := { stood := { row := tablePlacesRow, standIns := [], harness := (true, "c1daafa9ebe0ce422ed5d88ff4c0a3f53cf44a7e3192730e4225e18f10ef0c0f"), looks := true }, kinds := [], alts := [], laidByText := true, laidKinds := [.data, .data, .data, .data, .sentinel, .sentinel, .data, .data, .pinned], laidTests := true, laidLooks := .later }
def TablePlacesCardSaid : Prop := Claim7.holds Tryz.pinned (.plain (OpenSpec.ofChange tablePlacesSpec)) tablePlacesCard

/-- THE TIED CARD OF 'quadrillelaw07.TableKeeps'. -/
def tableKeepsCard : Claim7 := { stood := { row := tableKeepsRow, standIns := [], harness := (true, "c1daafa9ebe0ce422ed5d88ff4c0a3f53cf44a7e3192730e4225e18f10ef0c0f"), looks := true }, kinds := [], alts := [], laidByText := true, laidKinds := [.data, .data, .data, .data, .sentinel, .sentinel, .data, .data, .pinned], laidTests := true, laidLooks := .later }
def TableKeepsCardSaid : Prop := Claim7.holds Tryz.pinned (.plain (OpenSpec.ofChange tableKeepsSpec)) tableKeepsCard

/-- THE TIED CARD OF 'quadrillelaw09.OrderShares'. -/
def orderSharesCard : Claim7 := { stood := { row := orderSharesRow, standIns := [], harness := (true, "c1daafa9ebe0ce422ed5d88ff4c0a3f53cf44a7e3192730e4225e18f10ef0c0f"), looks := true }, kinds := [], alts := [], laidByText := true, laidKinds := [.data, .data, .data, .data, .sentinel, .sentinel, .pinned], laidTests := true, laidLooks := .later }
def OrderSharesCardSaid : Prop := Claim7.holds Tryz.pinned (.plain (OpenSpec.ofChange orderSharesSpec)) orderSharesCard

/-- THE TIED CARD OF 'quadrillelaw09.OrderRises'. -/
def orderRisesCard : Claim7 := { stood := { row := orderRisesRow, standIns := [], harness := (true, "c1daafa9ebe0ce422ed5d88ff4c0a3f53cf44a7e3192730e4225e18f10ef0c0f"), looks := true }, kinds := [], alts := [], laidByText := true, laidKinds := [.data, .data, .data, .data, .sentinel, .sentinel, .pinned], laidTests := true, laidLooks := .later }
def OrderRisesCardSaid : Prop := Claim7.holds Tryz.pinned (.plain (OpenSpec.ofChange orderRisesSpec)) orderRisesCard

/-- THE TIED CARD OF 'quadrillelaw09.OrderTies'. -/
def orderTiesCard : Claim7 := { stood := { row := orderTiesRow, standIns := [], harness := (true, "c1daafa9ebe0ce422ed5d88ff4c0a3f53cf44a7e3192730e4225e18f10ef0c0f"), looks := true }, kinds := [], alts := [], laidByText := true, laidKinds := [.data, .data, .data, .data, .sentinel, .sentinel, .pinned], laidTests := true, laidLooks := .later }
def OrderTiesCardSaid : Prop := Claim7.holds Tryz.pinned (.plain (OpenSpec.ofChange orderTiesSpec)) orderTiesCard

/-- THE TIED CARD OF 'quadrillelaw09.OrderPlaces'. -/
def orderPlacesCard : Claim7 := { stood := { row := orderPlacesRow, standIns := [], harness := (true, "c1daafa9ebe0ce422ed5d88ff4c0a3f53cf44a7e3192730e4225e18f10ef0c0f"), looks := true }, kinds := [], alts := [], laidByText := true, laidKinds := [.data, .data, .data, .data, .sentinel, .sentinel, .pinned], laidTests := true, laidLooks := .later }
def OrderPlacesCardSaid : Prop := Claim7.holds Tryz.pinned (.plain (OpenSpec.ofChange orderPlacesSpec)) orderPlacesCard

/-- THE TIED CARD OF 'quadrillelaw09.OrderCounts'. -/
def orderCountsCard : Claim7 := { stood := { row := orderCountsRow, standIns := [], harness := (true, "c1daafa9ebe0ce422ed5d88ff4c0a3f53cf44a7e3192730e4225e18f10ef0c0f"), looks := true }, kinds := [], alts := [], laidByText := true, laidKinds := [.data, .data, .data, .data, .sentinel, .sentinel, .pinned], laidTests := true, laidLooks := .later }
def OrderCountsCardSaid : Prop := Claim7.holds Tryz.pinned (.plain (OpenSpec.ofChange orderCountsSpec)) orderCountsCard

/-- THE TIED CARD OF 'quadrillelaw09.OrderAny'. -/
def orderAnyCard : Claim7 := { stood := { row := orderAnyRow, standIns := [], harness := (true, "c1daafa9ebe0ce422ed5d88ff4c0a3f53cf44a7e3192730e4225e18f10ef0c0f"), looks := true }, kinds := [], alts := [], laidByText := true, laidKinds := [.data, .data, .data, .data, .sentinel, .sentinel, .pinned], laidTests := true, laidLooks := .later }
def OrderAnyCardSaid : Prop := Claim7.holds Tryz.pinned (.plain (OpenSpec.ofChange orderAnySpec)) orderAnyCard

/-- THE SECOND FORM's CARD OF 'quadrillelaw07.TablePlaces'. -/
def tablePlacesUptoCard : Claim7 := { stood := { row := tablePlacesUptoRow, standIns := [], harness := (true, "c1daafa9ebe0ce422ed5d88ff4c0a3f53cf44a7e3192730e4225e18f10ef0c0f"), looks := true }, kinds := [], alts := [], laidByText := true, laidKinds := [.data, .data, .data, .data, .sentinel, .sentinel, .data, .data, .pinned], laidTests := true, laidLooks := .later }
def TablePlacesUptoCardSaid : Prop := Claim7.holds Tryz.pinned (.plain (OpenSpec.upto tablePlacesSpec)) tablePlacesUptoCard

/-- THE SECOND FORM's CARD OF 'quadrillelaw07.TableKeeps'. -/
def tableKeepsUptoCard : Claim7 := { stood := { row := tableKeepsUptoRow, standIns := [], harness := (true, "c1daafa9ebe0ce422ed5d88ff4c0a3f53cf44a7e3192730e4225e18f10ef0c0f"), looks := true }, kinds := [], alts := [], laidByText := true, laidKinds := [.data, .data, .data, .data, .sentinel, .sentinel, .data, .data, .pinned], laidTests := true, laidLooks := .later }
def TableKeepsUptoCardSaid : Prop := Claim7.holds Tryz.pinned (.plain (OpenSpec.upto tableKeepsSpec)) tableKeepsUptoCard

/-- THE SECOND FORM's CARD OF 'quadrillelaw09.OrderShares'. -/
def orderSharesUptoCard : Claim7 := { stood := { row := orderSharesUptoRow, standIns := [], harness := (true, "c1daafa9ebe0ce422ed5d88ff4c0a3f53cf44a7e3192730e4225e18f10ef0c0f"), looks := true }, kinds := [], alts := [], laidByText := true, laidKinds := [.data, .data, .data, .data, .sentinel, .sentinel, .pinned], laidTests := true, laidLooks := .later }
def OrderSharesUptoCardSaid : Prop := Claim7.holds Tryz.pinned (.plain (OpenSpec.upto orderSharesSpec)) orderSharesUptoCard

/-- THE SECOND FORM's CARD OF 'quadrillelaw09.OrderRises'. -/
def orderRisesUptoCard : Claim7 := { stood := { row := orderRisesUptoRow, standIns := [], harness := (true, "c1daafa9ebe0ce422ed5d88ff4c0a3f53cf44a7e3192730e4225e18f10ef0c0f"), looks := true }, kinds := [], alts := [], laidByText := true, laidKinds := [.data, .data, .data, .data, .sentinel, .sentinel, .pinned], laidTests := true, laidLooks := .later }
def OrderRisesUptoCardSaid : Prop := Claim7.holds Tryz.pinned (.plain (OpenSpec.upto orderRisesSpec)) orderRisesUptoCard

/-- THE SECOND FORM's CARD OF 'quadrillelaw09.OrderTies'. -/
def orderTiesUptoCard : Claim7 := { stood := { row := orderTiesUptoRow, standIns := [], harness := (true, "c1daafa9ebe0ce422ed5d88ff4c0a3f53cf44a7e3192730e4225e18f10ef0c0f"), looks := true }, kinds := [], alts := [], laidByText := true, laidKinds := [.data, .data, .data, .data, .sentinel, .sentinel, .pinned], laidTests := true, laidLooks := .later }
def OrderTiesUptoCardSaid : Prop := Claim7.holds Tryz.pinned (.plain (OpenSpec.upto orderTiesSpec)) orderTiesUptoCard

/-- THE SECOND FORM's CARD OF 'quadrillelaw09.OrderPlaces'. -/
def orderPlacesUptoCard : Claim7 := { stood := { row := orderPlacesUptoRow, standIns := [], harness := (true, "c1daafa9ebe0ce422ed5d88ff4c0a3f53cf44a7e3192730e4225e18f10ef0c0f"), looks := true }, kinds := [], alts := [], laidByText := true, laidKinds := [.data, .data, .data, .data, .sentinel, .sentinel, .pinned], laidTests := true, laidLooks := .later }
def OrderPlacesUptoCardSaid : Prop := Claim7.holds Tryz.pinned (.plain (OpenSpec.upto orderPlacesSpec)) orderPlacesUptoCard

/-- THE SECOND FORM's CARD OF 'quadrillelaw09.OrderCounts'. -/
def orderCountsUptoCard : Claim7 := { stood := { row := orderCountsUptoRow, standIns := [], harness := (true, "c1daafa9ebe0ce422ed5d88ff4c0a3f53cf44a7e3192730e4225e18f10ef0c0f"), looks := true }, kinds := [], alts := [], laidByText := true, laidKinds := [.data, .data, .data, .data, .sentinel, .sentinel, .pinned], laidTests := true, laidLooks := .later }
def OrderCountsUptoCardSaid : Prop := Claim7.holds Tryz.pinned (.plain (OpenSpec.upto orderCountsSpec)) orderCountsUptoCard

/-- THE SECOND FORM's CARD OF 'quadrillelaw09.OrderAny'. -/
def orderAnyUptoCard : Claim7 := { stood := { row := orderAnyUptoRow, standIns := [], harness := (true, "c1daafa9ebe0ce422ed5d88ff4c0a3f53cf44a7e3192730e4225e18f10ef0c0f"), looks := true }, kinds := [], alts := [], laidByText := true, laidKinds := [.data, .data, .data, .data, .sentinel, .sentinel, .pinned], laidTests := true, laidLooks := .later }
def OrderAnyUptoCardSaid : Prop := Claim7.holds Tryz.pinned (.plain (OpenSpec.upto orderAnySpec)) orderAnyUptoCard
end Rows
end Go.Proofs.YtlbokicainimnaaGreatDoor
