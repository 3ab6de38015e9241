/-
  DERIVED. GIVEN WITH THE SEED: THE CARDS: each row of YtlffojopfilfeaaGreatDoorRows.lean that lists a variable, with what it lists TIED to the program's text (the seventh form; the later family's looks); each row that meets fmt, with fmt's text TOLD by the authors' own Lean function (tested against real Go, not proved from fmt's source: count such statements apart). THE CARD IS WHAT COUNTS. Prove the row's statement (the work); the ties are given (YtlffojopfilfeaaGreatDoorTie.lean); close each card by the builder's one call (the guide's Derived/Test/ToyasCard.lean, 'card_holds'). Laid BY PROGRAM, IN A SANDBOX (cutbox-door.mjs). By AI agents, Wed Nov 11 2026. No macro, syntax, notation, axiom, sorry.
-/
import Derived.Test.YtlffojopfilfeaaGreatDoorRows
import GoSem.ClaimSeven
namespace Go.Proofs.YtlffojopfilfeaaGreatDoor
namespace Rows

/-- THE TIED CARD OF 'quadrillelaw08.SumsLists'. -/
def sumsListsCard : Claim7 := { stood := { row := sumsListsRow, standIns := [], harness := (true, "4620585c90ca28515da6b979dc7799ccf599cc78f5215c6a25d9b304260969ef"), looks := true }, kinds := [], alts := [], laidByText := true, laidKinds := [.data, .data, .data, .data, .sentinel, .sentinel, .pinned], laidTests := true, laidLooks := .later }
def SumsListsCardSaid : Prop := Claim7.holds Tryz.pinned (.plain (OpenSpec.ofChange sumsListsSpec)) sumsListsCard

/-- THE TIED CARD OF 'quadrillelaw08.SumsLong'. -/
def sumsLongCard : Claim7 := { stood := { row := sumsLongRow, standIns := [], harness := (true, "4620585c90ca28515da6b979dc7799ccf599cc78f5215c6a25d9b304260969ef"), looks := true }, kinds := [], alts := [], laidByText := true, laidKinds := [.data, .data, .data, .data, .sentinel, .sentinel, .pinned], laidTests := true, laidLooks := .later }
def SumsLongCardSaid : Prop := Claim7.holds Tryz.pinned (.plain (OpenSpec.ofChange sumsLongSpec)) sumsLongCard

/-- THE TIED CARD OF 'quadrillelaw08.SumsBack'. -/
def sumsBackCard : Claim7 := { stood := { row := sumsBackRow, standIns := [], harness := (true, "4620585c90ca28515da6b979dc7799ccf599cc78f5215c6a25d9b304260969ef"), looks := true }, kinds := [], alts := [], laidByText := true, laidKinds := [.data, .data, .data, .data, .sentinel, .sentinel, .pinned], laidTests := true, laidLooks := .later }
def SumsBackCardSaid : Prop := Claim7.holds Tryz.pinned (.plain (OpenSpec.ofChange sumsBackSpec)) sumsBackCard

/-- THE TIED CARD OF 'quadrillelaw08.SumsOrder'. -/
def sumsOrderCard : Claim7 := { stood := { row := sumsOrderRow, standIns := [], harness := (true, "4620585c90ca28515da6b979dc7799ccf599cc78f5215c6a25d9b304260969ef"), looks := true }, kinds := [], alts := [], laidByText := true, laidKinds := [.data, .data, .data, .data, .sentinel, .sentinel, .pinned], laidTests := true, laidLooks := .later }
def SumsOrderCardSaid : Prop := Claim7.holds Tryz.pinned (.plain (OpenSpec.ofChange sumsOrderSpec)) sumsOrderCard

/-- THE TIED CARD OF 'quadrillelaw08.SumsNil'. -/
def sumsNilCard : Claim7 := { stood := { row := sumsNilRow, standIns := [], harness := (true, "4620585c90ca28515da6b979dc7799ccf599cc78f5215c6a25d9b304260969ef"), looks := true }, kinds := [], alts := [], laidByText := true, laidKinds := [.data, .data, .data, .data, .sentinel, .sentinel, .pinned], laidTests := true, laidLooks := .later }
def SumsNilCardSaid : Prop := Claim7.holds Tryz.pinned (.plain (OpenSpec.ofChange sumsNilSpec)) sumsNilCard

/-- THE SECOND FORM's CARD OF 'quadrillelaw08.SumsLists'. -/
def sumsListsUptoCard : Claim7 := { stood := { row := sumsListsUptoRow, standIns := [], harness := (true, "4620585c90ca28515da6b979dc7799ccf599cc78f5215c6a25d9b304260969ef"), looks := true }, kinds := [], alts := [], laidByText := true, laidKinds := [.data, .data, .data, .data, .sentinel, .sentinel, .pinned], laidTests := true, laidLooks := .later }
def SumsListsUptoCardSaid : Prop := Claim7.holds Tryz.pinned (.plain (OpenSpec.upto sumsListsSpec)) sumsListsUptoCard

/-- THE SECOND FORM's CARD OF 'quadrillelaw08.SumsLong'. -/
def sumsLongUptoCard : Claim7 := { stood := { row := sumsLongUptoRow, standIns := [], harness := (true, "4620585c90ca28515da6b979dc7799ccf599cc78f5215c6a25d9b304260969ef"), looks := true }, kinds := [], alts := [], laidByText := true, laidKinds := [.data, .data, .data, .data, .sentinel, .sentinel, .pinned], laidTests := true, laidLooks := .later }
def SumsLongUptoCardSaid : Prop := Claim7.holds Tryz.pinned (.plain (OpenSpec.upto sumsLongSpec)) sumsLongUptoCard

/-- THE SECOND FORM's CARD OF 'quadrillelaw08.SumsBack'. -/
def sumsBackUptoCard : Claim7 := { stood := { row := sumsBackUptoRow, standIns := [], harness := (true, "4620585c90ca28515da6b979dc7799ccf599cc78f5215c6a25d9b304260969ef"), looks := true }, kinds := [], alts := [], laidByText := true, laidKinds := [.data, .data, .data, .data, .sentinel, .sentinel, .pinned], laidTests := true, laidLooks := .later }
def SumsBackUptoCardSaid : Prop := Claim7.holds Tryz.pinned (.plain (OpenSpec.upto sumsBackSpec)) sumsBackUptoCard

/-- THE SECOND FORM's CARD OF 'quadrillelaw08.SumsOrder'. -/
def sumsOrderUptoCard : Claim7 := { stood := { row := sumsOrderUptoRow, standIns := [], harness := (true, "4620585c90ca28515da6b979dc7799ccf599cc78f5215c6a25d9b304260969ef"), looks := true }, kinds := [], alts := [], laidByText := true, laidKinds := [.data, .data, .data, .data, .sentinel, .sentinel, .pinned], laidTests := true, laidLooks := .later }
def SumsOrderUptoCardSaid : Prop := Claim7.holds Tryz.pinned (.plain (OpenSpec.upto sumsOrderSpec)) sumsOrderUptoCard

/-- THE SECOND FORM's CARD OF 'quadrillelaw08.SumsNil'. -/
def sumsNilUptoCard : Claim7 := { stood := { row := sumsNilUptoRow, standIns := [], harness := (true, "4620585c90ca28515da6b979dc7799ccf599cc78f5215c6a25d9b304260969ef"), looks := true }, kinds := [], alts := [], laidByText := true, laidKinds := [.data, .data, .data, .data, .sentinel, .sentinel, .pinned], laidTests := true, laidLooks := .later }
def SumsNilUptoCardSaid : Prop := Claim7.holds Tryz.pinned (.plain (OpenSpec.upto sumsNilSpec)) sumsNilUptoCard
end Rows
end Go.Proofs.YtlffojopfilfeaaGreatDoor
