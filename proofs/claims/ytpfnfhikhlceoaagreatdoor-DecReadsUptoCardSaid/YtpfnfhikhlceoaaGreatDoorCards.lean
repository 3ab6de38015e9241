/-
  DERIVED. GIVEN WITH THE SEED: THE CARDS: each row of YtpfnfhikhlceoaaGreatDoorRows.lean that lists a variable, with what it lists TIED to the program's text (the seventh form; the later family's looks); each row that meets fmt, with fmt's text TOLD by the authors' own Lean function (tested against real Go, not proved from fmt's source: count such statements apart). THE CARD IS WHAT COUNTS. Prove the row's statement (the work); the ties are given (YtpfnfhikhlceoaaGreatDoorTie.lean); close each card by the builder's one call (the guide's Derived/Test/ToyasCard.lean, 'card_holds'). Laid BY PROGRAM, IN A SANDBOX (cutbox-door.mjs). By AI agents, Wed Nov 11 2026. No macro, syntax, notation, axiom, sorry.
-/
import Derived.Test.YtpfnfhikhlceoaaGreatDoorRows
import GoSem.ClaimSeven
namespace Go.Proofs.YtpfnfhikhlceoaaGreatDoor
namespace Rows

/-- THE TIED CARD OF 'quadrillelaw02.DecNames'. -/
def decNamesCard : Claim7 := { stood := { row := decNamesRow, standIns := [], harness := (true, "89d475c6ec32d52a68d4d217b33a4d7aad846081a45e2444711c89485e5d6424"), looks := true }, kinds := [], alts := [], laidByText := true, laidKinds := [.data, .data, .data, .data, .sentinel, .sentinel, .pinned], laidTests := true, laidLooks := .later }
def DecNamesCardSaid : Prop := Claim7.holds Tryz.pinned (.plain (OpenSpec.ofChange decNamesSpec)) decNamesCard

/-- THE TIED CARD OF 'quadrillelaw02.DecOf'. -/
def decOfCard : Claim7 := { stood := { row := decOfRow, standIns := [], harness := (true, "89d475c6ec32d52a68d4d217b33a4d7aad846081a45e2444711c89485e5d6424"), looks := true }, kinds := [], alts := [], laidByText := true, laidKinds := [.data, .data, .data, .data, .sentinel, .sentinel, .pinned], laidTests := true, laidLooks := .later }
def DecOfCardSaid : Prop := Claim7.holds Tryz.pinned (.plain (OpenSpec.ofChange decOfSpec)) decOfCard

/-- THE TIED CARD OF 'quadrillelaw02.DecReads'. -/
def decReadsCard : Claim7 := { stood := { row := decReadsRow, standIns := [], harness := (true, "89d475c6ec32d52a68d4d217b33a4d7aad846081a45e2444711c89485e5d6424"), looks := true }, kinds := [], alts := [], laidByText := true, laidKinds := [.data, .data, .data, .data, .sentinel, .sentinel, .pinned], laidTests := true, laidLooks := .later }
def DecReadsCardSaid : Prop := Claim7.holds Tryz.pinned (.plain (OpenSpec.ofChange decReadsSpec)) decReadsCard

/-- THE TIED CARD OF 'quadrillelaw02.DecPoint'. -/
def decPointCard : Claim7 := { stood := { row := decPointRow, standIns := [], harness := (true, "89d475c6ec32d52a68d4d217b33a4d7aad846081a45e2444711c89485e5d6424"), looks := true }, kinds := [], alts := [], laidByText := true, laidKinds := [.data, .data, .data, .data, .sentinel, .sentinel, .pinned], laidTests := true, laidLooks := .later }
def DecPointCardSaid : Prop := Claim7.holds Tryz.pinned (.plain (OpenSpec.ofChange decPointSpec)) decPointCard

/-- THE TIED CARD OF 'quadrillelaw02.DecBack'. -/
def decBackCard : Claim7 := { stood := { row := decBackRow, standIns := [], harness := (true, "89d475c6ec32d52a68d4d217b33a4d7aad846081a45e2444711c89485e5d6424"), looks := true }, kinds := [], alts := [], laidByText := true, laidKinds := [.data, .data, .data, .data, .sentinel, .sentinel, .pinned], laidTests := true, laidLooks := .later }
def DecBackCardSaid : Prop := Claim7.holds Tryz.pinned (.plain (OpenSpec.ofChange decBackSpec)) decBackCard

/-- THE TIED CARD OF 'quadrillelaw02.DecMade'. -/
def decMadeCard : Claim7 := { stood := { row := decMadeRow, standIns := [], harness := (true, "89d475c6ec32d52a68d4d217b33a4d7aad846081a45e2444711c89485e5d6424"), looks := true }, kinds := [], alts := [], laidByText := true, laidKinds := [.data, .data, .data, .data, .sentinel, .sentinel, .pinned], laidTests := true, laidLooks := .later }
def DecMadeCardSaid : Prop := Claim7.holds Tryz.pinned (.plain (OpenSpec.ofChange decMadeSpec)) decMadeCard

/-- THE TIED CARD OF 'quadrillelaw02.DecNumbers'. -/
def decNumbersCard : Claim7 := { stood := { row := decNumbersRow, standIns := [], harness := (true, "89d475c6ec32d52a68d4d217b33a4d7aad846081a45e2444711c89485e5d6424"), looks := true }, kinds := [], alts := [], laidByText := true, laidKinds := [.data, .data, .data, .data, .sentinel, .sentinel, .pinned], laidTests := true, laidLooks := .later }
def DecNumbersCardSaid : Prop := Claim7.holds Tryz.pinned (.plain (OpenSpec.ofChange decNumbersSpec)) decNumbersCard

/-- THE TIED CARD OF 'quadrillelaw02.DecTells'. -/
def decTellsCard : Claim7 := { stood := { row := decTellsRow, standIns := [], harness := (true, "89d475c6ec32d52a68d4d217b33a4d7aad846081a45e2444711c89485e5d6424"), looks := true }, kinds := [], alts := [], laidByText := true, laidKinds := [.data, .data, .data, .data, .sentinel, .sentinel, .pinned], laidTests := true, laidLooks := .later }
def DecTellsCardSaid : Prop := Claim7.holds Tryz.pinned (.plain (OpenSpec.ofChange decTellsSpec)) decTellsCard

/-- THE TIED CARD OF 'quadrillelaw02.DecOrder'. -/
def decOrderCard : Claim7 := { stood := { row := decOrderRow, standIns := [], harness := (true, "89d475c6ec32d52a68d4d217b33a4d7aad846081a45e2444711c89485e5d6424"), looks := true }, kinds := [], alts := [], laidByText := true, laidKinds := [.data, .data, .data, .data, .sentinel, .sentinel, .pinned], laidTests := true, laidLooks := .later }
def DecOrderCardSaid : Prop := Claim7.holds Tryz.pinned (.plain (OpenSpec.ofChange decOrderSpec)) decOrderCard

/-- THE TIED CARD OF 'quadrillelaw02.DecRefuses'. -/
def decRefusesCard : Claim7 := { stood := { row := decRefusesRow, standIns := [], harness := (true, "89d475c6ec32d52a68d4d217b33a4d7aad846081a45e2444711c89485e5d6424"), looks := true }, kinds := [], alts := [], laidByText := true, laidKinds := [.data, .data, .data, .data, .sentinel, .sentinel, .pinned], laidTests := true, laidLooks := .later }
def DecRefusesCardSaid : Prop := Claim7.holds Tryz.pinned (.plain (OpenSpec.ofChange decRefusesSpec)) decRefusesCard

/-- THE TIED CARD OF 'quadrillelaw02.DecRing'. -/
def decRingCard : Claim7 := { stood := { row := decRingRow, standIns := [], harness := (true, "89d475c6ec32d52a68d4d217b33a4d7aad846081a45e2444711c89485e5d6424"), looks := true }, kinds := [], alts := [], laidByText := true, laidKinds := [.data, .data, .data, .data, .sentinel, .sentinel, .pinned], laidTests := true, laidLooks := .later }
def DecRingCardSaid : Prop := Claim7.holds Tryz.pinned (.plain (OpenSpec.ofChange decRingSpec)) decRingCard

/-- THE SECOND FORM's CARD OF 'quadrillelaw02.DecNames'. -/
def decNamesUptoCard : Claim7 := { stood := { row := decNamesUptoRow, standIns := [], harness := (true, "89d475c6ec32d52a68d4d217b33a4d7aad846081a45e2444711c89485e5d6424"), looks := true }, kinds := [], alts := [], laidByText := true, laidKinds := [.data, .data, .data, .data, .sentinel, .sentinel, .pinned], laidTests := true, laidLooks := .later }
def DecNamesUptoCardSaid : Prop := Claim7.holds Tryz.pinned (.plain (OpenSpec.upto decNamesSpec)) decNamesUptoCard

/-- THE SECOND FORM's CARD OF 'quadrillelaw02.DecOf'. -/
def decOfUptoCard : Claim7 := { stood := { row := decOfUptoRow, standIns := [], harness := (true, "89d475c6ec32d52a68d4d217b33a4d7aad846081a45e2444711c89485e5d6424"), looks := true }, kinds := [], alts := [], laidByText := true, laidKinds := [.data, .data, .data, .data, .sentinel, .sentinel, .pinned], laidTests := true, laidLooks := .later }
def DecOfUptoCardSaid : Prop := Claim7.holds Tryz.pinned (.plain (OpenSpec.upto decOfSpec)) decOfUptoCard

/-- THE SECOND FORM's CARD OF 'quadrillelaw02.DecReads'. -/
def decReadsUptoCard : Claim7 := { stood := { row := decReadsUptoRow, standIns := [], harness := (true, "89d475c6ec32d52a68d4d217b33a4d7aad846081a45e2444711c89485e5d6424"), looks := true }, kinds := [], alts := [], laidByText := true, laidKinds := [.data, .data, .data, .data, .sentinel, .sentinel, .pinned], laidTests := true, laidLooks := .later }
def DecReadsUptoCardSaid : Prop := Claim7.holds Tryz.pinned (.plain (OpenSpec.upto decReadsSpec)) decReadsUptoCard

/-- THE SECOND FORM's CARD OF 'quadrillelaw02.DecPoint'. -/
def decPointUptoCard : Claim7 := { stood := { row := decPointUptoRow, standIns := [], harness := (true, "89d475c6ec32d52a68d4d217b33a4d7aad846081a45e2444711c89485e5d6424"), looks := true }, kinds := [], alts := [], laidByText := true, laidKinds := [.data, .data, .data, .data, .sentinel, .sentinel, .pinned], laidTests := true, laidLooks := .later }
def DecPointUptoCardSaid : Prop := Claim7.holds Tryz.pinned (.plain (OpenSpec.upto decPointSpec)) decPointUptoCard

/-- THE SECOND FORM's CARD OF 'quadrillelaw02.DecBack'. -/
def decBackUptoCard : Claim7 := { stood := { row := decBackUptoRow, standIns := [], harness := (true, "89d475c6ec32d52a68d4d217b33a4d7aad846081a45e2444711c89485e5d6424"), looks := true }, kinds := [], alts := [], laidByText := true, laidKinds := [.data, .data, .data, .data, .sentinel, .sentinel, .pinned], laidTests := true, laidLooks := .later }
def DecBackUptoCardSaid : Prop := Claim7.holds Tryz.pinned (.plain (OpenSpec.upto decBackSpec)) decBackUptoCard

/-- THE SECOND FORM's CARD OF 'quadrillelaw02.DecMade'. -/
def decMadeUptoCard : Claim7 := { stood := { row := decMadeUptoRow, standIns := [], harness := (true, "89d475c6ec32d52a68d4d217b33a4d7aad846081a45e2444711c89485e5d6424"), looks := true }, kinds := [], alts := [], laidByText := true, laidKinds := [.data, .data, .data, .data, .sentinel, .sentinel, .pinned], laidTests := true, laidLooks := .later }
def DecMadeUptoCardSaid : Prop := Claim7.holds Tryz.pinned (.plain (OpenSpec.upto decMadeSpec)) decMadeUptoCard

/-- THE SECOND FORM's CARD OF 'quadrillelaw02.DecNumbers'. -/
def decNumbersUptoCard : Claim7 := { stood := { row := decNumbersUptoRow, standIns := [], harness := (true, "89d475c6ec32d52a68d4d217b33a4d7aad846081a45e2444711c89485e5d6424"), looks := true }, kinds := [], alts := [], laidByText := true, laidKinds := [.data, .data, .data, .data, .sentinel, .sentinel, .pinned], laidTests := true, laidLooks := .later }
def DecNumbersUptoCardSaid : Prop := Claim7.holds Tryz.pinned (.plain (OpenSpec.upto decNumbersSpec)) decNumbersUptoCard

/-- THE SECOND FORM's CARD OF 'quadrillelaw02.DecTells'. -/
def decTellsUptoCard : Claim7 := { stood := { row := decTellsUptoRow, standIns := [], harness := (true, "89d475c6ec32d52a68d4d217b33a4d7aad846081a45e2444711c89485e5d6424"), looks := true }, kinds := [], alts := [], laidByText := true, laidKinds := [.data, .data, .data, .data, .sentinel, .sentinel, .pinned], laidTests := true, laidLooks := .later }
def DecTellsUptoCardSaid : Prop := Claim7.holds Tryz.pinned (.plain (OpenSpec.upto decTellsSpec)) decTellsUptoCard

/-- THE SECOND FORM's CARD OF 'quadrillelaw02.DecOrder'. -/
def decOrderUptoCard : Claim7 := { stood := { row := decOrderUptoRow, standIns := [], harness := (true, "89d475c6ec32d52a68d4d217b33a4d7aad846081a45e2444711c89485e5d6424"), looks := true }, kinds := [], alts := [], laidByText := true, laidKinds := [.data, .data, .data, .data, .sentinel, .sentinel, .pinned], laidTests := true, laidLooks := .later }
def DecOrderUptoCardSaid : Prop := Claim7.holds Tryz.pinned (.plain (OpenSpec.upto decOrderSpec)) decOrderUptoCard

/-- THE SECOND FORM's CARD OF 'quadrillelaw02.DecRefuses'. -/
def decRefusesUptoCard : Claim7 := { stood := { row := decRefusesUptoRow, standIns := [], harness := (true, "89d475c6ec32d52a68d4d217b33a4d7aad846081a45e2444711c89485e5d6424"), looks := true }, kinds := [], alts := [], laidByText := true, laidKinds := [.data, .data, .data, .data, .sentinel, .sentinel, .pinned], laidTests := true, laidLooks := .later }
def DecRefusesUptoCardSaid : Prop := Claim7.holds Tryz.pinned (.plain (OpenSpec.upto decRefusesSpec)) decRefusesUptoCard

/-- THE SECOND FORM's CARD OF 'quadrillelaw02.DecRing'. -/
def decRingUptoCard : Claim7 := { stood := { row := decRingUptoRow, standIns := [], harness := (true, "89d475c6ec32d52a68d4d217b33a4d7aad846081a45e2444711c89485e5d6424"), looks := true }, kinds := [], alts := [], laidByText := true, laidKinds := [.data, .data, .data, .data, .sentinel, .sentinel, .pinned], laidTests := true, laidLooks := .later }
def DecRingUptoCardSaid : Prop := Claim7.holds Tryz.pinned (.plain (OpenSpec.upto decRingSpec)) decRingUptoCard
end Rows
end Go.Proofs.YtpfnfhikhlceoaaGreatDoor
