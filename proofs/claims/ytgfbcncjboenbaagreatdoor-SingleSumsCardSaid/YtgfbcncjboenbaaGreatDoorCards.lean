/-
  DERIVED. GIVEN WITH THE SEED: THE CARDS: each row of YtgfbcncjboenbaaGreatDoorRows.lean that lists a variable, with what it lists TIED to the program's text (the seventh form; the later family's looks); each row that meets fmt, with fmt's text TOLD by the authors' own Lean function (tested against real Go, not proved from fmt's source: count such statements apart). THE CARD IS WHAT COUNTS. Prove the row's statement (the work); the ties are given (YtgfbcncjboenbaaGreatDoorTie.lean); close each card by the builder's one call (the guide's Derived/Test/ToyasCard.lean, 'card_holds'). Laid BY PROGRAM, IN A SANDBOX (cutbox-door.mjs). By AI agents, Wed Nov 11 2026. No macro, syntax, notation, axiom, sorry.
-/
import Derived.Test.YtgfbcncjboenbaaGreatDoorRows
import GoSem.ClaimSeven
namespace Go.Proofs.YtgfbcncjboenbaaGreatDoor
namespace Rows

/-- THE TIED CARD OF 'quadrilletop.TopFigures'. -/
def topFiguresCard : Claim7 := { stood := { row := topFiguresRow, standIns := [], harness := (true, "6d830c08697d75bf133c79b667e7967dd762caede84b55eca8dba4eff2715afd"), looks := true }, kinds := [], alts := [], laidByText := true, laidKinds := [.data, .data, .data, .data, .sentinel, .sentinel, .pinned], laidTests := true, laidLooks := .later }
def TopFiguresCardSaid : Prop := Claim7.holds Tryz.pinned (.plain (OpenSpec.ofChange topFiguresSpec)) topFiguresCard

/-- THE TIED CARD OF 'quadrilletop.TopOnce'. -/
def topOnceCard : Claim7 := { stood := { row := topOnceRow, standIns := [], harness := (true, "6d830c08697d75bf133c79b667e7967dd762caede84b55eca8dba4eff2715afd"), looks := true }, kinds := [], alts := [], laidByText := true, laidKinds := [.data, .data, .data, .data, .sentinel, .sentinel, .pinned], laidTests := true, laidLooks := .later }
def TopOnceCardSaid : Prop := Claim7.holds Tryz.pinned (.plain (OpenSpec.ofChange topOnceSpec)) topOnceCard

/-- THE TIED CARD OF 'quadrillelaw04.SingleReckons'. -/
def singleReckonsCard : Claim7 := { stood := { row := singleReckonsRow, standIns := [], harness := (true, "6d830c08697d75bf133c79b667e7967dd762caede84b55eca8dba4eff2715afd"), looks := true }, kinds := [], alts := [], laidByText := true, laidKinds := [.data, .data, .data, .data, .sentinel, .sentinel, .pinned], laidTests := true, laidLooks := .later }
def SingleReckonsCardSaid : Prop := Claim7.holds Tryz.pinned (.plain (OpenSpec.ofChange singleReckonsSpec)) singleReckonsCard

/-- THE TIED CARD OF 'quadrillelaw04.SingleOdd'. -/
def singleOddCard : Claim7 := { stood := { row := singleOddRow, standIns := [], harness := (true, "6d830c08697d75bf133c79b667e7967dd762caede84b55eca8dba4eff2715afd"), looks := true }, kinds := [], alts := [], laidByText := true, laidKinds := [.data, .data, .data, .data, .sentinel, .sentinel, .pinned], laidTests := true, laidLooks := .later }
def SingleOddCardSaid : Prop := Claim7.holds Tryz.pinned (.plain (OpenSpec.ofChange singleOddSpec)) singleOddCard

/-- THE TIED CARD OF 'quadrillelaw04.SingleBack'. -/
def singleBackCard : Claim7 := { stood := { row := singleBackRow, standIns := [], harness := (true, "6d830c08697d75bf133c79b667e7967dd762caede84b55eca8dba4eff2715afd"), looks := true }, kinds := [], alts := [], laidByText := true, laidKinds := [.data, .data, .data, .data, .sentinel, .sentinel, .pinned], laidTests := true, laidLooks := .later }
def SingleBackCardSaid : Prop := Claim7.holds Tryz.pinned (.plain (OpenSpec.ofChange singleBackSpec)) singleBackCard

/-- THE TIED CARD OF 'quadrillelaw04.SingleFrom'. -/
def singleFromCard : Claim7 := { stood := { row := singleFromRow, standIns := [], harness := (true, "6d830c08697d75bf133c79b667e7967dd762caede84b55eca8dba4eff2715afd"), looks := true }, kinds := [], alts := [], laidByText := true, laidKinds := [.data, .data, .data, .data, .sentinel, .sentinel, .pinned], laidTests := true, laidLooks := .later }
def SingleFromCardSaid : Prop := Claim7.holds Tryz.pinned (.plain (OpenSpec.ofChange singleFromSpec)) singleFromCard

/-- THE TIED CARD OF 'quadrillelaw04.SingleSums'. -/
def singleSumsCard : Claim7 := { stood := { row := singleSumsRow, standIns := [], harness := (true, "6d830c08697d75bf133c79b667e7967dd762caede84b55eca8dba4eff2715afd"), looks := true }, kinds := [], alts := [], laidByText := true, laidKinds := [.data, .data, .data, .data, .sentinel, .sentinel, .pinned], laidTests := true, laidLooks := .later }
def SingleSumsCardSaid : Prop := Claim7.holds Tryz.pinned (.plain (OpenSpec.ofChange singleSumsSpec)) singleSumsCard

/-- THE TIED CARD OF 'quadrillelaw04.SingleWhole'. -/
def singleWholeCard : Claim7 := { stood := { row := singleWholeRow, standIns := [], harness := (true, "6d830c08697d75bf133c79b667e7967dd762caede84b55eca8dba4eff2715afd"), looks := true }, kinds := [], alts := [], laidByText := true, laidKinds := [.data, .data, .data, .data, .sentinel, .sentinel, .pinned], laidTests := true, laidLooks := .later }
def SingleWholeCardSaid : Prop := Claim7.holds Tryz.pinned (.plain (OpenSpec.ofChange singleWholeSpec)) singleWholeCard

/-- THE TIED CARD OF 'quadrillelaw04.SingleKinds'. -/
def singleKindsCard : Claim7 := { stood := { row := singleKindsRow, standIns := [], harness := (true, "6d830c08697d75bf133c79b667e7967dd762caede84b55eca8dba4eff2715afd"), looks := true }, kinds := [], alts := [], laidByText := true, laidKinds := [.data, .data, .data, .data, .sentinel, .sentinel, .pinned], laidTests := true, laidLooks := .later }
def SingleKindsCardSaid : Prop := Claim7.holds Tryz.pinned (.plain (OpenSpec.ofChange singleKindsSpec)) singleKindsCard

/-- THE TIED CARD OF 'quadrillelaw04.SingleRises'. -/
def singleRisesCard : Claim7 := { stood := { row := singleRisesRow, standIns := [], harness := (true, "6d830c08697d75bf133c79b667e7967dd762caede84b55eca8dba4eff2715afd"), looks := true }, kinds := [], alts := [], laidByText := true, laidKinds := [.data, .data, .data, .data, .sentinel, .sentinel, .pinned], laidTests := true, laidLooks := .later }
def SingleRisesCardSaid : Prop := Claim7.holds Tryz.pinned (.plain (OpenSpec.ofChange singleRisesSpec)) singleRisesCard

/-- THE SECOND FORM's CARD OF 'quadrilletop.TopFigures'. -/
def topFiguresUptoCard : Claim7 := { stood := { row := topFiguresUptoRow, standIns := [], harness := (true, "6d830c08697d75bf133c79b667e7967dd762caede84b55eca8dba4eff2715afd"), looks := true }, kinds := [], alts := [], laidByText := true, laidKinds := [.data, .data, .data, .data, .sentinel, .sentinel, .pinned], laidTests := true, laidLooks := .later }
def TopFiguresUptoCardSaid : Prop := Claim7.holds Tryz.pinned (.plain (OpenSpec.upto topFiguresSpec)) topFiguresUptoCard

/-- THE SECOND FORM's CARD OF 'quadrilletop.TopOnce'. -/
def topOnceUptoCard : Claim7 := { stood := { row := topOnceUptoRow, standIns := [], harness := (true, "6d830c08697d75bf133c79b667e7967dd762caede84b55eca8dba4eff2715afd"), looks := true }, kinds := [], alts := [], laidByText := true, laidKinds := [.data, .data, .data, .data, .sentinel, .sentinel, .pinned], laidTests := true, laidLooks := .later }
def TopOnceUptoCardSaid : Prop := Claim7.holds Tryz.pinned (.plain (OpenSpec.upto topOnceSpec)) topOnceUptoCard

/-- THE SECOND FORM's CARD OF 'quadrillelaw04.SingleReckons'. -/
def singleReckonsUptoCard : Claim7 := { stood := { row := singleReckonsUptoRow, standIns := [], harness := (true, "6d830c08697d75bf133c79b667e7967dd762caede84b55eca8dba4eff2715afd"), looks := true }, kinds := [], alts := [], laidByText := true, laidKinds := [.data, .data, .data, .data, .sentinel, .sentinel, .pinned], laidTests := true, laidLooks := .later }
def SingleReckonsUptoCardSaid : Prop := Claim7.holds Tryz.pinned (.plain (OpenSpec.upto singleReckonsSpec)) singleReckonsUptoCard

/-- THE SECOND FORM's CARD OF 'quadrillelaw04.SingleOdd'. -/
def singleOddUptoCard : Claim7 := { stood := { row := singleOddUptoRow, standIns := [], harness := (true, "6d830c08697d75bf133c79b667e7967dd762caede84b55eca8dba4eff2715afd"), looks := true }, kinds := [], alts := [], laidByText := true, laidKinds := [.data, .data, .data, .data, .sentinel, .sentinel, .pinned], laidTests := true, laidLooks := .later }
def SingleOddUptoCardSaid : Prop := Claim7.holds Tryz.pinned (.plain (OpenSpec.upto singleOddSpec)) singleOddUptoCard

/-- THE SECOND FORM's CARD OF 'quadrillelaw04.SingleBack'. -/
def singleBackUptoCard : Claim7 := { stood := { row := singleBackUptoRow, standIns := [], harness := (true, "6d830c08697d75bf133c79b667e7967dd762caede84b55eca8dba4eff2715afd"), looks := true }, kinds := [], alts := [], laidByText := true, laidKinds := [.data, .data, .data, .data, .sentinel, .sentinel, .pinned], laidTests := true, laidLooks := .later }
def SingleBackUptoCardSaid : Prop := Claim7.holds Tryz.pinned (.plain (OpenSpec.upto singleBackSpec)) singleBackUptoCard

/-- THE SECOND FORM's CARD OF 'quadrillelaw04.SingleFrom'. -/
def singleFromUptoCard : Claim7 := { stood := { row := singleFromUptoRow, standIns := [], harness := (true, "6d830c08697d75bf133c79b667e7967dd762caede84b55eca8dba4eff2715afd"), looks := true }, kinds := [], alts := [], laidByText := true, laidKinds := [.data, .data, .data, .data, .sentinel, .sentinel, .pinned], laidTests := true, laidLooks := .later }
def SingleFromUptoCardSaid : Prop := Claim7.holds Tryz.pinned (.plain (OpenSpec.upto singleFromSpec)) singleFromUptoCard

/-- THE SECOND FORM's CARD OF 'quadrillelaw04.SingleSums'. -/
def singleSumsUptoCard : Claim7 := { stood := { row := singleSumsUptoRow, standIns := [], harness := (true, "6d830c08697d75bf133c79b667e7967dd762caede84b55eca8dba4eff2715afd"), looks := true }, kinds := [], alts := [], laidByText := true, laidKinds := [.data, .data, .data, .data, .sentinel, .sentinel, .pinned], laidTests := true, laidLooks := .later }
def SingleSumsUptoCardSaid : Prop := Claim7.holds Tryz.pinned (.plain (OpenSpec.upto singleSumsSpec)) singleSumsUptoCard

/-- THE SECOND FORM's CARD OF 'quadrillelaw04.SingleWhole'. -/
def singleWholeUptoCard : Claim7 := { stood := { row := singleWholeUptoRow, standIns := [], harness := (true, "6d830c08697d75bf133c79b667e7967dd762caede84b55eca8dba4eff2715afd"), looks := true }, kinds := [], alts := [], laidByText := true, laidKinds := [.data, .data, .data, .data, .sentinel, .sentinel, .pinned], laidTests := true, laidLooks := .later }
def SingleWholeUptoCardSaid : Prop := Claim7.holds Tryz.pinned (.plain (OpenSpec.upto singleWholeSpec)) singleWholeUptoCard

/-- THE SECOND FORM's CARD OF 'quadrillelaw04.SingleKinds'. -/
def singleKindsUptoCard : Claim7 := { stood := { row := singleKindsUptoRow, standIns := [], harness := (true, "6d830c08697d75bf133c79b667e7967dd762caede84b55eca8dba4eff2715afd"), looks := true }, kinds := [], alts := [], laidByText := true, laidKinds := [.data, .data, .data, .data, .sentinel, .sentinel, .pinned], laidTests := true, laidLooks := .later }
def SingleKindsUptoCardSaid : Prop := Claim7.holds Tryz.pinned (.plain (OpenSpec.upto singleKindsSpec)) singleKindsUptoCard

/-- THE SECOND FORM's CARD OF 'quadrillelaw04.SingleRises'. -/
def singleRisesUptoCard : Claim7 := { stood := { row := singleRisesUptoRow, standIns := [], harness := (true, "6d830c08697d75bf133c79b667e7967dd762caede84b55eca8dba4eff2715afd"), looks := true }, kinds := [], alts := [], laidByText := true, laidKinds := [.data, .data, .data, .data, .sentinel, .sentinel, .pinned], laidTests := true, laidLooks := .later }
def SingleRisesUptoCardSaid : Prop := Claim7.holds Tryz.pinned (.plain (OpenSpec.upto singleRisesSpec)) singleRisesUptoCard
end Rows
end Go.Proofs.YtgfbcncjboenbaaGreatDoor
