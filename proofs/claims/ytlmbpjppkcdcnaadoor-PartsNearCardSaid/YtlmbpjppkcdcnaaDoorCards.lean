/-
  DERIVED. GIVEN WITH THE SEED: THE CARDS: each row of YtlmbpjppkcdcnaaDoorRows.lean that lists a variable, with what it lists TIED to the program's text (the seventh form; the later family's looks); each row that meets fmt, with fmt's text TOLD by the authors' own Lean function (tested against real Go, not proved from fmt's source: count such statements apart). THE CARD IS WHAT COUNTS. Prove the row's statement (the work); the ties are given (YtlmbpjppkcdcnaaDoorTie.lean); close each card by the builder's one call (the guide's Derived/Test/ToyasCard.lean, 'card_holds'). Laid BY PROGRAM, IN A SANDBOX (cutbox-door.mjs). By AI agents, Wed Nov 11 2026. No macro, syntax, notation, axiom, sorry.
-/
import Derived.Test.YtlmbpjppkcdcnaaDoorRows
import GoSem.ClaimSeven
namespace Go.Proofs.YtlmbpjppkcdcnaaDoor
namespace Rows

/-- THE TIED CARD OF 'quadrillelaw01.PartsJoins'. -/
def partsJoinsCard : Claim7 := { stood := { row := partsJoinsRow, standIns := [], harness := (true, "ce29e7d4b661457748f1240e77fca1c15ea256965bca99dcd9a08e7d4876e935"), looks := false }, kinds := [], alts := [], laidByText := true, laidKinds := [.data], laidTests := true, laidLooks := .later }
def PartsJoinsCardSaid : Prop := Claim7.holds Tryd.pinned (.plain (OpenSpec.ofChange partsJoinsSpec)) partsJoinsCard

/-- THE TIED CARD OF 'quadrillelaw01.PartsKinds'. -/
def partsKindsCard : Claim7 := { stood := { row := partsKindsRow, standIns := [], harness := (true, "ce29e7d4b661457748f1240e77fca1c15ea256965bca99dcd9a08e7d4876e935"), looks := false }, kinds := [], alts := [], laidByText := true, laidKinds := [.data], laidTests := true, laidLooks := .later }
def PartsKindsCardSaid : Prop := Claim7.holds Tryd.pinned (.plain (OpenSpec.ofChange partsKindsSpec)) partsKindsCard

/-- THE TIED CARD OF 'quadrillelaw01.PartsNear'. -/
def partsNearCard : Claim7 := { stood := { row := partsNearRow, standIns := [], harness := (true, "ce29e7d4b661457748f1240e77fca1c15ea256965bca99dcd9a08e7d4876e935"), looks := false }, kinds := [], alts := [], laidByText := true, laidKinds := [.data], laidTests := true, laidLooks := .later }
def PartsNearCardSaid : Prop := Claim7.holds Tryd.pinned (.plain (OpenSpec.ofChange partsNearSpec)) partsNearCard

/-- THE TIED CARD OF 'quadrillelaw01.PartsBack'. -/
def partsBackCard : Claim7 := { stood := { row := partsBackRow, standIns := [], harness := (true, "ce29e7d4b661457748f1240e77fca1c15ea256965bca99dcd9a08e7d4876e935"), looks := false }, kinds := [], alts := [], laidByText := true, laidKinds := [.data], laidTests := true, laidLooks := .later }
def PartsBackCardSaid : Prop := Claim7.holds Tryd.pinned (.plain (OpenSpec.ofChange partsBackSpec)) partsBackCard

/-- THE TIED CARD OF 'quadrillelaw01.PartsStands'. -/
def partsStandsCard : Claim7 := { stood := { row := partsStandsRow, standIns := [], harness := (true, "ce29e7d4b661457748f1240e77fca1c15ea256965bca99dcd9a08e7d4876e935"), looks := false }, kinds := [], alts := [], laidByText := true, laidKinds := [.data], laidTests := true, laidLooks := .later }
def PartsStandsCardSaid : Prop := Claim7.holds Tryd.pinned (.plain (OpenSpec.ofChange partsStandsSpec)) partsStandsCard

/-- THE SECOND FORM's CARD OF 'quadrillelaw01.PartsJoins'. -/
def partsJoinsUptoCard : Claim7 := { stood := { row := partsJoinsUptoRow, standIns := [], harness := (true, "ce29e7d4b661457748f1240e77fca1c15ea256965bca99dcd9a08e7d4876e935"), looks := false }, kinds := [], alts := [], laidByText := true, laidKinds := [.data], laidTests := true, laidLooks := .later }
def PartsJoinsUptoCardSaid : Prop := Claim7.holds Tryd.pinned (.plain (OpenSpec.upto partsJoinsSpec)) partsJoinsUptoCard

/-- THE SECOND FORM's CARD OF 'quadrillelaw01.PartsKinds'. -/
def partsKindsUptoCard : Claim7 := { stood := { row := partsKindsUptoRow, standIns := [], harness := (true, "ce29e7d4b661457748f1240e77fca1c15ea256965bca99dcd9a08e7d4876e935"), looks := false }, kinds := [], alts := [], laidByText := true, laidKinds := [.data], laidTests := true, laidLooks := .later }
def PartsKindsUptoCardSaid : Prop := Claim7.holds Tryd.pinned (.plain (OpenSpec.upto partsKindsSpec)) partsKindsUptoCard

/-- THE SECOND FORM's CARD OF 'quadrillelaw01.PartsNear'. -/
def partsNearUptoCard : Claim7 := { stood := { row := partsNearUptoRow, standIns := [], harness := (true, "ce29e7d4b661457748f1240e77fca1c15ea256965bca99dcd9a08e7d4876e935"), looks := false }, kinds := [], alts := [], laidByText := true, laidKinds := [.data], laidTests := true, laidLooks := .later }
def PartsNearUptoCardSaid : Prop := Claim7.holds Tryd.pinned (.plain (OpenSpec.upto partsNearSpec)) partsNearUptoCard

/-- THE SECOND FORM's CARD OF 'quadrillelaw01.PartsBack'. -/
def partsBackUptoCard : Claim7 := { stood := { row := partsBackUptoRow, standIns := [], harness := (true, "ce29e7d4b661457748f1240e77fca1c15ea256965bca99dcd9a08e7d4876e935"), looks := false }, kinds := [], alts := [], laidByText := true, laidKinds := [.data], laidTests := true, laidLooks := .later }
def PartsBackUptoCardSaid : Prop := Claim7.holds Tryd.pinned (.plain (OpenSpec.upto partsBackSpec)) partsBackUptoCard

/-- THE SECOND FORM's CARD OF 'quadrillelaw01.PartsStands'. -/
def partsStandsUptoCard : Claim7 := { stood := { row := partsStandsUptoRow, standIns := [], harness := (true, "ce29e7d4b661457748f1240e77fca1c15ea256965bca99dcd9a08e7d4876e935"), looks := false }, kinds := [], alts := [], laidByText := true, laidKinds := [.data], laidTests := true, laidLooks := .later }
def PartsStandsUptoCardSaid : Prop := Claim7.holds Tryd.pinned (.plain (OpenSpec.upto partsStandsSpec)) partsStandsUptoCard
end Rows
end Go.Proofs.YtlmbpjppkcdcnaaDoor
