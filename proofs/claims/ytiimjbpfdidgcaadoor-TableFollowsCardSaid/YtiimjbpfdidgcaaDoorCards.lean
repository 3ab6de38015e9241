/-
  DERIVED. GIVEN WITH THE SEED: THE CARDS: each row of YtiimjbpfdidgcaaDoorRows.lean that lists a variable, with what it lists TIED to the program's text (the seventh form; the later family's looks); each row that meets fmt, with fmt's text TOLD by the authors' own Lean function (tested against real Go, not proved from fmt's source: count such statements apart). THE CARD IS WHAT COUNTS. Prove the row's statement (the work); the ties are given (YtiimjbpfdidgcaaDoorTie.lean); close each card by the builder's one call (the guide's Derived/Test/ToyasCard.lean, 'card_holds'). Laid BY PROGRAM, IN A SANDBOX (cutbox-door.mjs). By AI agents, Wed Nov 11 2026. No macro, syntax, notation, axiom, sorry.
-/
import Derived.Test.YtiimjbpfdidgcaaDoorRows
import GoSem.ClaimSeven
namespace Go.Proofs.YtiimjbpfdidgcaaDoor
namespace Rows

/-- THE TIED CARD OF 'quadrillelaw07.TablePowers'. -/
def tablePowersCard : Claim7 := { stood := { row := tablePowersRow, standIns := [], harness := (true, "1ea1e55636a248bd9b39b8a9f9f47257bcbb4ee3c26f2dd3c202fb3a5bd79f6b"), looks := false }, kinds := [], alts := [], laidByText := true, laidKinds := [.data, .data], laidTests := true, laidLooks := .later }
def TablePowersCardSaid : Prop := Claim7.holds Tryd.pinned (.plain (OpenSpec.ofChange tablePowersSpec)) tablePowersCard

/-- THE TIED CARD OF 'quadrillelaw07.TableFused'. -/
def tableFusedCard : Claim7 := { stood := { row := tableFusedRow, standIns := [], harness := (true, "1ea1e55636a248bd9b39b8a9f9f47257bcbb4ee3c26f2dd3c202fb3a5bd79f6b"), looks := false }, kinds := [], alts := [], laidByText := true, laidKinds := [.data, .data], laidTests := true, laidLooks := .later }
def TableFusedCardSaid : Prop := Claim7.holds Tryd.pinned (.plain (OpenSpec.ofChange tableFusedSpec)) tableFusedCard

/-- THE TIED CARD OF 'quadrillelaw07.TableSums'. -/
def tableSumsCard : Claim7 := { stood := { row := tableSumsRow, standIns := [], harness := (true, "1ea1e55636a248bd9b39b8a9f9f47257bcbb4ee3c26f2dd3c202fb3a5bd79f6b"), looks := false }, kinds := [], alts := [], laidByText := true, laidKinds := [.data, .data, .data], laidTests := true, laidLooks := .later }
def TableSumsCardSaid : Prop := Claim7.holds Tryd.pinned (.plain (OpenSpec.ofChange tableSumsSpec)) tableSumsCard

/-- THE TIED CARD OF 'quadrillelaw07.TableSplits'. -/
def tableSplitsCard : Claim7 := { stood := { row := tableSplitsRow, standIns := [], harness := (true, "1ea1e55636a248bd9b39b8a9f9f47257bcbb4ee3c26f2dd3c202fb3a5bd79f6b"), looks := false }, kinds := [], alts := [], laidByText := true, laidKinds := [.data, .data], laidTests := true, laidLooks := .later }
def TableSplitsCardSaid : Prop := Claim7.holds Tryd.pinned (.plain (OpenSpec.ofChange tableSplitsSpec)) tableSplitsCard

/-- THE TIED CARD OF 'quadrillelaw07.TableFollows'. -/
def tableFollowsCard : Claim7 := { stood := { row := tableFollowsRow, standIns := [], harness := (true, "1ea1e55636a248bd9b39b8a9f9f47257bcbb4ee3c26f2dd3c202fb3a5bd79f6b"), looks := false }, kinds := [], alts := [], laidByText := true, laidKinds := [.data, .data, .data, .data], laidTests := true, laidLooks := .later }
def TableFollowsCardSaid : Prop := Claim7.holds Tryd.pinned (.plain (OpenSpec.ofChange tableFollowsSpec)) tableFollowsCard

/-- THE SECOND FORM's CARD OF 'quadrillelaw07.TablePowers'. -/
def tablePowersUptoCard : Claim7 := { stood := { row := tablePowersUptoRow, standIns := [], harness := (true, "1ea1e55636a248bd9b39b8a9f9f47257bcbb4ee3c26f2dd3c202fb3a5bd79f6b"), looks := false }, kinds := [], alts := [], laidByText := true, laidKinds := [.data, .data], laidTests := true, laidLooks := .later }
def TablePowersUptoCardSaid : Prop := Claim7.holds Tryd.pinned (.plain (OpenSpec.upto tablePowersSpec)) tablePowersUptoCard

/-- THE SECOND FORM's CARD OF 'quadrillelaw07.TableFused'. -/
def tableFusedUptoCard : Claim7 := { stood := { row := tableFusedUptoRow, standIns := [], harness := (true, "1ea1e55636a248bd9b39b8a9f9f47257bcbb4ee3c26f2dd3c202fb3a5bd79f6b"), looks := false }, kinds := [], alts := [], laidByText := true, laidKinds := [.data, .data], laidTests := true, laidLooks := .later }
def TableFusedUptoCardSaid : Prop := Claim7.holds Tryd.pinned (.plain (OpenSpec.upto tableFusedSpec)) tableFusedUptoCard

/-- THE SECOND FORM's CARD OF 'quadrillelaw07.TableSums'. -/
def tableSumsUptoCard : Claim7 := { stood := { row := tableSumsUptoRow, standIns := [], harness := (true, "1ea1e55636a248bd9b39b8a9f9f47257bcbb4ee3c26f2dd3c202fb3a5bd79f6b"), looks := false }, kinds := [], alts := [], laidByText := true, laidKinds := [.data, .data, .data], laidTests := true, laidLooks := .later }
def TableSumsUptoCardSaid : Prop := Claim7.holds Tryd.pinned (.plain (OpenSpec.upto tableSumsSpec)) tableSumsUptoCard

/-- THE SECOND FORM's CARD OF 'quadrillelaw07.TableSplits'. -/
def tableSplitsUptoCard : Claim7 := { stood := { row := tableSplitsUptoRow, standIns := [], harness := (true, "1ea1e55636a248bd9b39b8a9f9f47257bcbb4ee3c26f2dd3c202fb3a5bd79f6b"), looks := false }, kinds := [], alts := [], laidByText := true, laidKinds := [.data, .data], laidTests := true, laidLooks := .later }
def TableSplitsUptoCardSaid : Prop := Claim7.holds Tryd.pinned (.plain (OpenSpec.upto tableSplitsSpec)) tableSplitsUptoCard

/-- THE SECOND FORM's CARD OF 'quadrillelaw07.TableFollows'. -/
def tableFollowsUptoCard : Claim7 := { stood := { row := tableFollowsUptoRow, standIns := [], harness := (true, "1ea1e55636a248bd9b39b8a9f9f47257bcbb4ee3c26f2dd3c202fb3a5bd79f6b"), looks := false }, kinds := [], alts := [], laidByText := true, laidKinds := [.data, .data, .data, .data], laidTests := true, laidLooks := .later }
def TableFollowsUptoCardSaid : Prop := Claim7.holds Tryd.pinned (.plain (OpenSpec.upto tableFollowsSpec)) tableFollowsUptoCard
end Rows
end Go.Proofs.YtiimjbpfdidgcaaDoor
