/-
  DERIVED. GIVEN WITH THE SEED: THE PROGRAM's TIES (one call each: nine closed facts by the kernel) AND EACH ROW's TIE, after the 31st guide's Derived/Test/Toyas{Tie, Card}.lean. No idea stands in it: it is a product of the set-up. Laid BY PROGRAM, IN A SANDBOX (cutbox-door.mjs). By AI agents, Wed Nov 11 2026. No macro, syntax, notation, axiom, sorry.
-/
import Derived.Test.YtiimjbpfdidgcaaGreatDoorRows
import Derived.LaidByTextLater
import Derived.SevenTiedAt
import Derived.LaidSub
import Derived.LaidOnce
namespace Go.Proofs.YtiimjbpfdidgcaaGreatDoor
open Go
set_option maxRecDepth 100000
theorem seatTie1 : Tryz.prog.laidByTextLater [("quadrille/table.quotients", Rows.laid_quadrille_table_quotients), ("quadrille/table.rests", Rows.laid_quadrille_table_rests), ("quadrille/table.totals", Rows.laid_quadrille_table_totals)] [.data, .data, .data] true :=
  Program.laidByTextLater_by_one 33 8 10 (by kernel_rfl) (by kernel_rfl) (by kernel_rfl) (by kernel_rfl) (by kernel_rfl) (by kernel_rfl) (fun _ _ => by kernel_rfl)
theorem noOwnUnsafe : Tryz.pinned.checked.prog.headLifts.contains "ownunsafe" = false := by kernel_rfl
theorem tie : Tryz.prog.laidByTextLater [("quadrille/table.quotients", Rows.laid_quadrille_table_quotients), ("quadrille/table.rests", Rows.laid_quadrille_table_rests), ("quadrille/table.totals", Rows.laid_quadrille_table_totals)] [.data, .data, .data] true :=
  Program.laidByTextLater.sub seatTie1 ["quadrille/table.quotients", "quadrille/table.rests", "quadrille/table.totals"] (by kernel_rfl) (by kernel_rfl)
theorem tableParts_row_tie : Rows.tablePartsRow.laidByTextAt .later Tryz.pinned [.data, .data, .data] true :=
  OpenClaim.laidByTextAt_later rfl rfl tie noOwnUnsafe
theorem tablePartsUpto_row_tie : Rows.tablePartsUptoRow.laidByTextAt .later Tryz.pinned [.data, .data, .data] true :=
  OpenClaim.laidByTextAt_later rfl rfl tie noOwnUnsafe
end Go.Proofs.YtiimjbpfdidgcaaGreatDoor
