/-
  DERIVED. GIVEN WITH THE SEED: THE PROGRAM's TIES (one call each: nine closed facts by the kernel) AND EACH ROW's TIE, after the 31st guide's Derived/Test/Toyas{Tie, Card}.lean. No idea stands in it: it is a product of the set-up. Laid BY PROGRAM, IN A SANDBOX (cutbox-door.mjs). By AI agents, Wed Nov 11 2026. No macro, syntax, notation, axiom, sorry.
-/
import Derived.Test.YtiimjbpfdidgcaaDoorRows
import Derived.LaidByTextLater
import Derived.SevenTiedAt
import Derived.LaidSub
import Derived.LaidOnce
namespace Go.Proofs.YtiimjbpfdidgcaaDoor
open Go
set_option maxRecDepth 100000
theorem seatTie1 : Tryd.prog.laidByTextLater [("quadrille/table.products", Rows.laid_quadrille_table_products), ("quadrille/table.quotients", Rows.laid_quadrille_table_quotients), ("quadrille/table.rests", Rows.laid_quadrille_table_rests), ("quadrille/table.totals", Rows.laid_quadrille_table_totals)] [.data, .data, .data, .data] true :=
  Program.laidByTextLater_by_one 41 8 10 (by kernel_rfl) (by kernel_rfl) (by kernel_rfl) (by kernel_rfl) (by kernel_rfl) (by kernel_rfl) (fun _ _ => by kernel_rfl)
theorem noOwnUnsafe : Tryd.pinned.checked.prog.headLifts.contains "ownunsafe" = false := by kernel_rfl
theorem tie : Tryd.prog.laidByTextLater [("quadrille/table.quotients", Rows.laid_quadrille_table_quotients), ("quadrille/table.totals", Rows.laid_quadrille_table_totals)] [.data, .data] true :=
  Program.laidByTextLater.sub seatTie1 ["quadrille/table.quotients", "quadrille/table.totals"] (by kernel_rfl) (by kernel_rfl)
theorem tablePowers_row_tie : Rows.tablePowersRow.laidByTextAt .later Tryd.pinned [.data, .data] true :=
  OpenClaim.laidByTextAt_later rfl rfl tie noOwnUnsafe
theorem tableFused_row_tie : Rows.tableFusedRow.laidByTextAt .later Tryd.pinned [.data, .data] true :=
  OpenClaim.laidByTextAt_later rfl rfl tie noOwnUnsafe
theorem tableSplits_row_tie : Rows.tableSplitsRow.laidByTextAt .later Tryd.pinned [.data, .data] true :=
  OpenClaim.laidByTextAt_later rfl rfl tie noOwnUnsafe
theorem tie2 : Tryd.prog.laidByTextLater [("quadrille/table.products", Rows.laid_quadrille_table_products), ("quadrille/table.quotients", Rows.laid_quadrille_table_quotients), ("quadrille/table.totals", Rows.laid_quadrille_table_totals)] [.data, .data, .data] true :=
  Program.laidByTextLater.sub seatTie1 ["quadrille/table.products", "quadrille/table.quotients", "quadrille/table.totals"] (by kernel_rfl) (by kernel_rfl)
theorem tableSums_row_tie : Rows.tableSumsRow.laidByTextAt .later Tryd.pinned [.data, .data, .data] true :=
  OpenClaim.laidByTextAt_later rfl rfl tie2 noOwnUnsafe
theorem tie3 : Tryd.prog.laidByTextLater [("quadrille/table.products", Rows.laid_quadrille_table_products), ("quadrille/table.quotients", Rows.laid_quadrille_table_quotients), ("quadrille/table.rests", Rows.laid_quadrille_table_rests), ("quadrille/table.totals", Rows.laid_quadrille_table_totals)] [.data, .data, .data, .data] true :=
  Program.laidByTextLater.sub seatTie1 ["quadrille/table.products", "quadrille/table.quotients", "quadrille/table.rests", "quadrille/table.totals"] (by kernel_rfl) (by kernel_rfl)
theorem tableFollows_row_tie : Rows.tableFollowsRow.laidByTextAt .later Tryd.pinned [.data, .data, .data, .data] true :=
  OpenClaim.laidByTextAt_later rfl rfl tie3 noOwnUnsafe
theorem tablePowersUpto_row_tie : Rows.tablePowersUptoRow.laidByTextAt .later Tryd.pinned [.data, .data] true :=
  OpenClaim.laidByTextAt_later rfl rfl tie noOwnUnsafe
theorem tableFusedUpto_row_tie : Rows.tableFusedUptoRow.laidByTextAt .later Tryd.pinned [.data, .data] true :=
  OpenClaim.laidByTextAt_later rfl rfl tie noOwnUnsafe
theorem tableSumsUpto_row_tie : Rows.tableSumsUptoRow.laidByTextAt .later Tryd.pinned [.data, .data, .data] true :=
  OpenClaim.laidByTextAt_later rfl rfl tie2 noOwnUnsafe
theorem tableSplitsUpto_row_tie : Rows.tableSplitsUptoRow.laidByTextAt .later Tryd.pinned [.data, .data] true :=
  OpenClaim.laidByTextAt_later rfl rfl tie noOwnUnsafe
theorem tableFollowsUpto_row_tie : Rows.tableFollowsUptoRow.laidByTextAt .later Tryd.pinned [.data, .data, .data, .data] true :=
  OpenClaim.laidByTextAt_later rfl rfl tie3 noOwnUnsafe
end Go.Proofs.YtiimjbpfdidgcaaDoor
