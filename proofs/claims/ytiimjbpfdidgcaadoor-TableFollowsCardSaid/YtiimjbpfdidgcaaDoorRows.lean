/-
  NARROWER THAN 'FOR EVERY INPUT', by the rows' own cells (each row's printed sentence says how): TablePowers: laid · TableFused: laid · TableSums: laid · TableSplits: laid · TableFollows: laid.
  DERIVED. THE GIVEN ROWS OF THIS SEAT. 5 by the template 'for every input the law returns true; each argument reads behind the call as it read before'; 0 by the template 'total and deterministic' (their statements: YtiimjbpfdidgcaaDoorTotals.lean).
  GIVEN WITH THE SEED: the statements are not yours to turn. If you find one false, say at which input.
  Laid BY PROGRAM, IN A SANDBOX (cutbox-rows.mjs): the forced cells as the released guide's own fill.sh prints them over the translation 374c74ae8bf2351d… (all of the seat's roots in one cut). By AI agents, Wed Nov 11 2026. No macro, syntax, notation, axiom, sorry.
-/
import Derived.Test.YtiimjbpfdidgcaaDoorChecked
import GoSem.Claim
import GoSem.ClaimJoined
import GoSem.ClaimMapViews
import Derived.JoinedTies
import Derived.KernelRfl
namespace Go.Proofs.YtiimjbpfdidgcaaDoor
/- THE CELL 'sum', in the pinned program and in every row, IS THE sha256 OF THE DUMP (.gsa) THAT YtiimjbpfdidgcaaDoorProg.lean LOADS. Nothing in Lean hashes anything: it is a label: what it is worth is what the hold of that sum in a sandbox is worth. -/
noncomputable def Tryd.pinned : Pinned := { name := "ytiimjbpfdidgcaadoor", sum := "374c74ae8bf2351d4bb396e33c78fa09e5793b386019edb40ed314d5b101de3e", checked := Tryd.checked }
namespace Rows
def none {H : Type} : Left H := { results := [], args := [] }

/- WHAT THE LISTED PACKAGE-LEVEL VARIABLES READ AS WHEN THE CALL BEGINS. Each datum BY PROGRAM (the guide's laid-datum.mjs) off the statement by which the dump's own 'gosem.cut.vars' lays the variable. In a bare row this is a premise. The card (YtiimjbpfdidgcaaDoorCards.lean) ties it to the program's text. -/
def laid_quadrille_table_quotients {H : Type} : DataW H := .agg [.agg [.lit (.int .i64 0), .lit (.int .i64 6), .lit (.int .i64 5)], .agg [.lit (.int .i64 5), .lit (.int .i64 6), .lit (.int .i64 5)], .agg [.lit (.int .i64 4), .lit (.int .i64 6), .lit (.int .i64 1)]]
def laid_quadrille_table_totals {H : Type} : DataW H := .agg [.agg [.lit (.int .i64 0), .lit (.int .i64 0), .lit (.int .i64 3)], .agg [.lit (.int .i64 0), .lit (.int .i64 0), .lit (.int .i64 3)], .agg [.lit (.int .i64 2), .lit (.int .i64 2), .lit (.int .i64 0)]]
def laid_quadrille_table_products {H : Type} : DataW H := .agg [.agg [.lit (.int .i64 0), .lit (.int .i64 5), .lit (.int .i64 4)], .agg [.lit (.int .i64 5), .lit (.int .i64 5), .lit (.int .i64 1)], .agg [.lit (.int .i64 4), .lit (.int .i64 1), .lit (.int .i64 4)]]
def laid_quadrille_table_rests {H : Type} : DataW H := .agg [.agg [.lit (.int .i64 0), .lit (.int .i64 6), .lit (.int .i64 0)], .agg [.lit (.int .i64 0), .lit (.int .i64 6), .lit (.int .i64 2)], .agg [.lit (.int .i64 1), .lit (.int .i64 6), .lit (.int .i64 1)]]

/-- 'quadrillelaw07.TablePowers': WHATEVER THE INPUT: true; the input reads as it did. -/
def tablePowersSpec : ChangeSpec := { name := "tablePowers", fn := fun _ => fun
  | [d1, d2] => { results := [.lit (.bool true)], args := [d1, d2] }
  | _ => none }
def tablePowersRow : OpenClaim := { program := "ytiimjbpfdidgcaadoor", sum := "374c74ae8bf2351d4bb396e33c78fa09e5793b386019edb40ed314d5b101de3e", func := "quadrille/quadrillelaw07.TablePowers", spec := "tablePowers", inPlace := ["math.Float64bits", "math.Float64frombits", "math.archTrunc", "math.sqrt", "math/bits.Add64", "math/bits.Sub64", "math.FMA"], named := ["quadrille/table.totals", "quadrille/table.quotients", "math/bits.divideError", "math/bits.overflowError"], apart := false, laid := [("quadrille/table.quotients", laid_quadrille_table_quotients), ("quadrille/table.totals", laid_quadrille_table_totals)] }
def TablePowersSaid : Prop := tablePowersRow.holds Tryd.pinned (OpenSpec.ofChange tablePowersSpec)

/-- ITS FALSE NEIGHBOUR: 'it returns false'. Refute it at one input. -/
def tablePowersWrong : ChangeSpec := { name := "tablePowers", fn := fun _ => fun
  | [d1, d2] => { results := [.lit (.bool false)], args := [d1, d2] }
  | _ => none }
def TablePowersWrongFalsely : Prop := tablePowersRow.holds Tryd.pinned (OpenSpec.ofChange tablePowersWrong)

/-- 'quadrillelaw07.TableFused': WHATEVER THE INPUT: true; the input reads as it did. -/
def tableFusedSpec : ChangeSpec := { name := "tableFused", fn := fun _ => fun
  | [d1, d2, d3] => { results := [.lit (.bool true)], args := [d1, d2, d3] }
  | _ => none }
def tableFusedRow : OpenClaim := { program := "ytiimjbpfdidgcaadoor", sum := "374c74ae8bf2351d4bb396e33c78fa09e5793b386019edb40ed314d5b101de3e", func := "quadrille/quadrillelaw07.TableFused", spec := "tableFused", inPlace := ["math.Float64bits", "math.Float64frombits", "math.archTrunc", "math.sqrt", "math/bits.Add64", "math/bits.Sub64", "math.FMA"], named := ["quadrille/table.totals", "quadrille/table.quotients", "math/bits.divideError", "math/bits.overflowError"], apart := false, laid := [("quadrille/table.quotients", laid_quadrille_table_quotients), ("quadrille/table.totals", laid_quadrille_table_totals)] }
def TableFusedSaid : Prop := tableFusedRow.holds Tryd.pinned (OpenSpec.ofChange tableFusedSpec)

/-- ITS FALSE NEIGHBOUR: 'it returns false'. Refute it at one input. -/
def tableFusedWrong : ChangeSpec := { name := "tableFused", fn := fun _ => fun
  | [d1, d2, d3] => { results := [.lit (.bool false)], args := [d1, d2, d3] }
  | _ => none }
def TableFusedWrongFalsely : Prop := tableFusedRow.holds Tryd.pinned (OpenSpec.ofChange tableFusedWrong)

/-- 'quadrillelaw07.TableSums': WHATEVER THE INPUT: true; the input reads as it did. -/
def tableSumsSpec : ChangeSpec := { name := "tableSums", fn := fun _ => fun
  | [d1, d2] => { results := [.lit (.bool true)], args := [d1, d2] }
  | _ => none }
def tableSumsRow : OpenClaim := { program := "ytiimjbpfdidgcaadoor", sum := "374c74ae8bf2351d4bb396e33c78fa09e5793b386019edb40ed314d5b101de3e", func := "quadrille/quadrillelaw07.TableSums", spec := "tableSums", inPlace := ["math.Float64bits", "math.Float64frombits", "math.archTrunc", "math.sqrt", "math/bits.Add64", "math/bits.Sub64", "math.FMA"], named := ["quadrille/table.totals", "quadrille/table.quotients", "math/bits.divideError", "math/bits.overflowError", "quadrille/table.products"], apart := false, laid := [("quadrille/table.products", laid_quadrille_table_products), ("quadrille/table.quotients", laid_quadrille_table_quotients), ("quadrille/table.totals", laid_quadrille_table_totals)] }
def TableSumsSaid : Prop := tableSumsRow.holds Tryd.pinned (OpenSpec.ofChange tableSumsSpec)

/-- ITS FALSE NEIGHBOUR: 'it returns false'. Refute it at one input. -/
def tableSumsWrong : ChangeSpec := { name := "tableSums", fn := fun _ => fun
  | [d1, d2] => { results := [.lit (.bool false)], args := [d1, d2] }
  | _ => none }
def TableSumsWrongFalsely : Prop := tableSumsRow.holds Tryd.pinned (OpenSpec.ofChange tableSumsWrong)

/-- 'quadrillelaw07.TableSplits': WHATEVER THE INPUT: true; the input reads as it did. -/
def tableSplitsSpec : ChangeSpec := { name := "tableSplits", fn := fun _ => fun
  | [d1, d2] => { results := [.lit (.bool true)], args := [d1, d2] }
  | _ => none }
def tableSplitsRow : OpenClaim := { program := "ytiimjbpfdidgcaadoor", sum := "374c74ae8bf2351d4bb396e33c78fa09e5793b386019edb40ed314d5b101de3e", func := "quadrille/quadrillelaw07.TableSplits", spec := "tableSplits", inPlace := ["math.Float64bits", "math.Float64frombits", "math.archTrunc", "math.sqrt", "math/bits.Add64", "math/bits.Sub64", "math.FMA"], named := ["quadrille/table.totals", "quadrille/table.quotients", "math/bits.divideError", "math/bits.overflowError"], apart := false, laid := [("quadrille/table.quotients", laid_quadrille_table_quotients), ("quadrille/table.totals", laid_quadrille_table_totals)] }
def TableSplitsSaid : Prop := tableSplitsRow.holds Tryd.pinned (OpenSpec.ofChange tableSplitsSpec)

/-- ITS FALSE NEIGHBOUR: 'it returns false'. Refute it at one input. -/
def tableSplitsWrong : ChangeSpec := { name := "tableSplits", fn := fun _ => fun
  | [d1, d2] => { results := [.lit (.bool false)], args := [d1, d2] }
  | _ => none }
def TableSplitsWrongFalsely : Prop := tableSplitsRow.holds Tryd.pinned (OpenSpec.ofChange tableSplitsWrong)

/-- 'quadrillelaw07.TableFollows': WHATEVER THE INPUT: true; the input reads as it did. -/
def tableFollowsSpec : ChangeSpec := { name := "tableFollows", fn := fun _ => fun
  | [d1, d2] => { results := [.lit (.bool true)], args := [d1, d2] }
  | _ => none }
def tableFollowsRow : OpenClaim := { program := "ytiimjbpfdidgcaadoor", sum := "374c74ae8bf2351d4bb396e33c78fa09e5793b386019edb40ed314d5b101de3e", func := "quadrille/quadrillelaw07.TableFollows", spec := "tableFollows", inPlace := ["math.Float64bits", "math.Float64frombits", "math.archTrunc", "math.sqrt", "math/bits.Add64", "math/bits.Sub64", "math.FMA"], named := ["quadrille/table.totals", "quadrille/table.quotients", "math/bits.divideError", "math/bits.overflowError", "quadrille/table.products", "quadrille/table.rests"], apart := false, laid := [("quadrille/table.products", laid_quadrille_table_products), ("quadrille/table.quotients", laid_quadrille_table_quotients), ("quadrille/table.rests", laid_quadrille_table_rests), ("quadrille/table.totals", laid_quadrille_table_totals)] }
def TableFollowsSaid : Prop := tableFollowsRow.holds Tryd.pinned (OpenSpec.ofChange tableFollowsSpec)

/-- ITS FALSE NEIGHBOUR: 'it returns false'. Refute it at one input. -/
def tableFollowsWrong : ChangeSpec := { name := "tableFollows", fn := fun _ => fun
  | [d1, d2] => { results := [.lit (.bool false)], args := [d1, d2] }
  | _ => none }
def TableFollowsWrongFalsely : Prop := tableFollowsRow.holds Tryd.pinned (OpenSpec.ofChange tableFollowsWrong)

/- THE SECOND FORM. 'bulk': how many values and letters a reading holds, each counted each time it is reached (what is shared counts as often as it is met; a slice's spare places count too). A statement '..UptoSaid' is the law's where the arguments, and the package variables that the reading takes, are together of bulk at most 1048576: NARROWER than '..Said'. Prove '..Said' where nothing that the law and all that it calls make is longer than what came in: it says more and counts as full. Else prove '..UptoSaid'. A law counts once. -/
mutual
def uptoBulk {H : Type} : DataW H → Nat
  | .lit (.string bytes) => bytes.length + 1
  | .lit _ => 1
  | .nil => 1
  | .ptr d => uptoBulk d + 1
  | .slice elems spare => uptoBulkAll elems + uptoBulkAll spare + 1
  | .agg parts => uptoBulkAll parts + 1
  | .iface _ d => uptoBulk d + 1
  | .map entries => uptoBulkEntries entries + 1
  | .held _ => 1
def uptoBulkAll {H : Type} : List (DataW H) → Nat
  | [] => 0
  | d :: r => uptoBulk d + uptoBulkAll r
def uptoBulkEntries {H : Type} : List (Lit × DataW H) → Nat
  | [] => 0
  | x :: r => uptoBulkEntry x + uptoBulkEntries r
def uptoBulkEntry {H : Type} : Lit × DataW H → Nat
  | (.string bytes, d) => bytes.length + uptoBulk d + 1
  | (_, d) => uptoBulk d + 1
 end
def uptoSmall : (H : Type) → List (DataW H) → Bool := fun _ ds => decide (uptoBulkAll ds ≤ 1048576)
def OpenSpec.upto (s : _root_.Go.ChangeSpec) : _root_.Go.OpenSpec := { _root_.Go.OpenSpec.ofChange s with cond := some uptoSmall }

/-- 'quadrillelaw07.TablePowers', WHERE WHAT IT READS IS OF BULK AT MOST 1048576: true; the input reads as it did. -/
def tablePowersUptoRow : OpenClaim := { program := "ytiimjbpfdidgcaadoor", sum := "374c74ae8bf2351d4bb396e33c78fa09e5793b386019edb40ed314d5b101de3e", func := "quadrille/quadrillelaw07.TablePowers", spec := "tablePowers", inPlace := ["math.Float64bits", "math.Float64frombits", "math.archTrunc", "math.sqrt", "math/bits.Add64", "math/bits.Sub64", "math.FMA"], named := ["quadrille/table.totals", "quadrille/table.quotients", "math/bits.divideError", "math/bits.overflowError"], apart := false, laid := [("quadrille/table.quotients", laid_quadrille_table_quotients), ("quadrille/table.totals", laid_quadrille_table_totals)], narrowed := true }
def TablePowersUptoSaid : Prop := tablePowersUptoRow.holds Tryd.pinned (OpenSpec.upto tablePowersSpec)

/-- 'quadrillelaw07.TableFused', WHERE WHAT IT READS IS OF BULK AT MOST 1048576: true; the input reads as it did. -/
def tableFusedUptoRow : OpenClaim := { program := "ytiimjbpfdidgcaadoor", sum := "374c74ae8bf2351d4bb396e33c78fa09e5793b386019edb40ed314d5b101de3e", func := "quadrille/quadrillelaw07.TableFused", spec := "tableFused", inPlace := ["math.Float64bits", "math.Float64frombits", "math.archTrunc", "math.sqrt", "math/bits.Add64", "math/bits.Sub64", "math.FMA"], named := ["quadrille/table.totals", "quadrille/table.quotients", "math/bits.divideError", "math/bits.overflowError"], apart := false, laid := [("quadrille/table.quotients", laid_quadrille_table_quotients), ("quadrille/table.totals", laid_quadrille_table_totals)], narrowed := true }
def TableFusedUptoSaid : Prop := tableFusedUptoRow.holds Tryd.pinned (OpenSpec.upto tableFusedSpec)

/-- 'quadrillelaw07.TableSums', WHERE WHAT IT READS IS OF BULK AT MOST 1048576: true; the input reads as it did. -/
def tableSumsUptoRow : OpenClaim := { program := "ytiimjbpfdidgcaadoor", sum := "374c74ae8bf2351d4bb396e33c78fa09e5793b386019edb40ed314d5b101de3e", func := "quadrille/quadrillelaw07.TableSums", spec := "tableSums", inPlace := ["math.Float64bits", "math.Float64frombits", "math.archTrunc", "math.sqrt", "math/bits.Add64", "math/bits.Sub64", "math.FMA"], named := ["quadrille/table.totals", "quadrille/table.quotients", "math/bits.divideError", "math/bits.overflowError", "quadrille/table.products"], apart := false, laid := [("quadrille/table.products", laid_quadrille_table_products), ("quadrille/table.quotients", laid_quadrille_table_quotients), ("quadrille/table.totals", laid_quadrille_table_totals)], narrowed := true }
def TableSumsUptoSaid : Prop := tableSumsUptoRow.holds Tryd.pinned (OpenSpec.upto tableSumsSpec)

/-- 'quadrillelaw07.TableSplits', WHERE WHAT IT READS IS OF BULK AT MOST 1048576: true; the input reads as it did. -/
def tableSplitsUptoRow : OpenClaim := { program := "ytiimjbpfdidgcaadoor", sum := "374c74ae8bf2351d4bb396e33c78fa09e5793b386019edb40ed314d5b101de3e", func := "quadrille/quadrillelaw07.TableSplits", spec := "tableSplits", inPlace := ["math.Float64bits", "math.Float64frombits", "math.archTrunc", "math.sqrt", "math/bits.Add64", "math/bits.Sub64", "math.FMA"], named := ["quadrille/table.totals", "quadrille/table.quotients", "math/bits.divideError", "math/bits.overflowError"], apart := false, laid := [("quadrille/table.quotients", laid_quadrille_table_quotients), ("quadrille/table.totals", laid_quadrille_table_totals)], narrowed := true }
def TableSplitsUptoSaid : Prop := tableSplitsUptoRow.holds Tryd.pinned (OpenSpec.upto tableSplitsSpec)

/-- 'quadrillelaw07.TableFollows', WHERE WHAT IT READS IS OF BULK AT MOST 1048576: true; the input reads as it did. -/
def tableFollowsUptoRow : OpenClaim := { program := "ytiimjbpfdidgcaadoor", sum := "374c74ae8bf2351d4bb396e33c78fa09e5793b386019edb40ed314d5b101de3e", func := "quadrille/quadrillelaw07.TableFollows", spec := "tableFollows", inPlace := ["math.Float64bits", "math.Float64frombits", "math.archTrunc", "math.sqrt", "math/bits.Add64", "math/bits.Sub64", "math.FMA"], named := ["quadrille/table.totals", "quadrille/table.quotients", "math/bits.divideError", "math/bits.overflowError", "quadrille/table.products", "quadrille/table.rests"], apart := false, laid := [("quadrille/table.products", laid_quadrille_table_products), ("quadrille/table.quotients", laid_quadrille_table_quotients), ("quadrille/table.rests", laid_quadrille_table_rests), ("quadrille/table.totals", laid_quadrille_table_totals)], narrowed := true }
def TableFollowsUptoSaid : Prop := tableFollowsUptoRow.holds Tryd.pinned (OpenSpec.upto tableFollowsSpec)

end Rows
end Go.Proofs.YtiimjbpfdidgcaaDoor
