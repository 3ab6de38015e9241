/-
  NARROWER THAN 'FOR EVERY INPUT', by the rows' own cells (each row's printed sentence says how): PartsJoins: laid · PartsKinds: laid · PartsNear: laid · PartsBack: laid · PartsStands: laid.
  DERIVED. THE GIVEN ROWS OF THIS SEAT. 5 by the template 'for every input the law returns true; each argument reads behind the call as it read before'; 0 by the template 'total and deterministic' (their statements: YtlmbpjppkcdcnaaDoorTotals.lean).
  GIVEN WITH THE SEED: the statements are not yours to turn. If you find one false, say at which input.
  Laid BY PROGRAM, IN A SANDBOX (cutbox-rows.mjs): the forced cells as the released guide's own fill.sh prints them over the translation 75e1271c2ec01f28… (all of the seat's roots in one cut). By AI agents, Wed Nov 11 2026. No macro, syntax, notation, axiom, sorry.
-/
import Derived.Test.YtlmbpjppkcdcnaaDoorChecked
import GoSem.Claim
import GoSem.ClaimJoined
import GoSem.ClaimMapViews
import Derived.JoinedTies
import Derived.KernelRfl
namespace Go.Proofs.YtlmbpjppkcdcnaaDoor
/- THE CELL 'sum', in the pinned program and in every row, IS THE sha256 OF THE DUMP (.gsa) THAT YtlmbpjppkcdcnaaDoorProg.lean LOADS. Nothing in Lean hashes anything: it is a label: what it is worth is what the hold of that sum in a sandbox is worth. -/
noncomputable def Tryd.pinned : Pinned := { name := "ytlmbpjppkcdcnaadoor", sum := "75e1271c2ec01f28cfd740b6891329784cb0d1c7b0c5afad81f1309aa03c0831", checked := Tryd.checked }
namespace Rows
def none {H : Type} : Left H := { results := [], args := [] }

/- WHAT THE LISTED PACKAGE-LEVEL VARIABLES READ AS WHEN THE CALL BEGINS. Each datum BY PROGRAM (the guide's laid-datum.mjs) off the statement by which the dump's own 'gosem.cut.vars' lays the variable. In a bare row this is a premise. The card (YtlmbpjppkcdcnaaDoorCards.lean) ties it to the program's text. -/
def laid_math_bits_deBruijn64tab {H : Type} : DataW H := .agg [.lit (.int .u8 0), .lit (.int .u8 1), .lit (.int .u8 56), .lit (.int .u8 2), .lit (.int .u8 57), .lit (.int .u8 49), .lit (.int .u8 28), .lit (.int .u8 3), .lit (.int .u8 61), .lit (.int .u8 58), .lit (.int .u8 42), .lit (.int .u8 50), .lit (.int .u8 38), .lit (.int .u8 29), .lit (.int .u8 17), .lit (.int .u8 4), .lit (.int .u8 62), .lit (.int .u8 47), .lit (.int .u8 59), .lit (.int .u8 36), .lit (.int .u8 45), .lit (.int .u8 43), .lit (.int .u8 51), .lit (.int .u8 22), .lit (.int .u8 53), .lit (.int .u8 39), .lit (.int .u8 33), .lit (.int .u8 30), .lit (.int .u8 24), .lit (.int .u8 18), .lit (.int .u8 12), .lit (.int .u8 5), .lit (.int .u8 63), .lit (.int .u8 55), .lit (.int .u8 48), .lit (.int .u8 27), .lit (.int .u8 60), .lit (.int .u8 41), .lit (.int .u8 37), .lit (.int .u8 16), .lit (.int .u8 46), .lit (.int .u8 35), .lit (.int .u8 44), .lit (.int .u8 21), .lit (.int .u8 52), .lit (.int .u8 32), .lit (.int .u8 23), .lit (.int .u8 11), .lit (.int .u8 54), .lit (.int .u8 26), .lit (.int .u8 40), .lit (.int .u8 15), .lit (.int .u8 34), .lit (.int .u8 20), .lit (.int .u8 31), .lit (.int .u8 10), .lit (.int .u8 25), .lit (.int .u8 14), .lit (.int .u8 19), .lit (.int .u8 9), .lit (.int .u8 13), .lit (.int .u8 8), .lit (.int .u8 7), .lit (.int .u8 6)]

/-- 'quadrillelaw01.PartsJoins': WHATEVER THE INPUT: true; the input reads as it did. -/
def partsJoinsSpec : ChangeSpec := { name := "partsJoins", fn := fun _ => fun
  | [d1, d2, d3] => { results := [.lit (.bool true)], args := [d1, d2, d3] }
  | _ => none }
def partsJoinsRow : OpenClaim := { program := "ytlmbpjppkcdcnaadoor", sum := "75e1271c2ec01f28cfd740b6891329784cb0d1c7b0c5afad81f1309aa03c0831", func := "quadrille/quadrillelaw01.PartsJoins", spec := "partsJoins", inPlace := ["math.Float64bits", "math.Float64frombits"], named := ["math/bits.deBruijn64tab"], apart := false, laid := [("math/bits.deBruijn64tab", laid_math_bits_deBruijn64tab)] }
def PartsJoinsSaid : Prop := partsJoinsRow.holds Tryd.pinned (OpenSpec.ofChange partsJoinsSpec)

/-- ITS FALSE NEIGHBOUR: 'it returns false'. Refute it at one input. -/
def partsJoinsWrong : ChangeSpec := { name := "partsJoins", fn := fun _ => fun
  | [d1, d2, d3] => { results := [.lit (.bool false)], args := [d1, d2, d3] }
  | _ => none }
def PartsJoinsWrongFalsely : Prop := partsJoinsRow.holds Tryd.pinned (OpenSpec.ofChange partsJoinsWrong)

/-- 'quadrillelaw01.PartsKinds': WHATEVER THE INPUT: true; the input reads as it did. -/
def partsKindsSpec : ChangeSpec := { name := "partsKinds", fn := fun _ => fun
  | [d] => { results := [.lit (.bool true)], args := [d] }
  | _ => none }
def partsKindsRow : OpenClaim := { program := "ytlmbpjppkcdcnaadoor", sum := "75e1271c2ec01f28cfd740b6891329784cb0d1c7b0c5afad81f1309aa03c0831", func := "quadrille/quadrillelaw01.PartsKinds", spec := "partsKinds", inPlace := ["math.Float64bits", "math.Float64frombits"], named := ["math/bits.deBruijn64tab"], apart := false, laid := [("math/bits.deBruijn64tab", laid_math_bits_deBruijn64tab)] }
def PartsKindsSaid : Prop := partsKindsRow.holds Tryd.pinned (OpenSpec.ofChange partsKindsSpec)

/-- ITS FALSE NEIGHBOUR: 'it returns false'. Refute it at one input. -/
def partsKindsWrong : ChangeSpec := { name := "partsKinds", fn := fun _ => fun
  | [d] => { results := [.lit (.bool false)], args := [d] }
  | _ => none }
def PartsKindsWrongFalsely : Prop := partsKindsRow.holds Tryd.pinned (OpenSpec.ofChange partsKindsWrong)

/-- 'quadrillelaw01.PartsNear': WHATEVER THE INPUT: true; the input reads as it did. -/
def partsNearSpec : ChangeSpec := { name := "partsNear", fn := fun _ => fun
  | [d1, d2] => { results := [.lit (.bool true)], args := [d1, d2] }
  | _ => none }
def partsNearRow : OpenClaim := { program := "ytlmbpjppkcdcnaadoor", sum := "75e1271c2ec01f28cfd740b6891329784cb0d1c7b0c5afad81f1309aa03c0831", func := "quadrille/quadrillelaw01.PartsNear", spec := "partsNear", inPlace := ["math.Float64bits", "math.Float64frombits"], named := ["math/bits.deBruijn64tab"], apart := false, laid := [("math/bits.deBruijn64tab", laid_math_bits_deBruijn64tab)] }
def PartsNearSaid : Prop := partsNearRow.holds Tryd.pinned (OpenSpec.ofChange partsNearSpec)

/-- ITS FALSE NEIGHBOUR: 'it returns false'. Refute it at one input. -/
def partsNearWrong : ChangeSpec := { name := "partsNear", fn := fun _ => fun
  | [d1, d2] => { results := [.lit (.bool false)], args := [d1, d2] }
  | _ => none }
def PartsNearWrongFalsely : Prop := partsNearRow.holds Tryd.pinned (OpenSpec.ofChange partsNearWrong)

/-- 'quadrillelaw01.PartsBack': WHATEVER THE INPUT: true; the input reads as it did. -/
def partsBackSpec : ChangeSpec := { name := "partsBack", fn := fun _ => fun
  | [d1, d2, d3] => { results := [.lit (.bool true)], args := [d1, d2, d3] }
  | _ => none }
def partsBackRow : OpenClaim := { program := "ytlmbpjppkcdcnaadoor", sum := "75e1271c2ec01f28cfd740b6891329784cb0d1c7b0c5afad81f1309aa03c0831", func := "quadrille/quadrillelaw01.PartsBack", spec := "partsBack", inPlace := ["math.Float64bits", "math.Float64frombits"], named := ["math/bits.deBruijn64tab"], apart := false, laid := [("math/bits.deBruijn64tab", laid_math_bits_deBruijn64tab)] }
def PartsBackSaid : Prop := partsBackRow.holds Tryd.pinned (OpenSpec.ofChange partsBackSpec)

/-- ITS FALSE NEIGHBOUR: 'it returns false'. Refute it at one input. -/
def partsBackWrong : ChangeSpec := { name := "partsBack", fn := fun _ => fun
  | [d1, d2, d3] => { results := [.lit (.bool false)], args := [d1, d2, d3] }
  | _ => none }
def PartsBackWrongFalsely : Prop := partsBackRow.holds Tryd.pinned (OpenSpec.ofChange partsBackWrong)

/-- 'quadrillelaw01.PartsStands': WHATEVER THE INPUT: true; the input reads as it did. -/
def partsStandsSpec : ChangeSpec := { name := "partsStands", fn := fun _ => fun
  | [d1, d2] => { results := [.lit (.bool true)], args := [d1, d2] }
  | _ => none }
def partsStandsRow : OpenClaim := { program := "ytlmbpjppkcdcnaadoor", sum := "75e1271c2ec01f28cfd740b6891329784cb0d1c7b0c5afad81f1309aa03c0831", func := "quadrille/quadrillelaw01.PartsStands", spec := "partsStands", inPlace := ["math.Float64bits", "math.Float64frombits"], named := ["math/bits.deBruijn64tab"], apart := false, laid := [("math/bits.deBruijn64tab", laid_math_bits_deBruijn64tab)] }
def PartsStandsSaid : Prop := partsStandsRow.holds Tryd.pinned (OpenSpec.ofChange partsStandsSpec)

/-- ITS FALSE NEIGHBOUR: 'it returns false'. Refute it at one input. -/
def partsStandsWrong : ChangeSpec := { name := "partsStands", fn := fun _ => fun
  | [d1, d2] => { results := [.lit (.bool false)], args := [d1, d2] }
  | _ => none }
def PartsStandsWrongFalsely : Prop := partsStandsRow.holds Tryd.pinned (OpenSpec.ofChange partsStandsWrong)

/- THE SECOND FORM. 'bulk': how many values and letters a reading holds, each counted each time it is reached (what is shared counts as often as it is met; a slice's spare places count too). A statement '..UptoSaid' is the law's where the arguments, and the package variables that the reading takes, are together of bulk at most 1048576: NARROWER than '..Said'. Prove '..Said' where nothing that the law and all that it calls make is longer than what came in: it says more and counts as full. Else prove '..UptoSaid'. A law counts once. -/
mutual
def uptoBulk {H : Type} : DataW H → Nat
  | .lit (.string bytes) => bytes.length + 1
  | .lit _ => 1
  | .nil => 1
  | .ptr d => uptoBulk d + 1
  | .slice elems spare => uptoBulkAll elems + uptoBulkAll spare + 1
  | .agg parts => uptoBulkAll parts + 1
  | .iface _ d => uptoBulk d + 1
  | .map entries => uptoBulkEntries entries + 1
  | .held _ => 1
def uptoBulkAll {H : Type} : List (DataW H) → Nat
  | [] => 0
  | d :: r => uptoBulk d + uptoBulkAll r
def uptoBulkEntries {H : Type} : List (Lit × DataW H) → Nat
  | [] => 0
  | x :: r => uptoBulkEntry x + uptoBulkEntries r
def uptoBulkEntry {H : Type} : Lit × DataW H → Nat
  | (.string bytes, d) => bytes.length + uptoBulk d + 1
  | (_, d) => uptoBulk d + 1
 end
def uptoSmall : (H : Type) → List (DataW H) → Bool := fun _ ds => decide (uptoBulkAll ds ≤ 1048576)
def OpenSpec.upto (s : _root_.Go.ChangeSpec) : _root_.Go.OpenSpec := { _root_.Go.OpenSpec.ofChange s with cond := some uptoSmall }

/-- 'quadrillelaw01.PartsJoins', WHERE WHAT IT READS IS OF BULK AT MOST 1048576: true; the input reads as it did. -/
def partsJoinsUptoRow : OpenClaim := { program := "ytlmbpjppkcdcnaadoor", sum := "75e1271c2ec01f28cfd740b6891329784cb0d1c7b0c5afad81f1309aa03c0831", func := "quadrille/quadrillelaw01.PartsJoins", spec := "partsJoins", inPlace := ["math.Float64bits", "math.Float64frombits"], named := ["math/bits.deBruijn64tab"], apart := false, laid := [("math/bits.deBruijn64tab", laid_math_bits_deBruijn64tab)], narrowed := true }
def PartsJoinsUptoSaid : Prop := partsJoinsUptoRow.holds Tryd.pinned (OpenSpec.upto partsJoinsSpec)

/-- 'quadrillelaw01.PartsKinds', WHERE WHAT IT READS IS OF BULK AT MOST 1048576: true; the input reads as it did. -/
def partsKindsUptoRow : OpenClaim := { program := "ytlmbpjppkcdcnaadoor", sum := "75e1271c2ec01f28cfd740b6891329784cb0d1c7b0c5afad81f1309aa03c0831", func := "quadrille/quadrillelaw01.PartsKinds", spec := "partsKinds", inPlace := ["math.Float64bits", "math.Float64frombits"], named := ["math/bits.deBruijn64tab"], apart := false, laid := [("math/bits.deBruijn64tab", laid_math_bits_deBruijn64tab)], narrowed := true }
def PartsKindsUptoSaid : Prop := partsKindsUptoRow.holds Tryd.pinned (OpenSpec.upto partsKindsSpec)

/-- 'quadrillelaw01.PartsNear', WHERE WHAT IT READS IS OF BULK AT MOST 1048576: true; the input reads as it did. -/
def partsNearUptoRow : OpenClaim := { program := "ytlmbpjppkcdcnaadoor", sum := "75e1271c2ec01f28cfd740b6891329784cb0d1c7b0c5afad81f1309aa03c0831", func := "quadrille/quadrillelaw01.PartsNear", spec := "partsNear", inPlace := ["math.Float64bits", "math.Float64frombits"], named := ["math/bits.deBruijn64tab"], apart := false, laid := [("math/bits.deBruijn64tab", laid_math_bits_deBruijn64tab)], narrowed := true }
def PartsNearUptoSaid : Prop := partsNearUptoRow.holds Tryd.pinned (OpenSpec.upto partsNearSpec)

/-- 'quadrillelaw01.PartsBack', WHERE WHAT IT READS IS OF BULK AT MOST 1048576: true; the input reads as it did. -/
def partsBackUptoRow : OpenClaim := { program := "ytlmbpjppkcdcnaadoor", sum := "75e1271c2ec01f28cfd740b6891329784cb0d1c7b0c5afad81f1309aa03c0831", func := "quadrille/quadrillelaw01.PartsBack", spec := "partsBack", inPlace := ["math.Float64bits", "math.Float64frombits"], named := ["math/bits.deBruijn64tab"], apart := false, laid := [("math/bits.deBruijn64tab", laid_math_bits_deBruijn64tab)], narrowed := true }
def PartsBackUptoSaid : Prop := partsBackUptoRow.holds Tryd.pinned (OpenSpec.upto partsBackSpec)

/-- 'quadrillelaw01.PartsStands', WHERE WHAT IT READS IS OF BULK AT MOST 1048576: true; the input reads as it did. -/
def partsStandsUptoRow : OpenClaim := { program := "ytlmbpjppkcdcnaadoor", sum := "75e1271c2ec01f28cfd740b6891329784cb0d1c7b0c5afad81f1309aa03c0831", func := "quadrille/quadrillelaw01.PartsStands", spec := "partsStands", inPlace := ["math.Float64bits", "math.Float64frombits"], named := ["math/bits.deBruijn64tab"], apart := false, laid := [("math/bits.deBruijn64tab", laid_math_bits_deBruijn64tab)], narrowed := true }
def PartsStandsUptoSaid : Prop := partsStandsUptoRow.holds Tryd.pinned (OpenSpec.upto partsStandsSpec)

end Rows
end Go.Proofs.YtlmbpjppkcdcnaaDoor
