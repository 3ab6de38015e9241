import Derived.Test.YtlbokicainimnaaGreatDoorPMN
import Derived.Test.YtlbokicainimnaaGreatDoorPRR
import Derived.Test.YtlbokicainimnaaGreatDoorPMA
import Derived.Test.YtlbokicainimnaaGreatDoorPQS
import Derived.Test.YtlbokicainimnaaGreatDoorPQA
import Derived.Deep.RegionHeld3
import Derived.Test.YtlbokicainimnaaGreatDoorPWL
import Derived.Deep.CutBlock
import Derived.Deep.DeepCutAuto
namespace Go.Proofs.YtlbokicainimnaaGreatDoor
open Go.RowKit
def flipB (b : Nat) : Nat := if sgnB b then absB b else b + 9223372036854775808
theorem flip_D (b : Nat) (h : W64 b) : Go.Op.negFloat .f64 b = flipB b := negFloat_D b h
theorem flip_W (b : Nat) (h : W64 b) : W64 (flipB b) := by
 unfold flipB; split
 ·exact absB_W b
 ·rename_i hs; unfold sgnB at hs; unfold W64 at *; simp at hs; omega
theorem flip_abs (b : Nat) : absB (flipB b) = absB b := by
 unfold flipB; split
 ·exact absB_abs b
 ·unfold absB; omega
theorem flip_sgn (b : Nat) : sgnB (flipB b) = !sgnB b := by
 unfold flipB
 cases hs : sgnB b
 ·unfold sgnB at *; simp at hs ⊢
 ·simp [sgnB_abs]
def addBad (a b : Nat) : Bool := nanB a || nanB b || (infB a && infB b && (sgnB a != sgnB b))
def addB (a b R : Nat) : Nat := if addBad a b then theNaN else if infB a then a else if infB b then b else if a = 9223372036854775808 ∧ b = 9223372036854775808 then 9223372036854775808 else if valB a + valB b = 0 then 0 else resB (decide (valB a + valB b < 0)) R
def tblAddX (a b R : Nat) : Int := if addBad a b || infB a || infB b then 0 else if valB a + valB b = 0 then 0 else resX R
end Go.Proofs.YtlbokicainimnaaGreatDoor
