import Derived.Test.YtlffojopfilfeaaGreatDoorSQA
namespace Go.Proofs.YtlffojopfilfeaaGreatDoor
open Ieee
theorem sg_mul_sg (s t : Bool) (m n : Nat) : sg s m * sg t n = sg (s ^^ t) (m * n) := by
 unfold sg; cases s <;> cases t <;> simp [Int.neg_mul, Int.mul_neg]
theorem cmpI_lt (x y : Int) : (some (compare x y) == some Ordering.lt) = decide (x < y) := by
 rcases Int.lt_trichotomy x y with h | h | h
 ·have : compare x y = .lt := by show compareOfLessAndEq x y = _; unfold compareOfLessAndEq; rw [if_pos h]
  rw [this]; simp [h]
 ·have : compare x y = .eq := by show compareOfLessAndEq x y = _; unfold compareOfLessAndEq; rw [if_neg (by omega), if_pos h]
  rw [this]; simp; omega
 ·have : compare x y = .gt := by show compareOfLessAndEq x y = _; unfold compareOfLessAndEq; rw [if_neg (by omega), if_neg (by omega)]
  rw [this]; simp; omega
end Go.Proofs.YtlffojopfilfeaaGreatDoor
