import Derived.Test.YtlbokicainimnaaGreatDoorPQI
import Derived.Test.YtlbokicainimnaaGreatDoorPNE
import Derived.BigQuiet
import Derived.Deep.CutBlock
import Derived.Deep.DeepCutAuto
import Derived.Deep.QuietTactic
import Derived.Deep.RegionHeld3
import Derived.Laws.Bits64b
import Derived.Laws.CopyOwn
import Derived.Laws.Externs
import Derived.Laws.ResultCell
import Derived.Lib.Mul64
import Derived.Shelf.Spec.BitsCarry
import Derived.Test.YtlbokicainimnaaGreatDoorPRE
import Derived.Laws.CopyRow
import Derived.Laws.IdiomStrings
import Derived.Laws.MakeOwn
import Derived.Lib.Hide
import Derived.Lib.LaidTab
import Derived.WalkMore
import Derived.Test.YtlbokicainimnaaGreatDoorPQA
import Derived.BigRegion
import Derived.Lib.BitFns
import Derived.Lib.Slices
import Derived.Lib.Small
import Derived.Lib.Strings
import Derived.Lib.TrailingZeros
import Derived.Lib.Walk
import Derived.RegionTactic
import Derived.Test.YtlbokicainimnaaGreatDoorRows
namespace Go.Proofs.YtlbokicainimnaaGreatDoor
open Go.RowKit
def ncmp (M N : Nat) : Int := if M < N then -1 else if N < M then 1 else 0
theorem ncmp_lt {M N : Nat} (h : M < N) : ncmp M N = -1 := by unfold ncmp; rw [if_pos h]
theorem ncmp_gt {M N : Nat} (h : N < M) : ncmp M N = 1 := by unfold ncmp; rw [if_neg (by omega), if_pos h]
theorem ncmp_eq {M N : Nat} (h : M = N) : ncmp M N = 0 := by unfold ncmp; rw [if_neg (by omega), if_neg (by omega)]
def NCmpQ (M N : Nat) (w : World) (e : Ending) (w' : World) : Prop := e = .returned (.int .i64 (ncmp M N)) ∧ Below w.heap.size w w'
theorem NCmpQ.mk {M N : Nat} {w w' : World} (r : Int) (h : ncmp M N = r) (hb : Below w.heap.size w w') : NCmpQ M N w (.returned (.int .i64 r)) w' := ⟨by rw [h], hb⟩
theorem ncmp_cases (M N : Nat) : ncmp M N = -1 ∨ ncmp M N = 0 ∨ ncmp M N = 1 := by unfold ncmp; split; exact .inl rfl; split; exact .inr (.inr rfl); exact .inr (.inl rfl)
end Go.Proofs.YtlbokicainimnaaGreatDoor
namespace Go.Proofs.YtlbokicainimnaaGreatDoor
open Go Go.RowKit Go.Lib
theorem ofD_ok (b : Nat) : (ofD b).ok := by
 unfold ofD
 split
 ·have := mkD_ok (sg (spS b) (ofN b)) (ofE b)
  rw [(mkD_sg _ _ _).1] at this
  exact this
 ·exact none_ok
end Go.Proofs.YtlbokicainimnaaGreatDoor
namespace Go.Proofs.YtlbokicainimnaaGreatDoor
open Go.RowKit
theorem near_least (P : Nat → Prop) : ∀ n, P n → ∃ m, P m ∧ (m = 0 ∨ ¬ P (m - 1))
 | 0, h => ⟨0, h, .inl rfl⟩
 | n + 1, h => by
   by_cases g : P n
   ·exact near_least P n g
   ·exact ⟨n + 1, h, .inr g⟩
theorem near_ex (p M S : Nat) (hS : 0 < S) : ∃ R, Near p M S R := by
 obtain ⟨R, h1, h2⟩ := near_least (fun R => 2*M < (rv p R + rv p (R+1)) * S ∨ (2*M = (rv p R + rv p (R+1)) * S ∧ R % 2 = 0)) (2 * M) (by
  left
  have := le_rv p (2 * M)
  have := le_rv p (2 * M + 1)
  exact Nat.lt_of_lt_of_le (by omega : 2 * M < rv p (2 * M) + rv p (2 * M + 1)) (Nat.le_mul_of_pos_right _ hS))
 refine ⟨R, ?_, h1⟩
 rcases h2 with h2 | h2
 ·exact .inl h2
 ·by_cases hR : R = 0
  ·exact .inl hR
  ·right
   rw [show R - 1 + 1 = R by omega] at h2
   have h3 : ¬ 2*M < (rv p (R-1) + rv p R) * S := fun h => h2 (.inl h)
   have h4 : ¬ (2*M = (rv p (R-1) + rv p R) * S ∧ (R-1) % 2 = 0) := fun h => h2 (.inr h)
   by_cases h5 : (rv p (R-1) + rv p R) * S < 2*M
   ·exact .inl h5
   ·right
    have h6 : (rv p (R-1) + rv p R) * S = 2*M := by omega
    refine ⟨h6, ?_⟩
    have h7 : ¬ (R-1) % 2 = 0 := fun h => h4 ⟨h6.symm, h⟩
    omega
end Go.Proofs.YtlbokicainimnaaGreatDoor
