/- Parts Ma, Mc of the proof, in one text. -/
import Derived.Test.YtlffojopfilfeaaGreatDoorRows
import Derived.Test.YtlffojopfilfeaaGreatDoorRQE
import Derived.BigRegion
import Derived.Test.YtlffojopfilfeaaGreatDoorRQI

/- Walks: the reference's whole numbers (base 2^32): trim, Of. -/
namespace Go.Proofs.YtlffojopfilfeaaGreatDoor
open Go.RowKit

/-- What a call leaves that hands back a whole number of the reference. -/
def NatQ (N : Nat) (w : World) (e : Ending) (w' : World) : Prop := ∃ v, e = .returned v ∧ Num .u32 4294967296 w' v N ∧ Below w.heap.size w w'

end Go.Proofs.YtlffojopfilfeaaGreatDoor

/- Walks: the reference's Cmp. -/
namespace Go.Proofs.YtlffojopfilfeaaGreatDoor
open Go.RowKit

def ncmp (M N : Nat) : Int := if M < N then -1 else if N < M then 1 else 0
theorem ncmp_lt {M N : Nat} (h : M < N) : ncmp M N = -1 := by unfold ncmp; rw [if_pos h]
theorem ncmp_gt {M N : Nat} (h : N < M) : ncmp M N = 1 := by unfold ncmp; rw [if_neg (by omega), if_pos h]
theorem ncmp_eq {M N : Nat} (h : M = N) : ncmp M N = 0 := by unfold ncmp; rw [if_neg (by omega), if_neg (by omega)]
/-- What a comparison of the reference's hands back. -/
def NCmpQ (M N : Nat) (w : World) (e : Ending) (w' : World) : Prop := e = .returned (.int .i64 (ncmp M N)) ∧ Below w.heap.size w w'
theorem NCmpQ.mk {M N : Nat} {w w' : World} (r : Int) (h : ncmp M N = r) (hb : Below w.heap.size w w') : NCmpQ M N w (.returned (.int .i64 r)) w' := ⟨by rw [h], hb⟩

end Go.Proofs.YtlffojopfilfeaaGreatDoor
