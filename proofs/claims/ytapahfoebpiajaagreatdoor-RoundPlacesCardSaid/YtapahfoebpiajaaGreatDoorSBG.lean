/- Parts Bg of the proof, in one text. -/
import Derived.Test.YtapahfoebpiajaaGreatDoorSQC
import Derived.Test.YtapahfoebpiajaaGreatDoorSRR
import Derived.Test.YtapahfoebpiajaaGreatDoorSQD
import Derived.Lib.Hide
import Derived.Test.YtapahfoebpiajaaGreatDoorSQA
import Derived.Test.YtapahfoebpiajaaGreatDoorRows
import Derived.Test.YtapahfoebpiajaaGreatDoorSQE
import Derived.BigRegion
import Derived.Test.YtapahfoebpiajaaGreatDoorSAN
import Derived.Laws.BitsAllLaws

/- Walks: the document's bits of a single. -/
namespace Go.Proofs.YtapahfoebpiajaaGreatDoor
open Go.RowKit

theorem or_top (x : Nat) (h : x < 2147483648) : bits .or .u32 (x : Int) 2147483648 = ((2147483648 + x : Nat) : Int) := by
  have h1 := u32_or_nat x 2147483648 (by omega) (by decide)
  have h2 := Nat.two_pow_add_eq_or_of_lt (i := 31) (b := x) (by omega) 1
  rw [Nat.or_comm, show (2147483648 : Nat) = 2 ^ 31 * 1 from rfl, ← h2] at h1
  exact h1
theorem and_low23 (m : Nat) (h : m < 16777216) : bits .and .u32 (m : Int) 8388607 = ((m % 8388608 : Nat) : Int) := by
  have h1 := u32_and_nat m 8388607 (by omega) (by decide)
  have h2 := Nat.and_two_pow_sub_one_eq_mod m 23
  rw [show (8388607 : Nat) = 2 ^ 23 - 1 from rfl, h2] at h1
  exact h1
theorem or_low23 (X r : Nat) (hX : X < 512) (hr : r < 8388608) : bits .or .u32 ((X * 8388608 : Nat) : Int) (r : Int) = ((X * 8388608 + r : Nat) : Int) := by
  have h1 := u32_or_nat (X * 8388608) r (by omega) (by omega)
  have h2 := Nat.two_pow_add_eq_or_of_lt (i := 23) (b := r) (by omega) X
  rw [show X * 8388608 = 2 ^ 23 * X by omega, ← h2] at h1
  rw [show X * 8388608 = 2 ^ 23 * X by omega]
  exact h1
end Go.Proofs.YtapahfoebpiajaaGreatDoor
