import Derived.Test.YtlffojopfilfeaaGreatDoorSQA
namespace Go.Proofs.YtlffojopfilfeaaGreatDoor
open Go.RowKit
def toN (M : Nat) (E e : Int) : Nat := M * 2^(E - e).toNat
def toD (D : Nat) (E e : Int) : Nat := D * 2^(e - E).toNat
def toQ (M D : Nat) (E e : Int) : Nat := toN M E e / toD D E e
theorem toD_pos {D : Nat} (h : 0 < D) (E e : Int) : 0 < toD D E e := Nat.mul_pos h (Nat.two_pow_pos _)
def toK (M D : Nat) (E e : Int) : Nat :=
 if toD D E e < toN M E e % toD D E e * 2 ∨ (toN M E e % toD D E e * 2 = toD D E e ∧ toQ M D E e % 2 = 1) then toQ M D E e + 1 else toQ M D E e
end Go.Proofs.YtlffojopfilfeaaGreatDoor
