import Derived.Test.YtlbokicainimnaaGreatDoorPAA
import Derived.Test.YtlbokicainimnaaGreatDoorPBU
import Derived.Test.YtlbokicainimnaaGreatDoorPBJ
import Derived.Test.YtlbokicainimnaaGreatDoorPQC
namespace Go.Proofs.YtlbokicainimnaaGreatDoor
open Go Go.RowKit
theorem side_bits (neg : Bool) {F : Nat} (h : F ≤ 9218868437227405312) : absB ((if neg = true then 2^63 else 0) + F) = F ∧ sgnB ((if neg = true then 2^63 else 0) + F) = neg ∧ nanB ((if neg = true then 2^63 else 0) + F) = false ∧ W64 ((if neg = true then 2^63 else 0) + F) := by
 have h63 : (2:Nat)^63 = 9223372036854775808 := by decide
 rw [h63]
 unfold nanB absB sgnB W64
 cases neg
 ·simp; omega
 ·simp; omega
structure Betw (l h : Nat) : Prop where
 wl : W64 l
 wh : W64 h
 nl : nanB l = false
 nh : nanB h = false
 lt : (Go.FloatKind.f64.format.order l h == some .gt) = false
 next : nextB l = h
 neg : negB l = negB h
end Go.Proofs.YtlbokicainimnaaGreatDoor
