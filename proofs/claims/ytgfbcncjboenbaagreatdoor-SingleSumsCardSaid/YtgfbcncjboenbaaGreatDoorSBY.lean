/- Parts By of the proof, in one text. -/
import Derived.Test.YtgfbcncjboenbaaGreatDoorSAA
import Derived.Test.YtgfbcncjboenbaaGreatDoorSBU
import Derived.Test.YtgfbcncjboenbaaGreatDoorSBJ
import Derived.Test.YtgfbcncjboenbaaGreatDoorSQC

/- Plain: what the law RoundBetween asks. -/
namespace Go.Proofs.YtgfbcncjboenbaaGreatDoor
open Go Go.RowKit

theorem side_bits (neg : Bool) {F : Nat} (h : F ≤ 9218868437227405312) : absB ((if neg = true then 2^63 else 0) + F) = F ∧ sgnB ((if neg = true then 2^63 else 0) + F) = neg ∧ nanB ((if neg = true then 2^63 else 0) + F) = false ∧ W64 ((if neg = true then 2^63 else 0) + F) := by
  have h63 : (2:Nat)^63 = 9223372036854775808 := by decide
  rw [h63]
  unfold nanB absB sgnB W64
  cases neg
  · simp; omega
  · simp; omega
theorem ord_val {x y : Nat} (hx : W64 x) (hy : W64 y) (nx : nanB x = false) (ny : nanB y = false) (o : Ordering) : (Go.FloatKind.f64.format.order x y == some o) = (compare (valB x) (valB y) == o) := by
  have := ord_D x y hx hy nx ny
  show (Ieee.double.order x y == some o) = _
  rw [this]
  cases compare (valB x) (valB y) <;> cases o <;> rfl
theorem ord_self {x : Nat} (hx : W64 x) (nx : nanB x = false) : (Go.FloatKind.f64.format.order x x == some .eq) = true ∧ (Go.FloatKind.f64.format.order x x == some .gt) = false := by
  rw [ord_val hx hx nx nx, ord_val hx hx nx nx]
  have : compare (valB x) (valB x) = .eq := by simp
  rw [this]; exact ⟨rfl, rfl⟩
theorem ord_less {x y : Nat} (hx : W64 x) (hy : W64 y) (nx : nanB x = false) (ny : nanB y = false) (h : valB x ≤ valB y) : (Go.FloatKind.f64.format.order x y == some .gt) = false := by
  rw [ord_val hx hy nx ny]
  have : compare (valB x) (valB y) ≠ .gt := by rw [Ne, Int.compare_eq_gt]; omega
  cases h : compare (valB x) (valB y) <;> first | rfl | exact absurd h this
/-- Two numbers beside one another. -/
structure Betw (l h : Nat) : Prop where
  wl : W64 l
  wh : W64 h
  nl : nanB l = false
  nh : nanB h = false
  lt : (Go.FloatKind.f64.format.order l h == some .gt) = false
  next : nextB l = h
  neg : negB l = negB h
end Go.Proofs.YtgfbcncjboenbaaGreatDoor
