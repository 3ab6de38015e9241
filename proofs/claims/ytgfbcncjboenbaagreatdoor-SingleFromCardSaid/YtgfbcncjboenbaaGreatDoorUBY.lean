/- Parts By of the proof, in one text. -/
import Derived.Test.YtgfbcncjboenbaaGreatDoorUAA
import Derived.Test.YtgfbcncjboenbaaGreatDoorUBU
import Derived.Test.YtgfbcncjboenbaaGreatDoorUBJ
import Derived.Test.YtgfbcncjboenbaaGreatDoorUQC

/- Plain: what the law RoundBetween asks. -/
namespace Go.Proofs.YtgfbcncjboenbaaGreatDoor
open Go Go.RowKit

theorem ord_val {x y : Nat} (hx : W64 x) (hy : W64 y) (nx : nanB x = false) (ny : nanB y = false) (o : Ordering) : (Go.FloatKind.f64.format.order x y == some o) = (compare (valB x) (valB y) == o) := by
  have := ord_D x y hx hy nx ny
  show (Ieee.double.order x y == some o) = _
  rw [this]
  cases compare (valB x) (valB y) <;> cases o <;> rfl
/-- Two numbers beside one another. -/
structure Betw (l h : Nat) : Prop where
  wl : W64 l
  wh : W64 h
  nl : nanB l = false
  nh : nanB h = false
  lt : (Go.FloatKind.f64.format.order l h == some .gt) = false
  next : nextB l = h
  neg : negB l = negB h
end Go.Proofs.YtgfbcncjboenbaaGreatDoor
