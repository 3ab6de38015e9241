/- Parts Rc, Rh of the proof, in one text. -/
import Derived.Test.YtgfbcncjboenbaaGreatDoorSRR
import Derived.Test.YtgfbcncjboenbaaGreatDoorSMC
import Derived.Test.YtgfbcncjboenbaaGreatDoorSMN
import Derived.Test.YtgfbcncjboenbaaGreatDoorSQS
import Derived.Test.YtgfbcncjboenbaaGreatDoorSQA
import Derived.Deep.RegionHeld3
import Derived.Test.YtgfbcncjboenbaaGreatDoorSWL
import Derived.Deep.CutBlock
import Derived.Deep.DeepCutAuto

/- Walks: the document's answer for layer 7 (quadrilleref07): isInf, unlike, signed, Of. -/
namespace Go.Proofs.YtgfbcncjboenbaaGreatDoor
open Go.RowKit

/-- A term of the reference: a whole number times 2^E, with a sign. -/
def Term (w : World) (v : Value) (neg : Bool) (M : Nat) (E : Int) : Prop := ∃ s, v = .agg #[.bool neg, s, .int .i64 E] ∧ Num .u32 4294967296 w s M
end Go.Proofs.YtgfbcncjboenbaaGreatDoor

/- Walks: the document's answer for layer 7: anyNaN, Neg, Add, Sub, Mul. -/
namespace Go.Proofs.YtgfbcncjboenbaaGreatDoor
open Go.RowKit

def flipB (b : Nat) : Nat := if sgnB b then absB b else b + 9223372036854775808
theorem flip_D (b : Nat) (h : W64 b) : Go.Op.negFloat .f64 b = flipB b := negFloat_D b h
theorem Term.below {w w' : World} {v : Value} {neg : Bool} {M : Nat} {E : Int} (h : Term w v neg M E) {B : Nat} (hB : w.heap.size ≤ B) (hb : Below B w w') : Term w' v neg M E := by
  obtain ⟨s, rfl, h1⟩ := h
  exact ⟨s, rfl, h1.below hB hb⟩

end Go.Proofs.YtgfbcncjboenbaaGreatDoor
