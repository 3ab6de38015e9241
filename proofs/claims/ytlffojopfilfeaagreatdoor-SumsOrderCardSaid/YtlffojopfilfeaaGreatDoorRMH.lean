/- Parts Mh of the proof, in one text. -/
import Derived.Test.YtlffojopfilfeaaGreatDoorRMA
import Derived.Deep.QuietTactic
import Derived.BigQuiet
import Derived.Deep.CutBlock
import Derived.Deep.DeepCutAuto

/- Walks: the reference's size, beside, up (for values that are no root). -/
namespace Go.Proofs.YtlffojopfilfeaaGreatDoor
open Go.RowKit

theorem _root_.Go.RowKit.Below.drewM {B : Nat} {a w : World} (h : Below B a w) (n : Nat) : Below B a (w.drewN n) := ⟨h.os, h.tape, h.output, h.size, h.block⟩

/-- A value that is no root. -/
def Val (w : World) (v : Value) (neg : Bool) (M D : Nat) (E : Int) : Prop := ∃ s t, v = .agg #[.bool neg, s, t, .int .i64 E, .bool false] ∧ Num .u32 4294967296 w s M ∧ Num .u32 4294967296 w t D

end Go.Proofs.YtlffojopfilfeaaGreatDoor
