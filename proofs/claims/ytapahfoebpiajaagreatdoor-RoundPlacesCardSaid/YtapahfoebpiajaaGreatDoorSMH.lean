/- Parts Mh of the proof, in one text. -/
import Derived.Test.YtapahfoebpiajaaGreatDoorSMC
import Derived.Deep.QuietTactic
import Derived.BigQuiet
import Derived.Deep.CutBlock
import Derived.Deep.DeepCutAuto

/- Walks: the reference's size, beside, up (for values that are no root). -/
namespace Go.Proofs.YtapahfoebpiajaaGreatDoor
open Go.RowKit

/-- A value that is no root. -/
def Val (w : World) (v : Value) (neg : Bool) (M D : Nat) (E : Int) : Prop := ∃ s t, v = .agg #[.bool neg, s, t, .int .i64 E, .bool false] ∧ Num .u32 4294967296 w s M ∧ Num .u32 4294967296 w t D

end Go.Proofs.YtapahfoebpiajaaGreatDoor
