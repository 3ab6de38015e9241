/- Parts Mh of the proof, in one text. -/
import Derived.Test.YtlffojopfilfeaaGreatDoorLMC
import Derived.Deep.QuietTactic
import Derived.BigQuiet
import Derived.Deep.CutBlock
import Derived.Deep.DeepCutAuto

/- Walks: the reference's size, beside, up (for values that are no root). -/
namespace Go.Proofs.YtlffojopfilfeaaGreatDoor
open Go.RowKit

theorem _root_.Go.RowKit.Below.drewM {B : Nat} {a w : World} (h : Below B a w) (n : Nat) : Below B a (w.drewN n) := ⟨h.os, h.tape, h.output, h.size, h.block⟩

end Go.Proofs.YtlffojopfilfeaaGreatDoor
