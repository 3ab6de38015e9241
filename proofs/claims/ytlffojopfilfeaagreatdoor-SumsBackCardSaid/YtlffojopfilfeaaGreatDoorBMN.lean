/- Parts Mn of the proof, in one text. -/
import Derived.Test.YtlffojopfilfeaaGreatDoorBMH
import Derived.Test.YtlffojopfilfeaaGreatDoorBWL
import Derived.Test.YtlffojopfilfeaaGreatDoorBNE
import Derived.Deep.RegionHeld3
import Derived.Laws.CopyOwn

/- Rows of cells; what the reference's To asks of the mathematics. -/
namespace Go.Proofs.YtlffojopfilfeaaGreatDoor
open Go.RowKit

theorem ncmp_cases (M N : Nat) : ncmp M N = -1 ∨ ncmp M N = 0 ∨ ncmp M N = 1 := by unfold ncmp; split; exact .inl rfl; split; exact .inr (.inr rfl); exact .inr (.inl rfl)

end Go.Proofs.YtlffojopfilfeaaGreatDoor
