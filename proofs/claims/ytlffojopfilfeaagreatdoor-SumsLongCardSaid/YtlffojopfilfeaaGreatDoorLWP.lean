/- Parts Wp of the proof, in one text. -/
import Derived.Test.YtlffojopfilfeaaGreatDoorLWN
import Derived.Test.YtlffojopfilfeaaGreatDoorLNE
import Derived.Deep.RegionHeld3

/- Walks: wide.Int.Quo, all of it; wide.Ratio. -/
namespace Go.Proofs.YtlffojopfilfeaaGreatDoor
open Go.RowKit

theorem quo_any (s t : Value) (M D : Nat) (w : World) (h : Num .u64 18446744073709551616 w s M) (h' : Num .u64 18446744073709551616 w t D) {bb : Nat} (hM : M < 2 ^ bb) (hbb : bb ≤ 4294900000) :
    Calls Tryz.prog 172 #[.agg #[.bool false, s], .agg #[.bool false, t]] w (QuoQ (M / D) (M % D) w) := by
  by_cases h1 : M < D ∨ D = 0
  · have e : M / D = 0 ∧ M % D = M := by
      rcases h1 with h1 | rfl
      · exact ⟨Nat.div_eq_of_lt h1, Nat.mod_eq_of_lt h1⟩
      · exact ⟨Nat.div_zero _, Nat.mod_zero _⟩
    rw [e.1, e.2]
    exact quo_none s t M D w h h' h1
  · by_cases h2 : D < 18446744073709551616
    · exact quo_word s t M D w h h' (by omega) (by omega) h2 hM (by omega)
    · exact quo_long s t M D w h h' (by omega) (by omega) hM hbb

end Go.Proofs.YtlffojopfilfeaaGreatDoor
