/- Parts Be, Bh of the proof, in one text. -/
import Derived.Test.YtgfbcncjboenbaaGreatDoorSBC
import Derived.Test.YtgfbcncjboenbaaGreatDoorSBD
import Derived.Test.YtgfbcncjboenbaaGreatDoorSAA
import Derived.Test.YtgfbcncjboenbaaGreatDoorSRR
import Derived.Test.YtgfbcncjboenbaaGreatDoorSQS

/- Walks: round.float of quotients and of roots. -/
namespace Go.Proofs.YtgfbcncjboenbaaGreatDoor
open Go.RowKit

theorem float24_rat (mode : Int) (hm : 1 ≤ mode ∧ mode ≤ 6) (neg : Bool) (a a' : Option Addr) (m c m' c' M D : Nat) (w : World) (hM : Num .u64 18446744073709551616 w (.slice a m c) M) (hD : Num .u64 18446744073709551616 w (.slice a' m' c') D) {bb : Nat} (hb1 : M < 2 ^ bb) (hb2 : D < 2 ^ bb) (hbb : bb ≤ 900000) (hM0 : 0 < M) (hD0 : 0 < D) :
    Calls Tryz.prog 88 #[.agg #[.bool neg, .bool false, .bool false, .slice a m c, .bool false, .slice a' m' c'], .agg #[.int .i64 24, .int .i64 (-149), .int .i64 104], .int .i64 mode] w (FloatQ (outG 24 (-149) 104 neg mode (ratMag M D 0)) w) := by
  obtain ⟨n0, hn0⟩ : ∃ n, n = (blen M : Int) - blen D := ⟨_, rfl⟩
  have hpl : max (-149) (n0 - 26) = -149 ∨ 2 ^ 24 ≤ (ratMag M D 0).Q (max (-149) (n0 - 26)) := by
    by_cases h : n0 - 26 ≤ -149
    · left; omega
    · right; exact toQ_ge (by omega) hD0 (by omega)
  have hq : (ratMag M D 0).Q (max (-149) (n0 - 26)) < 2 ^ 57 := toQ_lt (by omega) hD0 (by omega)
  exact float24_walk mode hm neg false a a' m c m' c' M D (ratMag M D 0) n0 w hM hD hb1 hb2 hbb (ratMag_ok hD0) (ratMag_half _ _ _) (fun W e hW h1 h2 => at_rat neg a a' m c m' c' M D e W (hM.below (Nat.le_refl _) hW) (hD.below (Nat.le_refl _) hW) hb1 hb2 (by omega) h1 h2) hn0 hpl hq (by decide)
end Go.Proofs.YtgfbcncjboenbaaGreatDoor

/- Walks: round's number. -/
namespace Go.Proofs.YtgfbcncjboenbaaGreatDoor
open Go.RowKit

theorem out_inf {b : Nat} {L T : Int} {neg : Bool} {mode : Int} {g : Mag} (h : (outG b L T neg mode g).inf = true) : (outG b L T neg mode g).m = 0 ∧ (outG b L T neg mode g).e = 0 := by
  unfold outG outW at h ⊢
  generalize kW neg mode (g.Q (eOf b L g)) (g.H (eOf b L g)) (g.Z (eOf b L g)) = K at *
  by_cases h1 : T < (if K = 2 ^ b then eOf b L g + 1 else eOf b L g)
  · rw [if_pos h1] at h ⊢
    by_cases h2 : maxW mode neg = true
    · rw [if_pos h2] at h; cases h
    · rw [if_neg h2]
      exact ⟨rfl, rfl⟩
  · rw [if_neg h1] at h; cases h
end Go.Proofs.YtgfbcncjboenbaaGreatDoor
