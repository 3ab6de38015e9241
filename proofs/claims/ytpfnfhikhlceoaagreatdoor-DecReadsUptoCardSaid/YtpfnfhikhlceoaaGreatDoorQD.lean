/- Parts Tz of the proof, in one text. -/
import Derived.Test.YtpfnfhikhlceoaaGreatDoorQC
import Derived.Test.YtpfnfhikhlceoaaGreatDoorQA
import Derived.Test.YtpfnfhikhlceoaaGreatDoorQB
import Derived.Lib.TrailingZeros

/- Walks: math/bits.TrailingZeros64 and Len64 (after the library's own proved ones), math.IsInf, IsNaN, Inf, normalize, ldexp, Ldexp. -/
namespace Go.Proofs.YtpfnfhikhlceoaaGreatDoor
open Go.RowKit

/-- math/bits.deBruijn64tab as its initialiser lays it. -/
def TabW (w : World) : Prop := ∀ j, j < Lib.deBruijn64tab.length → w.cell? ⟨10, j, none⟩ = some (.int .u8 (Lib.deBruijn64tab.getD j 0))

theorem tz_core (x k idx : Nat) (w : World) (hx0 : ((x : Int) == 0) = false)
    (key : IntKind.u64.wrap (bits BinOp.and IntKind.u64 (x : Int) (IntKind.u64.wrap (-(x : Int))) * 285870213051353865) / 288230376151711744 = (idx : Int))
    (hi : idx < 64) (hk : k < 64) (hcell : w.cell? ⟨10, idx, none⟩ = some (.int .u8 k)) :
    Calls Tryz.prog 155 #[.int .u64 x] w fun e w' => e = .returned (.int .i64 k) ∧ w = w' := by
  go_enter Tryz.func155, Tryz.ntmps155
  go_wp2_with (simp only [key])
  go_ret
  exact ⟨rfl, rfl⟩
theorem tz_key (x a : Nat) (hx : x < 18446744073709551616) (hx0 : x ≠ 0) (hlow : x &&& (18446744073709551616 - x) = a) :
    IntKind.u64.wrap (bits BinOp.and IntKind.u64 (x : Int) (IntKind.u64.wrap (-(x : Int))) * 285870213051353865) / 288230376151711744 = ((a * 285870213051353865 % 18446744073709551616 / 288230376151711744 : Nat) : Int) := by
  have e1 : IntKind.u64.wrap (-(x : Int)) = ((18446744073709551616 - x : Nat) : Int) := by rw [IntKind.wrap_u64]; omega
  rw [e1, u64_and_nat x _ hx (by omega), hlow, IntKind.wrap_u64]
  omega
theorem tz_any (x : Nat) (w : World) (hx : W64 x) (hx0 : x ≠ 0) (hT : TabW w) :
    Calls Tryz.prog 155 #[.int .u64 x] w fun e w' => e = .returned (.int .i64 (joZ x : Nat)) ∧ w = w' := by
  unfold W64 at hx
  obtain ⟨hlow, hk⟩ := Lib.lowest_bit 64 x hx0 hx
  obtain ⟨hi, htab⟩ := Lib.deBruijn64_at _ hk
  have hcell := hT _ hi
  rw [htab] at hcell
  exact tz_core x _ _ w (by simp; omega) (tz_key x _ hx hx0 hlow) hi hk hcell
theorem bitLen_blen (x : Nat) (hx : W64 x) : Lib.bitLen x = blen x := by
  unfold W64 at hx
  unfold blen
  by_cases h : x = 0
  · subst h; rfl
  · rw [if_neg h]
    have h1 : 2^x.log2 ≤ x := Nat.log2_self_le h
    have h2 : x < 2^(x.log2+1) := Nat.lt_log2_self
    rw [Lib.bitLen_shift x.log2 x h1 hx]
    have : x / 2^x.log2 = 1 := by
      have p := Nat.two_pow_pos x.log2
      rw [Nat.pow_succ] at h2
      exact Nat.div_eq_of_lt_le (by omega) (by omega)
    rw [this]; rfl
theorem len_any (x : Nat) (w : World) (hx : W64 x) :
    Calls Tryz.prog 138 #[.int .u64 x] w fun e w' => e = .returned (.int .i64 (blen x : Nat)) ∧ w = w' :=
  (len_core x w (by omega) (by unfold W64 at hx; omega)).mono fun e w' ⟨h1, h2⟩ => ⟨by rw [h1, Int.toNat_natCast, bitLen_blen x hx], h2.symm⟩

/-! Ldexp -/
section
variable (b K q m : Nat) (e X : Int) (w : World) (h : KQ b K q) (hm : m * 2^LP = K * 2^q) (hX : X = e + q - 1022)
include h hm hX
end
end Go.Proofs.YtpfnfhikhlceoaaGreatDoor
