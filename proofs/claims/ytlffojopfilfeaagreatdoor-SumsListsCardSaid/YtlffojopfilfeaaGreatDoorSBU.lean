import Derived.Test.YtlffojopfilfeaaGreatDoorSRA
import Derived.Test.YtlffojopfilfeaaGreatDoorSQT
import Derived.Test.YtlffojopfilfeaaGreatDoorSQC
import Derived.Test.YtlffojopfilfeaaGreatDoorSAA
import Derived.Test.YtlffojopfilfeaaGreatDoorSQA
import Derived.Test.YtlffojopfilfeaaGreatDoorSRR
namespace Go.Proofs.YtlffojopfilfeaaGreatDoor
open Go Go.RowKit Go.Lib
def rungN (m : Nat) (e : Int) : Nat := (e + 1074).toNat * 4503599627370496 + m
def Canon (m : Nat) (e : Int) : Prop := m < 9007199254740992 ∧ -1074 ≤ e ∧ e ≤ 971 ∧ (e = -1074 ∨ 4503599627370496 ≤ m)
theorem fin_form {R : Nat} (h : R < 9218868437227405312) : ∃ m e, Canon m e ∧ R = rungN m e := by
 by_cases h1 : R < 4503599627370496
 ·exact ⟨R, -1074, ⟨by omega, by omega, by omega, .inl rfl⟩, by unfold rungN; rw [show ((-1074 : Int) + 1074).toNat = 0 by decide]; omega⟩
 ·refine ⟨4503599627370496 + R % 4503599627370496, (R / 4503599627370496 : Nat) - 1075, ⟨by omega, by omega, by omega, .inr (by omega)⟩, ?_⟩
  unfold rungN
  rw [show (((R / 4503599627370496 : Nat) : Int) - 1075 + 1074).toNat = R / 4503599627370496 - 1 by omega]
  omega
theorem Canon.lt {m : Nat} {e : Int} (h : Canon m e) : rungN m e < 9218868437227405312 := by
 obtain ⟨h1, h2, h3, h4⟩ := h
 unfold rungN
 omega
theorem Canon.rv {m : Nat} {e : Int} (h : Canon m e) : rv 52 (rungN m e) = m * 2 ^ (e + 1074).toNat := by
 obtain ⟨h1, h2, h3, h4⟩ := h
 exact rv_qK 52 _ m (by omega) (by omega)
theorem Canon.out {m : Nat} {e : Int} (h : Canon m e) {neg : Bool} {mode : Int} : outG 53 (-1074) 971 neg mode (numG m e) = ⟨false, m, e, false, false, false⟩ :=
 num_out (by decide) h.1 h.2.1 h.2.2.1 h.2.2.2
theorem bits_abs (neg : Bool) {R : Nat} (h : R < 9223372036854775808) : absB (sgW neg + R) = R := by
 unfold absB sgW
 cases neg <;> simp <;> omega
theorem bits_sgn (neg : Bool) {R : Nat} (h : R < 9223372036854775808) : sgnB (sgW neg + R) = neg := by
 unfold sgnB sgW
 cases neg <;> simp <;> omega
theorem bits_W (neg : Bool) {R : Nat} (h : R < 9223372036854775808) : W64 (sgW neg + R) := by
 unfold W64 sgW
 cases neg <;> simp <;> omega
end Go.Proofs.YtlffojopfilfeaaGreatDoor
