import Derived.Test.YtlbokicainimnaaGreatDoorPRE
import Derived.Test.YtlbokicainimnaaGreatDoorPAA
import Derived.Test.YtlbokicainimnaaGreatDoorPQA
import Derived.Test.YtlbokicainimnaaGreatDoorPRR
namespace Go.Proofs.YtlbokicainimnaaGreatDoor
open Go Go.RowKit Go.Lib
theorem val_sgn (b : Nat) : valB b = sg (sgnB b) (rv 52 (absB b)) := rfl
def rungN (m : Nat) (e : Int) : Nat := (e + 1074).toNat * 4503599627370496 + m
def Canon (m : Nat) (e : Int) : Prop := m < 9007199254740992 ∧ -1074 ≤ e ∧ e ≤ 971 ∧ (e = -1074 ∨ 4503599627370496 ≤ m)
theorem fin_form {R : Nat} (h : R < 9218868437227405312) : ∃ m e, Canon m e ∧ R = rungN m e := by
 by_cases h1 : R < 4503599627370496
 ·exact ⟨R, -1074, ⟨by omega, by omega, by omega, .inl rfl⟩, by unfold rungN; rw [show ((-1074 : Int) + 1074).toNat = 0 by decide]; omega⟩
 ·refine ⟨4503599627370496 + R % 4503599627370496, (R / 4503599627370496 : Nat) - 1075, ⟨by omega, by omega, by omega, .inr (by omega)⟩, ?_⟩
  unfold rungN
  rw [show (((R / 4503599627370496 : Nat) : Int) - 1075 + 1074).toNat = R / 4503599627370496 - 1 by omega]
  omega
theorem Canon.lt {m : Nat} {e : Int} (h : Canon m e) : rungN m e < 9218868437227405312 := by
 obtain ⟨h1, h2, h3, h4⟩ := h
 unfold rungN
 omega
theorem Canon.rv {m : Nat} {e : Int} (h : Canon m e) : rv 52 (rungN m e) = m * 2 ^ (e + 1074).toNat := by
 obtain ⟨h1, h2, h3, h4⟩ := h
 exact rv_qK 52 _ m (by omega) (by omega)
theorem Canon.out {m : Nat} {e : Int} (h : Canon m e) {neg : Bool} {mode : Int} : outG 53 (-1074) 971 neg mode (numG m e) = ⟨false, m, e, false, false, false⟩ :=
 num_out (by decide) h.1 h.2.1 h.2.2.1 h.2.2.2
theorem bits_abs (neg : Bool) {R : Nat} (h : R < 9223372036854775808) : absB (sgW neg + R) = R := by
 unfold absB sgW
 cases neg <;> simp <;> omega
theorem bits_sgn (neg : Bool) {R : Nat} (h : R < 9223372036854775808) : sgnB (sgW neg + R) = neg := by
 unfold sgnB sgW
 cases neg <;> simp <;> omega
theorem bits_W (neg : Bool) {R : Nat} (h : R < 9223372036854775808) : W64 (sgW neg + R) := by
 unfold W64 sgW
 cases neg <;> simp <;> omega
theorem bits_join {b : Nat} (hb : W64 b) : b = sgW (sgnB b) + absB b := by
 unfold W64 at hb
 unfold sgW sgnB absB
 by_cases h : 9223372036854775808 ≤ b
 ·rw [decide_eq_true h, if_pos rfl]; omega
 ·rw [decide_eq_false h, if_neg (by decide)]; omega
theorem canon_bits (neg : Bool) {m : Nat} {e : Int} (h : Canon m e) : W64 (sgW neg + rungN m e) ∧ absB (sgW neg + rungN m e) = rungN m e ∧ sgnB (sgW neg + rungN m e) = neg ∧ finB (sgW neg + rungN m e) = true := by
 have h1 := h.lt
 have h2 := bits_abs neg (R := rungN m e) (by omega)
 refine ⟨bits_W neg (by omega), h2, bits_sgn neg (by omega), ?_⟩
 unfold finB
 rw [h2]
 exact decide_eq_true h1
theorem of_room {b : Nat} (h : finB b = true) : ofX b = 0 := by
 have hx : spX b = 0 := by
  have := finB_eq b
  rw [h] at this
  unfold spX
  cases hn : nanB b <;> cases hi : infB b <;> rw [hn, hi] at this <;> simp at this ⊢
 rw [(of_mk hx).2]
 obtain ⟨r1, r2, r3⟩ := sp_bd b
 obtain ⟨k, hk⟩ : ∃ k, k = 1200 := ⟨_, rfl⟩
 have le10 : ∀ i j : Nat, i ≤ 10 → i ^ j ≤ 10 ^ j := fun i j h => Nat.pow_le_pow_left h j
 have hM : spM b < 10 ^ 53 := Nat.lt_of_lt_of_le r3 (by decide)
 have key : ∀ i j : Nat, i ≤ 10 → 53 + j ≤ k → spM b * i ^ j < 10 ^ k := fun i j hi hj => by
  refine Nat.lt_of_lt_of_le (Nat.lt_of_le_of_lt (Nat.mul_le_mul_left _ (le10 i j hi)) (Nat.mul_lt_mul_of_pos_right hM (Nat.pow_pos (by decide)))) ?_
  rw [← Nat.pow_add]
  exact Nat.pow_le_pow_right (by decide) hj
 refine mk_room (m := k) ?_ (by omega) ?_ ?_
 ·rw [sg_natAbs]
  unfold ofN
  split
  ·exact key 2 _ (by decide) (by omega)
  ·exact key 5 _ (by decide) (by omega)
 ·unfold ofE; split <;> omega
 ·unfold ofE; split <;> omega
theorem of_num (neg : Bool) {m : Nat} {e : Int} (h : Canon m e) : Rep (ofD (sgW neg + rungN m e)) (sg neg (m * 2 ^ (e + (LP : Nat)).toNat) * 5 ^ LP) (-(LP : Int)) := by
 obtain ⟨h1, h2, h3, h4⟩ := canon_bits neg h
 have h5 := (of_rep (of_room h4)).1
 rw [val_sgn, h3, h2, h.rv] at h5
 have hl := LP_eq
 rw [show e + (LP : Nat) = e + 1074 by omega]
 exact h5
theorem of_mag (neg : Bool) {m : Nat} {e : Int} (h : Canon m e) (f : Int) : (quoG (ofD (sgW neg + rungN m e)) oneD).Q f = (numG m e).Q f ∧ (quoG (ofD (sgW neg + rungN m e)) oneD).H f = (numG m e).H f ∧ (quoG (ofD (sgW neg + rungN m e)) oneD).Z f = (numG m e).Z f := by
 have hl := LP_eq
 have h2 := h.2.1
 exact num_quo (of_num neg h) (by omega) f
theorem rep_zero {d : Dc} {e : Int} (h : Rep d 0 e) : d = Dc.none := h.uniq (rep_none e)
theorem rep_nil {d : Dc} {W e : Int} (h : Rep d W e) (h0 : d.s = []) : W = 0 := by
 have h1 := h.all (d.e.natAbs + e.natAbs) (by omega) (by omega)
 rw [ok_nil h.ok h0, none_v, Int.zero_mul] at h1
 rcases Int.mul_eq_zero.1 h1.symm with h2 | h2
 ·exact h2
 ·exact absurd h2 (pow_pos10 _)
theorem of_zero (neg : Bool) : ofD (sgW neg + rungN 0 (-1074)) = Dc.none := by
 have h := of_num neg (m := 0) (e := -1074) ⟨by decide, by decide, by decide, .inl rfl⟩
 rw [Nat.zero_mul] at h
 have : sg neg 0 = 0 := by cases neg <;> rfl
 rw [this, Int.zero_mul] at h
 exact rep_zero h
theorem of_some (neg : Bool) {m : Nat} {e : Int} (h : Canon m e) (h0 : m ≠ 0) : (ofD (sgW neg + rungN m e)).ok ∧ (ofD (sgW neg + rungN m e)).s ≠ [] ∧ (ofD (sgW neg + rungN m e)).neg = neg := by
 have hr := of_num neg h
 have hp : 0 < m * 2 ^ (e + (LP : Nat)).toNat := Nat.mul_pos (by omega) (Nat.two_pow_pos _)
 obtain ⟨h1, h2, h3, h4⟩ := canon_bits neg h
 have h5 := of_room h4
 refine ⟨hr.ok, fun hs => ?_, ?_⟩
 ·have := rep_nil hr hs
  generalize m * 2 ^ (e + (LP : Nat)).toNat = x at *
  rcases Int.mul_eq_zero.1 this with g | g
  ·unfold sg at g; split at g <;> omega
  ·exact absurd g (Int.ne_of_gt (five_pos _))
 ·rw [(of_cmp h5 h5).2.2, val_sgn, h3, h2, h.rv]
  have hl := LP_eq
  rw [show e + (LP : Nat) = e + 1074 by omega] at hp
  generalize m * 2 ^ (e + 1074).toNat = x at *
  unfold sg
  cases neg <;> simp <;> omega
theorem bits64_fin2 (neg : Bool) {m : Nat} {e : Int} {i o u : Bool} : bits64 neg ⟨false, m, e, i, o, u⟩ = sgW neg + rungN m e := by
 rw [bits64_fin neg rfl]
 unfold rungN
 rw [show e - -1074 = e + 1074 by omega]
theorem back64 (neg : Bool) {m : Nat} {e : Int} (h : Canon m e) (h0 : m ≠ 0) {mode : Int} (hm : 1 ≤ mode ∧ mode ≤ 6) : to64A (ofD (sgW neg + rungN m e)) mode = ⟨sgW neg + rungN m e, false, false, false, 0⟩ := by
 obtain ⟨k1, k2, k3⟩ := of_some neg h h0
 unfold to64A ratioA
 rw [if_neg (fun h => h ⟨k1, oneD_ok, hm⟩), if_neg oneD_s, if_neg k2, k3, show (neg != oneD.neg) = neg by show (neg != false) = neg; cases neg <;> rfl, out_same (of_mag neg h), h.out, bits64_fin2]
end Go.Proofs.YtlbokicainimnaaGreatDoor
