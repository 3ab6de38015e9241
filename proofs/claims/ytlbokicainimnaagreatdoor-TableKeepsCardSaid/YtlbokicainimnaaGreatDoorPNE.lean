import Derived.Test.YtlbokicainimnaaGreatDoorPQA
namespace Go.Proofs.YtlbokicainimnaaGreatDoor
open Go.RowKit
def rndK (q rest d : Nat) : Nat := if 2^(d-1) < q % 2^d ∨ (q % 2^d = 2^(d-1) ∧ (0 < rest ∨ q / 2^d % 2 = 1)) then q / 2^d + 1 else q / 2^d
theorem rn_round {q D r d : Nat} (hr : r < D) (hd : 1 ≤ d) : RN (q * D + r) (D * 2^d) (rndK q r d) := by
 unfold rndK
 obtain ⟨h, hh⟩ : ∃ h, 2^(d-1) = h := ⟨_, rfl⟩
 have hT : 2^d = 2 * h := by rw [← hh, Nat.mul_comm, ← Nat.pow_succ]; congr 1; omega
 obtain ⟨m, hm⟩ : ∃ m, q / 2^d = m := ⟨_, rfl⟩
 obtain ⟨o, ho⟩ : ∃ o, q % 2^d = o := ⟨_, rfl⟩
 have hq : 2 * h * m + o = q := by rw [← hT, ← hm, ← ho]; exact Nat.div_add_mod _ _
 have ho2 : o < 2 * h := by rw [← ho, ← hT]; exact Nat.mod_lt _ (Nat.two_pow_pos d)
 rw [hh, hm, ho, hT]
 obtain ⟨Y, hY⟩ : ∃ Y, h * D = Y := ⟨_, rfl⟩
 have e2 : D * (2 * h) = 2 * Y := by rw [← hY, Nat.mul_comm, Nat.mul_assoc]
 have e1 : q * D + r = m * (2 * Y) + o * D + r := by
  rw [← hq, Nat.add_mul, ← e2]
  have : 2 * h * m * D = m * (D * (2 * h)) := by ac_rfl
  rw [this]
 rw [e1, e2]
 have b1 : o * D + D ≤ 2 * Y := by
  have := Nat.mul_le_mul_right D (show o + 1 ≤ 2 * h by omega)
  rw [Nat.add_mul, Nat.mul_assoc, hY] at this
  omega
 unfold RN
 have x1 : (2 * (m + 1) - 1) * (2 * Y) = 2 * (m * (2 * Y)) + 2 * Y := by rw [show 2 * (m + 1) - 1 = 2 * m + 1 by omega, Nat.add_mul, Nat.mul_assoc, Nat.one_mul]
 have x2 : (2 * (m + 1) + 1) * (2 * Y) = 2 * (m * (2 * Y)) + 3 * (2 * Y) := by rw [show 2 * (m + 1) + 1 = 2 * m + 3 by omega, Nat.add_mul, Nat.mul_assoc]
 have x3 : (2 * m + 1) * (2 * Y) = 2 * (m * (2 * Y)) + 2 * Y := by rw [Nat.add_mul, Nat.mul_assoc, Nat.one_mul]
 have x4 : (2 * m - 1) * (2 * Y) ≤ 2 * (m * (2 * Y)) := by have := Nat.mul_le_mul_right (2 * Y) (show 2 * m - 1 ≤ 2 * m by omega); rwa [Nat.mul_assoc 2 m (2 * Y)] at this
 split
 ·rename_i hc
  rw [x1, x2]
  refine ⟨.inr ?_, .inl (by omega)⟩
  rcases hc with hc | ⟨rfl, hc⟩
  ·have := Nat.mul_le_mul_right D (show h + 1 ≤ o by omega)
   rw [Nat.add_mul, hY] at this
   left; omega
  ·rw [hY]
   rcases hc with hc | hc
   ·left; omega
   ·by_cases h0 : 0 < r
    ·left; omega
    ·right; exact ⟨by omega, by omega⟩
 ·rename_i hc
  rw [x3]
  have hY0 : 0 < Y := by omega
  have hlt : o * D + r < Y ∨ (o * D + r = Y ∧ m % 2 = 0) := by
   rcases Nat.lt_trichotomy o h with hl | rfl | hl
   ·have := Nat.mul_le_mul_right D (show o + 1 ≤ h by omega)
    rw [Nat.add_mul, hY] at this
    left; omega
   ·right
    rw [hY]
    have : ¬ (0 < r ∨ m % 2 = 1) := fun h => hc (.inr ⟨rfl, h⟩)
    omega
   ·exact absurd (.inl hl) hc
  refine ⟨?_, by omega⟩
  by_cases h0 : m = 0
  ·left; exact h0
  ·right; left
   have : (2 * m - 1) * (2 * Y) + 2 * Y = 2 * (m * (2 * Y)) := by
    rw [← Nat.add_one_mul, show 2 * m - 1 + 1 = 2 * m by omega, Nat.mul_assoc]
   omega
theorem ratio_law (N D : Nat) (s : Int) (q rest d : Nat) (hN : N * 2^s.toNat = q * (D * 2^(-s).toNat) + rest) (hr : rest < D * 2^(-s).toNat) (hd1 : 1 ≤ d) (hb : blen q ≤ d + 53)
  (hlow : (d : Int) + LP = s ∨ (s ≤ (d : Int) + LP ∧ blen q = d + 53)) :
  ∃ R, Near 52 (N * 2^LP) D R ∧ Ieee.double.nearest false (rndK q rest d) ((d : Int) - s) = min R 9218868437227405312 := by
 have hrn := rn_round (q := q) hr hd1
 rw [← hN] at hrn
 have hD : 0 < D := by
  rcases Nat.eq_zero_or_pos D with rfl | h
  ·rw [Nat.zero_mul] at hr; omega
  ·exact h
 obtain ⟨D1, hD1⟩ : ∃ D1, D * 2^(-s).toNat = D1 := ⟨_, rfl⟩
 obtain ⟨q0, hq0⟩ : ∃ q0, ((d : Int) - s + LP).toNat = q0 := ⟨_, rfl⟩
 have hlt : q < 2^(53 + d) := by
  by_cases h0 : q = 0
  ·subst h0; exact Nat.two_pow_pos _
  ·exact Nat.lt_of_lt_of_le (blen_pos h0).2.1 (Nat.pow_le_pow_right (by decide) (by omega))
 have hm : q / 2^d < 2^53 := by rw [Nat.div_lt_iff_lt_mul (Nat.two_pow_pos d), ← Nat.pow_add]; exact hlt
 have hK : rndK q rest d ≤ 2 * 2^52 := by unfold rndK; split <;> omega
 have hlo : 0 < q0 → 2^(52 + d) ≤ q := by
  intro h0
  have hb2 : blen q = d + 53 := by rcases hlow with h | h; omega; exact h.2
  have hq : q ≠ 0 := by rintro rfl; simp [blen] at hb2
  have := (blen_pos hq).1
  rwa [hb2, show d + 53 - 1 = 52 + d by omega] at this
 have hK2 : 0 < q0 → 2^52 ≤ rndK q rest d := by
  intro h0
  have : 2^52 ≤ q / 2^d := by rw [Nat.le_div_iff_mul_le (Nat.two_pow_pos d), ← Nat.pow_add]; exact hlo h0
  unfold rndK; split <;> omega
 have hC : 0 < D1 := by omega
 have hn := near_of_rn 52 q0 (N * 2^s.toNat) (D1 * 2^d) _ (by decide) (Nat.mul_pos hC (Nat.two_pow_pos d)) (by rw [hD1] at hrn; exact hrn)
  (by
   have := Nat.mul_le_mul_right D1 (show q + 1 ≤ 2^(53 + d) from hlt)
   rw [Nat.add_mul, Nat.pow_add] at this
   rw [hN, hD1, show 2^(52+1) * (D1 * 2^d) = 2^53 * 2^d * D1 by rw [Nat.mul_comm D1, ← Nat.mul_assoc]]
   omega)
  (fun h0 => by
   have := Nat.mul_le_mul_right D1 (hlo h0)
   rw [Nat.pow_add] at this
   rw [hN, hD1, show 2^52 * (D1 * 2^d) = 2^52 * 2^d * D1 by rw [Nat.mul_comm D1, ← Nat.mul_assoc]]
   omega)
 refine ⟨_, Near.cross (Nat.mul_pos hC (Nat.two_pow_pos d)) hD ?_ hn, ?_⟩
 ·rw [← hD1]
  have e : s.toNat + q0 = LP + ((-s).toNat + d) := by omega
  calc N * 2^s.toNat * 2^q0 * D = N * (2^s.toNat * 2^q0) * D := by ac_rfl
   _ = N * (2^LP * (2^(-s).toNat * 2^d)) * D := by rw [← Nat.pow_add, e, Nat.pow_add, Nat.pow_add]
   _ = N * 2^LP * (D * 2^(-s).toNat * 2^d) := by ac_rfl
 ·obtain ⟨R', e1, e2⟩ := nearest_near' Ieee.double (by decide) false (rndK q rest d) ((d : Int) - s)
  rw [D_lp', show ((d : Int) - s - -(LP : Int)).toNat = q0 by rw [← hq0]; congr 1; omega, show (-(LP : Int) - ((d : Int) - s)).toNat = 0 by omega, show Ieee.double.fractionBits = 52 from rfl] at e2
  have e3 := Near.exact 52 (q0 * 2^52 + rndK q rest d) 1 (by decide)
  rw [rv_qK 52 q0 _ hK hK2, Nat.mul_one] at e3
  rw [Nat.pow_zero] at e2
  rw [e1, Near.uniq (by decide) e2 e3, D_inf, word_pos]
def toN (M : Nat) (E e : Int) : Nat := M * 2^(E - e).toNat
def toD (D : Nat) (E e : Int) : Nat := D * 2^(e - E).toNat
def toQ (M D : Nat) (E e : Int) : Nat := toN M E e / toD D E e
theorem toD_pos {D : Nat} (h : 0 < D) (E e : Int) : 0 < toD D E e := Nat.mul_pos h (Nat.two_pow_pos _)
def toK (M D : Nat) (E e : Int) : Nat :=
 if toD D E e < toN M E e % toD D E e * 2 ∨ (toN M E e % toD D E e * 2 = toD D E e ∧ toQ M D E e % 2 = 1) then toQ M D E e + 1 else toQ M D E e
end Go.Proofs.YtlbokicainimnaaGreatDoor
