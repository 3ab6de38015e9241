import Derived.Test.YtlbokicainimnaaGreatDoorPQA
namespace Go.Proofs.YtlbokicainimnaaGreatDoor
open Go.RowKit
def toN (M : Nat) (E e : Int) : Nat := M * 2^(E - e).toNat
def toD (D : Nat) (E e : Int) : Nat := D * 2^(e - E).toNat
def toQ (M D : Nat) (E e : Int) : Nat := toN M E e / toD D E e
theorem toD_pos {D : Nat} (h : 0 < D) (E e : Int) : 0 < toD D E e := Nat.mul_pos h (Nat.two_pow_pos _)
def toK (M D : Nat) (E e : Int) : Nat :=
 if toD D E e < toN M E e % toD D E e * 2 ∨ (toN M E e % toD D E e * 2 = toD D E e ∧ toQ M D E e % 2 = 1) then toQ M D E e + 1 else toQ M D E e
theorem toK_rn {M D : Nat} {E e : Int} (hD : 0 < D) : RN (toN M E e) (toD D E e) (toK M D E e) := by
 have hp := toD_pos hD E e
 unfold toK toQ
 obtain ⟨A, hA⟩ : ∃ A, toN M E e = A := ⟨_, rfl⟩
 obtain ⟨C, hC⟩ : ∃ C, toD D E e = C := ⟨_, rfl⟩
 rw [hA, hC]
 rw [hC] at hp
 have h1 := Nat.div_add_mod A C
 have h2 := Nat.mod_lt A hp
 obtain ⟨q, hq⟩ : ∃ q, A / C = q := ⟨_, rfl⟩
 obtain ⟨r, hr⟩ : ∃ r, A % C = r := ⟨_, rfl⟩
 rw [hq, hr] at h1 ⊢
 rw [hr] at h2
 rw [Nat.mul_comm] at h1
 unfold RN
 have x1 : (2 * (q + 1) - 1) * C = 2 * (q * C) + C := by rw [show 2 * (q + 1) - 1 = 2 * q + 1 by omega, Nat.add_mul, Nat.mul_assoc, Nat.one_mul]
 have x2 : (2 * (q + 1) + 1) * C = 2 * (q * C) + 3 * C := by rw [show 2 * (q + 1) + 1 = 2 * q + 3 by omega, Nat.add_mul, Nat.mul_assoc]
 have x3 : (2 * q + 1) * C = 2 * (q * C) + C := by rw [Nat.add_mul, Nat.mul_assoc, Nat.one_mul]
 split
 ·rename_i hc
  rw [x1, x2]
  refine ⟨.inr ?_, .inl (by omega)⟩
  rcases hc with hc | ⟨hc, hc2⟩
  ·left; omega
  ·right; exact ⟨by omega, by omega⟩
 ·rename_i hc
  rw [x3]
  refine ⟨?_, ?_⟩
  ·by_cases h0 : q = 0
   ·left; exact h0
   ·right; left
    have : (2 * q - 1) * C + C = 2 * (q * C) := by rw [← Nat.add_one_mul, show 2 * q - 1 + 1 = 2 * q by omega, Nat.mul_assoc]
    omega
  ·by_cases h0 : r * 2 = C
   ·right; exact ⟨by omega, by omega⟩
   ·left; omega
theorem to_near {M D : Nat} {E e : Int} (hD : 0 < D) (he : -(LP : Int) ≤ e) (hlt : toQ M D E e < 2^53) (hge : e = -(LP : Int) ∨ 2^52 ≤ toQ M D E e) :
  Near 52 (M * 2^(E + LP).toNat) (D * 2^(-(E + LP)).toNat) ((e + LP).toNat * 2^52 + toK M D E e) := by
 have hp := toD_pos hD E e
 have hrn := toK_rn (M := M) (E := E) (e := e) hD
 have h1 : toN M E e < 2^(52+1) * toD D E e := by
  unfold toQ at hlt
  rwa [Nat.div_lt_iff_lt_mul hp] at hlt
 have h2 : 0 < (e + LP).toNat → 2^52 * toD D E e ≤ toN M E e := by
  intro h0
  have := hge.resolve_left (by omega)
  unfold toQ at this
  rwa [Nat.le_div_iff_mul_le hp] at this
 have hn := near_of_rn 52 (e + LP).toNat (toN M E e) (toD D E e) _ (by decide) hp hrn h1 h2
 refine Near.cross hp (Nat.mul_pos hD (Nat.two_pow_pos _)) ?_ hn
 unfold toN toD
 have ee : (E - e).toNat + (e + LP).toNat + (-(E + LP)).toNat = (E + LP).toNat + (e - E).toNat := by omega
 calc M * 2^(E - e).toNat * 2^(e + LP).toNat * (D * 2^(-(E + LP)).toNat) = M * (2^(E - e).toNat * 2^(e + LP).toNat * 2^(-(E + LP)).toNat) * D := by ac_rfl
  _ = M * (2^(E + LP).toNat * 2^(e - E).toNat) * D := by rw [← Nat.pow_add, ← Nat.pow_add, ee, Nat.pow_add]
  _ = M * 2^(E + LP).toNat * (D * 2^(e - E).toNat) := by ac_rfl
end Go.Proofs.YtlbokicainimnaaGreatDoor
