import Derived.Test.YtlbokicainimnaaGreatDoorQQA
namespace Go.Proofs.YtlbokicainimnaaGreatDoor
open Go.RowKit
def toN (M : Nat) (E e : Int) : Nat:=M * 2^(E - e).toNat
def toD (D : Nat) (E e : Int) : Nat:=D * 2^(e - E).toNat
def toQ (M D : Nat) (E e : Int) : Nat:=toN M E e / toD D E e
theorem toD_pos {D : Nat} (h : 0 < D) (E e : Int) : 0 < toD D E e:=Nat.mul_pos h (Nat.two_pow_pos _)
theorem toQ_next (M D : Nat) (E e : Int) : toQ M D E (e + 1) = toQ M D E e / 2:=by
 unfold toQ toN toD
 by_cases h : 1 ≤ E - e
 ·obtain ⟨k,hk⟩ : ∃ k : Nat,E - e = (k : Int) + 1:=⟨(E - e).toNat - 1,by omega⟩
  rw [show (E - (e + 1)).toNat = k by omega,show (E - e).toNat = k + 1 by omega,show (e + 1 - E).toNat = 0 by omega,show (e - E).toNat = 0 by omega,Nat.div_div_eq_div_mul,Nat.pow_succ,← Nat.mul_assoc,
   Nat.mul_div_mul_right _ _ (by decide)]
 ·obtain ⟨k,hk⟩ : ∃ k : Nat,e - E = (k : Int):=⟨(e - E).toNat,by omega⟩
  rw [show (E - (e + 1)).toNat = 0 by omega,show (E - e).toNat = 0 by omega,show (e + 1 - E).toNat = k + 1 by omega,show (e - E).toNat = k by omega,Nat.div_div_eq_div_mul,Nat.pow_succ,← Nat.mul_assoc]
theorem toQ_start {M D : Nat} {E e sz : Int} (hD : 0 < D) (hsz : sz = (blen M : Int) - blen D + E) (he : sz - 56 ≤ e) : toQ M D E e < 144115188075855872:=by
 unfold toQ
 rw [Nat.div_lt_iff_lt_mul (toD_pos hD E e)]
 by_cases hM : M = 0
 ·subst hM
  unfold toN
  rw [Nat.zero_mul]
  exact Nat.mul_pos (by decide) (toD_pos hD E e)
 obtain ⟨a1,a2,a3⟩:=blen_pos hM
 obtain ⟨b1,b2,b3⟩:=blen_pos (n:=D) (by omega)
 unfold toN toD
 calc M * 2^(E - e).toNat < 2^(blen M) * 2^(E - e).toNat:=Nat.mul_lt_mul_of_pos_right a2 (Nat.two_pow_pos _)
  _ = 2^(blen M + (E - e).toNat):=(Nat.pow_add ..).symm
  _ ≤ 2^(57 + (blen D - 1 + (e - E).toNat)):=Nat.pow_le_pow_right (by decide) (by omega)
  _ = 144115188075855872 * (2^(blen D - 1) * 2^(e - E).toNat):=by rw [Nat.pow_add,Nat.pow_add]
  _ ≤ 144115188075855872 * (D * 2^(e - E).toNat):=Nat.mul_le_mul_left _ (Nat.mul_le_mul_right _ b1)
theorem toQ_high {M D : Nat} {E e sz : Int} (hM : M ≠ 0) (hD : 0 < D) (hsz : sz = (blen M : Int) - blen D + E) (he : e = sz - 56) : 9007199254740992 ≤ toQ M D E e:=by
 unfold toQ
 rw [Nat.le_div_iff_mul_le (toD_pos hD E e)]
 obtain ⟨a1,a2,a3⟩:=blen_pos hM
 obtain ⟨b1,b2,b3⟩:=blen_pos (n:=D) (by omega)
 unfold toN toD
 calc 9007199254740992 * (D * 2^(e - E).toNat) ≤ 2^53 * (2^(blen D) * 2^(e - E).toNat):=Nat.mul_le_mul_left _ (Nat.mul_le_mul_right _ (Nat.le_of_lt b2))
  _ = 2^(53 + (blen D + (e - E).toNat)):=by rw [Nat.pow_add,Nat.pow_add]
  _ ≤ 2^(blen M - 1 + (E - e).toNat):=Nat.pow_le_pow_right (by decide) (by omega)
  _ = 2^(blen M - 1) * 2^(E - e).toNat:=Nat.pow_add ..
  _ ≤ M * 2^(E - e).toNat:=Nat.mul_le_mul_right _ a1
def toK (M D : Nat) (E e : Int) : Nat:=
 if toD D E e < toN M E e % toD D E e * 2 ∨ (toN M E e % toD D E e * 2 = toD D E e ∧ toQ M D E e % 2 = 1) then toQ M D E e + 1 else toQ M D E e
theorem toK_rn {M D : Nat} {E e : Int} (hD : 0 < D) : RN (toN M E e) (toD D E e) (toK M D E e):=by
 have hp:=toD_pos hD E e
 unfold toK toQ
 obtain ⟨A,hA⟩ : ∃ A,toN M E e = A:=⟨_,rfl⟩
 obtain ⟨C,hC⟩ : ∃ C,toD D E e = C:=⟨_,rfl⟩
 rw [hA,hC]
 rw [hC] at hp
 have h1:=Nat.div_add_mod A C
 have h2:=Nat.mod_lt A hp
 obtain ⟨q,hq⟩ : ∃ q,A / C = q:=⟨_,rfl⟩
 obtain ⟨r,hr⟩ : ∃ r,A % C = r:=⟨_,rfl⟩
 rw [hq,hr] at h1 ⊢
 rw [hr] at h2
 rw [Nat.mul_comm] at h1
 unfold RN
 have x1 : (2 * (q + 1) - 1) * C = 2 * (q * C) + C:=by rw [show 2 * (q + 1) - 1 = 2 * q + 1 by omega,Nat.add_mul,Nat.mul_assoc,Nat.one_mul]
 have x2 : (2 * (q + 1) + 1) * C = 2 * (q * C) + 3 * C:=by rw [show 2 * (q + 1) + 1 = 2 * q + 3 by omega,Nat.add_mul,Nat.mul_assoc]
 have x3 : (2 * q + 1) * C = 2 * (q * C) + C:=by rw [Nat.add_mul,Nat.mul_assoc,Nat.one_mul]
 split
 ·rename_i hc
  rw [x1,x2]
  refine ⟨.inr ?_,.inl (by omega)⟩
  rcases hc with hc | ⟨hc,hc2⟩
  ·left; omega
  ·right; exact ⟨by omega,by omega⟩
 ·rename_i hc
  rw [x3]
  refine ⟨?_,?_⟩
  ·by_cases h0 : q = 0
   ·left; exact h0
   ·right; left
    have : (2 * q - 1) * C + C = 2 * (q * C):=by rw [← Nat.add_one_mul,show 2 * q - 1 + 1 = 2 * q by omega,Nat.mul_assoc]
    omega
  ·by_cases h0 : r * 2 = C
   ·right; exact ⟨by omega,by omega⟩
   ·left; omega
theorem to_near {M D : Nat} {E e : Int} (hD : 0 < D) (he : -(LP : Int) ≤ e) (hlt : toQ M D E e < 2^53) (hge : e = -(LP : Int) ∨ 2^52 ≤ toQ M D E e) :
  Near 52 (M * 2^(E + LP).toNat) (D * 2^(-(E + LP)).toNat) ((e + LP).toNat * 2^52 + toK M D E e):=by
 have hp:=toD_pos hD E e
 have hrn:=toK_rn (M:=M) (E:=E) (e:=e) hD
 have h1 : toN M E e < 2^(52+1) * toD D E e:=by
  unfold toQ at hlt
  rwa [Nat.div_lt_iff_lt_mul hp] at hlt
 have h2 : 0 < (e + LP).toNat → 2^52 * toD D E e ≤ toN M E e:=by
  intro h0
  have:=hge.resolve_left (by omega)
  unfold toQ at this
  rwa [Nat.le_div_iff_mul_le hp] at this
 have hn:=near_of_rn 52 (e + LP).toNat (toN M E e) (toD D E e) _ (by decide) hp hrn h1 h2
 refine Near.cross hp (Nat.mul_pos hD (Nat.two_pow_pos _)) ?_ hn
 unfold toN toD
 have ee : (E - e).toNat + (e + LP).toNat + (-(E + LP)).toNat = (E + LP).toNat + (e - E).toNat:=by omega
 calc M * 2^(E - e).toNat * 2^(e + LP).toNat * (D * 2^(-(E + LP)).toNat) = M * (2^(E - e).toNat * 2^(e + LP).toNat * 2^(-(E + LP)).toNat) * D:=by ac_rfl
  _ = M * (2^(E + LP).toNat * 2^(e - E).toNat) * D:=by rw [← Nat.pow_add,← Nat.pow_add,ee,Nat.pow_add]
  _ = M * 2^(E + LP).toNat * (D * 2^(e - E).toNat):=by ac_rfl
theorem to_far {M D : Nat} {E sz : Int} (hM : M ≠ 0) (hD : 0 < D) (hsz : sz = (blen M : Int) - blen D + E) (hf : 1031 < sz - 56) :
  ∃ R,Near 52 (M * 2^(E + LP).toNat) (D * 2^(-(E + LP)).toNat) R ∧ 9218868437227405312 ≤ R:=by
 have h0:=toQ_start (e:=sz - 56) hD hsz (by omega)
 have h1:=toQ_high (e:=sz - 56) hM hD hsz rfl
 have key : ∃ e,1031 < e ∧ toQ M D E e < 2^53 ∧ 2^52 ≤ toQ M D E e:=by
  have a1:=toQ_next M D E (sz - 56)
  have a2:=toQ_next M D E (sz - 56 + 1)
  have a3:=toQ_next M D E (sz - 56 + 1 + 1)
  have a4:=toQ_next M D E (sz - 56 + 1 + 1 + 1)
  by_cases b1 : toQ M D E (sz - 56 + 1) < 2^53
  ·exact ⟨_,by omega,b1,by omega⟩
  by_cases b2 : toQ M D E (sz - 56 + 1 + 1) < 2^53
  ·exact ⟨_,by omega,b2,by omega⟩
  by_cases b3 : toQ M D E (sz - 56 + 1 + 1 + 1) < 2^53
  ·exact ⟨_,by omega,b3,by omega⟩
  exact ⟨_,by omega,(by omega : toQ M D E (sz - 56 + 1 + 1 + 1 + 1) < 2^53),by omega⟩
 obtain ⟨e,he,hlt,hge⟩:=key
 refine ⟨_,to_near hD (by have:=LP_eq; omega) hlt (.inr hge),?_⟩
 have:=LP_eq
 have : 2105 ≤ (e + LP).toNat:=by omega
 have:=Nat.mul_le_mul_right (2^52) this
 omega
theorem toK_bound {M D : Nat} {E e : Int} (hlt : toQ M D E e < 2^53) : toK M D E e ≤ 2^53:=by
 unfold toK; split <;> omega
theorem toK_low {M D : Nat} {E e : Int} : toQ M D E e ≤ toK M D E e:=by
 unfold toK; split <;> omega
end Go.Proofs.YtlbokicainimnaaGreatDoor
