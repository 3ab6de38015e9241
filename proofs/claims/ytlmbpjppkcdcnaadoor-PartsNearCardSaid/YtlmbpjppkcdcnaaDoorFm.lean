/- binary64: exact whole numbers, powers of two, products by powers of two; what Ldexp comes to. Plain mathematics. -/
import Derived.Test.YtlmbpjppkcdcnaaDoorFd
namespace Go.Proofs.YtlmbpjppkcdcnaaDoor
open Ieee

/-- 1074, that powers are not worked out. -/
def LP : Nat := 1074
theorem LP_eq : LP = 1074 := rfl
attribute [irreducible] LP
theorem D_lp' : Ieee.double.leastPlace = -(LP : Int) := by rw [LP_eq]; exact D_lp

theorem rv_qK (p q K : Nat) (h1 : K ≤ 2 * 2^p) (h2 : 0 < q → 2^p ≤ K) : rv p (q * 2^p + K) = K * 2^q := by
  rcases Nat.lt_or_ge K (2^p) with h | h
  · have : q = 0 := by rcases Nat.eq_zero_or_pos q with z | z; exact z; have := h2 z; omega
    subst this
    simp [rv_small h]
  · obtain ⟨t, rfl⟩ := Nat.exists_eq_add_of_le h
    rw [← Nat.add_assoc, ← Nat.succ_mul]
    exact rv_form p q t (by omega)
theorem rv_kq (q K : Nat) (h1 : K ≤ 9007199254740992) (h2 : 4503599627370496 ≤ K) : rv 52 (q * 4503599627370496 + K) = K * 2^q :=
  rv_qK 52 q K h1 (fun _ => h2)

/-- Of a number above 0, finite: K 2^(q - 1074), K of 53 bits. -/
structure KQ (b K q : Nat) : Prop where
  eq : b = q * 4503599627370496 + K
  lo : 4503599627370496 ≤ K
  hi : K < 9007199254740992
  top : q ≤ 2045
namespace KQ
variable {b K q : Nat} (h : KQ b K q)
include h
theorem lt : b < 9218868437227405312 := by have := h.eq; have := h.hi; have := h.top; omega
theorem W : W64 b := by unfold W64; have := h.lt; omega
theorem abs : absB b = b := by unfold absB; have := h.lt; omega
theorem nan : nanB b = false := by unfold nanB; rw [h.abs]; have := h.lt; simp; omega
theorem inf : infB b = false := by unfold infB; rw [h.abs]; have := h.lt; simp; omega
theorem zero : zeroB b = false := by unfold zeroB; rw [h.abs]; have := h.eq; have := h.lo; simp; omega
theorem low : lowB b = false := by unfold lowB; rw [h.abs]; have := h.eq; have := h.lo; simp; omega
theorem sgn : sgnB b = false := by unfold sgnB; have := h.lt; simp; omega
theorem exp : expB b = q + 1 := by unfold expB; have := h.eq; have := h.lo; have := h.hi; have := h.top; omega
theorem frac : fracB b = K - 4503599627370496 := by unfold fracB; have := h.eq; have := h.lo; have := h.hi; omega
theorem rv : Go.Proofs.YtlmbpjppkcdcnaaDoor.rv 52 b = K * 2^q := by rw [h.eq]; exact rv_kq q K (Nat.le_of_lt h.hi) h.lo
theorem fin : fin Ieee.double b := by rw [fin_D]; unfold finB; rw [h.abs]; simpa using h.lt
end KQ

theorem KQ.neg {b K q : Nat} (h : KQ b K q) : negB b = false := by unfold negB; rw [h.sgn, Bool.and_false]
theorem KQ.or {b K q : Nat} (h : KQ b K q) (x y : Int) (t : Nat) (hx : x = y) (h0 : 0 ≤ y) (h1 : y ≤ 2047) (ht : t = y.toNat * 4503599627370496 + (K - 4503599627370496)) :
    Go.bits .or .u64 ((sgnW b : Int) + (fracB b : Int)) (x * 4503599627370496) = (t : Int) := by
  have e1 : sgnW b = 0 := by unfold sgnW; rw [h.sgn]; rfl
  rw [e1, h.frac, hx]
  have hk := h.lo
  have hk2 := h.hi
  rw [show (((0 : Nat) : Int) + ((K - 4503599627370496 : Nat) : Int)) = ((K - 4503599627370496 : Nat) : Int) from by omega, show y * 4503599627370496 = ((y.toNat * 4503599627370496 : Nat) : Int) from by omega,
    Go.u64_or_nat _ _ (by omega) (by omega), Nat.or_comm, Go.nat_join 52 _ _ (by omega) (by omega), ht]

theorem near_kq {M S : Nat} (b K q R : Nat) (h : KQ b K q) (hS : 0 < S) (e : M = K * 2^q * S) (n : Near 52 M S R) : R = b := by
  subst e
  have := Near.exact 52 b S hS
  rw [h.rv] at this
  exact Near.uniq hS n this

theorem word_pos (R : Nat) : Ieee.double.word false R = R := rfl

/-- A product of two above 0. -/
theorem mul_pos (x y : Nat) (hx : x < 9218868437227405312) (hy : y < 9218868437227405312) : ∃ R, Go.floatBits .mul .f64 x y = some (min R 9218868437227405312) ∧ Near 52 (rv 52 x * rv 52 y) (2^LP) R := by
  have ax : absB x = x := by unfold absB; omega
  have ay : absB y = y := by unfold absB; omega
  have hl := LP_eq
  obtain ⟨R, h1, h2⟩ := mul_fin Ieee.double (by decide) (by decide) x y (by rw [fin_D]; unfold finB; simp; omega) (by rw [fin_D]; unfold finB; simp; omega)
  rw [sgn_D x (by unfold W64; omega), sgn_D y (by unfold W64; omega), rg_D, rg_D, ax, ay] at *
  rw [D_lp', show (-(-(LP : Int))).toNat = LP from by omega] at h2
  refine ⟨R, ?_, h2⟩
  have s1 : sgnB x = false := by unfold sgnB; simp; omega
  have s2 : sgnB y = false := by unfold sgnB; simp; omega
  show Ieee.double.mul x y = _
  rw [h1, s1, s2, D_inf]; rfl

theorem pow_rv (q : Nat) : rv 52 (q * 4503599627370496 + 4503599627370496) = 2^(52+q) := by
  rw [rv_kq q _ (by decide) (by decide), Nat.pow_add]

/-- The bits of 2^(j - 1022). -/
theorem pow_rv' (x j c : Nat) (hx : x = j * 4503599627370496 + 4503599627370496) (hc : c = 52 + j) : rv 52 x = 2^c := by
  subst hx hc; exact pow_rv j

/-- By one. -/
theorem mul_one (b K q : Nat) (h : KQ b K q) : Go.floatBits .mul .f64 4607182418800017408 b = some b := by
  obtain ⟨R, h1, h2⟩ := mul_pos 4607182418800017408 b (by decide) h.lt
  rw [pow_rv' 4607182418800017408 1022 LP (by decide) (by rw [LP_eq]), h.rv] at h2
  have := near_kq b K q R h (Nat.two_pow_pos _) (by rw [Nat.mul_comm]) h2
  subst this
  rw [h1, Nat.min_eq_left (Nat.le_of_lt h.lt)]

/-- By 2^-53. -/
theorem mul_low (b K q : Nat) (h : KQ b K q) : ∃ R, Go.floatBits .mul .f64 4368491638549381120 b = some (min R 9218868437227405312) ∧ Near 52 (K * 2^q) (2^53) R := by
  obtain ⟨R, h1, h2⟩ := mul_pos 4368491638549381120 b (by decide) h.lt
  refine ⟨R, h1, ?_⟩
  obtain ⟨c, hc⟩ : ∃ c, c = 1021 := ⟨_, rfl⟩
  have hl := LP_eq
  rw [pow_rv' 4368491638549381120 969 c (by decide) (by omega), h.rv] at h2
  refine Near.cross (Nat.two_pow_pos _) (Nat.two_pow_pos _) ?_ h2
  rw [Nat.mul_comm (2^c), Nat.mul_assoc, ← Nat.pow_add]
  congr 2; omega

/-- The nearest of m 2^e, said by K and q. -/
theorem nearest_kq (m K q : Nat) (e : Int) (h : m * 2^LP = K * 2^q) : ∃ R, Ieee.double.nearest false m e = min R 9218868437227405312 ∧ Near 52 (K * 2^(e + q).toNat) (2^(-(e + q)).toNat) R := by
  obtain ⟨R, h1, h2⟩ := nearest_near' Ieee.double (by decide) false m e
  refine ⟨R, by rw [h1, D_inf]; rfl, ?_⟩
  have hl := LP_eq
  rw [D_lp'] at h2
  refine Near.cross (Nat.two_pow_pos _) (Nat.two_pow_pos _) ?_ h2
  have hc : ∀ a b : Nat, a * (2^LP * 2^q) = b * (2^LP * 2^q) → a = b := fun a b hab => Nat.eq_of_mul_eq_mul_right (Nat.mul_pos (Nat.two_pow_pos _) (Nat.two_pow_pos _)) hab
  apply hc
  rw [show m * 2^(e - -(LP : Int)).toNat * 2^(-(e + q)).toNat * (2^LP * 2^q) = m * 2^LP * (2^(e - -(LP : Int)).toNat * 2^(-(e + q)).toNat * 2^q) from by simp only [Nat.mul_assoc, Nat.mul_left_comm, Nat.mul_comm],
    h, show K * 2^(e + q).toNat * 2^(-(LP : Int) - e).toNat * (2^LP * 2^q) = K * 2^q * (2^(e + q).toNat * 2^(-(LP : Int) - e).toNat * 2^LP) from by simp only [Nat.mul_assoc, Nat.mul_left_comm, Nat.mul_comm]]
  congr 1
  rw [← Nat.pow_add, ← Nat.pow_add, ← Nat.pow_add, ← Nat.pow_add]
  congr 1; omega

section ldexp
variable (m K q b : Nat) (e X : Int) (h : KQ b K q) (hm : m * 2^LP = K * 2^q) (hX : X = e + q - 1022)
include h hm hX
theorem ld_under (c : X < -1075) : Ieee.double.nearest false m e = 0 := by
  obtain ⟨R, h1, h2⟩ := nearest_kq m K q e hm
  rw [h1]
  have e1 : (e + (q : Int)).toNat = 0 := by omega
  obtain ⟨d, hd⟩ : ∃ d : Nat, (-(e + (q : Int))).toNat = 54 + d := ⟨(-(e + (q : Int))).toNat - 54, by omega⟩
  rw [e1, hd, Nat.pow_zero, Nat.mul_one] at h2
  have hp : 0 < 2^d := Nat.two_pow_pos d
  have h3 : Near 52 K (2^(54+d)) 0 := by
    refine ⟨.inl rfl, .inl ?_⟩
    rw [rv_zero, show rv 52 (0+1) = 1 from rfl, Nat.pow_add]
    have := h.hi
    simp only [Nat.zero_add, Nat.one_mul]
    have : 2^54 * 1 ≤ 2^54 * 2^d := Nat.mul_le_mul_left _ hp
    omega
  have := Near.uniq (Nat.two_pow_pos _) h2 h3
  subst this; rfl
theorem ld_over (c : 1023 < X) : Ieee.double.nearest false m e = 9218868437227405312 := by
  obtain ⟨R, h1, h2⟩ := nearest_kq m K q e hm
  rw [h1]
  refine Nat.min_eq_right ?_
  rcases Nat.lt_or_ge R 9218868437227405312 with lt | ge
  · exfalso
    obtain ⟨c, hc⟩ : ∃ c, c = 2046 := ⟨_, rfl⟩
    obtain ⟨d, hd⟩ : ∃ d : Nat, (e + (q : Int)).toNat = c + d := ⟨(e + (q : Int)).toNat - c, by omega⟩
    have e1 : (-(e + (q : Int))).toNat = 0 := by omega
    rw [e1, hd, Nat.pow_zero] at h2
    have hp : 0 < 2^d := Nat.two_pow_pos d
    have a1 : rv 52 (R+1) ≤ 2^(52+c) := by
      rw [← pow_rv c]; exact rv_le (by omega)
    have a2 : rv 52 R < rv 52 (R+1) := rv_lt_succ 52 R
    have a3 : 2^(52+c) ≤ K * 2^(c+d) := by
      rw [Nat.pow_add, Nat.pow_add 2 c]
      have : 2^52 * (2^c * 1) ≤ K * (2^c * 2^d) := Nat.mul_le_mul h.lo (Nat.mul_le_mul_left _ hp)
      rwa [Nat.mul_one] at this
    generalize K * 2^(c+d) = A at *
    generalize 2^(52+c) = B at *
    rcases h2.2 with c | ⟨c, _⟩ <;> omega
  · exact ge
theorem ld_norm (c1 : -1022 ≤ X) (c2 : X ≤ 1023) : KQ ((X + 1023).toNat * 4503599627370496 + (K - 4503599627370496)) K (X + 1022).toNat ∧ Ieee.double.nearest false m e = (X + 1023).toNat * 4503599627370496 + (K - 4503599627370496) := by
  have hk : KQ ((X + 1023).toNat * 4503599627370496 + (K - 4503599627370496)) K (X + 1022).toNat := by
    refine ⟨?_, h.lo, h.hi, by omega⟩
    have := h.lo
    have e1 : (X + 1023).toNat = (X + 1022).toNat + 1 := by omega
    rw [e1]; omega
  refine ⟨hk, ?_⟩
  obtain ⟨R, h1, h2⟩ := nearest_kq m K q e hm
  rw [h1]
  have e1 : (-(e + (q : Int))).toNat = 0 := by omega
  have e2 : (e + (q : Int)).toNat = (X + 1022).toNat := by omega
  rw [e1, e2] at h2
  have := near_kq _ K _ R hk (by decide) (by rw [Nat.pow_zero, Nat.mul_one]) h2
  rw [this, Nat.min_eq_left (Nat.le_of_lt hk.lt)]
theorem ld_low (c1 : -1075 ≤ X) (c2 : X < -1022) : KQ ((X + 53 + 1023).toNat * 4503599627370496 + (K - 4503599627370496)) K (X + 53 + 1022).toNat ∧
    Go.floatBits .mul .f64 4368491638549381120 ((X + 53 + 1023).toNat * 4503599627370496 + (K - 4503599627370496)) = some (Ieee.double.nearest false m e) := by
  have hk : KQ ((X + 53 + 1023).toNat * 4503599627370496 + (K - 4503599627370496)) K (X + 53 + 1022).toNat := by
    refine ⟨?_, h.lo, h.hi, by omega⟩
    have := h.lo
    have e1 : (X + 53 + 1023).toNat = (X + 53 + 1022).toNat + 1 := by omega
    rw [e1]; omega
  refine ⟨hk, ?_⟩
  obtain ⟨R, h1, h2⟩ := nearest_kq m K q e hm
  obtain ⟨R', h3, h4⟩ := mul_low _ _ _ hk
  rw [h3, h1]
  have : R' = R := by
    refine Near.uniq (Nat.two_pow_pos _) (Near.cross (Nat.two_pow_pos _) (Nat.two_pow_pos _) ?_ h4) h2
    have e1 : (e + (q : Int)).toNat = 0 := by omega
    rw [e1, Nat.pow_zero, Nat.mul_one, Nat.mul_assoc, ← Nat.pow_add, show (X + 53 + 1022).toNat + (-(e + (q : Int))).toNat = 53 from by omega]
  rw [this]
end ldexp

theorem nearest_zero (e : Int) : Ieee.double.nearest false 0 e = 0 := by unfold Format.nearest; rw [if_pos rfl]; rfl

/-- float64(m), m up to 2^53. -/
theorem ofInt_kq (m : Nat) (h0 : 0 < m) (h1 : m ≤ 9007199254740992) : ∃ K q, KQ (Go.floatOfInt .f64 m) K q ∧ m * 2^LP = K * 2^q ∧ q = 1022 + m.log2 := by
  have hd : Go.floatOfInt .f64 m = Ieee.double.nearest false m 0 := by
    show Ieee.double.write (.number (decide ((m : Int) < 0)) (m : Int).natAbs 0) = _
    have : decide ((m : Int) < 0) = false := by simp
    rw [this]; simp [Format.write]
  have hlo : 2^m.log2 ≤ m := Nat.log2_self_le (by omega)
  have hhi : m < 2^(m.log2+1) := Nat.lt_log2_self
  have hn : m.log2 ≤ 53 := by
    rcases Nat.lt_or_ge 53 m.log2 with g | g
    · have : 2^54 ≤ 2^m.log2 := Nat.pow_le_pow_right (by omega) g
      omega
    · exact g
  have core : ∀ K q, 4503599627370496 ≤ K → K < 9007199254740992 → q ≤ 2045 → m * 2^LP = K * 2^q → KQ (Go.floatOfInt .f64 m) K q := by
    intro K q a1 a2 a3 a4
    have hk : KQ (q * 4503599627370496 + K) K q := ⟨rfl, a1, a2, a3⟩
    have : Go.floatOfInt .f64 m = q * 4503599627370496 + K := by
      rw [hd]
      obtain ⟨R, g1, g2⟩ := nearest_kq m K q 0 a4
      rw [g1]
      have e1 : (-(0 + (q : Int))).toNat = 0 := by omega
      have e2 : (0 + (q : Int)).toNat = q := by omega
      rw [e1, e2] at g2
      have := near_kq _ K _ R hk (by decide) (by rw [Nat.pow_zero, Nat.mul_one]) g2
      rw [this, Nat.min_eq_left (Nat.le_of_lt hk.lt)]
    rw [this]; exact hk
  by_cases c : m.log2 = 53
  · have : m = 2^53 := by rw [c] at hlo; omega
    subst this
    have hl := LP_eq
    have hv : 2^53 * 2^LP = 2^52 * 2^(LP+1) := by rw [← Nat.pow_add, ← Nat.pow_add]; congr 1; omega
    refine ⟨2^52, LP + 1, core _ _ (by decide) (by decide) (by omega) hv, hv, by rw [c]; omega⟩
  · have e : 2^52 = 2^m.log2 * 2^(52 - m.log2) := by rw [← Nat.pow_add]; congr 1; omega
    have e' : 2^53 = 2^(m.log2+1) * 2^(52 - m.log2) := by rw [← Nat.pow_add]; congr 1; omega
    have hl := LP_eq
    have hv : m * 2^LP = m * 2^(52 - m.log2) * 2^(1022 + m.log2) := by rw [Nat.mul_assoc, ← Nat.pow_add]; congr 2; omega
    refine ⟨m * 2^(52 - m.log2), 1022 + m.log2, core _ _ ?_ ?_ (by omega) hv, hv, rfl⟩
    · have := Nat.mul_le_mul_right (2^(52 - m.log2)) hlo
      omega
    · have := Nat.mul_lt_mul_of_pos_right hhi (Nat.two_pow_pos (52 - m.log2))
      omega
end Go.Proofs.YtlmbpjppkcdcnaaDoor
