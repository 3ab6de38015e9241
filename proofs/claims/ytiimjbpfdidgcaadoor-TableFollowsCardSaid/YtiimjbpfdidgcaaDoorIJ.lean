/- Parts Sh, Si of the proof, in one text. -/
import Derived.Test.YtiimjbpfdidgcaaDoorIF
import Derived.Test.YtiimjbpfdidgcaaDoorIC

/- The rest of a rounded sum of two numbers is a number, and so is what the rounded sum has more than the greater one. Plain mathematics, no program. -/
namespace Go.Proofs.YtiimjbpfdidgcaaDoor
open Ieee

/-- A magnitude that is a number's (of any size). -/
def Rep (n : Nat) : Prop := ∃ R, rv 52 R = n
theorem rep_mul : ∀ (q K : Nat), K ≤ 2^53 → Rep (K * 2^q)
  | 0, K, h => by
    rcases Nat.lt_or_ge K (2^52) with g | g
    · exact ⟨K, by rw [rv_small g]; simp⟩
    · exact ⟨0 * 4503599627370496 + K, rv_kq 0 K (by omega) (by omega)⟩
  | q + 1, K, h => by
    rcases Nat.lt_or_ge K (2^52) with g | g
    · have := rep_mul q (2 * K) (by omega)
      rw [Nat.pow_succ, Nat.mul_comm (2^q) 2, ← Nat.mul_assoc, Nat.mul_comm K 2]
      exact this
    · exact ⟨(q + 1) * 4503599627370496 + K, rv_kq (q + 1) K (by omega) (by omega)⟩

theorem rv_parts (R : Nat) : ∃ K q, rv 52 R = K * 2^q ∧ K < 9007199254740992 ∧ ulp 52 R = 2^q ∧ (4503599627370496 ≤ K ∨ q = 0) := by
  by_cases h : R < 2^52
  · refine ⟨R, 0, by rw [rv_small h]; simp, by omega, ?_, .inr rfl⟩
    unfold ulp
    rw [Nat.div_eq_of_lt h]
  · obtain ⟨q, t, ht, e⟩ := split_rung 52 R h
    refine ⟨2^52 + t, q, ?_, by omega, ?_, .inl (by omega)⟩
    · rw [e]; exact rv_form 52 q t (by omega)
    · unfold ulp
      rw [e]
      have : ((q + 1) * 2^52 + t) / 2^52 = q + 1 := by
        rw [Nat.mul_comm, Nat.mul_add_div (Nat.two_pow_pos _), Nat.div_eq_of_lt ht, Nat.add_zero]
      rw [this, Nat.add_sub_cancel]

theorem ulp_le {r s : Nat} (h : r ≤ s) : ulp 52 r ≤ ulp 52 s := by
  unfold ulp
  exact Nat.pow_le_pow_right (by decide) (Nat.sub_le_sub_right (Nat.div_le_div_right h) 1)

/-- How far the nearest rung is away. -/
theorem near_far {n R : Nat} (h : Near 52 n 1 R) : 2 * n ≤ 2 * rv 52 R + ulp 52 R ∧ 2 * rv 52 R ≤ 2 * n + ulp 52 R := by
  obtain ⟨h1, h2⟩ := h
  have e := rv_succ 52 R
  constructor
  · rcases h2 with h | ⟨h, -⟩ <;> omega
  · rcases Nat.eq_zero_or_pos R with z | z
    · subst z; rw [rv_zero]; omega
    · have e2 := rv_succ 52 (R - 1)
      rw [Nat.sub_add_cancel z] at e2
      have e3 := ulp_le (show R - 1 ≤ R by omega)
      rcases h1 with h | h | ⟨h, -⟩ <;> omega
/-- No number is nearer. -/
theorem near_best {n R C : Nat} (h : Near 52 n 1 R) : (n ≤ rv 52 C → rv 52 R ≤ rv 52 C ∧ rv 52 R - n ≤ rv 52 C - n ∧ n - rv 52 R ≤ rv 52 C - n) ∧ (rv 52 C ≤ n → rv 52 C ≤ rv 52 R ∧ n - rv 52 R ≤ n - rv 52 C ∧ rv 52 R - n ≤ n - rv 52 C) := by
  obtain ⟨h1, h2⟩ := h
  rcases Nat.lt_trichotomy C R with g | g | g
  · have a1 : rv 52 C ≤ rv 52 (R - 1) := rv_le (by omega)
    have a2 : rv 52 (R - 1) < rv 52 R := rv_lt (by omega)
    constructor
    · intro h
      exfalso
      rcases h1 with h | h | ⟨h, -⟩ <;> omega
    · intro h
      rcases h1 with h | h | ⟨h, -⟩ <;> omega
  · subst g; constructor <;> intro h <;> omega
  · have a1 : rv 52 (R + 1) ≤ rv 52 C := rv_le (by omega)
    have a2 := rv_lt_succ 52 R
    constructor
    · intro h
      rcases h2 with h | ⟨h, -⟩ <;> omega
    · intro h
      exfalso
      rcases h2 with h | ⟨h, -⟩ <;> omega

/-- Multiples. -/
theorem mul_small {x d : Int} (hd : 0 < d) (h : d ∣ x) (h2 : 2 * x.natAbs ≤ d.natAbs) : x = 0 := by
  obtain ⟨k, rfl⟩ := h
  rw [Int.natAbs_mul] at h2
  have hd2 : 0 < d.natAbs := by omega
  rcases Nat.eq_zero_or_pos k.natAbs with z | z
  · have : k = 0 := by omega
    rw [this, Int.mul_zero]
  · exfalso
    have := Nat.mul_le_mul_left d.natAbs z
    omega
theorem rep_int {x : Int} {q : Nat} (h : ((2^q : Nat) : Int) ∣ x) (h2 : x.natAbs ≤ 9007199254740992 * 2^q) : Rep x.natAbs := by
  obtain ⟨k, rfl⟩ := h
  rw [Int.natAbs_mul, Int.natAbs_natCast, Nat.mul_comm] at h2 ⊢
  exact rep_mul q _ (Nat.le_of_mul_le_mul_right h2 (Nat.two_pow_pos _))
theorem pow_dvd {i j : Nat} (h : i ≤ j) : ((2^i : Nat) : Int) ∣ ((2^j : Nat) : Int) := Int.natCast_dvd_natCast.2 (Nat.pow_dvd_pow 2 h)

theorem tri (A B S : Int) : (S - A).natAbs ≤ B.natAbs + (A + B - S).natAbs := by omega
/-- A sum and its rounded one, of one sign: their difference is that of the magnitudes. -/
theorem same_sign {N S : Int} (hsg : 0 ≤ S * N) (h0 : N = 0 → S = 0) : (N - S).natAbs = N.natAbs - S.natAbs + (S.natAbs - N.natAbs) := by
  rcases Int.lt_trichotomy N 0 with g | g | g
  · have : S ≤ 0 := by
      refine Decidable.byContradiction fun hc => ?_
      have := Int.mul_neg_of_pos_of_neg (show 0 < S by omega) g
      omega
    omega
  · rw [g, h0 g]; rfl
  · have : 0 ≤ S := by
      refine Decidable.byContradiction fun hc => ?_
      have := Int.mul_neg_of_neg_of_pos (show S < 0 by omega) g
      omega
    omega

set_option maxHeartbeats 1000000 in
/-- Of two numbers A, B, the first not the lesser in magnitude, S their sum rounded: S - A and A + B - S are numbers. -/
theorem two_sum {A B S : Int} {ra rb R : Nat} (hA : A.natAbs = rv 52 ra) (hB : B.natAbs = rv 52 rb) (hab : rb ≤ ra) (hR : Near 52 (A + B).natAbs 1 R) (hS : S.natAbs = rv 52 R) (hsg : 0 ≤ S * (A + B)) :
    Rep (S - A).natAbs ∧ Rep (A + B - S).natAbs ∧ (A + B - S).natAbs ≤ B.natAbs := by
  obtain ⟨Ka, qa, a1, a2, a3, a4⟩ := rv_parts ra
  obtain ⟨Kb, qb, b1, b2, b3, b4⟩ := rv_parts rb
  obtain ⟨Ks, qs, s1, s2, s3, s4⟩ := rv_parts R
  have hq : qb ≤ qa := by
    have := ulp_le hab
    rw [a3, b3] at this
    exact (Nat.pow_le_pow_iff_right (by decide)).1 this
  have hBA : B.natAbs ≤ A.natAbs := by rw [hA, hB]; exact rv_le hab
  have dA : ((2^qa : Nat) : Int) ∣ A := Int.dvd_natAbs.1 (by rw [hA, a1]; exact Int.natCast_dvd_natCast.2 ⟨Ka, Nat.mul_comm _ _⟩)
  have dB : ((2^qb : Nat) : Int) ∣ B := Int.dvd_natAbs.1 (by rw [hB, b1]; exact Int.natCast_dvd_natCast.2 ⟨Kb, Nat.mul_comm _ _⟩)
  have dS : ((2^qs : Nat) : Int) ∣ S := Int.dvd_natAbs.1 (by rw [hS, s1]; exact Int.natCast_dvd_natCast.2 ⟨Ks, Nat.mul_comm _ _⟩)
  have dN : ((2^qb : Nat) : Int) ∣ A + B := Int.dvd_add (Int.dvd_trans (pow_dvd hq) dA) dB
  obtain ⟨f1, f2⟩ := near_far hR
  rw [s3, ← hS] at f1 f2
  have hd := same_sign hsg (fun h => by
    have h2 : R = 0 := Near.uniq (by decide) hR (by rw [h]; exact near_zero 52 1 (by decide))
    rw [h2, rv_zero] at hS
    omega)
  have hr2 : 2 * (A + B - S).natAbs ≤ 2^qs := by omega
  have hrB : (A + B - S).natAbs ≤ B.natAbs := by
    obtain ⟨c1, c2⟩ := near_best (C := ra) hR
    rw [← hA, ← hS] at c1 c2
    rcases Nat.le_total (A + B).natAbs A.natAbs with g | g
    · have := c1 g; omega
    · have := c2 g; omega
  have hrepR : Rep (A + B - S).natAbs ∧ Rep (S - A).natAbs := by
    by_cases h0 : A + B - S = 0
    · constructor
      · rw [h0]; exact ⟨0, rv_zero 52⟩
      · rw [show S - A = B by omega, hB]; exact ⟨rb, rfl⟩
    · have hlt : qb < qs := by
        refine Decidable.byContradiction fun hc => h0 ?_
        have hqs : qs ≤ qb := by omega
        have d : ((2^qs : Nat) : Int) ∣ A + B - S := Int.dvd_sub (Int.dvd_trans (pow_dvd hqs) dN) dS
        have hp := Nat.two_pow_pos qs
        exact mul_small (by omega) d (by rw [Int.natAbs_natCast]; exact hr2)
      have dR : ((2^qb : Nat) : Int) ∣ A + B - S := Int.dvd_sub dN (Int.dvd_trans (pow_dvd (by omega)) dS)
      have hBu : B.natAbs < 9007199254740992 * 2^qb := by rw [hB, b1]; exact (Nat.mul_lt_mul_right (Nat.two_pow_pos _)).2 b2
      refine ⟨rep_int dR (by omega), ?_⟩
      have hSA := tri A B S
      rcases Nat.le_total qs qa with g | g
      · have d : ((2^qs : Nat) : Int) ∣ S - A := Int.dvd_sub dS (Int.dvd_trans (pow_dvd g) dA)
        refine rep_int d ?_
        have e : 2^qs = 2 * 2^(qs - 1) := by rw [← Nat.pow_succ', Nat.succ_eq_add_one, Nat.sub_add_cancel (by omega)]
        have e2 : 2^qb ≤ 2^(qs - 1) := Nat.pow_le_pow_right (by decide) (by omega)
        generalize 2^(qs - 1) = x at *
        generalize 2^qb = y at *
        generalize 2^qs = z at *
        omega
      · have d : ((2^qa : Nat) : Int) ∣ S - A := Int.dvd_sub (Int.dvd_trans (pow_dvd g) dS) dA
        refine rep_int d ?_
        have hAu : A.natAbs ≤ (9007199254740991) * 2^qa := by rw [hA, a1]; exact Nat.mul_le_mul_right _ (by omega)
        -- S is at most 2 A, so its unit is at most twice A's
        obtain ⟨C, hC⟩ := rep_mul (qa + 1) Ka (by omega)
        have hC2 : rv 52 C = 2 * A.natAbs := by rw [hC, hA, a1, Nat.pow_succ]; simp only [Nat.mul_left_comm, Nat.mul_comm]
        have hle := ((near_best (C := C) hR).1 (by omega)).1
        have hqs : qs ≤ qa + 1 := by
          refine Decidable.byContradiction fun hc => ?_
          have hK : 4503599627370496 ≤ Ks := by rcases s4 with h | h; exact h; omega
          have e : 2^qs = 2^(qs - (qa + 2)) * 2^(qa + 2) := by rw [← Nat.pow_add]; congr 1; omega
          have e2 : 2^(qa + 2) = 4 * 2^qa := by rw [Nat.pow_add, Nat.mul_comm]
          have h1 : 4503599627370496 * 2^qs ≤ rv 52 R := by rw [s1]; exact Nat.mul_le_mul_right _ hK
          have h2 : 1 ≤ 2^(qs - (qa + 2)) := Nat.two_pow_pos _
          have h3 : 2^(qa + 2) ≤ 2^qs := by rw [e]; exact Nat.le_mul_of_pos_left _ h2
          have hp := Nat.two_pow_pos qa
          generalize 2^qs = z at *
          generalize 2^(qa + 2) = y at *
          generalize 2^qa = x at *
          omega
        have e : 2^qs ≤ 2 * 2^qa := by
          have := Nat.pow_le_pow_right (show 0 < 2 by decide) hqs
          rw [Nat.pow_succ] at this
          omega
        generalize 2^qs = z at *
        generalize 2^qa = x at *
        omega
  exact ⟨hrepR.2, hrepR.1, hrB⟩
end Go.Proofs.YtiimjbpfdidgcaaDoor

/- A sum and what rounding lost of it: plain mathematics, no program. -/
namespace Go.Proofs.YtiimjbpfdidgcaaDoor
open Ieee

theorem valB_word (s : Bool) (r : Nat) (hr : r < 9223372036854775808) : W64 (sgW s + r) ∧ absB (sgW s + r) = r ∧ valB (sgW s + r) = sg s (rv 52 r) := by
  have h1 : sgnB (sgW s + r) = s := by unfold sgnB sgW; cases s <;> simp <;> omega
  have h2 : absB (sgW s + r) = r := by unfold absB sgW; cases s <;> simp <;> omega
  refine ⟨?_, h2, ?_⟩
  · have := sgW_le s; unfold W64; omega
  · unfold valB sg; rw [h1, h2]

/-- A difference that is a number comes out exact. -/
theorem sub_rep (x y r : Nat) (hx : W64 x) (hy : W64 y) (fx : finB x = true) (fy : finB y = true) (h : (valB x - valB y).natAbs = rv 52 r) (hr : r < 9218868437227405312) :
    ∃ s, Go.floatBits .sub .f64 x y = some s ∧ W64 s ∧ finB s = true ∧ valB s = valB x - valB y ∧ absB s = r := by
  obtain ⟨R, g1, g2⟩ := sub_fin Ieee.double (by decide) x y ((fin_D x).2 fx) ((fin_D y).2 fy)
  rw [V_D x hx, V_D y hy, sgn_D x hx, sgn_D y hy, D_inf] at g1
  rw [V_D x hx, V_D y hy, h] at g2
  have hRr : R = r := by
    have := Near.exact 52 r 1 (by decide)
    rw [Nat.mul_one] at this
    exact Near.uniq (by decide) g2 this
  subst hRr
  rw [Nat.min_eq_left (by omega), word_sg] at g1
  obtain ⟨s, hs⟩ : ∃ s, s = (if valB x - valB y = 0 then sgnB x && !sgnB y else decide (valB x - valB y < 0)) := ⟨_, rfl⟩
  rw [← hs] at g1
  obtain ⟨v1, v2, v3⟩ := valB_word s R (by omega)
  refine ⟨_, g1, v1, by unfold finB; rw [v2]; simpa using hr, ?_, v2⟩
  rw [v3]
  have hz : rv 52 R = 0 → valB x - valB y = 0 := fun h0 => by omega
  unfold sg
  by_cases h0 : valB x - valB y = 0
  · have : rv 52 R = 0 := by omega
    rw [this, h0]; simp
  · rw [if_neg h0] at hs
    by_cases h1 : valB x - valB y < 0
    · rw [hs, decide_eq_true h1, if_pos rfl]; omega
    · rw [hs, decide_eq_false h1, if_neg (by simp)]; omega

def resD (a b s : Nat) : Int := valB a + valB b - valB s
def restB (a b s r : Nat) : Nat := if resD a b s = 0 then 0 else sgW (decide (resD a b s < 0)) + r

theorem finB_lt' (x : Nat) (h : finB x = true) : absB x < 9218868437227405312 := by unfold finB at h; simpa using h
theorem valB_abs' (x : Nat) : (valB x).natAbs = rv 52 (absB x) := by unfold valB; split <;> simp

/-- Of finite numbers p, q, the first not the lesser, and their sum s, rounded and finite: what the program reckons. -/
theorem split_pq (p q s R : Nat) (hp : W64 p) (hq : W64 q) (hs : W64 s) (fp : finB p = true) (fq : finB q = true) (fs : finB s = true) (hpq : absB q ≤ absB p) (hR : Near 52 (valB p + valB q).natAbs 1 R) (hsR : absB s = R) (hsg : 0 ≤ valB s * (valB p + valB q)) :
    ∃ t u r, Go.floatBits .sub .f64 s p = some t ∧ Go.floatBits .sub .f64 q t = some u ∧ Go.floatBits .add .f64 u 0 = some (restB p q s r) ∧ r < 9218868437227405312 ∧ rv 52 r = (resD p q s).natAbs := by
  have hS : (valB s).natAbs = rv 52 R := by rw [valB_abs', hsR]
  obtain ⟨h1, h2, h3⟩ := two_sum (valB_abs' p) (valB_abs' q) hpq hR hS hsg
  obtain ⟨r1, e1⟩ := h1
  obtain ⟨r2, e2⟩ := h2
  have lp := finB_lt' p fp
  have lq := finB_lt' q fq
  have ls := finB_lt' s fs
  have b1 : r1 < 9218868437227405312 := by
    have hmax : rv 52 r1 ≤ rv 52 (absB s) ∨ rv 52 r1 ≤ rv 52 (absB p) := by
      rw [e1, ← valB_abs', ← valB_abs']
      have hle : (valB q).natAbs ≤ (valB p).natAbs := by rw [valB_abs', valB_abs']; exact rv_le hpq
      generalize valB p = P at *
      generalize valB q = Q at *
      generalize valB s = S at *
      rcases Int.lt_trichotomy P 0 with g | g | g
      · have hN : P + Q ≤ 0 := by omega
        have : S ≤ 0 ∨ P + Q = 0 := by
          rcases Int.lt_or_le 0 S with h | h
          · right
            refine Decidable.byContradiction fun hc => ?_
            have := Int.mul_neg_of_pos_of_neg h (show P + Q < 0 by omega)
            omega
          · exact .inl h
        rcases this with h | h
        · omega
        · rw [h] at hR
          have hR0 : R = 0 := Near.uniq (by decide) hR (near_zero 52 1 (by decide))
          rw [hR0, rv_zero] at hS
          omega
      · omega
      · have hN : 0 ≤ P + Q := by omega
        have : 0 ≤ S ∨ P + Q = 0 := by
          rcases Int.lt_or_le S 0 with h | h
          · right
            refine Decidable.byContradiction fun hc => ?_
            have := Int.mul_neg_of_neg_of_pos h (show 0 < P + Q by omega)
            omega
          · exact .inl h
        rcases this with h | h
        · omega
        · rw [h] at hR
          have hR0 : R = 0 := Near.uniq (by decide) hR (near_zero 52 1 (by decide))
          rw [hR0, rv_zero] at hS
          omega
    rcases hmax with h | h
    · have := rv_le_iff.1 h; omega
    · have := rv_le_iff.1 h; omega
  have b2 : r2 < 9218868437227405312 := by
    rw [← e2, valB_abs'] at h3
    have := rv_le_iff.1 h3; omega
  obtain ⟨t, g1, g2, g3, g4, g5⟩ := sub_rep s p r1 hs hp fs fp e1.symm b1
  have eD : valB q - valB t = resD p q s := by unfold resD; rw [g4]; omega
  obtain ⟨u, k1, k2, k3, k4, k5⟩ := sub_rep q t r2 hq g2 fq g3 (by rw [eD]; exact e2.symm) b2
  rw [eD] at k4
  obtain ⟨R', m1, m2⟩ := add_D u 0 k2 (by unfold W64; decide) k3 (by decide)
  have v0 : valB 0 = 0 := by decide
  rw [v0, Int.add_zero, k4] at m1 m2
  have hR' : R' = r2 := by
    have := Near.exact 52 r2 1 (by decide)
    rw [Nat.mul_one, e2] at this
    exact Near.uniq (by decide) m1 this
  subst hR'
  refine ⟨t, u, R', g1, k1, ?_, b2, e2⟩
  rw [m2, Nat.min_eq_left (by omega)]
  unfold restB
  by_cases h0 : resD p q s = 0
  · rw [if_pos h0, if_pos h0]
    have : R' = 0 := rv_inj (p := 52) (by rw [e2]; show (resD p q s).natAbs = _; rw [h0, rv_zero]; rfl)
    rw [this]
    have : sgnB 0 = false := by decide
    rw [this, Bool.and_false]; rfl
  · rw [if_neg h0, if_neg h0]

/-- The program's rounded sum of finite numbers, where it is finite. -/
theorem add_val (a b R : Nat) (fa : finB a = true) (fb : finB b = true) (hR : Near 52 (valB a + valB b).natAbs 1 R) (hlt : R < 9218868437227405312) :
    W64 (addB a b R) ∧ finB (addB a b R) = true ∧ absB (addB a b R) = R ∧ 0 ≤ valB (addB a b R) * (valB a + valB b) := by
  have na : nanB a = false ∧ infB a = false := by rw [finB_eq] at fa; simpa using fa
  have nb : nanB b = false ∧ infB b = false := by rw [finB_eq] at fb; simpa using fb
  have hbad : addBad a b = false := by unfold addBad; rw [na.1, nb.1, na.2]; rfl
  have hz0 : valB a + valB b = 0 → R = 0 := fun h0 => by
    rw [h0] at hR
    exact Near.uniq (by decide) hR (near_zero 52 1 (by decide))
  unfold addB
  simp only [hbad, na.2, nb.2, Bool.false_eq_true, if_false]
  by_cases hz : a = 9223372036854775808 ∧ b = 9223372036854775808
  · have h0 : valB a + valB b = 0 := by rw [hz.1, hz.2]; unfold valB; decide
    rw [if_pos hz, hz0 h0, h0]
    exact ⟨by unfold W64; decide, by decide, by decide, by simp⟩
  · rw [if_neg hz]
    by_cases h0 : valB a + valB b = 0
    · rw [if_pos h0, hz0 h0, h0]
      exact ⟨by unfold W64; decide, by decide, by decide, by simp⟩
    · rw [if_neg h0]
      unfold resB
      rw [if_pos hlt]
      obtain ⟨v1, v2, v3⟩ := valB_word (decide (valB a + valB b < 0)) R (by omega)
      refine ⟨v1, by unfold finB; rw [v2]; simpa using hlt, v2, ?_⟩
      rw [v3]
      by_cases h1 : valB a + valB b < 0
      · rw [decide_eq_true h1]
        exact Int.mul_nonneg_of_nonpos_of_nonpos (by unfold sg; simp) (by omega)
      · rw [decide_eq_false h1]
        exact Int.mul_nonneg (by unfold sg; simp) (by omega)

theorem resD_comm (a b s : Nat) : resD b a s = resD a b s := by unfold resD; omega

/-- What the program reckons of two finite numbers whose rounded sum is finite. -/
theorem split_D (a b R : Nat) (ha : W64 a) (hb : W64 b) (fa : finB a = true) (fb : finB b = true) (hR : Near 52 (valB a + valB b).natAbs 1 R) (hlt : R < 9218868437227405312) :
    ∃ t u r, Go.floatBits .sub .f64 (addB a b R) (if absB a < absB b then b else a) = some t ∧ Go.floatBits .sub .f64 (if absB a < absB b then a else b) t = some u ∧ Go.floatBits .add .f64 u 0 = some (restB a b (addB a b R) r) ∧
      r < 9218868437227405312 ∧ rv 52 r = (resD a b (addB a b R)).natAbs := by
  obtain ⟨s1, s2, s3, s4⟩ := add_val a b R fa fb hR hlt
  by_cases h : absB a < absB b
  · rw [if_pos h, if_pos h]
    obtain ⟨t, u, r, g1, g2, g3, g4, g5⟩ := split_pq b a _ R hb ha s1 fb fa s2 (by omega) (by rw [Int.add_comm]; exact hR) s3 (by rw [Int.add_comm (valB b)]; exact s4)
    rw [resD_comm] at g5
    unfold restB at g3
    rw [resD_comm] at g3
    exact ⟨t, u, r, g1, g2, g3, g4, g5⟩
  · rw [if_neg h, if_neg h]
    exact split_pq a b _ R ha hb s1 fa fb s2 (by omega) hR s3 s4

/-! Terms. -/
theorem tsum_val (s1 s2 : Bool) (M1 M2 : Nat) {E1 E2 G : Int} (hG : min E1 E2 = G) (h1 : -1074 ≤ E1) (h2 : -1074 ≤ E2) :
    sg (sumS s1 s2 (M1 * 2^(E1 - G).toNat) (M2 * 2^(E2 - G).toNat)) (sumM s1 s2 (M1 * 2^(E1 - G).toNat) (M2 * 2^(E2 - G).toNat) * 2^(G + LP).toNat) = sg s1 (M1 * 2^(E1 + LP).toNat) + sg s2 (M2 * 2^(E2 + LP).toNat) := by
  rw [sg_mul, sg_sum, term_shift M1 E1 G (by omega) (by omega), term_shift M2 E2 G (by omega) (by omega)]
  simp only [sg_mul, Int.add_mul]
theorem term_zero {s : Bool} {M : Nat} {G V : Int} (h : sg s (M * 2^(G + LP).toNat) = V) : M = 0 ↔ V = 0 := by
  rw [← h, sg_zero]
  have := Nat.two_pow_pos (G + LP).toNat
  rw [Nat.mul_eq_zero]
  omega
theorem term_sign {s : Bool} {M : Nat} {G V : Int} (h : sg s (M * 2^(G + LP).toNat) = V) (h0 : V ≠ 0) : s = decide (V < 0) := by
  have hz := mt (term_zero h).1 h0
  have hp := Nat.two_pow_pos (G + LP).toNat
  have hm : M * 2^(G + LP).toNat ≠ 0 := by rw [Ne, Nat.mul_eq_zero]; omega
  rw [← h]
  have := sg_lt s (M * 2^(G + LP).toNat)
  cases s
  · have h1 : ¬ sg false (M * 2^(G + LP).toNat) < 0 := by rw [this]; simp
    simp [h1]
  · have h1 : sg true (M * 2^(G + LP).toNat) < 0 := by rw [this]; exact ⟨rfl, hm⟩
    simp [h1]
theorem term_near {s : Bool} {M R : Nat} {G V : Int} (h : sg s (M * 2^(G + LP).toNat) = V) (hG : -1074 ≤ G) (hR : Near 52 V.natAbs 1 R) : Near 52 (M * 2^(G + LP).toNat) (1 * 2^(-(G + LP)).toNat) R := by
  have hl := LP_eq
  rw [← h, sg_natAbs] at hR
  rw [show (-(G + (LP : Int))).toNat = 0 by omega]
  exact hR
end Go.Proofs.YtiimjbpfdidgcaaDoor
