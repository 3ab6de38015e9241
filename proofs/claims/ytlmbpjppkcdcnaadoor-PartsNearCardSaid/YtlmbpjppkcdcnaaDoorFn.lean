/- What follows of layer 1: a unit apart; near numbers' difference. Plain mathematics. -/
import Derived.Test.YtlmbpjppkcdcnaaDoorFb
namespace Go.Proofs.YtlmbpjppkcdcnaaDoor
open Ieee

theorem nan_fin (x : Nat) (h : finB x = true) : nanB x = false := by
  rw [finB_eq] at h; revert h; cases nanB x <;> simp
theorem neg_fin (x : Nat) (h : finB x = true) : negB x = sgnB x := (fin_not x h).2
theorem finB_lt (x : Nat) (h : finB x = true) : absB x < 9218868437227405312 := by unfold finB at h; simpa using h

/-- A whole number's place: exact ones. -/
theorem nearest_exact (m : Nat) (e : Int) (r : Nat) (he : -1074 ≤ e) (h : m * 2^(e + 1074).toNat = rv 52 r) (hr : r ≤ 9218868437227405312) : Ieee.double.nearest false m e = r := by
  obtain ⟨R, g1, g2⟩ := nearest_near' Ieee.double (by decide) false m e
  have hl := LP_eq
  rw [D_lp'] at g2
  have hx := Near.exact 52 r 1 (by decide)
  have hR : R = r := by
    refine Near.uniq (by decide) (Near.cross (Nat.two_pow_pos _) (by decide) ?_ g2) hx
    rw [← h, Nat.mul_one, Nat.mul_one, show (e - -(LP : Int)).toNat = (e + 1074).toNat from by omega, show (-(LP : Int) - e).toNat = 0 from by omega, Nat.pow_zero, Nat.mul_one]
  rw [g1, D_inf, hR, Nat.min_eq_left hr]; rfl

/-- Numbers of 53 bits at most, at places that are there, are put together. -/
theorem join_fit (s : Bool) (D : Nat) (L : Int) (hD : D < 9007199254740992) (h1 : -1074 ≤ L) (h2 : L ≤ 971) : ∃ r, r < 9218868437227405312 ∧ rv 52 r = D * 2^(L + 1074).toNat ∧ joinX D L = 0 ∧ joinB s D L = sgW s + r := by
  obtain ⟨r, hr⟩ := rep 52 (L + 1074).toNat D hD
  have hlt : r < 9218868437227405312 := by
    refine (rv_lt_iff (p := 52)).1 ?_
    obtain ⟨x, hx⟩ : ∃ x, x = 2098 := ⟨_, rfl⟩
    rw [hr, pow_rv' 9218868437227405312 2046 x (by decide) (by omega)]
    refine Nat.lt_of_lt_of_le (Nat.mul_lt_mul_of_pos_right hD (Nat.two_pow_pos _)) ?_
    rw [show (9007199254740992 : Nat) = 2^53 from rfl, ← Nat.pow_add]
    exact Nat.pow_le_pow_right (by decide) (by omega)
  refine ⟨r, hlt, hr, ?_⟩
  by_cases z : D = 0
  · subst z
    rw [Nat.zero_mul] at hr
    have : r = 0 := rv_inj (p := 52) (by rw [hr, rv_zero])
    subst this
    exact ⟨rfl, rfl⟩
  · have hW : W64 D := by unfold W64; omega
    obtain ⟨p1, p2, p3, p4⟩ := join_parts D hW z
    have hbl : blen (joO D) + joZ D ≤ 53 := by
      have ho : joO D ≠ 0 := by omega
      obtain ⟨b1, b2, b3⟩ := blen_pos ho
      have : 2^(blen (joO D) - 1 + joZ D) ≤ D := by
        conv => rhs; rw [p1]
        rw [Nat.pow_add]; exact Nat.mul_le_mul_right _ b1
      rcases Nat.lt_or_ge 53 (blen (joO D) + joZ D) with g | g
      · have : 2^53 ≤ 2^(blen (joO D) - 1 + joZ D) := Nat.pow_le_pow_right (by decide) (by omega)
        omega
      · exact g
    have nb : ¬ joBad D L := by unfold joBad; omega
    have hn := nearest_exact (joO D) (L + joZ D) r (by omega) (by
      rw [hr]
      conv => rhs; lhs; rw [p1]
      rw [Nat.mul_assoc, ← Nat.pow_add]; congr 2; omega) (Nat.le_of_lt hlt)
    unfold joinX joinB
    rw [if_neg z, if_neg nb, if_neg z, if_neg nb, hn]; exact ⟨rfl, rfl⟩

theorem sg_word (s : Bool) (r : Nat) (hr : r < 9223372036854775808) : W64 (sgW s + r) ∧ sgnB (sgW s + r) = s ∧ absB (sgW s + r) = r := by
  unfold W64 sgW sgnB absB; cases s <;> simp <;> omega
theorem word_sg (s : Bool) (r : Nat) : Ieee.double.word s r = sgW s + r := by
  unfold Format.word sgW; rw [D_sw]; cases s <;> simp
theorem valB_sg (b : Nat) : valB b = sg (sgnB b) (rv 52 (absB b)) := rfl

/-- The worth of the last bit. -/
theorem unit_val (b : Nat) (h : finB b = true) : unX b = 0 ∧ W64 (unB b) ∧ nanB (unB b) = false ∧ valB (unB b) = ulp 52 (absB b) := by
  have hlt := finB_lt b h
  have hE : unE b = ((absB b / 4503599627370496 - 1 : Nat) : Int) - 1074 := by
    unfold unE
    cases hl : lowB b
    · obtain ⟨e1, e2, e3, e4, e5⟩ := sp_norm b h hl
      have e5 : expB b ≠ 0 := by simpa using e5
      rw [e2, if_neg (by unfold mantB; omega), e3]
      unfold expB absB at *; omega
    · have hd : absB b / 4503599627370496 = 0 := by unfold lowB at hl; simp at hl; omega
      rw [hd]
      cases hz : zeroB b
      · obtain ⟨e1, e2, e3, e4, e5⟩ := sp_sub b h hl hz
        rw [e3]; split <;> rfl
      · obtain ⟨e1, e2, e3, e4, e5⟩ := sp_nought b h hl hz
        rw [if_pos e2]; rfl
  have hd2 : absB b / 4503599627370496 - 1 ≤ 2045 := by omega
  obtain ⟨r, r1, r2, r3, r4⟩ := join_fit false 1 (unE b) (by decide) (by omega) (by omega)
  obtain ⟨s1, s2, s3⟩ := sg_word false r (by omega)
  have hB : unB b = sgW false + r := by unfold unB; rw [if_pos h]; exact r4
  refine ⟨by unfold unX; rw [if_pos h]; exact r3, by rw [hB]; exact s1, ?_, ?_⟩
  · rw [hB]; unfold nanB; rw [s3]; simp; omega
  · rw [valB_sg, hB, s2, s3, r2, Nat.one_mul]
    unfold sg ulp; simp only [Bool.false_eq_true, if_false]
    rw [show (2 : Nat)^52 = 4503599627370496 from rfl]
    congr 2; omega

/-- An exact difference. -/
theorem sub_exact (x y r : Nat) (hx : W64 x) (hy : W64 y) (fx : finB x = true) (fy : finB y = true) (h : (valB x - valB y).natAbs = rv 52 r) (hr : r < 9218868437227405312) : ∃ s, Go.floatBits .sub .f64 x y = some s ∧ W64 s ∧ nanB s = false ∧ valB s = valB x - valB y := by
  obtain ⟨R, g1, g2⟩ := sub_fin Ieee.double (by decide) x y ((fin_D x).2 fx) ((fin_D y).2 fy)
  rw [V_D x hx, V_D y hy, D_inf] at g1
  rw [V_D x hx, V_D y hy, h] at g2
  have hR : R = r := Near.uniq (by decide) g2 (by have := Near.exact 52 r 1 (by decide); rwa [Nat.mul_one] at this)
  rw [hR, Nat.min_eq_left (Nat.le_of_lt hr), word_sg] at g1
  refine ⟨_, g1, ?_⟩
  obtain ⟨s1, s2, s3⟩ := sg_word (if valB x - valB y = 0 then sgn Ieee.double x && !sgn Ieee.double y else decide (valB x - valB y < 0)) r (by omega)
  refine ⟨s1, by unfold nanB; rw [s3]; simp; omega, ?_⟩
  rw [valB_sg, s2, s3, ← h]
  unfold sg
  by_cases z : valB x - valB y = 0
  · rw [z]; simp
  · rw [if_neg z]
    by_cases n : valB x - valB y < 0
    · rw [if_pos (by simpa using n)]; omega
    · rw [if_neg (by simpa using n)]; omega
theorem eq_val (a b : Nat) (ha : W64 a) (hb : W64 b) (na : nanB a = false) (nb : nanB b = false) (h : valB a = valB b) : (Go.FloatKind.f64.format.order a b == some Ordering.eq) = true := by
  show (Ieee.double.order a b == some Ordering.eq) = true
  rw [ord_D a b ha hb na nb, h]; simp

/-- A number and its next: the unit of the one nearer to nought. -/
theorem next_unit (X : Nat) (hX : W64 X) (fX : finB X = true) (fN : finB (nextB X) = true) (nz : (zeroB X && zeroB (nextB X)) = false) :
    ∃ s, Go.floatBits .sub .f64 (nextB X) X = some s ∧
      (Go.FloatKind.f64.format.order s (unB (if absB (nextB X) < absB X then nextB X else X)) == some Ordering.eq) = true ∧ unX (if absB (nextB X) < absB X then nextB X else X) = 0 := by
  have n := nan_fin X fX
  have lt := finB_lt X fX
  have ltN := finB_lt (nextB X) fN
  have p : pinfB X = false := by unfold pinfB; unfold absB at lt; simp; omega
  obtain ⟨k1, k2⟩ := keyB_next X n p
  have e : nextB X = atB (keyB X + 1) := by unfold nextB; rw [n, p]; rfl
  have hN := next_W X hX
  unfold keyB at e
  rw [n, if_neg (by decide)] at e
  have hv := valB_sg X
  have hvN := valB_sg (nextB X)
  cases sx : sgnB X
  · rw [sx, if_neg (by decide)] at e
    have e' : nextB X = absB X + 1 := by rw [e]; unfold atB; rw [if_neg (by omega)]; omega
    have a' : absB (nextB X) = absB X + 1 := by rw [e']; unfold absB at *; omega
    have s' : sgnB (nextB X) = false := by rw [e']; unfold sgnB; simp; omega
    rw [if_neg (by omega)]
    obtain ⟨u1, u2, u3, u4⟩ := unit_val X fX
    rw [sx] at hv; rw [s', a'] at hvN
    have hd : valB (nextB X) - valB X = ulp 52 (absB X) := by rw [hv, hvN]; unfold sg; have := rv_succ 52 (absB X); simp; omega
    obtain ⟨r, hr⟩ := rep 52 (absB X / 2^52 - 1) 1 (by decide)
    have hu : ulp 52 (absB X) = rv 52 r := by rw [hr, Nat.one_mul]; rfl
    have hrl : r < 9218868437227405312 := by
      have h1 : rv 52 r ≤ rv 52 (absB X + 1) := by rw [← hu, rv_succ]; omega
      have := rv_le_iff.1 h1; omega
    obtain ⟨s, g1, g2, g3, g4⟩ := sub_exact (nextB X) X r hN hX fN fX (by rw [hd, hu]; rfl) hrl
    exact ⟨s, g1, eq_val s (unB X) g2 u2 g3 u3 (by rw [g4, hd, u4]), u1⟩
  · rw [sx, if_pos rfl] at e
    have hz : absB X ≠ 0 := by
      intro z
      have z1 : zeroB X = true := by unfold zeroB; simpa using z
      have z2 : zeroB (nextB X) = true := by rw [e, z]; decide
      rw [z1, z2] at nz; cases nz
    have e' : nextB X = 9223372036854775808 + (absB X - 1) := by rw [e]; unfold atB; rw [if_pos (by omega)]; omega
    have a' : absB (nextB X) = absB X - 1 := by rw [e']; unfold absB at *; omega
    have s' : sgnB (nextB X) = true := by rw [e']; unfold sgnB; simp
    rw [if_pos (by omega)]
    obtain ⟨u1, u2, u3, u4⟩ := unit_val (nextB X) fN
    rw [sx] at hv; rw [s', a'] at hvN
    obtain ⟨q, hq⟩ : ∃ q, absB X = q + 1 := ⟨absB X - 1, by omega⟩
    have hd : valB (nextB X) - valB X = ulp 52 (absB (nextB X)) := by
      rw [hv, hvN, a', hq]; unfold sg; have := rv_succ 52 q; simp; omega
    obtain ⟨r, hr⟩ := rep 52 (absB (nextB X) / 2^52 - 1) 1 (by decide)
    have hu : ulp 52 (absB (nextB X)) = rv 52 r := by rw [hr, Nat.one_mul]; rfl
    have hrl : r < 9218868437227405312 := by
      have h1 : rv 52 r ≤ rv 52 (absB (nextB X) + 1) := by rw [← hu, rv_succ]; omega
      have := rv_le_iff.1 h1; omega
    obtain ⟨s, g1, g2, g3, g4⟩ := sub_exact (nextB X) X r hN hX fN fX (by rw [hd, hu]; rfl) hrl
    exact ⟨s, g1, eq_val s _ g2 u2 g3 u3 (by rw [g4, hd, u4]), u1⟩

/-- A half. -/
theorem half_spec (a : Nat) (h : a < 9218868437227405312) : ∃ r, Go.floatBits .quo .f64 a 4611686018427387904 = some r ∧ r < 9218868437227405312 ∧ Near 52 (rv 52 a) 2 r := by
  have aa : absB a = a := by unfold absB; omega
  have sa : sgnB a = false := by unfold sgnB; simp; omega
  have hl := LP_eq
  obtain ⟨R, g1, g2⟩ := div_fin Ieee.double (by decide) (by decide) a 4611686018427387904 (by rw [fin_D]; unfold finB; rw [aa]; simpa using h) (by rw [fin_D]; decide) (by rw [rg_D]; decide)
  rw [sgn_D a (by unfold W64; omega), sgn_D _ (by unfold W64; decide), sa, D_inf] at g1
  rw [rg_D, rg_D, aa, D_lp', show (-(-(LP : Int))).toNat = LP from by omega, show absB 4611686018427387904 = 4611686018427387904 from by decide] at g2
  have g3 : Near 52 (rv 52 a) 2 R := by
    refine Near.cross (by rw [← rv_zero 52]; exact rv_lt (by decide)) (by decide) ?_ g2
    change rv 52 a * 2^LP * 2 = rv 52 a * rv 52 4611686018427387904
    rw [pow_rv' 4611686018427387904 1023 (LP + 1) (by decide) (by omega), Nat.pow_succ, Nat.mul_assoc]
  have hR : R ≤ a := by
    rcases Nat.lt_or_ge a R with lt | ge
    · exfalso
      have h1 : rv 52 a ≤ rv 52 (R-1) := rv_le (by omega)
      have h2 : rv 52 a < rv 52 R := rv_lt lt
      rcases g3.1 with c | c | ⟨c, _⟩ <;> omega
    · exact ge
  refine ⟨R, ?_, by omega, g3⟩
  show Ieee.double.div a 4611686018427387904 = some R
  rw [g1, Nat.min_eq_left (by omega)]; rfl
/-- A half that is a number. -/
theorem half_exact (a r K : Nat) (e : Int) (h : Near 52 (rv 52 a) 2 r) (hv : rv 52 a = K * 2^(e + 1074).toNat) (he : -1073 ≤ e) (hK : K < 9007199254740992) : rv 52 r = K * 2^(e + 1073).toNat := by
  obtain ⟨r', hr'⟩ := rep 52 (e + 1073).toNat K hK
  have e2 : (e + 1074).toNat = (e + 1073).toNat + 1 := by omega
  have : r = r' := by
    refine Near.uniq (by decide) h ?_
    rw [hv, e2, Nat.pow_succ, ← Nat.mul_assoc, ← hr']; exact Near.exact 52 r' 2 (by decide)
  rw [this, hr']
theorem le_of_not_gt (r a : Nat) (hr : r < 9218868437227405312) (ha : a < 9218868437227405312) : (Go.FloatKind.f64.format.order r a == some Ordering.gt) = decide (a < r) := by
  have e : absB r = r := by unfold absB; omega
  have := ord_abs r a (by omega) (by unfold nanB; rw [e]; simp; omega)
  rw [e] at this
  show (Ieee.double.order r a == some Ordering.gt) = _
  rw [this, cmp_gt]

/-- Of two near ones: the exponents differ by one at most; then the difference fits. -/
theorem near_exps (ax ay m n hx hy : Nat) (e f : Int) (vx : rv 52 ax = m * 2^(e + 1074).toNat) (vy : rv 52 ay = n * 2^(f + 1074).toNat) (he : -1074 ≤ e) (hf : -1074 ≤ f)
    (m1 : m < 9007199254740992) (n1 : n < 9007199254740992) (me : -1073 ≤ e → 4503599627370496 ≤ m) (nf : -1073 ≤ f → 4503599627370496 ≤ n)
    (Hx : Near 52 (rv 52 ax) 2 hx) (Hy : Near 52 (rv 52 ay) 2 hy) (lx : hx ≤ ay) (ly : hy ≤ ax) :
    f ≤ e + 1 ∧ e ≤ f + 1 ∧ (e = f + 1 → m ≤ n) ∧ (f = e + 1 → n ≤ m) := by
  have key : ∀ (ax ay m n hy : Nat) (e f : Int), rv 52 ax = m * 2^(e + 1074).toNat → rv 52 ay = n * 2^(f + 1074).toNat → -1074 ≤ e → m < 9007199254740992 → n < 9007199254740992 → (-1073 ≤ f → 4503599627370496 ≤ n) →
      Near 52 (rv 52 ay) 2 hy → hy ≤ ax → f ≤ e + 1 ∧ (f = e + 1 → n ≤ m) := by
    intro ax ay m n hy e f vx vy he m1 n1 nf Hy ly
    have h4 : rv 52 hy ≤ rv 52 ax := rv_le ly
    constructor
    · rcases Int.lt_or_le (e + 1) f with g | g
      · exfalso
        have h1 := half_exact ay hy n f Hy vy (by omega) n1
        have h2 := nf (by omega)
        rw [h1, vx] at h4
        have h5 : 4503599627370496 * 2^(f + 1073).toNat ≤ n * 2^(f + 1073).toNat := Nat.mul_le_mul_right _ h2
        have h6 : m * 2^(e + 1074).toNat < 9007199254740992 * 2^(e + 1074).toNat := Nat.mul_lt_mul_of_pos_right m1 (Nat.two_pow_pos _)
        have h7 : 2^((e + 1074).toNat + 1) ≤ 2^(f + 1073).toNat := Nat.pow_le_pow_right (by decide) (by omega)
        rw [Nat.pow_succ] at h7
        omega
      · exact g
    · intro g
      have h1 := half_exact ay hy n f Hy vy (by omega) n1
      rw [h1, vx, show (f + 1073).toNat = (e + 1074).toNat from by omega] at h4
      exact Nat.le_of_mul_le_mul_right h4 (Nat.two_pow_pos _)
  obtain ⟨a1, a2⟩ := key ax ay m n hy e f vx vy he m1 n1 nf Hy ly
  obtain ⟨b1, b2⟩ := key ay ax n m hx f e vy vx hf n1 m1 me Hx lx
  exact ⟨a1, b1, b2, a2⟩

theorem near_final (X Y D : Nat) (L : Int) (less : Bool) (hX : W64 X) (hY : W64 Y) (fX : finB X = true) (fY : finB Y = true) (hs : sgnB X = sgnB Y)
    (hD : D < 9007199254740992) (h1 : -1074 ≤ L) (h2 : L ≤ 971) (hv : if less then rv 52 (absB X) + D * 2^(L + 1074).toNat = rv 52 (absB Y) else rv 52 (absB Y) + D * 2^(L + 1074).toNat = rv 52 (absB X)) :
    ∃ s, Go.floatBits .sub .f64 X Y = some s ∧ joinX D L = 0 ∧ (Go.FloatKind.f64.format.order (joinB (sgnB X != less) D L) s == some Ordering.eq) = true := by
  obtain ⟨r, r1, r2, r3, r4⟩ := join_fit (sgnB X != less) D L hD h1 h2
  obtain ⟨s1, s2, s3⟩ := sg_word (sgnB X != less) r (by omega)
  have hx := valB_sg X
  have hy := valB_sg Y
  rw [← hs] at hy
  rw [← r2] at hv
  have hd : valB X - valB Y = sg (sgnB X != less) (rv 52 r) := by
    rw [hx, hy]; unfold sg
    revert hv; cases sgnB X <;> cases less <;> simp <;> omega
  obtain ⟨s, g1, g2, g3, g4⟩ := sub_exact X Y r hX hY fX fY (by rw [hd]; unfold sg; cases (sgnB X != less) <;> simp) r1
  refine ⟨s, g1, r3, ?_⟩
  rw [r4]
  refine eq_val _ _ s1 g2 (by unfold nanB; rw [s3]; simp; omega) g3 ?_
  rw [g4, hd, valB_sg, s2, s3]
end Go.Proofs.YtlmbpjppkcdcnaaDoor
