/- binary32: which numbers it has, narrowing and widening; a number's last bit's worth. Plain mathematics. -/
import Derived.Test.YtlmbpjppkcdcnaaDoorFj
namespace Go.Proofs.YtlmbpjppkcdcnaaDoor
open Ieee

theorem S_sw : Ieee.single.signWeight = 2147483648 := by decide
theorem S_inf : Ieee.single.infRung = 2139095040 := by decide
theorem S_ok : Ieee.single.binade ≤ Ieee.single.infRung := by decide
/-- 149, and 1074 - 149, that powers are not worked out. -/
def LS : Nat := 149
theorem LS_eq : LS = 149 := rfl
attribute [irreducible] LS
theorem S_lp : Ieee.single.leastPlace = -(LS : Int) := by rw [LS_eq]; decide
def LD : Nat := 925
theorem LD_eq : LD = 925 := rfl
attribute [irreducible] LD
def LI : Nat := 277
theorem LI_eq : LI = 277 := rfl
attribute [irreducible] LI

/-- Every K 2^q with K of p + 1 bits is on a rung. -/
theorem rep (p : Nat) : ∀ (q K : Nat), K < 2^(p+1) → ∃ r, rv p r = K * 2^q
  | 0, K, h => ⟨K, by rw [Nat.pow_succ] at h; have := rv_qK p 0 K (by omega) (by omega); simpa using this⟩
  | q + 1, K, h => by
    rw [Nat.pow_succ] at h
    by_cases c : 2^p ≤ K
    · exact ⟨(q+1) * 2^p + K, rv_qK p (q+1) K (by omega) (fun _ => c)⟩
    · obtain ⟨r, hr⟩ := rep p q (2 * K) (by rw [Nat.pow_succ]; omega)
      exact ⟨r, by rw [hr, Nat.pow_succ]; simp only [Nat.mul_comm, Nat.mul_assoc]⟩
/-- And each rung is such a one. -/
theorem rung_form (p r : Nat) : ∃ K q, K < 2^(p+1) ∧ rv p r = K * 2^q ∧ (r < 2^p → q = 0 ∧ K = r) := by
  by_cases h : r < 2^p
  · exact ⟨r, 0, by rw [Nat.pow_succ]; omega, by rw [rv_small h]; simp, fun _ => ⟨rfl, rfl⟩⟩
  · obtain ⟨q, t, ht, rfl⟩ := split_rung p r h
    exact ⟨2^p + t, q, by rw [Nat.pow_succ]; omega, rv_form p q t (by omega), fun h' => absurd h' h⟩

theorem odd_pow {o K x y : Nat} (ho : o % 2 = 1) (e : K * 2^x = o * 2^y) : x ≤ y ∧ K = o * 2^(y-x) := by
  by_cases c : x ≤ y
  · refine ⟨c, ?_⟩
    rw [show y = (y - x) + x from by omega, Nat.pow_add, ← Nat.mul_assoc] at e
    exact Nat.eq_of_mul_eq_mul_right (Nat.two_pow_pos x) e
  · exfalso
    rw [show x = (x - y - 1) + 1 + y from by omega, Nat.pow_add, ← Nat.mul_assoc, Nat.pow_succ, ← Nat.mul_assoc] at e
    have := Nat.eq_of_mul_eq_mul_right (Nat.two_pow_pos y) e
    omega

theorem rv_inf23 : rv 23 2139095040 = 2^LI := by
  obtain ⟨x, hx⟩ : ∃ x, x = 254 := ⟨_, rfl⟩
  have hi := LI_eq
  rw [show (2139095040 : Nat) = 254 * 2^23 + 2^23 from by decide, ← hx, rv_qK 23 x (2^23) (by decide) (fun _ => Nat.le_refl _), ← Nat.pow_add]
  congr 1; omega

/-- A magnitude (in units of 2^-1074) that binary32 has. -/
def RepS (v : Nat) : Prop := ∃ r, r < 2139095040 ∧ rv 23 r * 2^LD = v
theorem repS_iff (o : Nat) (e : Int) (ho : o % 2 = 1) (he : -1074 ≤ e) : RepS (o * 2^(e + 1074).toNat) ↔ (o < 16777216 ∧ -149 ≤ e ∧ e + blen o - 1 ≤ 127) := by
  have hd := LD_eq
  have hi := LI_eq
  have ho0 : o ≠ 0 := by omega
  obtain ⟨b1, b2, b3⟩ := blen_pos ho0
  constructor
  · rintro ⟨r, hr, hv⟩
    obtain ⟨K, q, hK, hq, _⟩ := rung_form 23 r
    rw [hq, Nat.mul_assoc, ← Nat.pow_add] at hv
    obtain ⟨h1, h2⟩ := odd_pow ho hv
    have h3 : o ≤ K := by rw [h2]; exact Nat.le_mul_of_pos_right _ (Nat.two_pow_pos _)
    have h4 : rv 23 r < 2^LI := by rw [← rv_inf23]; exact rv_lt hr
    have h5 : 2^(blen o - 1 + (e + 1074).toNat) ≤ rv 23 r * 2^LD := by
      rw [hq, Nat.mul_assoc, ← Nat.pow_add, hv, Nat.pow_add]; exact Nat.mul_le_mul_right _ b1
    have h6 : rv 23 r * 2^LD < 2^(LI + LD) := by rw [Nat.pow_add 2 LI]; exact Nat.mul_lt_mul_of_pos_right h4 (Nat.two_pow_pos _)
    have h7 : blen o - 1 + (e + 1074).toNat < LI + LD := (Nat.pow_lt_pow_iff_right (by decide)).1 (Nat.lt_of_le_of_lt h5 h6)
    refine ⟨by omega, by omega, by omega⟩
  · rintro ⟨h1, h2, h3⟩
    obtain ⟨r, hr⟩ := rep 23 (e + 149).toNat o h1
    refine ⟨r, ?_, ?_⟩
    · refine (rv_lt_iff (p := 23)).1 ?_
      rw [hr, rv_inf23]
      refine Nat.lt_of_lt_of_le (Nat.mul_lt_mul_of_pos_right b2 (Nat.two_pow_pos _)) ?_
      rw [← Nat.pow_add]; exact Nat.pow_le_pow_right (by decide) (by omega)
    · rw [hr, Nat.mul_assoc, ← Nat.pow_add]; congr 2; omega

/-- The value of a finite number, by its parts. -/
theorem sp_val (b : Nat) (h : finB b = true) : rv 52 (absB b) = spM b * 2^(spE b + 1074).toNat := by
  cases hl : lowB b
  · obtain ⟨e1, e2, e3, e4, e5⟩ := sp_norm b h hl
    rw [e2, e3]
    have e5 : expB b ≠ 0 := by simpa using e5
    have hb : absB b = (expB b - 1) * 4503599627370496 + mantB b := by
      unfold finB absB at h; simp at h
      unfold mantB fracB expB absB at *; omega
    rw [hb, rv_kq _ _ (by unfold mantB; have := fracB_lt b; omega) (by unfold mantB; omega)]
    congr 2; omega
  · have hb : absB b = fracB b := by
      unfold lowB absB at hl; simp at hl; unfold fracB absB; omega
    have hs : rv 52 (absB b) = fracB b := by rw [hb]; exact rv_small (fracB_lt b)
    cases hz : zeroB b
    · obtain ⟨e1, e2, e3, e4, e5⟩ := sp_sub b h hl hz
      rw [e2, e3, hs]; simp
    · obtain ⟨e1, e2, e3, e4, e5, e6⟩ := sp_nought b h hl hz
      rw [e2, e3, hs]; simp at e6; omega

/-- Has binary32 the value of a number (or is it a nought, an infinity, the NaN)? -/
def singB (b : Nat) : Bool := !finB b || zeroB b || decide (joO (spM b) < 16777216 ∧ -149 ≤ spE b + joZ (spM b) ∧ spE b + joZ (spM b) + blen (joO (spM b)) - 1 ≤ 127)
theorem spM_W (b : Nat) : W64 (spM b) := by
  have := fracB_lt b
  unfold W64 spM mantB; split <;> (try split) <;> (try split) <;> omega
theorem spM_zero (b : Nat) (h : finB b = true) (hz : zeroB b = false) : spM b ≠ 0 := by
  cases hl : lowB b
  · obtain ⟨e1, e2, e3, e4, e5⟩ := sp_norm b h hl
    rw [e2]; unfold mantB; omega
  · obtain ⟨e1, e2, e3, e4, e5, e6⟩ := sp_sub b h hl hz
    rw [e2]; simpa using e6
theorem spE_lo (b : Nat) : -1074 ≤ spE b ∧ spE b ≤ 972 := by
  have := expB_le b
  unfold spE; split
  · omega
  · split
    · omega
    · split
      · omega
      · rename_i h; have : expB b ≠ 0 := by have := exp_zero b; rw [Bool.eq_false_iff.2 h] at this; simpa using this
        omega
theorem singB_rep (b : Nat) (h : finB b = true) : singB b = true ↔ RepS (rv 52 (absB b)) := by
  unfold singB
  rw [h]
  cases hz : zeroB b
  · have h0 := spM_zero b h hz
    obtain ⟨p1, p2, p3, p4⟩ := join_parts (spM b) (spM_W b) h0
    have hv : rv 52 (absB b) = joO (spM b) * 2^(spE b + joZ (spM b) + 1074).toNat := by
      rw [sp_val b h]
      conv => lhs; lhs; rw [p1]
      rw [Nat.mul_assoc, ← Nat.pow_add]
      have := (spE_lo b).1
      congr 2; omega
    rw [hv, repS_iff _ _ p2 (by have := (spE_lo b).1; omega)]
    simp
  · have : absB b = 0 := by unfold zeroB at hz; simpa using hz
    rw [this, rv_zero]
    simp
    exact ⟨0, by decide, by rw [rv_zero, Nat.zero_mul]⟩

theorem rg_S (w : Nat) : rg Ieee.single w = w % 2147483648 := by unfold rg; rw [S_sw]

/-- Narrowed: the nearest single. -/
theorem narrow (b : Nat) (hb : W64 b) (hf : finB b = true) : ∃ R, Ieee.single.write (Ieee.double.read b) = Ieee.single.word (sgnB b) (min R 2139095040) ∧ Near 23 (rv 52 (absB b)) (2^LD) R := by
  obtain ⟨m, k, h1, h2, _⟩ := read_num Ieee.double b ((fin_D b).2 hf)
  rw [h1, sgn_D b hb, D_lp']
  rw [rg_D] at h2
  have hp := LP_eq
  have hs := LS_eq
  have hd := LD_eq
  obtain ⟨R, g1, g2⟩ := nearest_near' Ieee.single (by decide) (sgnB b) m (-(LP : Int) + k)
  rw [S_inf] at g1
  rw [S_lp] at g2
  refine ⟨R, g1, Near.cross (Nat.two_pow_pos _) (Nat.two_pow_pos _) ?_ g2⟩
  change m * 2^_ * 2^LD = rv 52 (absB b) * 2^_
  rw [← (show m * 2^k = rv 52 (absB b) from h2), Nat.mul_assoc, Nat.mul_assoc, ← Nat.pow_add, ← Nat.pow_add]
  congr 2; omega

/-- The bits of the greatest single, as a number. -/
theorem rv_max32 : rv 52 5183643170566569984 = rv 23 2139095039 * 2^LD := by
  obtain ⟨x, hx⟩ : ∃ x, x = 1149 := ⟨_, rfl⟩
  obtain ⟨y, hy⟩ : ∃ y, y = 253 := ⟨_, rfl⟩
  have hd := LD_eq
  rw [show (5183643170566569984 : Nat) = 1149 * 4503599627370496 + 9007198717870080 from by decide, ← hx, rv_kq x _ (by decide) (by decide)]
  rw [show (2139095039 : Nat) = 253 * 2^23 + 16777215 from by decide, ← hy, rv_qK 23 y 16777215 (by decide) (fun _ => by decide)]
  rw [Nat.mul_assoc, ← Nat.pow_add, show (9007198717870080 : Nat) = 16777215 * 2^29 from by decide, Nat.mul_assoc, ← Nat.pow_add]
  congr 2; omega
theorem narrow_in (b R : Nat) (h : absB b ≤ 5183643170566569984) (n : Near 23 (rv 52 (absB b)) (2^LD) R) : R < 2139095040 := by
  rcases Nat.lt_or_ge R 2139095040 with g | g
  · exact g
  · exfalso
    have h1 : rv 52 (absB b) ≤ rv 23 2139095039 * 2^LD := by rw [← rv_max32]; exact rv_le h
    have h2 : rv 23 2139095039 ≤ rv 23 (R-1) := rv_le (by omega)
    have h3 : rv 23 2139095039 < rv 23 R := rv_lt (by omega)
    have h4 : (rv 23 2139095039 + rv 23 2139095039) * 2^LD < (rv 23 (R-1) + rv 23 R) * 2^LD := Nat.mul_lt_mul_of_pos_right (by omega) (Nat.two_pow_pos _)
    have h5 : (rv 23 2139095039 + rv 23 2139095039) * 2^LD = 2 * (rv 23 2139095039 * 2^LD) := by rw [← Nat.two_mul, Nat.mul_assoc]
    rcases n.1 with c | c | ⟨c, _⟩ <;> omega

/-- Widened: exactly. -/
theorem widen (s : Bool) (R : Nat) (hR : R < 2139095040) : ∃ c, Ieee.double.write (Ieee.single.read (Ieee.single.word s R)) = c ∧ W64 c ∧ finB c = true ∧ sgnB c = s ∧ rv 52 (absB c) = rv 23 R * 2^LD := by
  have hsw : R < Ieee.single.signWeight := by rw [S_sw]; omega
  obtain ⟨m, k, h1, h2, _⟩ := read_num Ieee.single (Ieee.single.word s R) (by unfold fin; rw [rg_word _ _ hsw, S_inf]; exact hR)
  rw [sgn_word _ _ hsw] at h1
  rw [rg_word _ _ hsw] at h2
  have hp := LP_eq
  have hs := LS_eq
  have hd := LD_eq
  obtain ⟨R', g1, g2⟩ := nearest_near' Ieee.double (by decide) s m (-(LS : Int) + k)
  obtain ⟨K, q, hK, hq, _⟩ := rung_form 23 R
  obtain ⟨r, hr⟩ := rep 52 (q + LD) K (Nat.lt_of_lt_of_le hK (Nat.pow_le_pow_right (by decide) (by decide)))
  have hv : rv 52 r = rv 23 R * 2^LD := by rw [hr, hq, Nat.mul_assoc, ← Nat.pow_add]
  have hx := Near.exact 52 r 1 (by decide)
  rw [D_lp'] at g2
  have hRr : R' = r := by
    refine Near.uniq (by decide) (Near.cross (Nat.two_pow_pos _) (by decide) ?_ g2) hx
    rw [hv, ← (show m * 2^k = rv 23 R from h2), Nat.mul_one, Nat.mul_one]
    change m * 2^_ = m * 2^k * 2^LD * 2^_
    rw [Nat.mul_assoc, Nat.mul_assoc, ← Nat.pow_add, ← Nat.pow_add]
    congr 2; omega
  have hlt : r < 9218868437227405312 := by
    refine (rv_lt_iff (p := 52)).1 ?_
    rw [hv]
    refine Nat.lt_trans (Nat.mul_lt_mul_of_pos_right (show rv 23 R < 2^LI by rw [← rv_inf23]; exact rv_lt hR) (Nat.two_pow_pos _)) ?_
    obtain ⟨x, hx⟩ : ∃ x, x = 2098 := ⟨_, rfl⟩
    have hi := LI_eq
    rw [pow_rv' 9218868437227405312 2046 x (by decide) (by omega), ← Nat.pow_add]
    exact Nat.pow_lt_pow_right (by decide) (by omega)
  refine ⟨Ieee.double.word s r, ?_, ?_⟩
  · rw [h1, S_lp]; show Ieee.double.nearest s m _ = _
    rw [g1, hRr, D_inf, Nat.min_eq_left (Nat.le_of_lt hlt)]
  · have e1 : absB (Ieee.double.word s r) = r := by rw [← rg_D]; exact rg_word _ _ (by rw [D_sw]; omega)
    have e0 : W64 (Ieee.double.word s r) := by unfold W64 Format.word; rw [D_sw]; split <;> omega
    refine ⟨e0, ?_, ?_, by rw [e1, hv]⟩
    · unfold finB; rw [e1]; simpa using hlt
    · rw [← sgn_D _ e0]; exact sgn_word _ _ (by rw [D_sw]; omega)

/-- float64(float32(x)) == x: just where binary32 has it. -/
theorem single_back (b : Nat) (hb : W64 b) (hf : finB b = true) (h : absB b ≤ 5183643170566569984) : ∃ r c, Go.floatToFloatBits .f64 b .f32 = some r ∧ Go.floatToFloatBits .f32 r .f64 = some c ∧ (Go.FloatKind.f64.format.order c b == some Ordering.eq) = singB b := by
  obtain ⟨R, g1, g2⟩ := narrow b hb hf
  have hR := narrow_in b R h g2
  rw [Nat.min_eq_left (by omega)] at g1
  obtain ⟨c, w1, w2, w3, w4, w5⟩ := widen (sgnB b) R hR
  have hsw : R < Ieee.single.signWeight := by rw [S_sw]; omega
  have hfin : fin Ieee.single (Ieee.single.word (sgnB b) R) := by unfold fin; rw [rg_word _ _ hsw, S_inf]; exact hR
  obtain ⟨m, k, h1, h2, _⟩ := read_num Ieee.double b ((fin_D b).2 hf)
  obtain ⟨m', k', h1', h2', _⟩ := read_num Ieee.single _ hfin
  obtain ⟨m'', k'', h1'', h2'', _⟩ := read_num Ieee.double c ((fin_D c).2 w3)
  rw [h1] at g1
  rw [h1'] at w1
  refine ⟨Ieee.single.word (sgnB b) R, c, ?_, ?_, ?_⟩
  · unfold Go.floatToFloatBits
    rw [if_neg (by decide)]
    show (match Ieee.double.read b with | .nan _ _ => none | .infinity s => some (Ieee.single.write (.infinity s)) | .number s m e => if (Ieee.single.read (Ieee.single.write (.number s m e))).isInfinity then none else some (Ieee.single.write (.number s m e))) = _
    rw [h1]; dsimp only; rw [g1, h1']; rfl
  · unfold Go.floatToFloatBits
    rw [if_neg (by decide)]
    show (match Ieee.single.read (Ieee.single.word (sgnB b) R) with | .nan _ _ => none | .infinity s => some (Ieee.double.write (.infinity s)) | .number s m e => if (Ieee.double.read (Ieee.double.write (.number s m e))).isInfinity then none else some (Ieee.double.write (.number s m e))) = _
    rw [h1']; dsimp only; rw [w1, h1'']; rfl
  · show (Ieee.double.order c b == some Ordering.eq) = singB b
    have nf : ∀ x, finB x = true → nanB x = false := fun x hx => by rw [finB_eq] at hx; revert hx; cases nanB x <;> simp
    rw [ord_D c b w2 hb (nf c w3) (nf b hf), Bool.eq_iff_iff, singB_rep b hf]
    have : (some (compare (valB c) (valB b)) == some Ordering.eq) = true ↔ valB c = valB b := by simp
    rw [this]
    unfold valB
    rw [w4, w5]
    constructor
    · intro e
      refine ⟨R, hR, ?_⟩
      generalize rv 23 R * 2^LD = v at *
      generalize rv 52 (absB b) = v' at *
      revert e; cases sgnB b <;> simp <;> omega
    · rintro ⟨r, hr, hv⟩
      have := Near.exact 23 r (2^LD) (Nat.two_pow_pos _)
      rw [hv] at this
      have := Near.uniq (Nat.two_pow_pos _) g2 this
      subst this
      rw [hv]
theorem single_over (b : Nat) (hf : finB b = true) (h : ¬ absB b ≤ 5183643170566569984) : singB b = false := by
  cases hs : singB b
  · rfl
  · exfalso
    obtain ⟨r, hr, hv⟩ := (singB_rep b hf).1 hs
    have h1 : rv 52 (absB b) ≤ rv 52 5183643170566569984 := by
      rw [← hv, rv_max32]; exact Nat.mul_le_mul_right _ (rv_le (by omega))
    exact h (rv_le_iff.1 h1)

/-! The worth of a number's last bit. -/
def unE (b : Nat) : Int := if spM b = 0 then -1074 else spE b
def unB (b : Nat) : Nat := if finB b then joinB false 1 (unE b) else 0
def unX (b : Nat) : Int := if finB b then joinX 1 (unE b) else 10
end Go.Proofs.YtlmbpjppkcdcnaaDoor
