/- binary64 by its bits: kinds, signs, values, the order; and what a walk writes of them, said plainly. Nothing of the program. -/
import Derived.Test.YtlmbpjppkcdcnaaDoorFl
import GoSem.Core.Float
import Derived.WalkKit
import Derived.WalkLawsBesides
namespace Go.Proofs.YtlmbpjppkcdcnaaDoor
open Ieee

theorem D_sw : Ieee.double.signWeight = 9223372036854775808 := by decide
theorem D_inf : Ieee.double.infRung = 9218868437227405312 := by decide
theorem D_lp : Ieee.double.leastPlace = -1074 := by decide
theorem D_ok : Ieee.double.binade ≤ Ieee.double.infRung := by decide

/-- A word of 64 bits. -/
def W64 (b : Nat) : Prop := b < 18446744073709551616
def absB (b : Nat) : Nat := b % 9223372036854775808
def sgnB (b : Nat) : Bool := decide (9223372036854775808 ≤ b)
def sgnW (b : Nat) : Nat := if sgnB b then 9223372036854775808 else 0
def nanB (b : Nat) : Bool := decide (9218868437227405312 < absB b)
def infB (b : Nat) : Bool := decide (absB b = 9218868437227405312)
def zeroB (b : Nat) : Bool := decide (absB b = 0)
def lowB (b : Nat) : Bool := decide (absB b < 4503599627370496)
def negB (b : Nat) : Bool := !nanB b && sgnB b
def finB (b : Nat) : Bool := decide (absB b < 9218868437227405312)
def clsB (b : Nat) : Int := if nanB b then 1 else if infB b then 2 else if zeroB b then 3 else if lowB b then 4 else 5
def theNaN : Nat := 9221120237041090560
def oneB (b : Nat) : Nat := if nanB b then theNaN else b
def keyB (b : Nat) : Int := if nanB b then 9223372036854775807 else if sgnB b then -(absB b : Int) - 1 else absB b
def atB (k : Int) : Nat := if k < 0 then 9223372036854775808 + (-k - 1).toNat else k.toNat
/-- The value in units of 2^-1074. -/
def valB (b : Nat) : Int := if sgnB b then -(rv 52 (absB b) : Int) else rv 52 (absB b)

theorem rg_D (b : Nat) : rg Ieee.double b = absB b := by unfold rg absB; rw [D_sw]
theorem sgn_D (b : Nat) (h : W64 b) : sgn Ieee.double b = sgnB b := by
  unfold sgn sgnB; rw [D_sw]; unfold W64 at h
  rw [Bool.eq_iff_iff]; simp; omega
theorem V_D (b : Nat) (h : W64 b) : V Ieee.double b = valB b := by
  unfold V valB; rw [sgn_D b h, rg_D]; rfl
theorem fin_D (b : Nat) : fin Ieee.double b ↔ finB b = true := by
  unfold fin finB; rw [rg_D, D_inf]; simp
theorem absB_lt (b : Nat) : absB b < 9223372036854775808 := Nat.mod_lt _ (by decide)
theorem absB_W (b : Nat) : W64 (absB b) := by unfold W64; have := absB_lt b; omega
theorem absB_abs (b : Nat) : absB (absB b) = absB b := by unfold absB; omega
theorem sgnB_abs (b : Nat) : sgnB (absB b) = false := by unfold sgnB; have := absB_lt b; simp; omega
theorem split_B (b : Nat) (h : W64 b) : b = sgnW b + absB b := by
  unfold W64 at h; unfold sgnW sgnB absB; split <;> simp_all <;> omega
theorem valB_abs (b : Nat) : valB (absB b) = rv 52 (absB b) := by unfold valB; rw [sgnB_abs, absB_abs]; rfl

/-- The order of two that are no NaN. -/
theorem ord_D (x y : Nat) (hx : W64 x) (hy : W64 y) (nx : nanB x = false) (ny : nanB y = false) : Ieee.double.order x y = some (compare (valB x) (valB y)) := by
  rw [← V_D x hx, ← V_D y hy]
  refine order_all Ieee.double D_ok x y ?_ ?_
  · rw [rg_D, D_inf]; unfold nanB at nx; simpa using nx
  · rw [rg_D, D_inf]; unfold nanB at ny; simpa using ny
theorem ord_D_nan_left (x y : Nat) (nx : nanB x = true) : Ieee.double.order x y = none :=
  order_nan_left Ieee.double D_ok x y (by rw [rg_D, D_inf]; unfold nanB at nx; simpa using nx)
theorem ord_D_nan_right (x y : Nat) (ny : nanB y = true) : Ieee.double.order x y = none :=
  order_nan_right Ieee.double D_ok x y (by rw [rg_D, D_inf]; unfold nanB at ny; simpa using ny)
theorem cmp_rv (x y : Nat) : compare ((rv 52 x : Nat) : Int) (rv 52 y : Nat) = compare x y := by
  show (if ((rv 52 x : Nat) : Int) < (rv 52 y : Nat) then Ordering.lt else if ((rv 52 x : Nat) : Int) = (rv 52 y : Nat) then .eq else .gt) = (if x < y then Ordering.lt else if x = y then .eq else .gt)
  have h1 : ((rv 52 x : Nat) : Int) < (rv 52 y : Nat) ↔ x < y := by rw [Int.ofNat_lt, rv_lt_iff]
  have h2 : ((rv 52 x : Nat) : Int) = (rv 52 y : Nat) ↔ x = y := by rw [Int.ofNat_inj]; exact ⟨rv_inj, fun h => h ▸ rfl⟩
  simp only [h1, h2]
/-- A magnitude against a magnitude. -/
theorem ord_abs (b c : Nat) (hc : c ≤ 9218868437227405312) (nb : nanB b = false) : Ieee.double.order (absB b) c = some (compare (absB b) c) := by
  have hcl : c < 9223372036854775808 := by omega
  have e : c = absB c := by unfold absB; rw [Nat.mod_eq_of_lt hcl]
  rw [ord_D _ _ (absB_W b) (by unfold W64; omega) (by unfold nanB at *; rw [absB_abs]; exact nb) (by unfold nanB; rw [← e]; simp; exact hc)]
  rw [valB_abs, e, valB_abs, cmp_rv]
theorem cmp_neg (a b : Int) : compare (-a) (-b) = compare b a := by
  show (if -a < -b then Ordering.lt else if -a = -b then .eq else .gt) = (if b < a then Ordering.lt else if b = a then .eq else .gt)
  have h1 : (-a < -b) ↔ b < a := by omega
  have h2 : (-a = -b) ↔ b = a := by omega
  simp only [h1, h2]
theorem cmp_gt (x y : Nat) : (some (compare x y) == some Ordering.gt) = decide (y < x) := by
  show (some (if x < y then Ordering.lt else if x = y then .eq else .gt) == _) = _
  by_cases h : x < y
  · rw [if_pos h]; have : ¬ y < x := by omega
    simp [this]
  · rw [if_neg h]; by_cases e : x = y
    · rw [if_pos e]; subst e; simp
    · rw [if_neg e]; have : y < x := by omega
      simp [this]
theorem cmp_lt (x y : Nat) : (some (compare x y) == some Ordering.lt) = decide (x < y) := by
  show (some (if x < y then Ordering.lt else if x = y then .eq else .gt) == _) = _
  by_cases h : x < y
  · rw [if_pos h]; simp [h]
  · rw [if_neg h]; by_cases e : x = y
    · rw [if_pos e]; simp [h]
    · rw [if_neg e]; simp [h]
theorem cmp_eq (x y : Nat) : (some (compare x y) == some Ordering.eq) = decide (x = y) := by
  show (some (if x < y then Ordering.lt else if x = y then .eq else .gt) == _) = _
  by_cases h : x < y
  · rw [if_pos h]; have : ¬ x = y := by omega
    simp [this]
  · rw [if_neg h]; by_cases e : x = y
    · rw [if_pos e]; subst e; simp
    · rw [if_neg e]; simp [e]

/-! What the walk writes, said plainly. -/
@[go_sem] theorem w_ne_self (b : Nat) : (Go.FloatKind.f64.format.order b b != some Ordering.eq) = nanB b := by
  show (Ieee.double.order b b != some Ordering.eq) = nanB b
  cases n : nanB b
  · have hb := n
    unfold nanB at hb
    have : Ieee.double.order b b = some .eq := by
      have := order_all Ieee.double D_ok b b (by rw [rg_D, D_inf]; simpa using hb) (by rw [rg_D, D_inf]; simpa using hb)
      rw [this]; simp
    rw [this]; rfl
  · rw [ord_D_nan_left b b n]; rfl
@[go_sem] theorem w_eq_self (b : Nat) : (Go.FloatKind.f64.format.order b b == some Ordering.eq) = !nanB b := by
  have := w_ne_self b
  simp only [bne] at this
  rw [← this]; simp
theorem order_abs_nan (b c : Nat) (n : nanB b = true) : Go.FloatKind.f64.format.order (absB b) c = none :=
  ord_D_nan_left (absB b) c (by unfold nanB at *; rw [absB_abs]; exact n)
@[go_sem] theorem w_abs_gt_max (b : Nat) : (Go.FloatKind.f64.format.order (absB b) 9218868437227405311 == some Ordering.gt) = infB b := by
  cases n : nanB b
  · have hb := n; unfold nanB at hb
    rw [show Go.FloatKind.f64.format = Ieee.double from rfl, ord_abs b _ (by decide) n, cmp_gt]
    unfold infB; simp at hb; rw [decide_eq_decide]; omega
  · rw [order_abs_nan b _ n]; unfold nanB at n; unfold infB; simp at n ⊢; omega
@[go_sem] theorem w_abs_eq_zero (b : Nat) : (Go.FloatKind.f64.format.order (absB b) 0 == some Ordering.eq) = zeroB b := by
  cases n : nanB b
  · rw [show Go.FloatKind.f64.format = Ieee.double from rfl, ord_abs b _ (by decide) n, cmp_eq]; rfl
  · rw [order_abs_nan b _ n]; unfold nanB at n; unfold zeroB; simp at n ⊢; omega
@[go_sem] theorem w_abs_lt_norm (b : Nat) : (Go.FloatKind.f64.format.order (absB b) 4503599627370496 == some Ordering.lt) = lowB b := by
  cases n : nanB b
  · rw [show Go.FloatKind.f64.format = Ieee.double from rfl, ord_abs b _ (by decide) n, cmp_lt]; rfl
  · rw [order_abs_nan b _ n]; unfold nanB at n; unfold lowB; simp at n ⊢; omega
@[go_sem] theorem w_andNot_sign (b : Nat) (h : W64 b) : Go.bits .andNot .u64 (b : Int) 9223372036854775808 = ((absB b : Nat) : Int) := by
  rw [show (9223372036854775808 : Int) = ((9223372036854775808 : Nat) : Int) from rfl, Go.u64_andNot_nat b _ h (by decide)]
  rw [show 18446744073709551615 - 9223372036854775808 = 2^63 - 1 from by decide, Nat.and_two_pow_sub_one_eq_mod]; rfl
@[go_sem] theorem w_and_sign (b : Nat) (h : W64 b) : Go.bits .and .u64 (b : Int) 9223372036854775808 = ((sgnW b : Nat) : Int) := by
  rw [show (9223372036854775808 : Int) = ((2^63 : Nat) : Int) from rfl, Go.u64_and_nat b _ h (by decide), Go.nat_bit]
  unfold W64 at h
  congr 1; unfold sgnW sgnB; split <;> simp_all <;> omega
@[go_sem] theorem w_or_sign (x y : Nat) : Go.bits .or .u64 ((absB x : Nat) : Int) ((sgnW y : Nat) : Int) = ((sgnW y + absB x : Nat) : Int) := by
  have h1 := absB_lt x
  have h2 : sgnW y < 18446744073709551616 := by unfold sgnW; split <;> decide
  rw [Go.u64_or_nat _ _ (by omega) h2]
  congr 1
  rw [Nat.or_comm, Go.nat_join 63 _ _ (by unfold sgnW; split <;> rfl) (by omega)]
@[go_sem] theorem w_signbit (b : Nat) (h : W64 b) : decide (Go.RowKit.wrap64 (b : Int) < 0) = sgnB b := by
  unfold Go.RowKit.wrap64 sgnB; unfold W64 at h
  rw [decide_eq_decide]; omega
theorem negFloat_D (b : Nat) (h : W64 b) : Go.Op.negFloat .f64 b = if sgnB b then absB b else b + 9223372036854775808 := by
  unfold Go.Op.negFloat
  show b ^^^ 2^63 = _
  unfold W64 at h
  have h1 : (b ^^^ 2^63) % 2^63 = b % 2^63 := by rw [Nat.xor_mod_two_pow]; simp
  have h2 : (b ^^^ 2^63) / 2^63 = b / 2^63 ^^^ 1 := by rw [Nat.xor_div_two_pow]
  have h3 : b / 2^63 = 0 ∨ b / 2^63 = 1 := by omega
  have h4 := Nat.div_add_mod (b ^^^ 2^63) (2^63)
  rw [h1, h2] at h4
  unfold sgnB absB
  rcases h3 with e | e <;> rw [e] at h4
  · rw [show (0 ^^^ 1 : Nat) = 1 from rfl] at h4
    rw [if_neg (by simp; omega)]; omega
  · rw [show (1 ^^^ 1 : Nat) = 0 from rfl] at h4
    rw [if_pos (by simp; omega)]; omega
def fracB (b : Nat) : Nat := b % 4503599627370496
def expB (b : Nat) : Nat := b / 4503599627370496 % 2048
def mantB (b : Nat) : Nat := fracB b + 4503599627370496
theorem expB_le (b : Nat) : ((expB b : Nat) : Int) ≤ 2047 := by unfold expB; omega
theorem fracB_lt (b : Nat) : fracB b < 4503599627370496 := Nat.mod_lt _ (by decide)
/-- What taking a number apart gives: the sign, the whole part, the exponent, the error. -/
def spS (b : Nat) : Bool := if nanB b || infB b then false else negB b
def spM (b : Nat) : Nat := if nanB b || infB b then 0 else if zeroB b then 0 else if lowB b then fracB b else mantB b
def spE (b : Nat) : Int := if nanB b || infB b then 0 else if zeroB b then 0 else if lowB b then -1074 else (expB b : Int) - 1075
def spX (b : Nat) : Int := if nanB b || infB b then 10 else 0
@[go_sem] theorem w_and_frac (b : Nat) (h : W64 b) : Go.bits .and .u64 (b : Int) 4503599627370495 = ((fracB b : Nat) : Int) := by
  rw [show (4503599627370495 : Int) = ((4503599627370495 : Nat) : Int) from rfl, Go.u64_and_nat b _ h (by decide)]
  rw [show 4503599627370495 = 2^52 - 1 from by decide, Nat.and_two_pow_sub_one_eq_mod]; rfl
@[go_sem] theorem w_or_first (b : Nat) : Go.bits .or .u64 ((fracB b : Nat) : Int) 4503599627370496 = ((mantB b : Nat) : Int) := by
  have := fracB_lt b
  rw [show (4503599627370496 : Int) = ((2^52 : Nat) : Int) from rfl, Go.u64_or_nat _ _ (by omega) (by decide)]
  rw [Nat.or_comm, Go.nat_join 52 _ _ (by decide) (by omega)]
  unfold mantB; omega
@[go_sem] theorem w_exp (b : Nat) (h : W64 b) : Go.bits .and .u64 ((b : Int) / 4503599627370496) 2047 = ((expB b : Nat) : Int) := by
  unfold W64 at h
  rw [show (b : Int) / 4503599627370496 = ((b / 4503599627370496 : Nat) : Int) from by omega, show (2047 : Int) = ((2047 : Nat) : Int) from rfl, Go.u64_and_nat _ _ (by omega) (by decide)]
  rw [show 2047 = 2^11 - 1 from by decide, Nat.and_two_pow_sub_one_eq_mod]; rfl
def orderB (a b : Nat) : Int := if keyB a < keyB b then -1 else if keyB b < keyB a then 1 else 0
@[go_sem] theorem unary_neg_float (k : Go.FloatKind) (b : Nat) : Go.Op.unary .neg (.float k b) = pure (.float k (Go.Op.negFloat k b)) := rfl
theorem atB_neg (k : Int) (h : k < 0) (h2 : -9223372036854775807 ≤ k) : atB k = Go.Op.negFloat .f64 (-k - 1).toNat := by
  have hw : W64 (-k-1).toNat := by unfold W64; omega
  rw [negFloat_D _ hw, if_neg (by unfold sgnB; simp; omega)]
  unfold atB; rw [if_pos h, Nat.add_comm]
theorem atB_pos (k : Int) (h : 0 ≤ k) : atB k = k.toNat := by unfold atB; rw [if_neg (by omega)]
def pinfB (b : Nat) : Bool := decide (b = 9218868437227405312)
def ninfB (b : Nat) : Bool := decide (b = 18442240474082181120)
def nextB (b : Nat) : Nat := if nanB b || pinfB b then oneB b else atB (keyB b + 1)
def prevB (b : Nat) : Nat := if nanB b || ninfB b then oneB b else atB (keyB b - 1)
def stepsN (a b : Nat) : Int := if nanB a || nanB b then 0 else if 9223372036854775807 < keyB b - keyB a ∨ keyB b - keyB a < -9223372036854775808 then 0 else keyB b - keyB a
def stepsX (a b : Nat) : Int := if nanB a || nanB b then 10 else if 9223372036854775807 < keyB b - keyB a ∨ keyB b - keyB a < -9223372036854775808 then 11 else 0
theorem keyB_lo (b : Nat) : -9223372036854775808 ≤ keyB b := by
  have := absB_lt b; unfold keyB; split <;> (try split) <;> omega
theorem keyB_hi (b : Nat) : keyB b ≤ 9223372036854775807 := by
  have := absB_lt b; unfold keyB; split <;> (try split) <;> omega
theorem keyB_next (b : Nat) (h : nanB b = false) (h2 : pinfB b = false) : -9218868437227405313 ≤ keyB b ∧ keyB b < 9218868437227405312 := by
  unfold nanB at h; unfold pinfB at h2; simp at h h2
  unfold keyB nanB sgnB; unfold absB at *
  simp only [decide_eq_true_eq]
  split <;> (try split) <;> omega
theorem keyB_prev (b : Nat) (h : nanB b = false) (h2 : ninfB b = false) (hb : W64 b) : -9218868437227405313 < keyB b ∧ keyB b ≤ 9218868437227405312 := by
  unfold nanB at h; unfold ninfB at h2; simp at h h2; unfold W64 at hb
  unfold keyB nanB sgnB; unfold absB at *
  simp only [decide_eq_true_eq]
  split <;> (try split) <;> omega
theorem valB_small (x : Nat) (h : x < 9223372036854775808) : valB x = rv 52 x := by
  unfold valB sgnB absB; rw [if_neg (by simp; omega), Nat.mod_eq_of_lt h]
theorem valB_big (x : Nat) (h : x < 9223372036854775808) : valB (9223372036854775808 + x) = -(rv 52 x : Int) := by
  unfold valB sgnB absB; rw [if_pos (by simp), Nat.add_mod_left, Nat.mod_eq_of_lt h]
/-- 'x > MaxFloat64', 'x < -MaxFloat64'. -/
@[go_sem] theorem w_gt_max (b : Nat) (hb : W64 b) : (Go.FloatKind.f64.format.order b 9218868437227405311 == some Ordering.gt) = pinfB b := by
  show (Ieee.double.order b 9218868437227405311 == some Ordering.gt) = pinfB b
  cases n : nanB b
  · rw [ord_D b _ hb (by unfold W64; decide) n (by decide)]
    rw [valB_small 9218868437227405311 (by decide)]
    unfold valB sgnB
    unfold nanB at n; simp at n; unfold W64 at hb
    have ha := absB_lt b
    by_cases c : 9223372036854775808 ≤ b
    · rw [if_pos (by simpa using c)]
      have h1 : compare (-(rv 52 (absB b) : Int)) ((rv 52 9218868437227405311 : Nat) : Int) ≠ .gt := by
        rw [Ne, Int.compare_eq_gt]; omega
      have h2 : pinfB b = false := by unfold pinfB; simp; omega
      rw [h2]; simpa using h1
    · rw [if_neg (by simpa using c), cmp_rv, cmp_gt]
      unfold pinfB absB at *; rw [decide_eq_decide]; omega
  · rw [ord_D_nan_left b _ n]; unfold nanB absB at n; unfold pinfB; simp at n ⊢; omega
@[go_sem] theorem w_lt_min (b : Nat) (hb : W64 b) : (Go.FloatKind.f64.format.order b 18442240474082181119 == some Ordering.lt) = ninfB b := by
  show (Ieee.double.order b 18442240474082181119 == some Ordering.lt) = ninfB b
  cases n : nanB b
  · rw [ord_D b _ hb (by unfold W64; decide) n (by decide)]
    rw [show 18442240474082181119 = 9223372036854775808 + 9218868437227405311 from rfl, valB_big 9218868437227405311 (by decide)]
    unfold valB sgnB
    unfold nanB at n; simp at n; unfold W64 at hb
    have ha := absB_lt b
    by_cases c : 9223372036854775808 ≤ b
    · rw [if_pos (by simpa using c)]
      rw [cmp_neg, cmp_rv, cmp_lt]
      unfold ninfB absB at *; rw [decide_eq_decide]; omega
    · rw [if_neg (by simpa using c)]
      have h1 : compare ((rv 52 (absB b) : Nat) : Int) (-((rv 52 9218868437227405311 : Nat) : Int)) ≠ .lt := by
        rw [Ne, Int.compare_eq_lt]; omega
      have h2 : ninfB b = false := by unfold ninfB; simp; omega
      rw [h2]; simpa using h1
  · rw [ord_D_nan_left b _ n]; unfold nanB absB at n; unfold ninfB; simp at n ⊢; omega
theorem steps_same (a b : Nat) (na : nanB a = false) (nb : nanB b = false) (h : (keyB a ≤ keyB b) ↔ (0 ≤ Go.RowKit.wrap64 (keyB b - keyB a))) : stepsN a b = Go.RowKit.wrap64 (keyB b - keyB a) ∧ stepsX a b = 0 := by
  have k1 := keyB_lo a
  have k2 := keyB_hi a
  have k3 := keyB_lo b
  have k4 := keyB_hi b
  have hs : Go.RowKit.wrap64 (keyB b - keyB a) = keyB b - keyB a ∧ ¬ (9223372036854775807 < keyB b - keyB a ∨ keyB b - keyB a < -9223372036854775808) := by
    unfold Go.RowKit.wrap64 at *; omega
  unfold stepsN stepsX; rw [na, nb, if_neg (by simp), if_neg hs.2, if_neg (by simp), if_neg hs.2]; exact ⟨hs.1.symm, rfl⟩
theorem steps_other (a b : Nat) (na : nanB a = false) (nb : nanB b = false) (h : ¬ ((keyB a ≤ keyB b) ↔ (0 ≤ Go.RowKit.wrap64 (keyB b - keyB a)))) : stepsN a b = 0 ∧ stepsX a b = 11 := by
  have k1 := keyB_lo a
  have k2 := keyB_hi a
  have k3 := keyB_lo b
  have k4 := keyB_hi b
  have hs : (9223372036854775807 < keyB b - keyB a ∨ keyB b - keyB a < -9223372036854775808) := by
    unfold Go.RowKit.wrap64 at *; omega
  unfold stepsN stepsX; rw [na, nb, if_neg (by simp), if_pos hs, if_neg (by simp), if_pos hs]; exact ⟨rfl, rfl⟩
theorem steps_nan (a b : Nat) (h : (nanB a || nanB b) = true) : stepsN a b = 0 ∧ stepsX a b = 10 := by
  unfold stepsN stepsX; rw [if_pos h, if_pos h]; exact ⟨rfl, rfl⟩
theorem finB_eq (b : Nat) : finB b = (!nanB b && !infB b) := by
  unfold finB nanB infB; rw [Bool.eq_iff_iff]; simp; omega
/-- The field of the exponent, the field of the fraction, each against 0. -/
theorem exp_zero (b : Nat) : (expB b == 0) = lowB b := by
  unfold expB lowB absB; rw [Bool.eq_iff_iff]; simp; omega
theorem frac_zero (b : Nat) (h : lowB b = true) : (fracB b == 0) = zeroB b := by
  unfold fracB zeroB; unfold lowB absB at *; rw [Bool.eq_iff_iff]; simp at h ⊢; omega
theorem zero_low (b : Nat) (h : zeroB b = true) : lowB b = true := by
  unfold zeroB at h; unfold lowB; simp at h ⊢; omega
theorem sp_not (b : Nat) (h : finB b = false) : spS b = false ∧ spM b = 0 ∧ spE b = 0 ∧ spX b = 10 := by
  rw [finB_eq] at h
  have : (nanB b || infB b) = true := by revert h; cases nanB b <;> cases infB b <;> decide
  unfold spS spM spE spX
  rw [this]; exact ⟨rfl, rfl, rfl, rfl⟩
theorem fin_not (b : Nat) (h : finB b = true) : (nanB b || infB b) = false ∧ negB b = sgnB b := by
  rw [finB_eq] at h; unfold negB
  revert h; cases nanB b <;> cases infB b <;> simp
theorem sp_norm (b : Nat) (h : finB b = true) (hl : lowB b = false) : spS b = sgnB b ∧ spM b = mantB b ∧ spE b = (expB b : Int) - 1075 ∧ spX b = 0 ∧ (expB b == 0) = false := by
  obtain ⟨h1, h2⟩ := fin_not b h
  have hz : zeroB b = false := by cases z : zeroB b; rfl; rw [zero_low b z] at hl; cases hl
  unfold spS spM spE spX
  rw [h1, h2, hl, hz, exp_zero, hl]; exact ⟨rfl, rfl, rfl, rfl, rfl⟩
theorem sp_sub (b : Nat) (h : finB b = true) (hl : lowB b = true) (hz : zeroB b = false) : spS b = sgnB b ∧ spM b = fracB b ∧ spE b = -1074 ∧ spX b = 0 ∧ (expB b == 0) = true ∧ (fracB b == 0) = false := by
  obtain ⟨h1, h2⟩ := fin_not b h
  unfold spS spM spE spX
  rw [h1, h2, frac_zero b hl, hl, hz, exp_zero, hl]; exact ⟨rfl, rfl, rfl, rfl, rfl, rfl⟩
theorem sp_nought (b : Nat) (h : finB b = true) (hl : lowB b = true) (hz : zeroB b = true) : spS b = sgnB b ∧ spM b = 0 ∧ spE b = 0 ∧ spX b = 0 ∧ (expB b == 0) = true ∧ (fracB b == 0) = true := by
  obtain ⟨h1, h2⟩ := fin_not b h
  unfold spS spM spE spX
  rw [h1, h2, frac_zero b hl, hz, exp_zero, hl]; exact ⟨rfl, rfl, rfl, rfl, rfl, rfl⟩
theorem orderB_zero (a b : Nat) : (orderB a b == 0) = (keyB a == keyB b) := by
  unfold orderB; rw [Bool.eq_iff_iff]; simp; split <;> (try split) <;> omega
theorem at_or (k : Int) (h : k < 0) (h2 : -9223372036854775807 ≤ k) : Go.bits .or .u64 (-(k + 1)) 9223372036854775808 = ((atB k : Nat) : Int) := by
  rw [show -(k + 1) = (((-k - 1).toNat : Nat) : Int) from by omega, show (9223372036854775808 : Int) = ((2^63 : Nat) : Int) from rfl, Go.u64_or_nat _ _ (by omega) (by decide)]
  rw [Nat.or_comm, Go.nat_join 63 _ _ (by decide) (by omega)]
  unfold atB; rw [if_pos h]
theorem rst_core (a b : Nat) (na : nanB a = false) (nb : nanB b = false) : (stepsN a b = if 9223372036854775807 < keyB b - keyB a ∨ keyB b - keyB a < -9223372036854775808 then 0 else keyB b - keyB a) ∧ (stepsX a b = if 9223372036854775807 < keyB b - keyB a ∨ keyB b - keyB a < -9223372036854775808 then 11 else 0) := by
  unfold stepsN stepsX; rw [na, nb]; exact ⟨rfl, rfl⟩
theorem rst_a (a b : Nat) (na : nanB a = false) (nb : nanB b = false) (c : keyB a ≤ keyB b) (d : 9223372036854775807 < Go.IntKind.u64.wrap (Go.IntKind.u64.wrap (keyB b) - Go.IntKind.u64.wrap (keyB a))) : 0 = stepsN a b ∧ 11 = stepsX a b := by
  have k1 := keyB_lo a
  have k2 := keyB_hi a
  have k3 := keyB_lo b
  have k4 := keyB_hi b
  obtain ⟨e1, e2⟩ := rst_core a b na nb
  rw [e1, e2]
  simp only [Go.IntKind.wrap_u64] at d
  rw [if_pos (by omega), if_pos (by omega)]; exact ⟨rfl, rfl⟩
theorem rst_b (a b : Nat) (na : nanB a = false) (nb : nanB b = false) (c : keyB a ≤ keyB b) (d : Go.IntKind.u64.wrap (Go.IntKind.u64.wrap (keyB b) - Go.IntKind.u64.wrap (keyB a)) ≤ 9223372036854775807) : Go.RowKit.wrap64 (Go.IntKind.u64.wrap (Go.IntKind.u64.wrap (keyB b) - Go.IntKind.u64.wrap (keyB a))) = stepsN a b ∧ 0 = stepsX a b := by
  have k1 := keyB_lo a
  have k2 := keyB_hi a
  have k3 := keyB_lo b
  have k4 := keyB_hi b
  obtain ⟨e1, e2⟩ := rst_core a b na nb
  rw [e1, e2]
  simp only [Go.IntKind.wrap_u64] at d ⊢
  rw [if_neg (by omega), if_neg (by omega)]; unfold Go.RowKit.wrap64; exact ⟨by omega, rfl⟩
theorem rst_c (a b : Nat) (na : nanB a = false) (nb : nanB b = false) (c : keyB b < keyB a) (d : 9223372036854775808 < Go.IntKind.u64.wrap (Go.IntKind.u64.wrap (keyB a) - Go.IntKind.u64.wrap (keyB b))) : 0 = stepsN a b ∧ 11 = stepsX a b := by
  have k1 := keyB_lo a
  have k2 := keyB_hi a
  have k3 := keyB_lo b
  have k4 := keyB_hi b
  obtain ⟨e1, e2⟩ := rst_core a b na nb
  rw [e1, e2]
  simp only [Go.IntKind.wrap_u64] at d
  rw [if_pos (by omega), if_pos (by omega)]; exact ⟨rfl, rfl⟩
theorem rst_d (a b : Nat) (na : nanB a = false) (nb : nanB b = false) (c : keyB b < keyB a) (d : Go.IntKind.u64.wrap (Go.IntKind.u64.wrap (keyB a) - Go.IntKind.u64.wrap (keyB b)) ≤ 9223372036854775808) : Go.RowKit.wrap64 (Go.IntKind.u64.wrap (-Go.IntKind.u64.wrap (Go.IntKind.u64.wrap (keyB a) - Go.IntKind.u64.wrap (keyB b)))) = stepsN a b ∧ 0 = stepsX a b := by
  have k1 := keyB_lo a
  have k2 := keyB_hi a
  have k3 := keyB_lo b
  have k4 := keyB_hi b
  obtain ⟨e1, e2⟩ := rst_core a b na nb
  rw [e1, e2]
  simp only [Go.IntKind.wrap_u64] at d ⊢
  rw [if_neg (by omega), if_neg (by omega)]; unfold Go.RowKit.wrap64; exact ⟨by omega, rfl⟩
@[go_sem] theorem w_exp_i64 (b : Nat) (h : W64 b) : Go.bits .and .i64 ((b : Int) / 4503599627370496) 2047 = ((expB b : Nat) : Int) := by
  unfold W64 at h
  have := Go.bits_mask .i64 13 (by decide) (fun n h0 h1 => by rw [Go.IntKind.wrap_i64]; omega) 11 (by decide) ((b : Int) / 4503599627370496) (by omega) (by omega)
  rw [show ((2 : Int)^11 - 1) = 2047 from by decide] at this
  rw [this]; unfold expB; omega
@[go_sem] theorem w_andNot_exp (b : Nat) (h : W64 b) : Go.bits .andNot .u64 (b : Int) 9218868437227405312 = ((sgnW b + fracB b : Nat) : Int) := by
  rw [show (9218868437227405312 : Int) = ((9218868437227405312 : Nat) : Int) from rfl, Go.u64_andNot_nat b _ h (by decide)]
  congr 1
  rw [show 18446744073709551615 - 9218868437227405312 = 2^63 ||| (2^52 - 1) from by decide, Nat.and_or_distrib_left, Nat.and_two_pow_sub_one_eq_mod, Go.nat_bit]
  unfold W64 at h
  rw [Go.nat_join 52 _ _ (by omega) (Nat.mod_lt _ (by decide))]
  unfold sgnW sgnB fracB; split <;> simp_all <;> omega
@[go_sem] theorem w_eq_zero (b : Nat) (h : W64 b) : (Go.FloatKind.f64.format.order b 0 == some Ordering.eq) = zeroB b := by
  show (Ieee.double.order b 0 == some Ordering.eq) = zeroB b
  cases n : nanB b
  · rw [ord_D b 0 h (by unfold W64; decide) n (by decide), valB_small 0 (by decide), rv_zero]
    have : (some (compare (valB b) ((0 : Nat) : Int)) == some Ordering.eq) = decide (valB b = 0) := by
      rw [Bool.eq_iff_iff]; simp
    rw [this]; unfold zeroB; rw [decide_eq_decide, ← V_D b h, V_zero, rg_D]
  · rw [ord_D_nan_left b _ n]; unfold nanB at n; unfold zeroB; simp at n ⊢; omega
@[go_sem] theorem w_lt_zero (b : Nat) (h : W64 b) : (Go.FloatKind.f64.format.order b 0 == some Ordering.lt) = (negB b && !zeroB b) := by
  show (Ieee.double.order b 0 == some Ordering.lt) = (negB b && !zeroB b)
  cases n : nanB b
  · rw [ord_D b 0 h (by unfold W64; decide) n (by decide), valB_small 0 (by decide), rv_zero]
    have : (some (compare (valB b) ((0 : Nat) : Int)) == some Ordering.lt) = decide (valB b < 0) := by
      rw [Bool.eq_iff_iff]; simp [Int.compare_eq_lt]
    rw [this]; unfold zeroB negB; rw [n, Bool.eq_iff_iff, decide_eq_true_eq, ← V_D b h, V_neg, rg_D, sgn_D b h]; simp
  · rw [ord_D_nan_left b _ n]; unfold negB; rw [n]; rfl
end Go.Proofs.YtlmbpjppkcdcnaaDoor
