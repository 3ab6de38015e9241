/- Parts Sg of the proof, in one text. -/
import Derived.Test.YtiimjbpfdidgcaaDoorHA

/- One rounding of a product and a sum; orders of bits. Plain mathematics, no program. -/
namespace Go.Proofs.YtiimjbpfdidgcaaDoor
open Ieee

theorem sg_mul_sg (s t : Bool) (m n : Nat) : sg s m * sg t n = sg (s ^^ t) (m * n) := by
  unfold sg; cases s <;> cases t <;> simp [Int.neg_mul, Int.mul_neg]

/-- The model's fused product and sum, of finite numbers. -/
theorem fma_fin (f : Format) (hp : 0 < f.fractionBits) (L : Nat) (hl : f.leastPlace = -(L : Int)) (x y z : Nat) (hx : fin f x) (hy : fin f y) (hz : fin f z) {T : Int} (hT : T = V f x * V f y + V f z * ((2^L : Nat) : Int)) :
    ∃ R, f.fma x y z = some (f.word (if T = 0 then (sgn f x ^^ sgn f y) && sgn f z else decide (T < 0)) (min R f.infRung)) ∧ Near f.fractionBits T.natAbs (2^L) R := by
  obtain ⟨m1, k1, e1, v1, _⟩ := read_num f x hx
  obtain ⟨m2, k2, e2, v2, _⟩ := read_num f y hy
  obtain ⟨m3, k3, e3, v3, _⟩ := read_num f z hz
  obtain ⟨m, k, s, h, hm, hs⟩ := sum_num (f.leastPlace + f.leastPlace) (sgn f x ^^ sgn f y) (sgn f z) (m1 * m2) (k1 + k2) m3 (k3 + L)
  have hv : sg (sgn f x ^^ sgn f y) (m1 * m2 * 2^(k1 + k2)) + sg (sgn f z) (m3 * 2^(k3 + L)) = T := by
    rw [hT, V_sg, V_sg, V_sg, ← v1, ← v2, ← v3, sg_mul_sg, ← sg_mul (sgn f z)]
    congr 2
    · rw [Nat.pow_add]; simp only [Nat.mul_assoc, Nat.mul_left_comm]
    · rw [Nat.pow_add, Nat.mul_assoc]
  rw [hv] at hm hs
  obtain ⟨R, h1, h2⟩ := nearest_near' f hp s m (f.leastPlace + f.leastPlace + (k : Int))
  refine ⟨R, ?_, ?_⟩
  · unfold Format.fma
    rw [e1, e2, e3]
    have hprod : (Datum.number (sgn f x) m1 (f.leastPlace + k1)).product (Datum.number (sgn f y) m2 (f.leastPlace + k2)) = some (Datum.number (sgn f x ^^ sgn f y) (m1 * m2) (f.leastPlace + f.leastPlace + ((k1 + k2 : Nat) : Int))) := by
      unfold Datum.product
      dsimp only
      rw [show f.leastPlace + (k1 : Int) + (f.leastPlace + (k2 : Int)) = f.leastPlace + f.leastPlace + ((k1 + k2 : Nat) : Int) by omega]
    rw [hprod]
    have h3 : f.leastPlace + (k3 : Int) = f.leastPlace + f.leastPlace + ((k3 + L : Nat) : Int) := by omega
    rw [h3]
    rw [Option.bind_some, h, ← hs, ← h1]; rfl
  · rw [← hm]
    refine Near.cross (Nat.two_pow_pos _) (Nat.two_pow_pos _) ?_ h2
    rw [Nat.mul_assoc, Nat.mul_assoc, ← Nat.pow_add, ← Nat.pow_add]
    congr 2
    omega

theorem fma_D (x y z : Nat) (hx : W64 x) (hy : W64 y) (hz : W64 z) (fx : finB x = true) (fy : finB y = true) (fz : finB z = true) {T : Int} (hT : T = valB x * valB y + valB z * ((2^LP : Nat) : Int)) :
    ∃ R, Near 52 T.natAbs (2^LP) R ∧ Go.FloatKind.f64.format.fma x y z = some (sgW (if T = 0 then (sgnB x != sgnB y) && sgnB z else decide (T < 0)) + min R 9218868437227405312) := by
  subst hT
  obtain ⟨R, g1, g2⟩ := fma_fin Ieee.double (by decide) LP D_lp' x y z ((fin_D x).2 fx) ((fin_D y).2 fy) ((fin_D z).2 fz) (by rw [V_D x hx, V_D y hy, V_D z hz])
  rw [sgn_D x hx, sgn_D y hy, sgn_D z hz, D_inf] at g1
  refine ⟨R, g2, ?_⟩
  show Ieee.double.fma x y z = _
  rw [g1, word_sg]

/-- The exact value of a product and a sum, as the reference takes it. -/
theorem fused_val (a b c : Nat) (fa : finB a = true) (fb : finB b = true) (fc : finB c = true) {G : Int} (hG : min (spE a + spE b) (spE c) = G) {X Y : Nat} (hX : X = spM a * spM b * 2^(spE a + spE b - G).toNat) (hY : Y = spM c * 2^(spE c - G).toNat) :
    sg (sumS (spS a != spS b) (spS c) X Y) (sumM (spS a != spS b) (spS c) X Y * 2^(G + LP + LP).toNat) = valB a * valB b + valB c * ((2^LP : Nat) : Int) := by
  have h1 := spE_range a
  have h2 := spE_range b
  have h3 := spE_range c
  have hl := LP_eq
  rw [sg_mul, sg_sum, valB_sp a fa, valB_sp b fb, valB_sp c fc, sg_mul_sg, ← sg_mul (spS c), Int.add_mul, ← sg_mul, ← sg_mul]
  have e : (spS a ^^ spS b) = (spS a != spS b) := by cases spS a <;> cases spS b <;> rfl
  rw [e]
  congr 2
  · rw [hX]
    rw [show spM a * 2 ^ (spE a + LP).toNat * (spM b * 2 ^ (spE b + LP).toNat) = spM a * spM b * (2 ^ (spE a + LP).toNat * 2 ^ (spE b + LP).toNat) from by simp only [Nat.mul_assoc, Nat.mul_left_comm]]
    rw [Nat.mul_assoc (spM a * spM b), ← Nat.pow_add, ← Nat.pow_add]
    congr 2
    omega
  · rw [hY, Nat.mul_assoc, Nat.mul_assoc, ← Nat.pow_add, ← Nat.pow_add]
    congr 2
    omega

theorem fused_near (a b c R : Nat) (fa : finB a = true) (fb : finB b = true) (fc : finB c = true) {G : Int} (hG : min (spE a + spE b) (spE c) = G) {X Y : Nat} (hX : X = spM a * spM b * 2^(spE a + spE b - G).toNat) (hY : Y = spM c * 2^(spE c - G).toNat)
    (h : Near 52 (valB a * valB b + valB c * ((2^LP : Nat) : Int)).natAbs (2^LP) R) :
    Near 52 (sumM (spS a != spS b) (spS c) X Y * 2^(G + LP).toNat) (1 * 2^(-(G + LP)).toNat) R := by
  have h1 := spE_range a
  have h2 := spE_range b
  have h3 := spE_range c
  have hl := LP_eq
  rw [← fused_val a b c fa fb fc hG hX hY, sg_natAbs] at h
  refine Near.cross (Nat.two_pow_pos _) (by rw [Nat.one_mul]; exact Nat.two_pow_pos _) ?_ h
  rw [Nat.one_mul, Nat.mul_assoc, Nat.mul_assoc, ← Nat.pow_add, ← Nat.pow_add]
  congr 2
  omega

theorem fused_zero (a b c : Nat) (fa : finB a = true) (fb : finB b = true) (fc : finB c = true) {G : Int} (hG : min (spE a + spE b) (spE c) = G) {X Y : Nat} (hX : X = spM a * spM b * 2^(spE a + spE b - G).toNat) (hY : Y = spM c * 2^(spE c - G).toNat) :
    sumM (spS a != spS b) (spS c) X Y = 0 ↔ valB a * valB b + valB c * ((2^LP : Nat) : Int) = 0 := by
  rw [← fused_val a b c fa fb fc hG hX hY, sg_zero]
  have := Nat.two_pow_pos (G + LP + LP).toNat
  rw [Nat.mul_eq_zero]
  omega

theorem fused_sign (a b c : Nat) (fa : finB a = true) (fb : finB b = true) (fc : finB c = true) {G : Int} (hG : min (spE a + spE b) (spE c) = G) {X Y : Nat} (hX : X = spM a * spM b * 2^(spE a + spE b - G).toNat) (hY : Y = spM c * 2^(spE c - G).toNat)
    (h0 : valB a * valB b + valB c * ((2^LP : Nat) : Int) ≠ 0) :
    sumS (spS a != spS b) (spS c) X Y = decide (valB a * valB b + valB c * ((2^LP : Nat) : Int) < 0) := by
  have hz := mt (fused_zero a b c fa fb fc hG hX hY).1 h0
  have hp := Nat.two_pow_pos (G + LP + LP).toNat
  rw [← fused_val a b c fa fb fc hG hX hY]
  generalize sumM (spS a != spS b) (spS c) X Y = m at *
  generalize sumS (spS a != spS b) (spS c) X Y = s at *
  have hm : m * 2^(G + LP + LP).toNat ≠ 0 := by rw [Ne, Nat.mul_eq_zero]; omega
  have := sg_lt s (m * 2^(G + LP + LP).toNat)
  cases s
  · have h1 : ¬ sg false (m * 2^(G + LP + LP).toNat) < 0 := by rw [this]; simp
    simp [h1]
  · have h1 : sg true (m * 2^(G + LP + LP).toNat) < 0 := by rw [this]; exact ⟨rfl, hm⟩
    simp [h1]

/-! Orders of bits. -/
theorem cmpI_lt (x y : Int) : (some (compare x y) == some Ordering.lt) = decide (x < y) := by
  rcases Int.lt_trichotomy x y with h | h | h
  · have : compare x y = .lt := by show compareOfLessAndEq x y = _; unfold compareOfLessAndEq; rw [if_pos h]
    rw [this]; simp [h]
  · have : compare x y = .eq := by show compareOfLessAndEq x y = _; unfold compareOfLessAndEq; rw [if_neg (by omega), if_pos h]
    rw [this]; simp; omega
  · have : compare x y = .gt := by show compareOfLessAndEq x y = _; unfold compareOfLessAndEq; rw [if_neg (by omega), if_neg (by omega)]
    rw [this]; simp; omega
theorem cmpI_eq' (x y : Int) : (some (compare x y) == some Ordering.eq) = decide (x = y) := by
  rcases Int.lt_trichotomy x y with h | h | h
  · have : compare x y = .lt := by show compareOfLessAndEq x y = _; unfold compareOfLessAndEq; rw [if_pos h]
    rw [this]; simp; omega
  · have : compare x y = .eq := by show compareOfLessAndEq x y = _; unfold compareOfLessAndEq; rw [if_neg (by omega), if_pos h]
    rw [this]; simp [h]
  · have : compare x y = .gt := by show compareOfLessAndEq x y = _; unfold compareOfLessAndEq; rw [if_neg (by omega), if_neg (by omega)]
    rw [this]; simp; omega

def lessB (a b : Nat) : Bool := !(nanB a || nanB b || (zeroB a && zeroB b)) && decide (orderB a b < 0)
def equalB (a b : Nat) : Bool := !(nanB a || nanB b) && ((zeroB a && zeroB b) || decide (a = b))

theorem less_key (a b : Nat) (na : nanB a = false) (nb : nanB b = false) : valB a < valB b ↔ (¬ (absB a = 0 ∧ absB b = 0) ∧ keyB a < keyB b) := by
  unfold valB keyB
  rw [na, nb]
  have h1 : rv 52 (absB a) < rv 52 (absB b) ↔ absB a < absB b := rv_lt_iff
  have h2 : rv 52 (absB b) < rv 52 (absB a) ↔ absB b < absB a := rv_lt_iff
  have z1 : rv 52 (absB a) = 0 ↔ absB a = 0 := ⟨fun h => rv_inj (p := 52) (by rw [h, rv_zero]), fun h => by rw [h, rv_zero]⟩
  have z2 : rv 52 (absB b) = 0 ↔ absB b = 0 := ⟨fun h => rv_inj (p := 52) (by rw [h, rv_zero]), fun h => by rw [h, rv_zero]⟩
  generalize rv 52 (absB a) = x at *
  generalize rv 52 (absB b) = y at *
  cases sgnB a <;> cases sgnB b <;> simp <;> omega

theorem equal_key (a b : Nat) (ha : W64 a) (hb : W64 b) : valB a = valB b ↔ ((absB a = 0 ∧ absB b = 0) ∨ a = b) := by
  have s1 := split_B a ha
  have s2 := split_B b hb
  have h1 : rv 52 (absB a) = rv 52 (absB b) ↔ absB a = absB b := ⟨rv_inj, fun h => by rw [h]⟩
  have z1 : rv 52 (absB a) = 0 ↔ absB a = 0 := ⟨fun h => rv_inj (p := 52) (by rw [h, rv_zero]), fun h => by rw [h, rv_zero]⟩
  have z2 : rv 52 (absB b) = 0 ↔ absB b = 0 := ⟨fun h => rv_inj (p := 52) (by rw [h, rv_zero]), fun h => by rw [h, rv_zero]⟩
  have l1 := absB_lt a
  have l2 := absB_lt b
  unfold sgnW at s1 s2
  unfold valB
  generalize rv 52 (absB a) = x at *
  generalize rv 52 (absB b) = y at *
  cases ea : sgnB a <;> cases eb : sgnB b <;> rw [ea] at s1 <;> rw [eb] at s2 <;> simp only [Bool.false_eq_true, if_false, if_true, Nat.zero_add] at s1 s2 ⊢ <;> omega

theorem less_D (a b : Nat) (ha : W64 a) (hb : W64 b) : (Go.FloatKind.f64.format.order a b == some Ordering.lt) = lessB a b := by
  show (Ieee.double.order a b == some Ordering.lt) = lessB a b
  unfold lessB
  cases na : nanB a
  · cases nb : nanB b
    · rw [ord_D a b ha hb na nb, cmpI_lt, Bool.eq_iff_iff]
      simp only [decide_eq_true_eq, Bool.or_self, Bool.false_or, Bool.and_eq_true, Bool.not_eq_true']
      rw [less_key a b na nb]
      have h : orderB a b < 0 ↔ keyB a < keyB b := by
        unfold orderB
        split
        · simp; assumption
        · split <;> simp <;> omega
      rw [h]
      unfold zeroB
      simp
    · rw [ord_D_nan_right a b nb]; rfl
  · rw [ord_D_nan_left a b na]; rfl
theorem equal_D (a b : Nat) (ha : W64 a) (hb : W64 b) : (Go.FloatKind.f64.format.order a b == some Ordering.eq) = equalB a b := by
  show (Ieee.double.order a b == some Ordering.eq) = equalB a b
  unfold equalB
  cases na : nanB a
  · cases nb : nanB b
    · rw [ord_D a b ha hb na nb, cmpI_eq', Bool.eq_iff_iff]
      simp only [decide_eq_true_eq, Bool.or_self, Bool.not_false, Bool.true_and, Bool.or_eq_true, Bool.and_eq_true]
      rw [equal_key a b ha hb]
      unfold zeroB
      simp
    · rw [ord_D_nan_right a b nb]; rfl
  · rw [ord_D_nan_left a b na]; rfl
end Go.Proofs.YtiimjbpfdidgcaaDoor
