/- Parts Tb, Tc, Ua, Sh, Si, Fr, Zf, Zm, Pw, Tj of the proof, in one text. -/
import Derived.Test.YtgfbcncjboenbaaGreatDoorSQC
import Derived.Test.YtgfbcncjboenbaaGreatDoorSQD
import Derived.Test.YtgfbcncjboenbaaGreatDoorSRH
import Derived.Deep.RegionHeld3
import Derived.Deep.CutBlock
import Derived.Deep.DeepCutAuto
import Derived.Test.YtgfbcncjboenbaaGreatDoorSQA

/- Walks: table's exception. -/
namespace Go.Proofs.YtgfbcncjboenbaaGreatDoor
open Go.RowKit

@[go_sem] theorem conv_one (w : World) : (convert 23 3 (.float .f64 4607182418800017408)).run Tryz.prog w = .ok (.int .i64 1) w := by kernel_rfl
@[go_sem] theorem conv_minus (w : World) : (convert 23 3 (.float .f64 13830554455654793216)).run Tryz.prog w = .ok (.int .i64 (-1)) w := by kernel_rfl

end Go.Proofs.YtgfbcncjboenbaaGreatDoor

/- Walks: table's Add, Sub, Mul. -/
namespace Go.Proofs.YtgfbcncjboenbaaGreatDoor
open Go.RowKit

/-- The nine words of a table that is a package's variable. -/
def Tab9 (w : World) (g : Nat) (z : Nat → Int) : Prop := ∀ k, k < 9 → w.cell? ⟨g, k, none⟩ = some (.int .i64 (z k))
theorem Tab9.below {w w' : World} {g : Nat} {z : Nat → Int} (h : Tab9 w g z) {B : Nat} (hB : w.heap.size ≤ B) (hb : Below B w w') : Tab9 w' g z := fun k hk => by
  have h1 := h k hk
  have hg : g < w.heap.size := by
    refine Decidable.byContradiction fun hc => ?_
    unfold World.cell? at h1
    rw [Array.getElem?_eq_none (by simpa using hc)] at h1
    simp at h1
  rw [hb.cell (by show g < B; omega)]
  exact h1
theorem zero_not_inf {b : Nat} (h : zeroB b = true) : infB b = false ∧ nanB b = false := by unfold zeroB infB nanB at *; simp at h ⊢; omega
end Go.Proofs.YtgfbcncjboenbaaGreatDoor

/- Walks: math.FMA, table's Fused, Less, Equal. -/
namespace Go.Proofs.YtgfbcncjboenbaaGreatDoor
open Go.RowKit

theorem read_cases (b : Nat) (hb : W64 b) : (nanB b = true ∧ infB b = false ∧ zeroB b = false ∧ finB b = false ∧ ∃ s k, Ieee.double.read b = .nan s k) ∨ (nanB b = false ∧ infB b = true ∧ zeroB b = false ∧ finB b = false ∧ Ieee.double.read b = .infinity (sgnB b)) ∨
    (nanB b = false ∧ infB b = false ∧ finB b = true ∧ ∃ m e, Ieee.double.read b = .number (sgnB b) m e ∧ (m = 0 ↔ zeroB b = true)) := by
  rcases Nat.lt_trichotomy (absB b) 9218868437227405312 with h | h | h
  · right; right
    have hf : fin Ieee.double b := by unfold fin; rw [rg_D, D_inf]; exact h
    obtain ⟨m, k, h1, h2, h3⟩ := read_num Ieee.double b hf
    rw [sgn_D b hb] at h1
    refine ⟨by unfold nanB; simp; omega, by unfold infB; simp; omega, by unfold finB; simp; omega, m, _, h1, ?_⟩
    rw [h3, rg_D]; unfold zeroB; simp
  · right; left
    have h1 := read_inf Ieee.double D_ok b (by rw [rg_D, D_inf]; exact h)
    rw [sgn_D b hb] at h1
    exact ⟨by unfold nanB; simp; omega, by unfold infB; simp; omega, by unfold zeroB; simp; omega, by unfold finB; simp; omega, h1⟩
  · left
    have h1 := read_nan Ieee.double D_ok b (by rw [rg_D, D_inf]; exact h)
    exact ⟨by unfold nanB; simp; omega, by unfold infB; simp; omega, by unfold zeroB; simp; omega, by unfold finB; simp; omega, _, _, h1⟩

end Go.Proofs.YtgfbcncjboenbaaGreatDoor

/- The rest of a rounded sum of two numbers is a number, and so is what the rounded sum has more than the greater one. Plain mathematics, no program. -/
namespace Go.Proofs.YtgfbcncjboenbaaGreatDoor
open Ieee

/-- A magnitude that is a number's (of any size). -/
def RepT (n : Nat) : Prop := ∃ R, rv 52 R = n
theorem rep_mul : ∀ (q K : Nat), K ≤ 2^53 → RepT (K * 2^q)
  | 0, K, h => by
    rcases Nat.lt_or_ge K (2^52) with g | g
    · exact ⟨K, by rw [rv_small g]; simp⟩
    · exact ⟨0 * 4503599627370496 + K, rv_kq 0 K (by omega) (by omega)⟩
  | q + 1, K, h => by
    rcases Nat.lt_or_ge K (2^52) with g | g
    · have := rep_mul q (2 * K) (by omega)
      rw [Nat.pow_succ, Nat.mul_comm (2^q) 2, ← Nat.mul_assoc, Nat.mul_comm K 2]
      exact this
    · exact ⟨(q + 1) * 4503599627370496 + K, rv_kq (q + 1) K (by omega) (by omega)⟩

theorem rv_parts (R : Nat) : ∃ K q, rv 52 R = K * 2^q ∧ K < 9007199254740992 ∧ ulp 52 R = 2^q ∧ (4503599627370496 ≤ K ∨ q = 0) := by
  by_cases h : R < 2^52
  · refine ⟨R, 0, by rw [rv_small h]; simp, by omega, ?_, .inr rfl⟩
    unfold ulp
    rw [Nat.div_eq_of_lt h]
  · obtain ⟨q, t, ht, e⟩ := split_rung 52 R h
    refine ⟨2^52 + t, q, ?_, by omega, ?_, .inl (by omega)⟩
    · rw [e]; exact rv_form 52 q t (by omega)
    · unfold ulp
      rw [e]
      have : ((q + 1) * 2^52 + t) / 2^52 = q + 1 := by
        rw [Nat.mul_comm, Nat.mul_add_div (Nat.two_pow_pos _), Nat.div_eq_of_lt ht, Nat.add_zero]
      rw [this, Nat.add_sub_cancel]

end Go.Proofs.YtgfbcncjboenbaaGreatDoor

/- A sum and what rounding lost of it: plain mathematics, no program. -/
namespace Go.Proofs.YtgfbcncjboenbaaGreatDoor
open Ieee

theorem finB_lt' (x : Nat) (h : finB x = true) : absB x < 9218868437227405312 := by unfold finB at h; simpa using h
/-! Terms. -/
end Go.Proofs.YtgfbcncjboenbaaGreatDoor

/- Numbers above nought by their first bit: what Frexp and Ldexp come to; a step of Mod. Plain mathematics. -/
namespace Go.Proofs.YtgfbcncjboenbaaGreatDoor
open Ieee

theorem kq_ex (b : Nat) (h0 : 4503599627370496 ≤ b) (h : b < 9218868437227405312) : ∃ K q, KQ b K q :=
  ⟨b % 4503599627370496 + 4503599627370496, b / 4503599627370496 - 1, by omega, by omega, by omega, by omega⟩

/-- Below the normal ones: made normal. -/
theorem low_mul (y : Nat) (h0 : 0 < y) (h : y < 4503599627370496) : ∃ c K q, KQ c K q ∧ Go.floatBits .mul .f64 y 4841369599423283200 = some c ∧ y * 2^52 = K * 2^q ∧ q ≤ 51 := by
  have hl := LP_eq
  have hlo : 2^y.log2 ≤ y := Nat.log2_self_le (by omega)
  have hhi : y < 2^(y.log2 + 1) := Nat.lt_log2_self
  have hq : y.log2 < 52 := by
    rcases Nat.lt_or_ge y.log2 52 with g | g
    · exact g
    · have : 2^52 ≤ 2^y.log2 := Nat.pow_le_pow_right (by decide) g
      omega
  obtain ⟨q, hqe⟩ : ∃ q, q = y.log2 := ⟨_, rfl⟩
  rw [← hqe] at hlo hhi hq
  have e1 : 2^q * 2^(52 - q) = 2^52 := by rw [← Nat.pow_add]; congr 1; omega
  have e2 : 2^(q+1) * 2^(52 - q) = 2^53 := by rw [← Nat.pow_add]; congr 1; omega
  have hK1 : 2^52 ≤ y * 2^(52 - q) := by rw [← e1]; exact Nat.mul_le_mul_right _ hlo
  have hK2 : y * 2^(52 - q) < 2^53 := by rw [← e2]; exact Nat.mul_lt_mul_of_pos_right hhi (Nat.two_pow_pos _)
  have hv : y * 2^52 = y * 2^(52 - q) * 2^q := by rw [Nat.mul_assoc, Nat.mul_comm (2^(52 - q)), e1]
  have hk : KQ (q * 4503599627370496 + y * 2^(52 - q)) (y * 2^(52 - q)) q := ⟨rfl, hK1, hK2, by omega⟩
  refine ⟨_, _, q, hk, ?_, hv, by omega⟩
  obtain ⟨R, h1, h2⟩ := mul_pos y 4841369599423283200 (by omega) (by decide)
  rw [pow_rv' 4841369599423283200 1074 (52 + LP) (by decide) (by omega), rv_small (by omega : y < 2^52)] at h2
  have := near_kq _ _ q R hk (Nat.two_pow_pos _) (by rw [← hv, Nat.pow_add, Nat.mul_assoc]) h2
  rw [h1, this, Nat.min_eq_left (Nat.le_of_lt hk.lt)]

/-- The fraction that Frexp hands back. -/
def frB (K : Nat) : Nat := 4602678819172646912 + (K - 4503599627370496)
theorem frB_lt (K : Nat) (h2 : K < 9007199254740992) : frB K < 4607182418800017408 := by unfold frB; omega
theorem fr_or (b K q : Nat) (h : KQ b K q) : Go.bits .or .u64 ((sgnW b + fracB b : Nat) : Int) 4602678819172646912 = ((frB K : Nat) : Int) := by
  have e1 : sgnW b = 0 := by unfold sgnW; rw [h.sgn]; rfl
  rw [e1, h.frac, Nat.zero_add]
  have := h.lo
  have := h.hi
  rw [show (4602678819172646912 : Int) = ((4602678819172646912 : Nat) : Int) from rfl, Go.u64_or_nat _ _ (by omega) (by decide), Nat.or_comm, Go.nat_join 52 _ _ (by decide) (by omega)]
  unfold frB
  omega
theorem fr_or' (b K q : Nat) (h : KQ b K q) : Go.bits .or .u64 (((sgnW b : Nat) : Int) + ((fracB b : Nat) : Int)) 4602678819172646912 = ((frB K : Nat) : Int) := by
  rw [← Int.natCast_add]; exact fr_or b K q h
theorem fr_order (K J : Nat) (h1 : 4503599627370496 ≤ K) (h2 : K < 9007199254740992) (h3 : 4503599627370496 ≤ J) (h4 : J < 9007199254740992) :
    (Go.FloatKind.f64.format.order (frB K) (frB J) == some Ordering.lt) = decide (K < J) := by
  show (Ieee.double.order _ _ == some Ordering.lt) = _
  have a1 := frB_lt K h2
  have a2 := frB_lt J h4
  rw [ord_D _ _ (by unfold W64; omega) (by unfold W64; omega) (by unfold nanB absB; simp; omega) (by unfold nanB absB; simp; omega), valB_small _ (by omega), valB_small _ (by omega), cmp_rv]
  rw [Bool.eq_iff_iff, beq_iff_eq, decide_eq_true_eq, Option.some.injEq, Nat.compare_eq_lt]
  unfold frB
  omega
/-- The order of two that are not below nought. -/
theorem pos_ge (r y : Nat) (hr : r < 9218868437227405312) (hy : y < 9218868437227405312) : (Go.FloatKind.f64.format.order r y == some Ordering.gt || Go.FloatKind.f64.format.order r y == some Ordering.eq) = decide (y ≤ r) := by
  show (Ieee.double.order _ _ == some Ordering.gt || Ieee.double.order _ _ == some Ordering.eq) = _
  rw [ord_D _ _ (by unfold W64; omega) (by unfold W64; omega) (by unfold nanB absB; simp; omega) (by unfold nanB absB; simp; omega), valB_small _ (by omega), valB_small _ (by omega), cmp_rv]
  rw [Bool.eq_iff_iff, Bool.or_eq_true, beq_iff_eq, beq_iff_eq, decide_eq_true_eq, Option.some.injEq, Option.some.injEq, Nat.compare_eq_gt, Nat.compare_eq_eq]
  omega

/-- A number above nought by its first bit. -/
theorem first_bit (b : Nat) (h0 : 0 < b) (h : b < 9218868437227405312) : ∃ K t, 4503599627370496 ≤ K ∧ K < 9007199254740992 ∧ t ≤ 2097 ∧ rv 52 b * 2^52 = K * 2^t ∧
    ((∃ q, KQ b K q ∧ t = q + 52) ∨ (b < 4503599627370496 ∧ ∃ c, KQ c K t ∧ Go.floatBits .mul .f64 b 4841369599423283200 = some c)) := by
  rcases Nat.lt_or_ge b 4503599627370496 with g | g
  · obtain ⟨c, K, q, h1, h2, h3, h4⟩ := low_mul b h0 g
    exact ⟨K, q, h1.lo, h1.hi, by omega, by rw [rv_small (by omega : b < 2^52)]; exact h3, .inr ⟨g, c, h1, h2⟩⟩
  · obtain ⟨K, q, hk⟩ := kq_ex b g h
    refine ⟨K, q + 52, hk.lo, hk.hi, by have := hk.top; omega, ?_, .inl ⟨q, hk, rfl⟩⟩
    rw [hk.rv, Nat.pow_add, Nat.mul_assoc]

/-- Ldexp upwards: what the code puts together. -/
theorem up_norm (z K s : Nat) (hK1 : 4503599627370496 ≤ K) (hK2 : K < 9007199254740992) (hz : z < 9218868437227405312) (hv : rv 52 z * 2^52 = K * 2^s) (hs : 52 ≤ s) : KQ z K (s - 52) := by
  have e1 : rv 52 z = K * 2^(s - 52) := by
    have e : K * 2^s = K * 2^(s - 52) * 2^52 := by rw [Nat.mul_assoc, ← Nat.pow_add]; congr 2; omega
    rw [e] at hv
    exact Nat.eq_of_mul_eq_mul_right (Nat.two_pow_pos 52) hv
  have e2 : z = (s - 52) * 4503599627370496 + K := rv_inj (p := 52) (by rw [e1, rv_kq _ K (by omega) hK1])
  exact ⟨e2, hK1, hK2, by omega⟩
theorem up_low (z K s : Nat) (hK1 : 4503599627370496 ≤ K) (hK2 : K < 9007199254740992) (hz : z < 9218868437227405312) (hv : rv 52 z * 2^52 = K * 2^s) (hs : s < 52) :
    KQ ((s + 1) * 4503599627370496 + K) K (s + 1) ∧ Go.floatBits .mul .f64 4368491638549381120 ((s + 1) * 4503599627370496 + K) = some z := by
  have hk : KQ ((s + 1) * 4503599627370496 + K) K (s + 1) := ⟨rfl, hK1, hK2, by omega⟩
  refine ⟨hk, ?_⟩
  obtain ⟨R, h1, h2⟩ := mul_low _ K (s + 1) hk
  have e : K * 2^(s + 1) = rv 52 z * 2^53 := by rw [Nat.pow_succ, ← Nat.mul_assoc, ← hv, Nat.mul_assoc]
  rw [e] at h2
  have := Near.uniq (Nat.two_pow_pos _) h2 (Near.exact 52 z (2^53) (Nat.two_pow_pos _))
  rw [h1, this, Nat.min_eq_left (by omega)]

/-- One step: y 2^d, not above r, and twice it is. -/
theorem mod_step (r y K t J s : Nat) (hr : r < 9218868437227405312) (hy : 0 < y) (hle : y ≤ r)
    (k1 : 4503599627370496 ≤ K) (k2 : K < 9007199254740992) (j1 : 4503599627370496 ≤ J) (j2 : J < 9007199254740992) (hK : rv 52 r * 2^52 = K * 2^t) (hJ : rv 52 y * 2^52 = J * 2^s) :
    ∃ d z r' : Nat, (if K < J then (t : Int) - 1 else t) - s = (d : Int) ∧ z < 9218868437227405312 ∧ r' < r ∧ rv 52 z = rv 52 y * 2^d ∧ rv 52 r' + rv 52 z = rv 52 r := by
  have hyr : J * 2^s ≤ K * 2^t := by rw [← hK, ← hJ]; exact Nat.mul_le_mul_right _ (rv_le hle)
  have hst : s ≤ t := by
    rcases Nat.lt_or_ge t s with g | g
    · exfalso
      have h1 : 2^(t + 1) ≤ 2^s := Nat.pow_le_pow_right (by decide) g
      have h2 : J * 2^(t + 1) ≤ J * 2^s := Nat.mul_le_mul_left _ h1
      rw [Nat.pow_succ, Nat.mul_comm (2^t) 2, ← Nat.mul_assoc] at h2
      have h3 := Nat.le_of_mul_le_mul_right (Nat.le_trans h2 hyr) (Nat.two_pow_pos t)
      omega
    · exact g
  have hst2 : K < J → s < t := fun h => by
    rcases Nat.lt_or_ge s t with g | g
    · exact g
    · obtain rfl : s = t := by omega
      have := Nat.le_of_mul_le_mul_right hyr (Nat.two_pow_pos s)
      omega
  obtain ⟨d, hd⟩ : ∃ d : Nat, d = (if K < J then t - 1 else t) - s := ⟨_, rfl⟩
  have hdi : (if K < J then (t : Int) - 1 else t) - s = (d : Int) := by
    rw [hd]
    by_cases c : K < J
    · rw [if_pos c, if_pos c]; have := hst2 c; omega
    · rw [if_neg c, if_neg c]; omega
  obtain ⟨z, hz⟩ : ∃ z, rv 52 z = rv 52 y * 2^d := by
    obtain ⟨A, q, h1, h2, -⟩ := rv_parts y
    rw [h1, Nat.mul_assoc, ← Nat.pow_add]
    exact rep_mul _ _ (by omega)
  -- z is not above r, and twice z is
  have hlo : rv 52 z ≤ rv 52 r ∧ rv 52 r ≤ 2 * rv 52 z := by
    have p52 := Nat.two_pow_pos 52
    have e1 : rv 52 z * 2^52 = J * 2^(s + d) := by rw [hz, Nat.mul_right_comm, hJ, Nat.mul_assoc, ← Nat.pow_add]
    by_cases c : K < J
    · have hsd : t = s + d + 1 := by rw [hd, if_pos c]; have := hst2 c; omega
      have e2 : rv 52 r * 2^52 = 2 * K * 2^(s + d) := by rw [hK, hsd, Nat.pow_succ, Nat.mul_comm (2^(s+d)) 2, ← Nat.mul_assoc, Nat.mul_comm K 2]
      constructor
      · refine Nat.le_of_mul_le_mul_right ?_ p52
        rw [e1, e2]; exact Nat.mul_le_mul_right _ (by omega)
      · refine Nat.le_of_mul_le_mul_right ?_ p52
        rw [Nat.mul_assoc 2, e1, e2, ← Nat.mul_assoc]; exact Nat.mul_le_mul_right _ (by omega)
    · have hsd : t = s + d := by rw [hd, if_neg c]; omega
      have e2 : rv 52 r * 2^52 = K * 2^(s + d) := by rw [hK, hsd]
      constructor
      · refine Nat.le_of_mul_le_mul_right ?_ p52
        rw [e1, e2]; exact Nat.mul_le_mul_right _ (by omega)
      · refine Nat.le_of_mul_le_mul_right ?_ p52
        rw [Nat.mul_assoc 2, e1, e2, ← Nat.mul_assoc]; exact Nat.mul_le_mul_right _ (by omega)
  have hzr : z ≤ r := (rv_le_iff (p := 52)).1 hlo.1
  obtain ⟨r', hr'⟩ : RepT (rv 52 r - rv 52 z) := by
    obtain ⟨A, q, a1, a2, -, a4⟩ := rv_parts z
    obtain ⟨B, p, b1, b2, -, b4⟩ := rv_parts r
    have hqp : q ≤ p := by
      rcases Nat.lt_or_ge p q with g | g
      · exfalso
        have ha : 4503599627370496 ≤ A := by rcases a4 with a4 | a4; exact a4; omega
        have h1 : 2^(p + 1) ≤ 2^q := Nat.pow_le_pow_right (by decide) g
        have h2 : A * 2^(p + 1) ≤ A * 2^q := Nat.mul_le_mul_left _ h1
        rw [Nat.pow_succ, Nat.mul_comm (2^p) 2, ← Nat.mul_assoc, ← a1] at h2
        have h3 := Nat.le_trans h2 hlo.1
        rw [b1] at h3
        have h4 := Nat.le_of_mul_le_mul_right h3 (Nat.two_pow_pos p)
        omega
      · exact g
    obtain ⟨c, hc⟩ : ∃ c, p = q + c := ⟨p - q, by omega⟩
    have e : rv 52 r - rv 52 z = (B * 2^c - A) * 2^q := by
      rw [a1, b1, hc, Nat.sub_mul, Nat.mul_assoc, ← Nat.pow_add, Nat.add_comm c q]
    rw [e]
    refine rep_mul _ _ ?_
    have h1 : (B * 2^c - A) * 2^q ≤ A * 2^q := by rw [← e, ← a1]; omega
    have h2 := Nat.le_of_mul_le_mul_right h1 (Nat.two_pow_pos q)
    omega
  have hz0 : 0 < rv 52 z := by
    rw [hz]
    refine Nat.mul_pos ?_ (Nat.two_pow_pos _)
    have := rv_lt (p := 52) hy
    omega
  refine ⟨d, z, r', hdi, by omega, ?_, hz, by omega⟩
  exact (rv_lt_iff (p := 52)).1 (by omega)
end Go.Proofs.YtgfbcncjboenbaaGreatDoor

/- Walks: math.Frexp, math.Ldexp upwards, math.Mod. -/
namespace Go.Proofs.YtgfbcncjboenbaaGreatDoor
open Go.RowKit

theorem pos_facts (b : Nat) (h0 : 0 < b) (h : b < 9218868437227405312) : W64 b ∧ absB b = b ∧ nanB b = false ∧ infB b = false ∧ zeroB b = false ∧ sgnB b = false ∧ finB b = true := by
  have ha : absB b = b := by unfold absB; omega
  refine ⟨by unfold W64; omega, ha, ?_, ?_, ?_, ?_, ?_⟩
  · unfold nanB; rw [ha]; simp; omega
  · unfold infB; rw [ha]; simp; omega
  · unfold zeroB; rw [ha]; simp; omega
  · unfold sgnB; simp; omega
  · unfold finB; rw [ha]; simp; omega

theorem kq_shift (v K s : Nat) (h : v = s * 4503599627370496 + K) (hK : 4503599627370496 ≤ K) : v = (s + 1) * 4503599627370496 + (K - 4503599627370496) := by
  obtain ⟨J, rfl⟩ := Nat.exists_eq_add_of_le hK
  rw [h, Nat.add_sub_cancel_left, Nat.succ_mul, Nat.add_assoc]

theorem norm_low (b c : Nat) (w : World) (h0 : 0 < b) (h : b < 4503599627370496) (hc : Go.floatBits .mul .f64 b 4841369599423283200 = some c) :
    Calls Tryz.prog 227 #[.float .f64 b] w fun e w' => e = .returned (.tuple #[.float .f64 c, .int .i64 (-52)]) ∧ w = w' := by
  obtain ⟨p1, p2, p3, p4, p5, p6, p7⟩ := pos_facts b h0 (by omega)
  have hl : lowB b = true := by unfold lowB; rw [p2]; simp; omega
  have hq := fun (w : World) => run_float_arith (P := Tryz.prog) w .mul 23 .f64 _ _ _ hc
  clear hc p2
  go_enter Tryz.func227, Tryz.ntmps227
  go_wp2_with (go_at_call 23; refine (abs_any _ _ p1).mono ?_; rintro e w' ⟨rfl, rfl⟩)
  go_ret2
  exact ⟨rfl, rfl⟩

/-- Either way: a normal number and what was shifted. -/
theorem norm_pos (b K t : Nat) (h0 : 0 < b)
    (hb : (∃ q, KQ b K q ∧ t = q + 52) ∨ (b < 4503599627370496 ∧ ∃ c, KQ c K t ∧ Go.floatBits .mul .f64 b 4841369599423283200 = some c)) :
    ∃ (c q : Nat) (n : Int), KQ c K q ∧ (q : Int) + n = t - 52 ∧ (n = 0 ∨ n = -52) ∧ ∀ w, Calls Tryz.prog 227 #[.float .f64 b] w fun e w' => e = .returned (.tuple #[.float .f64 c, .int .i64 n]) ∧ w = w' := by
  rcases hb with ⟨q, hk, rfl⟩ | ⟨g, c, hk, hc⟩
  · exact ⟨b, q, 0, hk, by omega, .inl rfl, fun w => norm_any b w hk.W hk.low⟩
  · exact ⟨c, t, -52, hk, by omega, .inr rfl, fun w => norm_low b c w h0 g hc⟩

set_option maxHeartbeats 1000000 in
theorem frexp_any (b K t : Nat) (w : World) (h0 : 0 < b) (h : b < 9218868437227405312)
    (hb : (∃ q, KQ b K q ∧ t = q + 52) ∨ (b < 4503599627370496 ∧ ∃ c, KQ c K t ∧ Go.floatBits .mul .f64 b 4841369599423283200 = some c)) :
    Calls Tryz.prog 206 #[.float .f64 b] w fun e w' => e = .returned (.tuple #[.float .f64 (frB K), .int .i64 ((t : Int) - 1073)]) ∧ w = w' := by
  have core : ∀ w, Calls Tryz.prog 229 #[.float .f64 b] w fun e w' => e = .returned (.tuple #[.float .f64 (frB K), .int .i64 ((t : Int) - 1073)]) ∧ w = w' := fun w => by
    obtain ⟨c, q, n, hk, hn, hn2, hnorm⟩ := norm_pos b K t h0 hb
    have HNO : Hid (∀ W, Calls Tryz.prog 227 #[.float .f64 b] W fun e w' => e = .returned (.tuple #[.float .f64 c, .int .i64 n]) ∧ W = w') := hnorm
    obtain ⟨p1, p2, p3, p4, p5, p6, p7⟩ := pos_facts b h0 h
    have ho := fr_or c K q hk
    have ho' := fr_or' c K q hk
    have he := hk.exp
    have hW := hk.W
    have HT : Hid (n + ((q : Int) + 1 - 1022) = (t : Int) - 1073) := by show _ = _; omega
    have hq : q ≤ 2045 := hk.top
    have hnb : -52 ≤ n ∧ n ≤ 0 := by omega
    have hx : ((expB c : Nat) : Int) = (q : Int) + 1 := by omega
    generalize frB K = F at *
    clear hk hn hn2 hnorm hb p2 p6 p7 he
    go_enter Tryz.func229, Tryz.ntmps229
    go_wp2_with (first | (go_at_call 70; refine (isinf_any _ _ p1).mono ?_; rintro e w' ⟨rfl, rfl⟩) | (go_at_call 204; refine (isnan_any _ _).mono ?_; rintro e w' ⟨rfl, rfl⟩) | (go_at_call 227; with_reducible refine (HNO.out _).mono ?_; rintro e w' ⟨rfl, rfl⟩))
    go_ret2
    refine ⟨?_, rfl⟩
    rw [← HT.out]
    show Ending.returned (.tuple #[.float .f64 F, .int .i64 (n + ((q : Int) + 1 - 1023 + 1))]) = _
    rw [show n + ((q : Int) + 1 - 1023 + 1) = n + ((q : Int) + 1 - 1022) by omega]
  go_enter Tryz.func206, Tryz.ntmps206
  go_wp2_with (go_at_call 229; refine (core _).mono ?_; rintro e w' ⟨rfl, rfl⟩)
  go_ret2
  exact ⟨rfl, rfl⟩

set_option maxHeartbeats 1000000 in
set_option maxRecDepth 100000 in
/-- Ldexp upwards. -/
theorem ldexp_up (y z d : Nat) (w : World) (h0 : 0 < y) (hz : z < 9218868437227405312) (hv : rv 52 z = rv 52 y * 2^d) (hd : d ≤ 2100) :
    Calls Tryz.prog 155 #[.float .f64 y, .int .i64 (d : Nat)] w fun e w' => e = .returned (.float .f64 z) ∧ w = w' := by
  have hyz : y ≤ z := by
    refine (rv_le_iff (p := 52)).1 ?_
    rw [hv]; exact Nat.le_mul_of_pos_right _ (Nat.two_pow_pos _)
  have hy : y < 9218868437227405312 := by omega
  obtain ⟨K, t, k1, k2, ht, hK, hb⟩ := first_bit y h0 hy
  have hv2 : rv 52 z * 2^52 = K * 2^(t + d) := by rw [hv, Nat.mul_right_comm, hK, Nat.mul_assoc, ← Nat.pow_add]
  have core : ∀ w, Calls Tryz.prog 203 #[.float .f64 y, .int .i64 (d : Nat)] w fun e w' => e = .returned (.float .f64 z) ∧ w = w' := fun w => by
    obtain ⟨c, q, n, hk, hn, hn2, hnorm⟩ := norm_pos y K t h0 hb
    have HNO : Hid (∀ W, Calls Tryz.prog 227 #[.float .f64 y] W fun e w' => e = .returned (.tuple #[.float .f64 c, .int .i64 n]) ∧ W = w') := hnorm
    obtain ⟨p1, p2, p3, p4, p5, p6, p7⟩ := pos_facts y h0 hy
    have he := hk.exp
    have hW := hk.W
    have hx : ((expB c : Nat) : Int) = (q : Int) + 1 := by omega
    have h6 : (c : Int) / 4503599627370496 ≤ 4095 := by have := hk.lt; omega
    have h7 : 0 ≤ (c : Int) / 4503599627370496 := by omega
    have hq1 : q ≤ 2045 := hk.top
    have hnb : -52 ≤ n ∧ n ≤ 0 := by omega
    rcases Nat.lt_or_ge (t + d) 52 with g | g
    · obtain ⟨a1, a2⟩ := up_low z K (t + d) k1 k2 hz hv2 g
      obtain ⟨v, hvv⟩ : ∃ v, v = (t + d + 1) * 4503599627370496 + K := ⟨_, rfl⟩
      rw [← hvv] at a1 a2
      have hq := fun (w : World) => run_float_arith (P := Tryz.prog) w .mul 23 .f64 _ _ _ a2
      have hy2 : ((t : Int) + d + 2).toNat = t + d + 1 + 1 := by omega
      have hv3 : v = ((t : Int) + d + 2).toNat * 4503599627370496 + (K - 4503599627370496) := by rw [hy2]; exact kq_shift v K _ hvv k1
      have hx2 : (d : Int) + n + ((q : Int) + 1 - 1023) + 53 + 1023 = (t : Int) + d + 2 := by clear hv3; omega
      have hx3 : 0 ≤ (t : Int) + d + 2 ∧ (t : Int) + d + 2 ≤ 2047 := by clear hv3 hx2; omega
      have ho := hk.or _ _ v hx2 hx3.1 hx3.2 hv3
      clear hv3 hx2 hx3 hy2
      clear hk hn2 hnorm hb p2 p6 p7 he a1 a2 hvv hv2 hv hK
      go_enter Tryz.func203, Tryz.ntmps203
      go_wp2_with (first | (go_at_call 70; refine (isinf_any _ _ p1).mono ?_; rintro e w' ⟨rfl, rfl⟩) | (go_at_call 204; refine (isnan_any _ _).mono ?_; rintro e w' ⟨rfl, rfl⟩) | (go_at_call 227; with_reducible refine (HNO.out _).mono ?_; rintro e w' ⟨rfl, rfl⟩))
      go_ret
      exact ⟨rfl, rfl⟩
    · have a1 := up_norm z K (t + d) k1 k2 hz hv2 g
      have a2 := mul_one _ _ _ a1
      have hq := fun (w : World) => run_float_arith (P := Tryz.prog) w .mul 23 .f64 _ _ _ a2
      have htop := a1.top
      have hy2 : ((t : Int) + d - 51).toNat = t + d - 52 + 1 := by omega
      have hv3 : z = ((t : Int) + d - 51).toNat * 4503599627370496 + (K - 4503599627370496) := by rw [hy2]; exact kq_shift z K _ a1.eq k1
      have hx2 : (d : Int) + n + ((q : Int) + 1 - 1023) + 1023 = (t : Int) + d - 51 := by clear hv3; omega
      have hx3 : 0 ≤ (t : Int) + d - 51 ∧ (t : Int) + d - 51 ≤ 2047 := by clear hv3 hx2; omega
      have ho := hk.or _ _ z hx2 hx3.1 hx3.2 hv3
      clear hv3 hx2 hx3 hy2
      clear hk hn2 hnorm hb p2 p6 p7 he a1 a2 hv2 hv hK
      go_enter Tryz.func203, Tryz.ntmps203
      go_wp2_with (first | (go_at_call 70; refine (isinf_any _ _ p1).mono ?_; rintro e w' ⟨rfl, rfl⟩) | (go_at_call 204; refine (isnan_any _ _).mono ?_; rintro e w' ⟨rfl, rfl⟩) | (go_at_call 227; with_reducible refine (HNO.out _).mono ?_; rintro e w' ⟨rfl, rfl⟩))
      go_ret
      exact ⟨rfl, rfl⟩
  go_enter Tryz.func155, Tryz.ntmps155
  go_wp2_with (go_at_call 203; refine (core _).mono ?_; rintro e w' ⟨rfl, rfl⟩)
  go_ret
  exact ⟨rfl, rfl⟩
end Go.Proofs.YtgfbcncjboenbaaGreatDoor

/- Walks: math.Mod. -/
namespace Go.Proofs.YtgfbcncjboenbaaGreatDoor
open Go.RowKit

theorem sub_pos (x z r : Nat) (hx : x < 9218868437227405312) (hz : z < 9218868437227405312) (h : rv 52 r + rv 52 z = rv 52 x) : Go.floatBits .sub .f64 x z = some r := by
  have hr : r < 9218868437227405312 := by
    have : rv 52 r ≤ rv 52 x := by omega
    have := (rv_le_iff (p := 52)).1 this
    omega
  obtain ⟨R, g1, g2⟩ := sub_fin Ieee.double (by decide) x z (by rw [fin_D]; unfold finB absB; simp; omega) (by rw [fin_D]; unfold finB absB; simp; omega)
  rw [V_D x (by unfold W64; omega), V_D z (by unfold W64; omega), sgn_D x (by unfold W64; omega), sgn_D z (by unfold W64; omega), D_inf] at g1
  rw [V_D x (by unfold W64; omega), V_D z (by unfold W64; omega)] at g2
  rw [valB_small x (by omega), valB_small z (by omega)] at g1 g2
  have hRr : R = r := by
    have h2 := Near.exact 52 r 1 (by decide)
    rw [Nat.mul_one] at h2
    have e : ((rv 52 x : Int) - rv 52 z).natAbs = rv 52 r := by omega
    have g2 : Near 52 ((rv 52 x : Int) - rv 52 z).natAbs 1 R := g2
    rw [e] at g2
    exact Near.uniq (by decide) g2 h2
  subst hRr
  have s1 : sgnB x = false := by unfold sgnB; simp; omega
  show Ieee.double.sub x z = _
  rw [g1, s1, decide_eq_false (by omega), Bool.false_and, Nat.min_eq_left (by omega)]
  split <;> rfl

theorem mod_ex (y : Nat) (hy0 : 0 < y) (hy1 : y < 9218868437227405312) : ∀ n x, x ≤ n → x < 9218868437227405312 → ∃ r, r ≤ x ∧ rv 52 r = rv 52 x % rv 52 y := by
  intro n
  induction n with
  | zero =>
    intro x hx _
    obtain rfl : x = 0 := by omega
    exact ⟨0, Nat.le_refl _, by rw [rv_zero, Nat.zero_mod]⟩
  | succ n ih =>
    intro x hx hx1
    rcases Nat.lt_or_ge x y with h | h
    · exact ⟨x, Nat.le_refl _, (Nat.mod_eq_of_lt (rv_lt h)).symm⟩
    · obtain ⟨K, t, k1, k2, -, hK, -⟩ := first_bit x (by omega) hx1
      obtain ⟨J, s, j1, j2, -, hJ, -⟩ := first_bit y hy0 hy1
      obtain ⟨d, z, r', -, -, g3, g4, g5⟩ := mod_step x y K t J s hx1 hy0 h k1 k2 j1 j2 hK hJ
      obtain ⟨r, h1, h2⟩ := ih r' (by omega) (by omega)
      refine ⟨r, by omega, ?_⟩
      rw [h2, ← g5, g4, Nat.add_mul_mod_self_left]

def bitsOf (v : Value) : Nat := match v with | .float _ b => b | _ => 0

set_option maxHeartbeats 1000000 in
set_option maxRecDepth 100000 in
/-- The loop, of a number above nought. -/
theorem mod_pos (a y : Nat) (b : Nat) (ha : W64 a) (hb : W64 b) (fa : finB a = true) (za : zeroB a = false) (hy : y = absB b) (hy0 : 0 < y) (hy1 : y < 9218868437227405312) :
    ∃ r, r < 9218868437227405312 ∧ rv 52 r = rv 52 (absB a) % rv 52 y ∧ ∀ w, Calls Tryz.prog 159 #[.float .f64 a, .float .f64 b] w fun e w' => e = .returned (.float .f64 (sgW (sgnB a) + r)) ∧ w = w' := by
  obtain ⟨x, hx⟩ : ∃ x, x = absB a := ⟨_, rfl⟩
  have hx0 : 0 < x := by unfold zeroB at za; simp at za; omega
  have hx1 : x < 9218868437227405312 := by rw [hx]; exact finB_lt' a fa
  obtain ⟨J, s, j1, j2, hs, hJ, hjb⟩ := first_bit y hy0 hy1
  obtain ⟨r, hrx, hr⟩ := mod_ex y hy0 hy1 x x (Nat.le_refl _) hx1
  refine ⟨r, by omega, by rw [← hx]; exact hr, fun w => ?_⟩
  have HFY : Hid (∀ W, Calls Tryz.prog 206 #[.float .f64 y] W fun e w' => e = .returned (.tuple #[.float .f64 (frB J), .int .i64 ((s : Int) - 1073)]) ∧ W = w') := fun W => frexp_any y J s W hy0 hy1 hjb
  have HAB : Hid (∀ W, Calls Tryz.prog 23 #[.float .f64 b] W fun e w' => e = .returned (.float .f64 y) ∧ W = w') := fun W => by rw [hy]; exact abs_any b W hb
  have nb : nanB b = false := by unfold nanB; rw [← hy]; simp; omega
  have zb : zeroB b = false := by unfold zeroB; rw [← hy]; simp; omega
  obtain ⟨p1, p2, p3, p4, p5, p6, p7⟩ := pos_facts x hx0 hx1
  have na : nanB a = false ∧ infB a = false := by rw [finB_eq] at fa; simpa using fa
  have HIA : Hid (∀ W, Calls Tryz.prog 70 #[.float .f64 a, .int .i64 0] W fun e w' => e = .returned (.bool false) ∧ W = w') := fun W => by rw [← na.2]; exact isinf_any a W ha
  have HNA : Hid (∀ W, Calls Tryz.prog 204 #[.float .f64 a] W fun e w' => e = .returned (.bool false) ∧ W = w') := fun W => by rw [← na.1]; exact isnan_any a W
  have HNB : Hid (∀ W, Calls Tryz.prog 204 #[.float .f64 b] W fun e w' => e = .returned (.bool false) ∧ W = w') := fun W => by rw [← nb]; exact isnan_any b W
  have hzb := w_eq_zero b hb
  rw [zb] at hzb
  -- the step
  have HST : Hid (∀ r, r < 9218868437227405312 → y ≤ r → ∃ K t d z r' : Nat, 4503599627370496 ≤ K ∧ K < 9007199254740992 ∧ t ≤ 2097 ∧ (if K < J then (t : Int) - 1 else t) - s = ((d : Nat) : Int) ∧ d ≤ 2100 ∧ r' < r ∧ rv 52 r' % rv 52 y = rv 52 r % rv 52 y ∧
      (∀ W, Calls Tryz.prog 206 #[.float .f64 r] W fun e w' => e = .returned (.tuple #[.float .f64 (frB K), .int .i64 ((t : Int) - 1073)]) ∧ W = w') ∧
      (∀ W, Calls Tryz.prog 155 #[.float .f64 y, .int .i64 (d : Nat)] W fun e w' => e = .returned (.float .f64 z) ∧ W = w') ∧ Go.floatBits .sub .f64 r z = some r') := by
    intro r hr hyr
    obtain ⟨K, t, k1, k2, ht, hK, hkb⟩ := first_bit r (by omega) hr
    obtain ⟨d, z, r', g1, g2, g3, g4, g5⟩ := mod_step r y K t J s hr hy0 hyr k1 k2 j1 j2 hK hJ
    have hd : d ≤ 2100 := by
      by_cases c : K < J
      · rw [if_pos c] at g1; omega
      · rw [if_neg c] at g1; omega
    refine ⟨K, t, d, z, r', k1, k2, ht, g1, hd, g3, ?_, fun W => frexp_any r K t W (by omega) hr hkb, fun W => ldexp_up y z d W hy0 g2 g4 hd, sub_pos r z r' hr g2 g5⟩
    rw [← g5, g4, Nat.add_mul_mod_self_left]
  have HGE : Hid (∀ r, r < 9218868437227405312 → (Go.FloatKind.f64.format.order r y == some Ordering.gt || Go.FloatKind.f64.format.order r y == some Ordering.eq) = decide (y ≤ r)) := fun r hr => pos_ge r y hr hy1
  have HFO : Hid (∀ K, 4503599627370496 ≤ K → K < 9007199254740992 → (Go.FloatKind.f64.format.order (frB K) (frB J) == some Ordering.lt) = decide (K < J)) := fun K h1 h2 => fr_order K J h1 h2 j1 j2
  have HEND : Hid (∀ q, q < y → rv 52 q % rv 52 y = rv 52 x % rv 52 y → q = r) := by
    intro q hq h
    refine rv_inj (p := 52) ?_
    rw [hr, ← h, Nat.mod_eq_of_lt (rv_lt hq)]
  have hlt := w_lt_zero a ha
  have hng : negB a = sgnB a := by unfold negB; rw [na.1]; rfl
  rw [hng, za, Bool.not_false, Bool.and_true] at hlt
  have hfl : sgnB a = true → Go.Op.negFloat .f64 a = x := fun h => by
    rw [flip_D a ha]; unfold flipB; rw [h, hx]; rfl
  have hpo : sgnB a = false → a = x := fun h => by
    have := split_B a ha
    unfold sgnW at this
    rw [h] at this
    rw [hx]; simpa using this
  clear hy hJ hjb zb p1 p2 p3 p4 p5 p6 p7 na nb fa za hb hx hr hrx j1 j2 hng
  cases hsg : sgnB a
  · obtain rfl := hpo hsg
    rw [hsg] at hlt
    clear hfl hpo
    go_enter Tryz.func159, Tryz.ntmps159
    go_wp2_with (first | (go_at_call 70; with_reducible refine (HIA.out _).mono ?_; rintro e w' ⟨rfl, rfl⟩) | (go_at_call 204; with_reducible refine (HNA.out _).mono ?_; rintro e w' ⟨rfl, rfl⟩) | (go_at_call 204; with_reducible refine (HNB.out _).mono ?_; rintro e w' ⟨rfl, rfl⟩) | (go_at_call 23; with_reducible refine (HAB.out _).mono ?_; rintro e w' ⟨rfl, rfl⟩) | (go_at_call 206; with_reducible refine (HFY.out _).mono ?_; rintro e w' ⟨rfl, rfl⟩))
    go_loop [7] (fun v => ∃ q : Nat, v = .float .f64 q ∧ q < 9218868437227405312 ∧ Hid (rv 52 q % rv 52 y = rv 52 a % rv 52 y)) (fun v => bitsOf v)
    case atStart => exact ⟨a, rfl, hx1, (rfl : _ = _)⟩
    case round =>
      obtain ⟨q, rfl, hq, hqm⟩ := hrel
      rcases Nat.lt_or_ge q y with hlt2 | hge
      · have hge2 := HGE.out q hq
        rw [decide_eq_false (by omega)] at hge2
        obtain rfl := HEND.out q hlt2 hqm.out
        clear HST HGE HFO HEND
        go_wp2
        go_ret
        refine ⟨?_, rfl⟩
        show Ending.returned (.float .f64 q) = _
        rw [show sgW false + q = q by unfold sgW; simp]
      · have hge2 := HGE.out q hq
        rw [decide_eq_true hge] at hge2
        obtain ⟨K, t, d, z, q', k1, k2, ht, hd, hd2, hq', hm', hf, hl, hs2⟩ := HST.out q hq hge
        have HFR : Hid (∀ W, Calls Tryz.prog 206 #[.float .f64 q] W fun e w' => e = .returned (.tuple #[.float .f64 (frB K), .int .i64 ((t : Int) - 1073)]) ∧ W = w') := hf
        have HLD : Hid (∀ W, Calls Tryz.prog 155 #[.float .f64 y, .int .i64 (d : Nat)] W fun e w' => e = .returned (.float .f64 z) ∧ W = w') := hl
        have HM : Hid (rv 52 q' % rv 52 y = rv 52 q % rv 52 y) := hm'
        have hfo := HFO.out K k1 k2
        have hsub := fun (w : World) => run_float_arith (P := Tryz.prog) w .sub 23 .f64 _ _ _ hs2
        clear HST HGE HFO HEND hf hl hs2 hm'
        generalize frB K = f1 at *
        generalize frB J = f2 at *
        by_cases hKJ : K < J
        · rw [decide_eq_true hKJ] at hfo
          rw [if_pos hKJ] at hd
          clear hKJ k1 k2
          go_wp2_with (first | (go_at_call 206; with_reducible refine (HFR.out _).mono ?_; rintro e w' ⟨rfl, rfl⟩))
          rw [show (t : Int) - 1073 - 1 - ((s : Int) - 1073) = (d : Int) by omega]
          with_reducible refine (HLD.out _).mono ?_
          rintro e w' ⟨rfl, rfl⟩
          go_wp2
          go_round
          case rel => exact ⟨q', rfl, by omega, (HM.out.trans hqm.out : _ = _)⟩
          case measure => simp [bitsOf]; omega
        · rw [decide_eq_false hKJ] at hfo
          rw [if_neg hKJ] at hd
          clear hKJ k1 k2
          go_wp2_with (first | (go_at_call 206; with_reducible refine (HFR.out _).mono ?_; rintro e w' ⟨rfl, rfl⟩))
          rw [show (t : Int) - 1073 - ((s : Int) - 1073) = (d : Int) by omega]
          with_reducible refine (HLD.out _).mono ?_
          rintro e w' ⟨rfl, rfl⟩
          go_wp2
          go_round
          case rel => exact ⟨q', rfl, by omega, (HM.out.trans hqm.out : _ = _)⟩
          case measure => simp [bitsOf]; omega
  · have hfl := hfl hsg
    rw [hsg] at hlt
    clear hpo
    go_enter Tryz.func159, Tryz.ntmps159
    go_wp2_with (first | (go_at_call 70; with_reducible refine (HIA.out _).mono ?_; rintro e w' ⟨rfl, rfl⟩) | (go_at_call 204; with_reducible refine (HNA.out _).mono ?_; rintro e w' ⟨rfl, rfl⟩) | (go_at_call 204; with_reducible refine (HNB.out _).mono ?_; rintro e w' ⟨rfl, rfl⟩) | (go_at_call 23; with_reducible refine (HAB.out _).mono ?_; rintro e w' ⟨rfl, rfl⟩) | (go_at_call 206; with_reducible refine (HFY.out _).mono ?_; rintro e w' ⟨rfl, rfl⟩))
    go_loop [7] (fun v => ∃ q : Nat, v = .float .f64 q ∧ q < 9218868437227405312 ∧ Hid (rv 52 q % rv 52 y = rv 52 x % rv 52 y)) (fun v => bitsOf v)
    case atStart => exact ⟨x, rfl, hx1, (rfl : _ = _)⟩
    case round =>
      obtain ⟨q, rfl, hq, hqm⟩ := hrel
      rcases Nat.lt_or_ge q y with hlt2 | hge
      · have hge2 := HGE.out q hq
        rw [decide_eq_false (by omega)] at hge2
        obtain rfl := HEND.out q hlt2 hqm.out
        clear HST HGE HFO HEND
        have hng2 : Go.Op.negFloat .f64 q = sgW true + q := by
          rw [flip_D q (by unfold W64; omega)]
          unfold flipB sgW
          rw [show sgnB q = false by unfold sgnB; simp; omega]
          simp [Nat.add_comm]
        go_wp2
        go_ret
        exact ⟨rfl, rfl⟩
      · have hge2 := HGE.out q hq
        rw [decide_eq_true hge] at hge2
        obtain ⟨K, t, d, z, q', k1, k2, ht, hd, hd2, hq', hm', hf, hl, hs2⟩ := HST.out q hq hge
        have HFR : Hid (∀ W, Calls Tryz.prog 206 #[.float .f64 q] W fun e w' => e = .returned (.tuple #[.float .f64 (frB K), .int .i64 ((t : Int) - 1073)]) ∧ W = w') := hf
        have HLD : Hid (∀ W, Calls Tryz.prog 155 #[.float .f64 y, .int .i64 (d : Nat)] W fun e w' => e = .returned (.float .f64 z) ∧ W = w') := hl
        have HM : Hid (rv 52 q' % rv 52 y = rv 52 q % rv 52 y) := hm'
        have hfo := HFO.out K k1 k2
        have hsub := fun (w : World) => run_float_arith (P := Tryz.prog) w .sub 23 .f64 _ _ _ hs2
        clear HST HGE HFO HEND hf hl hs2 hm'
        generalize frB K = f1 at *
        generalize frB J = f2 at *
        by_cases hKJ : K < J
        · rw [decide_eq_true hKJ] at hfo
          rw [if_pos hKJ] at hd
          clear hKJ k1 k2
          go_wp2_with (first | (go_at_call 206; with_reducible refine (HFR.out _).mono ?_; rintro e w' ⟨rfl, rfl⟩))
          rw [show (t : Int) - 1073 - 1 - ((s : Int) - 1073) = (d : Int) by omega]
          with_reducible refine (HLD.out _).mono ?_
          rintro e w' ⟨rfl, rfl⟩
          go_wp2
          go_round
          case rel => exact ⟨q', rfl, by omega, (HM.out.trans hqm.out : _ = _)⟩
          case measure => simp [bitsOf]; omega
        · rw [decide_eq_false hKJ] at hfo
          rw [if_neg hKJ] at hd
          clear hKJ k1 k2
          go_wp2_with (first | (go_at_call 206; with_reducible refine (HFR.out _).mono ?_; rintro e w' ⟨rfl, rfl⟩))
          rw [show (t : Int) - 1073 - ((s : Int) - 1073) = (d : Int) by omega]
          with_reducible refine (HLD.out _).mono ?_
          rintro e w' ⟨rfl, rfl⟩
          go_wp2
          go_round
          case rel => exact ⟨q', rfl, by omega, (HM.out.trans hqm.out : _ = _)⟩
          case measure => simp [bitsOf]; omega

set_option maxRecDepth 100000 in
theorem mod_zero (a y b : Nat) (w : World) (ha : W64 a) (hb : W64 b) (za : zeroB a = true) (hy : y = absB b) (hy0 : 0 < y) (hy1 : y < 9218868437227405312) :
    Calls Tryz.prog 159 #[.float .f64 a, .float .f64 b] w fun e w' => e = .returned (.float .f64 a) ∧ w = w' := by
  obtain ⟨J, s, j1, j2, hs, hJ, hjb⟩ := first_bit y hy0 hy1
  have HFY : Hid (∀ W, Calls Tryz.prog 206 #[.float .f64 y] W fun e w' => e = .returned (.tuple #[.float .f64 (frB J), .int .i64 ((s : Int) - 1073)]) ∧ W = w') := fun W => frexp_any y J s W hy0 hy1 hjb
  have HAB : Hid (∀ W, Calls Tryz.prog 23 #[.float .f64 b] W fun e w' => e = .returned (.float .f64 y) ∧ W = w') := fun W => by rw [hy]; exact abs_any b W hb
  have nb : nanB b = false := by unfold nanB; rw [← hy]; simp; omega
  have zb : zeroB b = false := by unfold zeroB; rw [← hy]; simp; omega
  obtain ⟨ia, na⟩ := zero_not_inf za
  have HIA : Hid (∀ W, Calls Tryz.prog 70 #[.float .f64 a, .int .i64 0] W fun e w' => e = .returned (.bool false) ∧ W = w') := fun W => by rw [← ia]; exact isinf_any a W ha
  have HNA : Hid (∀ W, Calls Tryz.prog 204 #[.float .f64 a] W fun e w' => e = .returned (.bool false) ∧ W = w') := fun W => by rw [← na]; exact isnan_any a W
  have HNB : Hid (∀ W, Calls Tryz.prog 204 #[.float .f64 b] W fun e w' => e = .returned (.bool false) ∧ W = w') := fun W => by rw [← nb]; exact isnan_any b W
  have hzb := w_eq_zero b hb
  rw [zb] at hzb
  have hlt := w_lt_zero a ha
  rw [za, Bool.not_true, Bool.and_false] at hlt
  have hge2 : (Go.FloatKind.f64.format.order a y == some Ordering.gt || Go.FloatKind.f64.format.order a y == some Ordering.eq) = false := by
    show (Ieee.double.order _ _ == some Ordering.gt || Ieee.double.order _ _ == some Ordering.eq) = _
    have ny : nanB y = false := by unfold nanB absB; simp; omega
    rw [ord_D a y ha (by unfold W64; omega) na ny, valB_small y (by omega)]
    have hv : valB a = 0 := by
      unfold valB
      have : absB a = 0 := by unfold zeroB at za; simpa using za
      rw [this, rv_zero]
      split <;> rfl
    have hp : 0 < rv 52 y := by have := rv_lt (p := 52) hy0; omega
    rw [hv, Bool.eq_iff_iff, Bool.or_eq_true, beq_iff_eq, beq_iff_eq, Option.some.injEq, Option.some.injEq, Int.compare_eq_gt, Int.compare_eq_eq]
    constructor
    · intro h; omega
    · intro h; cases h
  generalize frB J = f1 at *
  clear hy hJ hjb zb nb ia na za hb j1 j2
  go_enter Tryz.func159, Tryz.ntmps159
  go_wp2_with (first | (go_at_call 70; with_reducible refine (HIA.out _).mono ?_; rintro e w' ⟨rfl, rfl⟩) | (go_at_call 204; with_reducible refine (HNA.out _).mono ?_; rintro e w' ⟨rfl, rfl⟩) | (go_at_call 204; with_reducible refine (HNB.out _).mono ?_; rintro e w' ⟨rfl, rfl⟩) | (go_at_call 23; with_reducible refine (HAB.out _).mono ?_; rintro e w' ⟨rfl, rfl⟩) | (go_at_call 206; with_reducible refine (HFY.out _).mono ?_; rintro e w' ⟨rfl, rfl⟩))
  go_loop [7] (fun v => v = .float .f64 a) (fun _ => 0)
  case atStart => rfl
  case round =>
    obtain rfl := hrel
    go_wp2
    go_ret
    exact ⟨rfl, rfl⟩

/-- What is left. -/
theorem mmod_any (a b : Nat) (ha : W64 a) (hb : W64 b) (fa : finB a = true) (fb : finB b = true) (zb : zeroB b = false) :
    ∃ r, r < 9218868437227405312 ∧ rv 52 r = rv 52 (absB a) % rv 52 (absB b) ∧ ∀ w, Calls Tryz.prog 105 #[.float .f64 a, .float .f64 b] w fun e w' => e = .returned (.float .f64 (sgW (sgnB a) + r)) ∧ w = w' := by
  have hy0 : 0 < absB b := by unfold zeroB at zb; simp at zb; omega
  have hy1 := finB_lt' b fb
  obtain ⟨r, h1, h2, h3⟩ : ∃ r, r < 9218868437227405312 ∧ rv 52 r = rv 52 (absB a) % rv 52 (absB b) ∧ ∀ w, Calls Tryz.prog 159 #[.float .f64 a, .float .f64 b] w fun e w' => e = .returned (.float .f64 (sgW (sgnB a) + r)) ∧ w = w' := by
    cases za : zeroB a
    · exact mod_pos a _ b ha hb fa za rfl hy0 hy1
    · have h0 : absB a = 0 := by unfold zeroB at za; simpa using za
      refine ⟨0, by decide, by rw [h0, rv_zero, Nat.zero_mod], fun w => ?_⟩
      have e : sgW (sgnB a) + 0 = a := by
        have := split_B a ha
        rw [h0] at this
        exact this.symm
      rw [e]
      exact mod_zero a _ b w ha hb za rfl hy0 hy1
  refine ⟨r, h1, h2, fun w => ?_⟩
  go_enter Tryz.func105, Tryz.ntmps105
  go_wp2_with (go_at_call 159; with_reducible refine (h3 _).mono ?_; rintro e w' ⟨rfl, rfl⟩)
  go_ret
  exact ⟨rfl, rfl⟩
end Go.Proofs.YtgfbcncjboenbaaGreatDoor

/- Powers: whole exponents (no program in sight but its kinds). -/
namespace Go.Proofs.YtgfbcncjboenbaaGreatDoor
open Go.RowKit

/-- A number's magnitude, cut. -/
def whV (b : Nat) : Nat := rv 52 (absB b) / 2^LP
theorem cut_zero (s : Bool) (n d : Nat) : Ieee.Toward.zero.cut s n d = n / 2^d := by
  show n / (1 <<< min d (n.log2 + 2)) + 0 = _
  rw [Nat.add_zero, Nat.shiftLeft_eq, Nat.one_mul]
  rcases Nat.le_total d (n.log2 + 2) with h | h
  · rw [Nat.min_eq_left h]
  · rw [Nat.min_eq_right h]
    have h1 : n < 2^(n.log2 + 2) := Nat.lt_of_lt_of_le Nat.lt_log2_self (Nat.pow_le_pow_right (by decide) (by omega))
    rw [Nat.div_eq_of_lt h1, Nat.div_eq_of_lt (Nat.lt_of_lt_of_le h1 (Nat.pow_le_pow_right (by decide) h))]

theorem cut_read (b : Nat) (hb : W64 b) (fb : finB b = true) : (Ieee.double.read b).integral .zero = .number (sgnB b) (whV b) 0 := by
  have hl := LP_eq
  have hf : fin Ieee.double b := by unfold fin; rw [rg_D, D_inf]; unfold finB at fb; simpa using fb
  obtain ⟨m, k, h1, h2, -⟩ := read_num Ieee.double b hf
  rw [sgn_D b hb, D_lp'] at h1
  rw [rg_D] at h2
  have h2 : m * 2^k = rv 52 (absB b) := h2
  rw [h1]
  show Ieee.Datum.number _ (Ieee.Toward.zero.cut _ (m <<< (-(LP : Int) + k).toNat) (-(-(LP : Int) + k)).toNat) 0 = _
  rw [cut_zero, Nat.shiftLeft_eq]
  unfold whV
  rw [← h2]
  congr 1
  rcases Nat.le_total k LP with h | h
  · rw [show (-(LP : Int) + k).toNat = 0 by omega, show (-(-(LP : Int) + k)).toNat = LP - k by omega, Nat.pow_zero, Nat.mul_one]
    have e : 2^LP = 2^(LP - k) * 2^k := by rw [← Nat.pow_add]; congr 1; omega
    rw [e, Nat.mul_div_mul_right _ _ (Nat.two_pow_pos _)]
  · rw [show (-(-(LP : Int) + k)).toNat = 0 by omega, show (-(LP : Int) + k).toNat = k - LP by omega, Nat.pow_zero, Nat.div_one]
    have e : 2^k = 2^(k - LP) * 2^LP := by rw [← Nat.pow_add]; congr 1; omega
    rw [e, ← Nat.mul_assoc, Nat.mul_div_cancel _ (Nat.two_pow_pos _)]

end Go.Proofs.YtgfbcncjboenbaaGreatDoor

/- Walks: math.Trunc, table's whole exponents. -/
namespace Go.Proofs.YtgfbcncjboenbaaGreatDoor
open Go.RowKit

theorem trunc_open (x : Nat) (w : World) : (callFunc 156 #[.float .f64 x]).run Tryz.prog w = ((Extern.MathFloor.toIntegral "math.archTrunc" .zero #[.float .f64 x]).run Tryz.prog w).andThen fun v w' => .ok (.value v) w' :=
  run_callFunc_extern Tryz.func156 (by kernel_rfl) (by kernel_rfl) (by kernel_rfl) (by kernel_rfl) _ w
theorem trunc_eq (x : Nat) : Extern.MathFloor.toIntegral "math.archTrunc" .zero #[.float .f64 x] = (match FloatKind.f64.decode x with
    | .nan b t => (if FloatKind.f64.format.quiet t = t then pure (.float .f64 x) else do
        let c ← choose (.extern "math.Floor,Ceil,Trunc,RoundToEven.signallingNaN kept" 2)
        pure (.float .f64 (if c == 1 then x else FloatKind.f64.encode (.nan b (FloatKind.f64.format.quiet t)))))
    | d => pure (.float .f64 (FloatKind.f64.encode (d.integral .zero)))) := rfl
theorem trunc_num (x : Nat) (d : Ieee.Datum) (h : FloatKind.f64.decode x = d) (hd : ∀ s t, d ≠ .nan s t) : Extern.MathFloor.toIntegral "math.archTrunc" .zero #[.float .f64 x] = pure (.float .f64 (FloatKind.f64.encode (d.integral .zero))) := by
  rw [trunc_eq, h]
  cases d with
  | nan s t => exact absurd rfl (hd s t)
  | number s m e => rfl
  | infinity s => rfl
theorem run_trunc_num (x : Nat) (d : Ieee.Datum) (w : World) (h : FloatKind.f64.decode x = d) (hd : ∀ s t, d ≠ .nan s t) : (callFunc 156 #[.float .f64 x]).run Tryz.prog w = .ok (.value (.float .f64 (FloatKind.f64.encode (d.integral .zero)))) w := by
  rw [trunc_open, trunc_num x d h hd]
  simp
set_option maxRecDepth 100000 in
theorem mtrunc_run (a v : Nat) (w w1 : World) (h : (callFunc 156 #[.float .f64 a]).run Tryz.prog w = .ok (.value (.float .f64 v)) w1) : Calls Tryz.prog 102 #[.float .f64 a] w fun e w' => e = .returned (.float .f64 v) ∧ w' = w1 := by
  go_enter Tryz.func102, Tryz.ntmps102
  go_wp2
  go_ret
  exact ⟨rfl, rfl⟩

theorem mtrunc_fin (a : Nat) (w : World) (ha : W64 a) (fa : finB a = true) : Calls Tryz.prog 102 #[.float .f64 a] w fun e w' => e = .returned (.float .f64 (Ieee.double.write (.number (sgnB a) (whV a) 0))) ∧ w' = w := by
  rcases read_cases a ha with ⟨-, -, -, h0, -⟩ | ⟨-, -, -, h0, -⟩ | ⟨-, -, -, m, e, h, -⟩
  · rw [fa] at h0; cases h0
  · rw [fa] at h0; cases h0
  · have h1 := run_trunc_num a _ w h (fun _ _ h => by cases h)
    have h2 := cut_read a ha fa
    rw [h] at h2
    rw [h2] at h1
    exact mtrunc_run a _ w w h1

end Go.Proofs.YtgfbcncjboenbaaGreatDoor
