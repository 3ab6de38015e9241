/- A number put together: what Join comes to. Plain mathematics. -/
import Derived.Test.YtlmbpjppkcdcnaaDoorFm
import Derived.Lib.TrailingZeros
namespace Go.Proofs.YtlmbpjppkcdcnaaDoor
open Ieee

def blen (n : Nat) : Nat := if n = 0 then 0 else n.log2 + 1
theorem blen_pos {n : Nat} (h : n ≠ 0) : 2^(blen n - 1) ≤ n ∧ n < 2^(blen n) ∧ 1 ≤ blen n := by
  unfold blen; rw [if_neg h, Nat.add_sub_cancel]
  exact ⟨Nat.log2_self_le h, Nat.lt_log2_self, by omega⟩
theorem blen_le {n k : Nat} (h : n < 2^k) : blen n ≤ k := by
  by_cases z : n = 0
  · subst z; exact Nat.zero_le _
  · have := blen_pos z
    rcases Nat.lt_or_ge k (blen n) with g | g
    · have : 2^k ≤ 2^(blen n - 1) := Nat.pow_le_pow_right (by omega) (by omega)
      omega
    · exact g
theorem blen_ge {n k : Nat} (h : 2^k ≤ n) : k + 1 ≤ blen n := by
  have h0 : n ≠ 0 := by have := Nat.two_pow_pos k; omega
  have := blen_pos h0
  rcases Nat.lt_or_ge k (blen n) with g | g
  · exact g
  · have : 2^(blen n) ≤ 2^k := Nat.pow_le_pow_right (by omega) g
    omega

def joZ (m : Nat) : Nat := Lib.ctz 64 m
def joO (m : Nat) : Nat := m / 2^joZ m
theorem join_parts (m : Nat) (hm : W64 m) (h0 : m ≠ 0) : m = joO m * 2^joZ m ∧ joO m % 2 = 1 ∧ joZ m < 64 ∧ joO m ≤ m := by
  unfold W64 at hm
  obtain ⟨k, h1, h2⟩ := Lib.ctzFrom_spec 64 m (by omega) hm
  have e : joZ m = Lib.ctzFrom 64 m := by unfold joZ Lib.ctz; rw [if_neg h0]
  have e2 : joO m = 2*k+1 := by
    unfold joO; rw [e]
    conv => lhs; lhs; rw [h1]
    exact Nat.mul_div_cancel_left _ (Nat.two_pow_pos _)
  refine ⟨?_, by omega, by omega, Nat.div_le_self _ _⟩
  rw [e2, e, Nat.mul_comm]; exact h1

def joBad (m : Nat) (e : Int) : Prop := 2000 < e ∨ e < -2000 ∨ 53 < blen (joO m) ∨ e + joZ m < -1074 ∨ 1023 < e + joZ m + blen (joO m) - 1
instance (m : Nat) (e : Int) : Decidable (joBad m e) := by unfold joBad; infer_instance
def sgW (neg : Bool) : Nat := if neg then 9223372036854775808 else 0
def joinX (m : Nat) (e : Int) : Int := if m = 0 then 0 else if joBad m e then 11 else 0
def joinB (neg : Bool) (m : Nat) (e : Int) : Nat := if m = 0 then sgW neg else if joBad m e then 0 else sgW neg + Ieee.double.nearest false (joO m) (e + joZ m)
theorem nearest_le (m : Nat) (e : Int) : Ieee.double.nearest false m e ≤ 9218868437227405312 := by
  obtain ⟨R, h, _⟩ := nearest_near' Ieee.double (by decide) false m e
  rw [h, D_inf]; exact Nat.min_le_right _ _

/-- An exact one: o 2^e = M 2^E, M of 53 bits at most (of 53, if E is above -1074). -/
theorem nearest_rung (o M : Nat) (e E : Int) (i : Nat) (hM : M = o * 2^i) (hE : E = e - i) (h1 : M < 9007199254740992) (h2 : -1074 ≤ E) (h3 : E ≤ 971) (h4 : 4503599627370496 ≤ M ∨ E ≤ -1074) :
    Ieee.double.nearest false o e = (E + 1074).toNat * 4503599627370496 + M := by
  obtain ⟨R, g1, g2⟩ := nearest_near' Ieee.double (by decide) false o e
  have hl := LP_eq
  have hr : rv 52 ((E + 1074).toNat * 4503599627370496 + M) = M * 2^(E + 1074).toNat := rv_qK 52 _ M (by omega) (by omega)
  have hx := Near.exact 52 ((E + 1074).toNat * 4503599627370496 + M) 1 (by decide)
  rw [hr, Nat.mul_one] at hx
  rw [D_lp'] at g2
  have hR : R = (E + 1074).toNat * 4503599627370496 + M := by
    refine Near.uniq (by decide) (Near.cross (Nat.two_pow_pos _) (by decide) ?_ g2) hx
    rw [hM, Nat.mul_one, Nat.mul_assoc, Nat.mul_assoc, ← Nat.pow_add, ← Nat.pow_add]
    congr 2; omega
  rw [g1, D_inf, hR, Nat.min_eq_left (by omega)]; rfl

/-- The reference's way: after the loops. -/
theorem join_ref (m : Nat) (e : Int) (hm : W64 m) (h0 : m ≠ 0) (M i : Nat) (E : Int) (hM : M = joO m * 2^i) (hE : E = e + joZ m - i)
    (h1 : 4503599627370496 ≤ M ∨ E ≤ -1074) (h2 : i = 0 ∨ (joO m * 2^(i-1) < 4503599627370496 ∧ -1074 ≤ E)) :
    (joBad m e ↔ (9007199254740992 ≤ M ∨ E < -1074 ∨ 971 < E)) ∧ (¬ joBad m e → Ieee.double.nearest false (joO m) (e + joZ m) = (E + 1074).toNat * 4503599627370496 + M) := by
  obtain ⟨p1, p2, p3, p4⟩ := join_parts m hm h0
  have ho : joO m ≠ 0 := by omega
  obtain ⟨b1, b2, b3⟩ := blen_pos ho
  have iff : joBad m e ↔ (9007199254740992 ≤ M ∨ E < -1074 ∨ 971 < E) := by
    unfold joBad
    generalize joO m = o at *
    generalize joZ m = z at *
    have hbig : 53 < blen o → 9007199254740992 ≤ o := fun g => by
      have : 2^53 ≤ 2^(blen o - 1) := Nat.pow_le_pow_right (by omega) (by omega)
      omega
    have hbig' : 9007199254740992 ≤ o → 53 < blen o := fun g => by have := blen_ge (n := o) (k := 53) g; omega
    have hoM : o ≤ M := by rw [hM]; exact Nat.le_mul_of_pos_right _ (Nat.two_pow_pos _)
    have hlt : i ≠ 0 → M < 9007199254740992 := by
      intro g
      rcases h2 with z | ⟨z, _⟩
      · exact absurd z g
      · have : o * 2^i = 2 * (o * 2^(i-1)) := by
          rw [show i = (i-1)+1 from by omega, Nat.pow_succ, Nat.add_sub_cancel, ← Nat.mul_assoc, Nat.mul_comm]
        omega
    have hM0 : i = 0 → M = o := fun g => by rw [hM, g, Nat.pow_zero, Nat.mul_one]
    have hmb : 2^(blen o - 1 + i) ≤ M := by rw [hM, Nat.pow_add]; exact Nat.mul_le_mul_right _ b1
    have hmb' : M < 2^(blen o + i) := by rw [hM, Nat.pow_add]; exact Nat.mul_lt_mul_of_pos_right b2 (Nat.two_pow_pos _)
    have hup : 4503599627370496 ≤ M → M < 9007199254740992 → blen o + i = 53 := by
      intro g1 g2
      have a1 : 52 < blen o + i := by
        rcases Nat.lt_or_ge 52 (blen o + i) with g | g
        · exact g
        · have : 2^(blen o + i) ≤ 2^52 := Nat.pow_le_pow_right (by omega) g
          omega
      have a2 : blen o - 1 + i < 53 := by
        rcases Nat.lt_or_ge (blen o - 1 + i) 53 with g | g
        · exact g
        · have : 2^53 ≤ 2^(blen o - 1 + i) := Nat.pow_le_pow_right (by omega) g
          omega
      omega
    have hdn : M < 4503599627370496 → blen o + i ≤ 52 := by
      intro g
      rcases Nat.lt_or_ge 52 (blen o + i) with g' | g'
      · have : 2^52 ≤ 2^(blen o - 1 + i) := Nat.pow_le_pow_right (by omega) (by omega)
        omega
      · exact g'
    constructor
    · intro g
      by_cases c1 : 9007199254740992 ≤ M
      · exact .inl c1
      by_cases c2 : E < -1074
      · exact .inr (.inl c2)
      refine .inr (.inr ?_)
      have c3 : ¬ 53 < blen o := fun g => by have := hbig g; omega
      by_cases c4 : 4503599627370496 ≤ M
      · have := hup c4 (by omega); omega
      · have := hdn (by omega)
        rcases g with g | g | g | g | g <;> omega
    · intro g
      by_cases c3 : 53 < blen o
      · exact .inr (.inr (.inl c3))
      have c1 : M < 9007199254740992 := by
        by_cases z : i = 0
        · have := hM0 z
          rcases Nat.lt_or_ge M 9007199254740992 with g | g
          · exact g
          · exact absurd (hbig' (by omega)) c3
        · exact hlt z
      rcases g with g | g | g
      · omega
      · by_cases z : i = 0
        · omega
        · rcases h2 with h | ⟨_, h⟩ <;> omega
      · have c4 : 4503599627370496 ≤ M := by rcases h1 with h | h <;> omega
        have := hup c4 c1
        omega
  refine ⟨iff, fun nb => ?_⟩
  have := mt iff.2 nb
  exact nearest_rung (joO m) M (e + joZ m) E i hM (by omega) (by omega) (by omega) (by omega) h1
/-! The reference's last words: out | M, and out | (E + 1075) << 52 | M & frac. -/
theorem ref_or_low (neg : Bool) (M : Nat) (h : M < 4503599627370496) : Go.bits .or .u64 ((sgW neg : Nat) : Int) (M : Int) = ((sgW neg + M : Nat) : Int) := by
  have h2 : sgW neg < 18446744073709551616 := by unfold sgW; split <;> decide
  rw [Go.u64_or_nat _ _ h2 (by omega), Go.nat_join 63 _ _ (by unfold sgW; split <;> rfl) (by omega)]
theorem ref_or_high (neg : Bool) (M : Nat) (E : Int) (h1 : 4503599627370496 ≤ M) (h2 : M < 9007199254740992) (h3 : -1074 ≤ E) (h4 : E ≤ 971) :
    Go.bits .or .u64 (Go.bits .or .u64 ((sgW neg : Nat) : Int) ((E + 1075) * 4503599627370496)) (Go.bits .and .u64 (M : Int) 4503599627370495) = ((sgW neg + ((E + 1074).toNat * 4503599627370496 + M) : Nat) : Int) := by
  have hs : sgW neg < 18446744073709551616 := by unfold sgW; split <;> decide
  have hs2 : sgW neg = 0 ∨ sgW neg = 9223372036854775808 := by unfold sgW; split <;> simp
  obtain ⟨x, hx⟩ : ∃ x : Nat, E + 1075 = x := ⟨(E + 1075).toNat, by omega⟩
  have e1 : (E + 1074).toNat = x - 1 := by omega
  rw [hx, e1, show (x : Int) * 4503599627370496 = ((x * 4503599627370496 : Nat) : Int) from by omega, Go.u64_or_nat _ _ hs (by omega), Go.nat_join 63 _ _ (by unfold sgW; split <;> rfl) (by omega),
    show (4503599627370495 : Int) = ((4503599627370495 : Nat) : Int) from rfl, Go.u64_and_nat _ _ (by omega) (by decide), show 4503599627370495 = 2^52 - 1 from by decide, Nat.and_two_pow_sub_one_eq_mod,
    Go.u64_or_nat _ _ (by omega) (by omega), Go.nat_join 52 _ _ (by omega) (by omega)]
  omega
section
variable (neg : Bool) (m : Nat) (e : Int) (hm : W64 m) (h0 : m ≠ 0) (M i : Nat) (E : Int) (hM : M = joO m * 2^i) (hE : E = e + joZ m - i)
    (h1 : 4503599627370496 ≤ M ∨ E ≤ -1074) (h2 : i = 0 ∨ (joO m * 2^(i-1) < 4503599627370496 ∧ -1074 ≤ E))
include hm h0 hM hE h1 h2
theorem join_ref_bad (h : 9007199254740992 ≤ M ∨ E < -1074 ∨ 971 < E) : joinB neg m e = 0 ∧ joinX m e = 11 := by
  have hb := (join_ref m e hm h0 M i E hM hE h1 h2).1.2 h
  unfold joinB joinX; rw [if_neg h0, if_pos hb, if_neg h0, if_pos hb]; exact ⟨rfl, rfl⟩
theorem join_ref_ok (h : ¬ (9007199254740992 ≤ M ∨ E < -1074 ∨ 971 < E)) : joinB neg m e = sgW neg + ((E + 1074).toNat * 4503599627370496 + M) ∧ joinX m e = 0 := by
  obtain ⟨j1, j2⟩ := join_ref m e hm h0 M i E hM hE h1 h2
  have hb := mt j1.1 h
  unfold joinB joinX; rw [if_neg h0, if_neg hb, if_neg h0, if_neg hb, j2 hb]; exact ⟨rfl, rfl⟩
theorem join_ref_low (h : M < 4503599627370496) (hE' : E = -1074) : Go.bits .or .u64 ((sgW neg : Nat) : Int) (M : Int) = ((joinB neg m e : Nat) : Int) ∧ joinX m e = 0 := by
  obtain ⟨e1, e2⟩ := join_ref_ok neg m e hm h0 M i E hM hE h1 h2 (by omega)
  rw [e1, e2, ref_or_low neg M h]; refine ⟨?_, rfl⟩; omega
theorem join_ref_high (h : 4503599627370496 ≤ M) (h' : M < 9007199254740992) (h3 : -1074 ≤ E) (h4 : E ≤ 971) :
    Go.bits .or .u64 (Go.bits .or .u64 ((sgW neg : Nat) : Int) ((E + 1075) * 4503599627370496)) (Go.bits .and .u64 (M : Int) 4503599627370495) = ((joinB neg m e : Nat) : Int) ∧ joinX m e = 0 := by
  obtain ⟨e1, e2⟩ := join_ref_ok neg m e hm h0 M i E hM hE h1 h2 (by omega)
  rw [e1, e2, ref_or_high neg M E h h' h3 h4]; exact ⟨rfl, rfl⟩
end
end Go.Proofs.YtlmbpjppkcdcnaaDoor
