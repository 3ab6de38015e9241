/- Parts Bu, Bv, Bw, Cj, Ck of the proof, in one text. -/
import Derived.Test.YtgfbcncjboenbaaGreatDoorSRE
import Derived.Test.YtgfbcncjboenbaaGreatDoorSAA
import Derived.Test.YtgfbcncjboenbaaGreatDoorSQA
import Derived.Test.YtgfbcncjboenbaaGreatDoorSRR
import Derived.Test.YtgfbcncjboenbaaGreatDoorSAW

/- Plain: numbers' bits, their decimals, and what these are rounded to. -/
namespace Go.Proofs.YtgfbcncjboenbaaGreatDoor
open Go Go.RowKit Go.Lib

theorem val_sgn (b : Nat) : valB b = sg (sgnB b) (rv 52 (absB b)) := rfl
/-- The bits of m 2^e, of a sign. -/
def rungN (m : Nat) (e : Int) : Nat := (e + 1074).toNat * 4503599627370496 + m
def Canon (m : Nat) (e : Int) : Prop := m < 9007199254740992 ∧ -1074 ≤ e ∧ e ≤ 971 ∧ (e = -1074 ∨ 4503599627370496 ≤ m)
theorem fin_form {R : Nat} (h : R < 9218868437227405312) : ∃ m e, Canon m e ∧ R = rungN m e := by
  by_cases h1 : R < 4503599627370496
  · exact ⟨R, -1074, ⟨by omega, by omega, by omega, .inl rfl⟩, by unfold rungN; rw [show ((-1074 : Int) + 1074).toNat = 0 by decide]; omega⟩
  · refine ⟨4503599627370496 + R % 4503599627370496, (R / 4503599627370496 : Nat) - 1075, ⟨by omega, by omega, by omega, .inr (by omega)⟩, ?_⟩
    unfold rungN
    rw [show (((R / 4503599627370496 : Nat) : Int) - 1075 + 1074).toNat = R / 4503599627370496 - 1 by omega]
    omega
theorem Canon.lt {m : Nat} {e : Int} (h : Canon m e) : rungN m e < 9218868437227405312 := by
  obtain ⟨h1, h2, h3, h4⟩ := h
  unfold rungN
  omega
theorem Canon.rv {m : Nat} {e : Int} (h : Canon m e) : rv 52 (rungN m e) = m * 2 ^ (e + 1074).toNat := by
  obtain ⟨h1, h2, h3, h4⟩ := h
  exact rv_qK 52 _ m (by omega) (by omega)
theorem Canon.out {m : Nat} {e : Int} (h : Canon m e) {neg : Bool} {mode : Int} : outG 53 (-1074) 971 neg mode (numG m e) = ⟨false, m, e, false, false, false⟩ :=
  num_out (by decide) h.1 h.2.1 h.2.2.1 h.2.2.2
theorem bits_abs (neg : Bool) {R : Nat} (h : R < 9223372036854775808) : absB (sgW neg + R) = R := by
  unfold absB sgW
  cases neg <;> simp <;> omega
theorem bits_sgn (neg : Bool) {R : Nat} (h : R < 9223372036854775808) : sgnB (sgW neg + R) = neg := by
  unfold sgnB sgW
  cases neg <;> simp <;> omega
theorem bits_W (neg : Bool) {R : Nat} (h : R < 9223372036854775808) : W64 (sgW neg + R) := by
  unfold W64 sgW
  cases neg <;> simp <;> omega
theorem canon_bits (neg : Bool) {m : Nat} {e : Int} (h : Canon m e) : W64 (sgW neg + rungN m e) ∧ absB (sgW neg + rungN m e) = rungN m e ∧ sgnB (sgW neg + rungN m e) = neg ∧ finB (sgW neg + rungN m e) = true := by
  have h1 := h.lt
  have h2 := bits_abs neg (R := rungN m e) (by omega)
  refine ⟨bits_W neg (by omega), h2, bits_sgn neg (by omega), ?_⟩
  unfold finB
  rw [h2]
  exact decide_eq_true h1
/-- Every finite number's decimal has room. -/
theorem of_room {b : Nat} (h : finB b = true) : ofX b = 0 := by
  have hx : spX b = 0 := by
    have := finB_eq b
    rw [h] at this
    unfold spX
    cases hn : nanB b <;> cases hi : infB b <;> rw [hn, hi] at this <;> simp at this ⊢
  rw [(of_mk hx).2]
  obtain ⟨r1, r2, r3⟩ := sp_bd b
  obtain ⟨k, hk⟩ : ∃ k, k = 1200 := ⟨_, rfl⟩
  have le10 : ∀ i j : Nat, i ≤ 10 → i ^ j ≤ 10 ^ j := fun i j h => Nat.pow_le_pow_left h j
  have hM : spM b < 10 ^ 53 := Nat.lt_of_lt_of_le r3 (by decide)
  have key : ∀ i j : Nat, i ≤ 10 → 53 + j ≤ k → spM b * i ^ j < 10 ^ k := fun i j hi hj => by
    refine Nat.lt_of_lt_of_le (Nat.lt_of_le_of_lt (Nat.mul_le_mul_left _ (le10 i j hi)) (Nat.mul_lt_mul_of_pos_right hM (Nat.pow_pos (by decide)))) ?_
    rw [← Nat.pow_add]
    exact Nat.pow_le_pow_right (by decide) hj
  refine mk_room (m := k) ?_ (by omega) ?_ ?_
  · rw [sg_natAbs]
    unfold ofN
    split
    · exact key 2 _ (by decide) (by omega)
    · exact key 5 _ (by decide) (by omega)
  · unfold ofE; split <;> omega
  · unfold ofE; split <;> omega
theorem of_num (neg : Bool) {m : Nat} {e : Int} (h : Canon m e) : Rep (ofD (sgW neg + rungN m e)) (sg neg (m * 2 ^ (e + (LP : Nat)).toNat) * 5 ^ LP) (-(LP : Int)) := by
  obtain ⟨h1, h2, h3, h4⟩ := canon_bits neg h
  have h5 := (of_rep (of_room h4)).1
  rw [val_sgn, h3, h2, h.rv] at h5
  have hl := LP_eq
  rw [show e + (LP : Nat) = e + 1074 by omega]
  exact h5
theorem of_mag (neg : Bool) {m : Nat} {e : Int} (h : Canon m e) (f : Int) : (quoG (ofD (sgW neg + rungN m e)) oneD).Q f = (numG m e).Q f ∧ (quoG (ofD (sgW neg + rungN m e)) oneD).H f = (numG m e).H f ∧ (quoG (ofD (sgW neg + rungN m e)) oneD).Z f = (numG m e).Z f := by
  have hl := LP_eq
  have h2 := h.2.1
  exact num_quo (of_num neg h) (by omega) f
theorem rep_nil {d : Dc} {W e : Int} (h : Rep d W e) (h0 : d.s = []) : W = 0 := by
  have h1 := h.all (d.e.natAbs + e.natAbs) (by omega) (by omega)
  rw [ok_nil h.ok h0, none_v, Int.zero_mul] at h1
  rcases Int.mul_eq_zero.1 h1.symm with h2 | h2
  · exact h2
  · exact absurd h2 (pow_pos10 _)
theorem of_some (neg : Bool) {m : Nat} {e : Int} (h : Canon m e) (h0 : m ≠ 0) : (ofD (sgW neg + rungN m e)).ok ∧ (ofD (sgW neg + rungN m e)).s ≠ [] ∧ (ofD (sgW neg + rungN m e)).neg = neg := by
  have hr := of_num neg h
  have hp : 0 < m * 2 ^ (e + (LP : Nat)).toNat := Nat.mul_pos (by omega) (Nat.two_pow_pos _)
  obtain ⟨h1, h2, h3, h4⟩ := canon_bits neg h
  have h5 := of_room h4
  refine ⟨hr.ok, fun hs => ?_, ?_⟩
  · have := rep_nil hr hs
    generalize m * 2 ^ (e + (LP : Nat)).toNat = x at *
    rcases Int.mul_eq_zero.1 this with g | g
    · unfold sg at g; split at g <;> omega
    · exact absurd g (Int.ne_of_gt (five_pos _))
  · rw [(of_cmp h5 h5).2.2, val_sgn, h3, h2, h.rv]
    have hl := LP_eq
    rw [show e + (LP : Nat) = e + 1074 by omega] at hp
    generalize m * 2 ^ (e + 1074).toNat = x at *
    unfold sg
    cases neg <;> simp <;> omega
/-- Bits of what is rounded, no infinity. -/
theorem bits64_fin2 (neg : Bool) {m : Nat} {e : Int} {i o u : Bool} : bits64 neg ⟨false, m, e, i, o, u⟩ = sgW neg + rungN m e := by
  rw [bits64_fin neg rfl]
  unfold rungN
  rw [show e - -1074 = e + 1074 by omega]
end Go.Proofs.YtgfbcncjboenbaaGreatDoor

/- Walks: the law RoundOdd. -/
namespace Go.Proofs.YtgfbcncjboenbaaGreatDoor
open Go.RowKit

theorem ord32_self (b : Nat) (h : b % 2147483648 ≤ 2139095040) : (Go.FloatKind.f32.format.order b b == some Ordering.eq) = true := by
  have := order_all (f := Ieee.single) S_ok b b (by rw [rg_S, S_inf]; exact h) (by rw [rg_S, S_inf]; exact h)
  show (Ieee.single.order b b == some Ordering.eq) = true
  rw [this]
  simp
end Go.Proofs.YtgfbcncjboenbaaGreatDoor

/- Plain: a number's decimal rounded to singles. -/
namespace Go.Proofs.YtgfbcncjboenbaaGreatDoor
open Go Go.RowKit Go.Lib

theorem widen_conv (s : Bool) (R : Nat) (hR : R < 2139095040) : ∃ c, Go.floatToFloatBits .f32 (Ieee.single.word s R) .f64 = some c ∧ W64 c ∧ finB c = true ∧ sgnB c = s ∧ rv 52 (absB c) = rv 23 R * 2^LD := by
  obtain ⟨c, w1, w2, w3, w4, w5⟩ := widen s R hR
  have hsw : R < Ieee.single.signWeight := by rw [S_sw]; omega
  have hfin : fin Ieee.single (Ieee.single.word s R) := by unfold fin; rw [rg_word _ _ hsw, S_inf]; exact hR
  obtain ⟨m', k', h1', h2', _⟩ := read_num Ieee.single _ hfin
  obtain ⟨m'', k'', h1'', h2'', _⟩ := read_num Ieee.double c ((fin_D c).2 w3)
  rw [h1'] at w1
  refine ⟨c, ?_, w2, w3, w4, w5⟩
  unfold Go.floatToFloatBits
  rw [if_neg (by decide)]
  show (match Ieee.single.read (Ieee.single.word s R) with | .nan _ _ => none | .infinity s => some (Ieee.double.write (.infinity s)) | .number s m e => if (Ieee.double.read (Ieee.double.write (.number s m e))).isInfinity then none else some (Ieee.double.write (.number s m e))) = some c
  rw [h1']; dsimp only; rw [w1, h1'']; rfl
theorem num_same {m K : Nat} {e f : Int} (he : -1074 ≤ e) (hf : -1074 ≤ f) (h : m * 2 ^ (e + 1074).toNat = K * 2 ^ (f + 1074).toNat) (x : Int) : (numG m e).Q x = (numG K f).Q x ∧ (numG m e).H x = (numG K f).H x ∧ (numG m e).Z x = (numG K f).Z x := by
  refine rat_eq (Nat.two_pow_pos _) (Nat.two_pow_pos _) ?_ x
  obtain ⟨j, hj⟩ : ∃ j, j = 1074 := ⟨_, rfl⟩
  rw [show e + 1074 = e + (j : Nat) by omega, show f + 1074 = f + (j : Nat) by omega] at h
  refine Nat.eq_of_mul_eq_mul_right (Nat.two_pow_pos j) ?_
  have e1 : 2 ^ e.toNat * 2 ^ j = 2 ^ (e + (j : Nat)).toNat * 2 ^ (-e).toNat := by rw [← Nat.pow_add, ← Nat.pow_add]; congr 1; omega
  have e2 : 2 ^ f.toNat * 2 ^ j = 2 ^ (f + (j : Nat)).toNat * 2 ^ (-f).toNat := by rw [← Nat.pow_add, ← Nat.pow_add]; congr 1; omega
  calc m * 2 ^ e.toNat * 2 ^ (-f).toNat * 2 ^ j = m * (2 ^ e.toNat * 2 ^ j) * 2 ^ (-f).toNat := by ac_rfl
    _ = m * 2 ^ (e + (j : Nat)).toNat * 2 ^ (-e).toNat * 2 ^ (-f).toNat := by rw [e1]; ac_rfl
    _ = K * 2 ^ (f + (j : Nat)).toNat * 2 ^ (-e).toNat * 2 ^ (-f).toNat := by rw [h]
    _ = K * (2 ^ (f + (j : Nat)).toNat * 2 ^ (-f).toNat) * 2 ^ (-e).toNat := by ac_rfl
    _ = K * (2 ^ f.toNat * 2 ^ j) * 2 ^ (-e).toNat := by rw [e2]
    _ = K * 2 ^ f.toNat * 2 ^ (-e).toNat * 2 ^ j := by ac_rfl
theorem scale32 {K : Nat} {f : Int} (h : -149 ≤ f) : K * 2 ^ (f + 149).toNat * 2 ^ LD = K * 2 ^ (f + 1074).toNat := by
  have hd := LD_eq
  rw [Nat.mul_assoc, ← Nat.pow_add]
  congr 2; omega
theorem bits32_fin2 (neg : Bool) {K : Nat} {f : Int} {i o u : Bool} : bits32 neg ⟨false, K, f, i, o, u⟩ = (if neg = true then 2147483648 else 0) + ((f + 149).toNat * 8388608 + K) := by
  have hr : Out.rung 24 (-149) 104 ⟨false, K, f, i, o, u⟩ = (f + 149).toNat * 8388608 + K := by
    unfold Out.rung
    rw [if_neg (by decide : ¬ (false = true)), show f - -149 = f + 149 by omega]
  unfold bits32
  rw [hr]
end Go.Proofs.YtgfbcncjboenbaaGreatDoor

/- Plain: singles by their bits; what a sum and a product of two of them come to. No program. -/
namespace Go.Proofs.YtgfbcncjboenbaaGreatDoor
open Go Go.RowKit Go.Lib

def W32 (b : Nat) : Prop := b < 4294967296
def abs3 (b : Nat) : Nat := b % 2147483648
def sgn3 (b : Nat) : Bool := decide (2147483648 ≤ b)
def nan3 (b : Nat) : Bool := decide (2139095040 < abs3 b)
def inf3 (b : Nat) : Bool := decide (abs3 b = 2139095040)
def m3 (b : Nat) : Nat := if abs3 b < 8388608 then abs3 b else abs3 b % 8388608 + 8388608
def e3 (b : Nat) : Int := if abs3 b < 8388608 then -149 else ((abs3 b / 8388608 : Nat) : Int) - 150
def sgS (s : Bool) : Nat := if s = true then 2147483648 else 0

theorem b3_join {b : Nat} (h : W32 b) : b = sgS (sgn3 b) + abs3 b := by
  unfold W32 at h; unfold sgS sgn3 abs3
  by_cases h1 : 2147483648 ≤ b
  · rw [if_pos (decide_eq_true h1)]; omega
  · rw [if_neg (by simpa using h1)]; omega
theorem b3_word (s : Bool) {r : Nat} (h : r < 2147483648) : W32 (sgS s + r) ∧ sgn3 (sgS s + r) = s ∧ abs3 (sgS s + r) = r := by
  unfold W32 sgS sgn3 abs3
  cases s <;> simp <;> omega
theorem sp3 {b : Nat} (h : abs3 b < 2139095040) : rv 23 (abs3 b) = m3 b * 2 ^ (e3 b + 149).toNat ∧ m3 b < 16777216 ∧ -149 ≤ e3 b ∧ e3 b ≤ 104 ∧ (e3 b = -149 ∨ 8388608 ≤ m3 b) ∧ abs3 b = (e3 b + 149).toNat * 8388608 + m3 b := by
  unfold m3 e3
  generalize abs3 b = r at *
  by_cases h1 : r < 8388608
  · rw [if_pos h1, if_pos h1]
    refine ⟨?_, by omega, by omega, by omega, .inl rfl, by rw [show ((-149 : Int) + 149).toNat = 0 by decide]; omega⟩
    rw [show ((-149 : Int) + 149).toNat = 0 by decide, rv_small h1]; simp
  · rw [if_neg h1, if_neg h1]
    obtain ⟨q, hq⟩ : ∃ q, q = r / 8388608 := ⟨_, rfl⟩
    obtain ⟨K, hK⟩ : ∃ K, K = r % 8388608 + 8388608 := ⟨_, rfl⟩
    rw [← hq, ← hK]
    have hr : r = (q - 1) * 8388608 + K := by omega
    have he : ((q : Int) - 150 + 149).toNat = q - 1 := by omega
    rw [he]
    refine ⟨?_, by omega, by omega, by omega, .inr (by omega), hr⟩
    have h3 := rv_qK 23 (q - 1) K (by omega) (fun _ => by omega)
    have h4 : (q - 1) * 2 ^ 23 + K = r := by omega
    rw [h4] at h3
    exact h3
theorem sgn_S {b : Nat} (h : W32 b) : sgn Ieee.single b = sgn3 b := by
  unfold sgn sgn3; rw [S_sw]; unfold W32 at h
  by_cases h1 : 2147483648 ≤ b
  · rw [decide_eq_true h1, show b / 2147483648 = 1 by omega]; rfl
  · rw [decide_eq_false h1, show b / 2147483648 = 0 by omega]; rfl
def val3 (b : Nat) : Int := sg (sgn3 b) (rv 23 (abs3 b))
theorem V_S {b : Nat} (h : W32 b) : V Ieee.single b = val3 b := by
  rw [V_sg, sgn_S h, rg_S]; rfl
theorem fin_S {b : Nat} : fin Ieee.single b ↔ abs3 b < 2139095040 := by unfold fin; rw [rg_S, S_inf]; exact Iff.rfl
theorem word_S (s : Bool) (r : Nat) : Ieee.single.word s r = sgS s + r := by
  show (if s = true then Ieee.single.signWeight + r else r) = _
  rw [S_sw]; unfold sgS; cases s <;> simp

/-- To the nearest, of two the even one. -/
theorem kW_toK {M D : Nat} {E e : Int} (neg : Bool) (hD : 0 < D) : kW neg 1 ((ratMag M D E).Q e) ((ratMag M D E).H e) ((ratMag M D E).Z e) = toK M D E e := by
  show kW neg 1 (toQ M D E e) (ncmp (toN M E e % toD D E e * 2) (toD D E e)) (decide (toN M E e % toD D E e = 0)) = _
  have hd := toD_pos hD E e
  unfold toK kW upW ncmp
  generalize toQ M D E e = q
  generalize toN M E e % toD D E e = r
  generalize toD D E e = d at *
  rw [if_pos rfl]
  by_cases a : r * 2 < d
  · rw [if_pos a, if_neg (by omega : ¬ (d < r * 2 ∨ r * 2 = d ∧ q % 2 = 1))]; simp
  · rw [if_neg a]
    by_cases c : d < r * 2
    · have hr : r ≠ 0 := by omega
      rw [if_pos c, if_pos (show d < r * 2 ∨ r * 2 = d ∧ q % 2 = 1 from .inl c), if_pos]; simp [hr]
    · rw [if_neg c]
      have h1 : r * 2 = d := by omega
      have h2 : r ≠ 0 := by omega
      by_cases o : q % 2 = 1
      · rw [if_pos (show d < r * 2 ∨ r * 2 = d ∧ q % 2 = 1 from .inr ⟨h1, o⟩), if_pos]; simp [h2, o]
      · rw [if_neg (by omega : ¬ (d < r * 2 ∨ r * 2 = d ∧ q % 2 = 1)), if_neg]; simp [o]
theorem near_out {M D : Nat} {E : Int} (neg : Bool) (hD : 0 < D) {M' S' R : Nat} (hS : 0 < S') (hN : Near 23 M' S' R) (hx : M' * (D * 2 ^ (-(E + 149)).toNat) = M * 2 ^ (E + 149).toNat * S') :
    (outG 24 (-149) 104 neg 1 (ratMag M D E)).rung 24 (-149) 104 = min R 2139095040 := by
  have hok := ratMag_ok (M := M) (E := E) hD
  have hE := isE_of (b := 24) (L := -149) (by decide) hok
  obtain ⟨e, he⟩ : ∃ e, e = eOf 24 (-149) (ratMag M D E) := ⟨_, rfl⟩
  rw [← he] at hE
  rw [outG_eq (by decide) hok hE, (out_rung (by decide) (by decide) hE).2]
  have hmax : maxW 1 neg = false := by cases neg <;> decide
  have hinf : infR 24 (-149) 104 = 2139095040 := by decide
  obtain ⟨g1, g2, g3⟩ := hE
  have hR : rnR 24 (-149) neg 1 (ratMag M D E) e = R := by
    unfold rnR
    rw [kW_toK neg hD]
    have hq : (ratMag M D E).Q e = toN M E e / toD D E e := rfl
    rw [hq] at g2 g3
    have hC := toD_pos hD E e
    have hn := near_of_rn 23 (e - -149).toNat (toN M E e) (toD D E e) (toK M D E e) (by decide) hC (toK_rn hD) ((Nat.div_lt_iff_lt_mul hC).1 g2) (fun hp => (Nat.le_div_iff_mul_le hC).1 (g3.resolve_left (by omega)))
    refine Near.uniq hS (hn.cross hC hS ?_) hN
    unfold toN toD
    obtain ⟨u, hu⟩ : ∃ u, u = (-(E + 149)).toNat := ⟨_, rfl⟩
    obtain ⟨v, hv⟩ : ∃ v, v = (E + 149).toNat := ⟨_, rfl⟩
    rw [← hu, ← hv] at hx
    refine Nat.eq_of_mul_eq_mul_right (Nat.two_pow_pos u) ?_
    have e1 : 2 ^ (E - e).toNat * 2 ^ (e - -149).toNat * 2 ^ u = 2 ^ v * 2 ^ (e - E).toNat := by
      rw [← Nat.pow_add, ← Nat.pow_add, ← Nat.pow_add]; congr 1; omega
    calc M * 2 ^ (E - e).toNat * 2 ^ (e - -149).toNat * S' * 2 ^ u = M * (2 ^ (E - e).toNat * 2 ^ (e - -149).toNat * 2 ^ u) * S' := by ac_rfl
      _ = M * 2 ^ v * S' * 2 ^ (e - E).toNat := by rw [e1]; ac_rfl
      _ = M' * (D * 2 ^ (e - E).toNat) * 2 ^ u := by rw [← hx]; ac_rfl
  rw [hR, hinf, hmax]
  simp only [Bool.false_eq_true, if_false]
  split <;> omega
/-- A quotient's rounding to the nearest single. -/
def evenS (neg : Bool) (M : Nat) (E : Int) : Nat := bits32 neg (outG 24 (-149) 104 neg 1 (ratMag M 1 E))
theorem evenS_eq (neg : Bool) {M : Nat} {E : Int} {M' S' R : Nat} (hS : 0 < S') (hN : Near 23 M' S' R) (hx : M' * 2 ^ (-(E + 149)).toNat = M * 2 ^ (E + 149).toNat * S') : evenS neg M E = sgS neg + min R 2139095040 := by
  unfold evenS bits32 sgS
  rw [near_out neg (by decide) hS hN (by rw [Nat.one_mul]; exact hx)]
/-- The sum of two finite singles. -/
def sumZ (a b : Nat) : Int := sg (sgn3 a) (m3 a * 2 ^ (e3 a - min (e3 a) (e3 b)).toNat) + sg (sgn3 b) (m3 b * 2 ^ (e3 b - min (e3 a) (e3 b)).toNat)
def sumF (a b : Nat) : Nat := if sumZ a b = 0 then sgS (sgn3 a && sgn3 b) else evenS (decide (sumZ a b < 0)) (sumZ a b).natAbs (min (e3 a) (e3 b))
def badS (a b : Nat) : Bool := nan3 a || nan3 b || (inf3 a && inf3 b && !decide (a = b))
def addF (a b : Nat) : Nat := if badS a b = true then 2143289344 else if inf3 a = true then a else if inf3 b = true then b else sumF a b
theorem sumZ_val {a b : Nat} (fa : abs3 a < 2139095040) (fb : abs3 b < 2139095040) : val3 a + val3 b = sumZ a b * ((2 ^ (min (e3 a) (e3 b) + 149).toNat : Nat) : Int) := by
  obtain ⟨a1, -, a2, -⟩ := sp3 fa
  obtain ⟨b1, -, b2, -⟩ := sp3 fb
  unfold val3 sumZ
  rw [a1, b1, Int.add_mul, ← sg_mul, ← sg_mul, Nat.mul_assoc, Nat.mul_assoc, ← Nat.pow_add, ← Nat.pow_add]
  congr 3 <;> congr 2 <;> omega
theorem add_fin3 {a b : Nat} (ha : W32 a) (hb : W32 b) (fa : abs3 a < 2139095040) (fb : abs3 b < 2139095040) : Go.floatBits .add .f32 a b = some (sumF a b) := by
  obtain ⟨R, g1, g2⟩ := add_fin Ieee.single (by decide) a b (fin_S.2 fa) (fin_S.2 fb)
  rw [V_S ha, V_S hb, sgn_S ha, sgn_S hb, S_inf, sumZ_val fa fb] at g1
  rw [V_S ha, V_S hb, sumZ_val fa fb] at g2
  show Ieee.single.add a b = _
  rw [g1, word_S]
  congr 1
  unfold sumF
  obtain ⟨S, hS⟩ : ∃ S, S = sumZ a b := ⟨_, rfl⟩
  obtain ⟨l, hl⟩ : ∃ l, l = min (e3 a) (e3 b) := ⟨_, rfl⟩
  have hl9 : -149 ≤ l := by have := (sp3 fa).2.2.1; have := (sp3 fb).2.2.1; omega
  rw [← hS, ← hl] at g2 ⊢
  obtain ⟨P, hP⟩ : ∃ P, P = 2 ^ (l + 149).toNat := ⟨_, rfl⟩
  have hPp : 0 < P := by rw [hP]; exact Nat.two_pow_pos _
  rw [← hP] at g2 ⊢
  have g2 : Near 23 (S * (P : Int)).natAbs 1 R := g2
  by_cases h0 : S = 0
  · subst h0
    rw [if_pos rfl, if_pos (by simp)]
    rw [show (0 * (P : Int)).natAbs = 0 by simp] at g2
    rw [Near.uniq (by decide) g2 (near_zero 23 1 (by decide))]
    simp
  · have h1 : ¬ S * (P : Int) = 0 := by
      intro h; rcases Int.mul_eq_zero.1 h with h | h <;> omega
    have h2 : decide (S * (P : Int) < 0) = decide (S < 0) := by
      rw [decide_eq_decide]
      constructor
      · intro h; by_cases h3 : S < 0
        · exact h3
        · exact absurd (Int.mul_nonneg (show 0 ≤ S by omega) (show (0 : Int) ≤ P by omega)) (by omega)
      · intro h; exact Int.mul_neg_of_neg_of_pos h (by omega)
    rw [if_neg h0, if_neg h1, h2]
    refine (evenS_eq _ (by decide) g2 ?_).symm
    rw [Int.natAbs_mul, Int.natAbs_natCast, ← hP, show (-(l + 149)).toNat = 0 by omega, Nat.pow_zero, Nat.mul_one]
/-- The product of two finite singles. -/
def mulP (a b : Nat) : Nat := evenS (sgn3 a != sgn3 b) (m3 a * m3 b) (e3 a + e3 b)
def zer3 (b : Nat) : Bool := decide (abs3 b = 0)
def badM (a b : Nat) : Bool := nan3 a || nan3 b || (inf3 a && zer3 b) || (zer3 a && inf3 b)
def mulF (a b : Nat) : Nat := if badM a b = true then 2143289344 else if (inf3 a || inf3 b) = true then sgS (sgn3 a != sgn3 b) + 2139095040 else if (zer3 a || zer3 b) = true then sgS (sgn3 a != sgn3 b) else mulP a b
theorem mul_fin3 {a b : Nat} (ha : W32 a) (hb : W32 b) (fa : abs3 a < 2139095040) (fb : abs3 b < 2139095040) : Go.floatBits .mul .f32 a b = some (mulP a b) := by
  obtain ⟨R, g1, g2⟩ := mul_fin Ieee.single (by decide) (by rw [S_lp, LS_eq]; decide) a b (fin_S.2 fa) (fin_S.2 fb)
  rw [sgn_S ha, sgn_S hb, S_inf] at g1
  rw [rg_S, rg_S, S_lp, LS_eq] at g2
  have g2 : Near 23 (rv 23 (abs3 a) * rv 23 (abs3 b)) (2 ^ 149) R := g2
  show Ieee.single.mul a b = _
  rw [g1, word_S]
  congr 1
  unfold mulP
  have hx : (sgn3 a ^^ sgn3 b) = (sgn3 a != sgn3 b) := by cases sgn3 a <;> cases sgn3 b <;> rfl
  rw [hx]
  obtain ⟨a1, -, a2, -⟩ := sp3 fa
  obtain ⟨b1, -, b2, -⟩ := sp3 fb
  rw [a1, b1] at g2
  generalize m3 a = M1 at *
  generalize m3 b = M2 at *
  generalize e3 a = E1 at *
  generalize e3 b = E2 at *
  refine (evenS_eq _ (Nat.two_pow_pos _) g2 ?_).symm
  obtain ⟨u, hu⟩ : ∃ u, u = (-(E1 + E2 + 149)).toNat := ⟨_, rfl⟩
  obtain ⟨v, hv⟩ : ∃ v, v = (E1 + E2 + 149).toNat := ⟨_, rfl⟩
  obtain ⟨k, hk⟩ : ∃ k, k = 149 := ⟨_, rfl⟩
  obtain ⟨x, hx⟩ : ∃ x, x = (E1 + 149).toNat := ⟨_, rfl⟩
  obtain ⟨y, hy⟩ : ∃ y, y = (E2 + 149).toNat := ⟨_, rfl⟩
  rw [← hu, ← hv, ← hx, ← hy, ← hk]
  have e1 : 2 ^ x * 2 ^ y * 2 ^ u = 2 ^ v * 2 ^ k := by
    rw [← Nat.pow_add, ← Nat.pow_add, ← Nat.pow_add]; congr 1; omega
  calc M1 * 2 ^ x * (M2 * 2 ^ y) * 2 ^ u = M1 * M2 * (2 ^ x * 2 ^ y * 2 ^ u) := by ac_rfl
    _ = M1 * M2 * 2 ^ v * 2 ^ k := by rw [e1]; ac_rfl
theorem read_num3 {b : Nat} (fb : abs3 b < 2139095040) : ∃ m e, Ieee.single.read b = .number (sgn Ieee.single b) m e ∧ (m = 0 ↔ abs3 b = 0) := by
  obtain ⟨m, k, h1, -, h3⟩ := read_num Ieee.single b (fin_S.2 fb)
  rw [rg_S] at h3
  exact ⟨m, _, h1, h3⟩
theorem read_inf3 {b : Nat} (hb : W32 b) (h : inf3 b = true) : Ieee.single.read b = .infinity (sgn3 b) := by
  rw [read_inf Ieee.single S_ok b (by rw [rg_S, S_inf]; exact of_decide_eq_true h), sgn_S hb]
theorem read_nan3 {b : Nat} (h : nan3 b = true) : ∃ s t, Ieee.single.read b = .nan s t :=
  ⟨_, _, read_nan Ieee.single S_ok b (by rw [rg_S, S_inf]; exact of_decide_eq_true h)⟩
theorem wr_inf (s : Bool) : Ieee.single.write (.infinity s) = sgS s + 2139095040 := by
  show Ieee.single.word s Ieee.single.infRung = _
  rw [word_S, S_inf]
theorem kind3 (b : Nat) : (nan3 b = true ∧ inf3 b = false) ∨ (inf3 b = true ∧ nan3 b = false) ∨ (nan3 b = false ∧ inf3 b = false ∧ abs3 b < 2139095040) := by
  unfold nan3 inf3
  generalize abs3 b = r
  rcases Nat.lt_trichotomy r 2139095040 with h | h | h
  · refine .inr (.inr ⟨?_, ?_, h⟩) <;> simp <;> omega
  · refine .inr (.inl ⟨?_, ?_⟩) <;> simp <;> omega
  · refine .inl ⟨?_, ?_⟩ <;> simp <;> omega
theorem inf3_eq {b : Nat} (hb : W32 b) (h : inf3 b = true) : b = sgS (sgn3 b) + 2139095040 := by
  have h1 := b3_join hb
  rw [of_decide_eq_true h] at h1; exact h1
/-- What the program's own sum gives; where it is none of mathematics, it gives none. -/
theorem add_S {a b : Nat} (ha : W32 a) (hb : W32 b) : Go.floatBits .add .f32 a b = if badS a b = true then none else some (addF a b) := by
  rcases kind3 a with ⟨n1, i1⟩ | ⟨i1, n1⟩ | ⟨n1, i1, f1⟩
  · obtain ⟨s, t, hr⟩ := read_nan3 n1
    rw [if_pos (by unfold badS; rw [n1]; rfl)]
    show ((Ieee.single.read a).sum (Ieee.single.read b)).map Ieee.single.write = _
    rw [hr]; rfl
  · have r1 := read_inf3 ha i1
    rcases kind3 b with ⟨n2, i2⟩ | ⟨i2, n2⟩ | ⟨n2, i2, f2⟩
    · obtain ⟨s, t, hr⟩ := read_nan3 n2
      rw [if_pos (by unfold badS; rw [n2]; simp)]
      show ((Ieee.single.read a).sum (Ieee.single.read b)).map Ieee.single.write = _
      rw [hr, r1]; rfl
    · have r2 := read_inf3 hb i2
      show ((Ieee.single.read a).sum (Ieee.single.read b)).map Ieee.single.write = _
      rw [r1, r2]
      have q1 := inf3_eq ha i1
      have q2 := inf3_eq hb i2
      have hbad : badS a b = !decide (sgn3 a = sgn3 b) := by
        unfold badS; rw [n1, n2, i1, i2]
        have : (a = b) ↔ (sgn3 a = sgn3 b) := ⟨fun h => by rw [h], fun h => by rw [q1, q2, h]⟩
        simp [this]
      rw [hbad]
      show ((if sgn3 a = sgn3 b then some (Ieee.Datum.infinity (sgn3 a)) else none).map Ieee.single.write) = _
      by_cases hs : sgn3 a = sgn3 b
      · rw [if_pos hs, decide_eq_true hs, if_neg (by decide)]
        show some (Ieee.single.write (.infinity (sgn3 a))) = _
        rw [wr_inf, ← q1]
        unfold addF; rw [hbad, decide_eq_true hs, if_neg (by decide), if_pos i1]
      · rw [if_neg hs, decide_eq_false hs, if_pos (by decide)]; rfl
    · obtain ⟨m, e, r2, -⟩ := read_num3 f2
      have hbad : badS a b = false := by unfold badS; rw [n1, n2, i1, i2]; rfl
      rw [hbad, if_neg (by decide)]
      show ((Ieee.single.read a).sum (Ieee.single.read b)).map Ieee.single.write = _
      rw [r1, r2]
      show some (Ieee.single.write (.infinity (sgn3 a))) = _
      rw [wr_inf, ← inf3_eq ha i1]
      unfold addF; rw [hbad, if_neg (by decide), if_pos i1]
  · obtain ⟨m, e, r1, -⟩ := read_num3 f1
    rcases kind3 b with ⟨n2, i2⟩ | ⟨i2, n2⟩ | ⟨n2, i2, f2⟩
    · obtain ⟨s, t, hr⟩ := read_nan3 n2
      rw [if_pos (by unfold badS; rw [n2]; simp)]
      show ((Ieee.single.read a).sum (Ieee.single.read b)).map Ieee.single.write = _
      rw [hr, r1]; rfl
    · have r2 := read_inf3 hb i2
      have hbad : badS a b = false := by unfold badS; rw [n1, n2, i1, i2]; rfl
      rw [hbad, if_neg (by decide)]
      show ((Ieee.single.read a).sum (Ieee.single.read b)).map Ieee.single.write = _
      rw [r1, r2]
      show some (Ieee.single.write (.infinity (sgn3 b))) = _
      rw [wr_inf, ← inf3_eq hb i2]
      unfold addF; rw [hbad, if_neg (by decide), if_neg (by rw [i1]; decide), if_pos i2]
    · have hbad : badS a b = false := by unfold badS; rw [n1, n2, i1, i2]; rfl
      rw [hbad, if_neg (by decide), add_fin3 ha hb f1 f2]
      unfold addF; rw [hbad, if_neg (by decide), if_neg (by rw [i1]; decide), if_neg (by rw [i2]; decide)]
theorem mulP_zero {a b : Nat} (h : abs3 a = 0 ∨ abs3 b = 0) : mulP a b = sgS (sgn3 a != sgn3 b) := by
  have hm : m3 a * m3 b = 0 := by
    rcases h with h | h
    · have : m3 a = 0 := by unfold m3; rw [h]; rfl
      rw [this, Nat.zero_mul]
    · have : m3 b = 0 := by unfold m3; rw [h]; rfl
      rw [this, Nat.mul_zero]
  unfold mulP
  rw [hm, evenS_eq _ (by decide) (near_zero 23 1 (by decide)) (by simp)]
  simp
theorem mul_S {a b : Nat} (ha : W32 a) (hb : W32 b) : Go.floatBits .mul .f32 a b = if badM a b = true then none else some (mulF a b) := by
  have e0 : Go.floatBits .mul .f32 a b = ((Ieee.single.read a).product (Ieee.single.read b)).map Ieee.single.write := rfl
  have xr : ∀ x y : Bool, (x ^^ y) = (x != y) := by intro x y; cases x <;> cases y <;> rfl
  rcases kind3 a with ⟨n1, i1⟩ | ⟨i1, n1⟩ | ⟨n1, i1, f1⟩
  · obtain ⟨s, t, hr⟩ := read_nan3 n1
    rw [if_pos (by unfold badM; rw [n1]; rfl), e0, hr]; rfl
  · have r1 := read_inf3 ha i1
    have z1 : zer3 a = false := by unfold zer3; rw [of_decide_eq_true i1]; rfl
    rcases kind3 b with ⟨n2, i2⟩ | ⟨i2, n2⟩ | ⟨n2, i2, f2⟩
    · obtain ⟨s, t, hr⟩ := read_nan3 n2
      rw [if_pos (by unfold badM; rw [n2]; simp), e0, hr, r1]; rfl
    · have r2 := read_inf3 hb i2
      have z2 : zer3 b = false := by unfold zer3; rw [of_decide_eq_true i2]; rfl
      have hbad : badM a b = false := by unfold badM; rw [n1, n2, z1, z2]; simp
      rw [hbad, if_neg (by decide), e0, r1, r2]
      show some (Ieee.single.write (.infinity (sgn3 a ^^ sgn3 b))) = _
      rw [wr_inf, xr]
      unfold mulF; rw [hbad, if_neg (by decide), i1, if_pos (by rfl)]
    · obtain ⟨m, e, r2, hm⟩ := read_num3 f2
      rw [e0, r1, r2, sgn_S hb]
      show ((if m = 0 then none else some (Ieee.Datum.infinity (sgn3 a ^^ sgn3 b))).map Ieee.single.write) = _
      by_cases h0 : m = 0
      · have z2 : zer3 b = true := by unfold zer3; exact decide_eq_true (hm.1 h0)
        rw [if_pos h0, if_pos (by unfold badM; rw [i1, z2]; simp)]; rfl
      · have z2 : zer3 b = false := by unfold zer3; exact decide_eq_false (fun h => h0 (hm.2 h))
        have hbad : badM a b = false := by unfold badM; rw [n1, n2, z1, z2]; simp
        rw [if_neg h0, hbad, if_neg (by decide)]
        show some (Ieee.single.write (.infinity (sgn3 a ^^ sgn3 b))) = _
        rw [wr_inf, xr]
        unfold mulF; rw [hbad, if_neg (by decide), i1, if_pos (by rfl)]
  · obtain ⟨m, e, r1, hm⟩ := read_num3 f1
    rcases kind3 b with ⟨n2, i2⟩ | ⟨i2, n2⟩ | ⟨n2, i2, f2⟩
    · obtain ⟨s, t, hr⟩ := read_nan3 n2
      rw [if_pos (by unfold badM; rw [n2]; simp), e0, hr, r1]; rfl
    · have r2 := read_inf3 hb i2
      have z2 : zer3 b = false := by unfold zer3; rw [of_decide_eq_true i2]; rfl
      rw [e0, r1, r2, sgn_S ha]
      show ((if m = 0 then none else some (Ieee.Datum.infinity (sgn3 b ^^ sgn3 a))).map Ieee.single.write) = _
      by_cases h0 : m = 0
      · have z1 : zer3 a = true := by unfold zer3; exact decide_eq_true (hm.1 h0)
        rw [if_pos h0, if_pos (by unfold badM; rw [i2, z1]; simp)]; rfl
      · have z1 : zer3 a = false := by unfold zer3; exact decide_eq_false (fun h => h0 (hm.2 h))
        have hbad : badM a b = false := by unfold badM; rw [n1, n2, z1, z2]; simp
        rw [if_neg h0, hbad, if_neg (by decide)]
        show some (Ieee.single.write (.infinity (sgn3 b ^^ sgn3 a))) = _
        rw [wr_inf, xr]
        unfold mulF; rw [hbad, if_neg (by decide), i2, if_pos (by rw [Bool.or_true])]
        congr 2; cases sgn3 a <;> cases sgn3 b <;> rfl
    · have hbad : badM a b = false := by unfold badM; rw [n1, n2, i1, i2]; simp
      rw [hbad, if_neg (by decide), mul_fin3 ha hb f1 f2]
      unfold mulF; rw [hbad, if_neg (by decide), i1, i2, if_neg (by decide)]
      congr 1
      by_cases hz : (zer3 a || zer3 b) = true
      · rw [if_pos hz]
        refine mulP_zero ?_
        simpa [zer3] using hz
      · rw [if_neg hz]
theorem rung24_le {neg : Bool} {m : Int} {g : Mag} (hg : g.Ok) : (outG 24 (-149) 104 neg m g).rung 24 (-149) 104 ≤ 2139095040 := by
  rcases out_range (b := 24) (L := -149) (T := 104) (neg := neg) (mode := m) (by decide) (by decide) hg with h | ⟨h1, h2, h3, h4, h5⟩
  · unfold Out.rung
    rw [if_pos h]; decide
  · unfold Out.rung
    rw [if_neg (by rw [h1]; decide)]
    omega
theorem num3 (s : Bool) {r : Nat} (h : r ≤ 2139095040) : nan3 (sgS s + r) = false := by
  unfold nan3; rw [(b3_word s (by omega)).2.2]; simp; omega
theorem evenS_num (neg : Bool) {M : Nat} {E : Int} : nan3 (evenS neg M E) = false ∧ W32 (evenS neg M E) := by
  have h := rung24_le (neg := neg) (m := 1) (ratMag_ok (M := M) (D := 1) (E := E) (by decide))
  exact ⟨num3 neg h, (b3_word neg (by omega)).1⟩
theorem addF_num {a b : Nat} (ha : W32 a) (hb : W32 b) : W32 (addF a b) ∧ (badS a b = false → nan3 (addF a b) = false) := by
  by_cases hbad : badS a b = true
  · have : addF a b = 2143289344 := by unfold addF; rw [if_pos hbad]
    rw [this]; exact ⟨by unfold W32; decide, fun h => by rw [h] at hbad; cases hbad⟩
  · have n : nan3 a = false ∧ nan3 b = false := by
      unfold badS at hbad; revert hbad; cases nan3 a <;> cases nan3 b <;> simp
    by_cases i1 : inf3 a = true
    · have : addF a b = a := by unfold addF; rw [if_neg hbad, if_pos i1]
      rw [this]; exact ⟨ha, fun _ => n.1⟩
    · by_cases i2 : inf3 b = true
      · have : addF a b = b := by unfold addF; rw [if_neg hbad, if_neg i1, if_pos i2]
        rw [this]; exact ⟨hb, fun _ => n.2⟩
      · have : addF a b = sumF a b := by unfold addF; rw [if_neg hbad, if_neg i1, if_neg i2]
        rw [this]; unfold sumF
        by_cases h0 : sumZ a b = 0
        · rw [if_pos h0]
          have := b3_word (sgn3 a && sgn3 b) (r := 0) (by decide)
          exact ⟨this.1, fun _ => num3 (sgn3 a && sgn3 b) (r := 0) (by decide)⟩
        · rw [if_neg h0]
          exact ⟨(evenS_num _).2, fun _ => (evenS_num _).1⟩
theorem mulF_num (a b : Nat) : W32 (mulF a b) ∧ (badM a b = false → nan3 (mulF a b) = false) := by
  unfold mulF
  by_cases hbad : badM a b = true
  · rw [if_pos hbad]; exact ⟨by unfold W32; decide, fun h => by rw [h] at hbad; cases hbad⟩
  · rw [if_neg hbad]
    by_cases i1 : (inf3 a || inf3 b) = true
    · rw [if_pos i1]; exact ⟨(b3_word _ (by decide)).1, fun _ => num3 _ (by decide)⟩
    · rw [if_neg i1]
      by_cases i2 : (zer3 a || zer3 b) = true
      · rw [if_pos i2]
        exact ⟨(b3_word (sgn3 a != sgn3 b) (r := 0) (by decide)).1, fun _ => num3 (sgn3 a != sgn3 b) (r := 0) (by decide)⟩
      · rw [if_neg i2]; exact ⟨(evenS_num _).2, fun _ => (evenS_num _).1⟩
end Go.Proofs.YtgfbcncjboenbaaGreatDoor

/- Plain: numbers made whole, whole numbers made numbers. No program. -/
namespace Go.Proofs.YtgfbcncjboenbaaGreatDoor
open Go Go.RowKit Go.Lib

/-- What is a number as it stands is told as it is. -/
theorem near_exact {s : Bool} {m r : Nat} {e : Int} (he : -1074 ≤ e) (hr : r < 9218868437227405312) (h : rv 52 r = m * 2 ^ (e + 1074).toNat) : Ieee.double.nearest s m e = sgW s + r := by
  obtain ⟨R, h1, h2⟩ := nearest_units Ieee.double (by decide) s m (e + 1074).toNat
  rw [show Ieee.double.leastPlace + ((e + 1074).toNat : Int) = e by rw [D_lp]; omega, D_inf] at h1
  have h3 : Near 52 (m * 2 ^ (e + 1074).toNat) 1 R := h2
  rw [← h] at h3
  have h4 := Near.exact 52 r 1 (by decide)
  rw [Nat.mul_one] at h4
  have h5 := Near.uniq (by decide) h3 h4
  rw [h1, h5, word_sg]
  congr 1; omega
/-- The word of a whole number. -/
def natR (K : Nat) : Nat := Ieee.double.nearest false K 0
theorem natR_eq {K r : Nat} (hr : r < 9218868437227405312) (h : rv 52 r = K * 2 ^ LP) : natR K = r := by
  unfold natR
  have hk : ((0 : Int) + 1074).toNat = LP := by rw [LP_eq]; rfl
  rw [near_exact (e := 0) (by decide) hr (by rw [hk]; exact h)]
  show 0 + r = r
  omega
theorem finA_lt {b : Nat} (h : finB b = true) : absB b < 9218868437227405312 := by unfold finB at h; simpa using h
theorem low_rung {r k : Nat} (hk : k = 1074) (h : rv 52 r ≤ 9007199254740992 * 2 ^ k) : r < 4877398396442247168 := by
  have h2 := rv_kq (k + 8) 4503599627370496 (by decide) (by decide)
  have h3 : (k + 8) * 4503599627370496 + 4503599627370496 = 4877398396442247168 := by omega
  rw [h3] at h2
  refine (rv_lt_iff (p := 52)).1 ?_
  rw [h2, Nat.pow_add]
  refine Nat.lt_of_le_of_lt h ?_
  have := Nat.two_pow_pos k
  omega
/-- A whole number of some bits is a number. -/
theorem nat_rung {K : Nat} (h : K ≤ 9007199254740992) : natR K < 4877398396442247168 ∧ rv 52 (natR K) = K * 2 ^ LP := by
  obtain ⟨k, hk⟩ : ∃ k, k = LP := ⟨_, rfl⟩
  have hk4 : k = 1074 := by rw [hk]; exact LP_eq
  obtain ⟨r, hr⟩ : ∃ r, rv 52 r = K * 2 ^ k := by
    by_cases h1 : K < 9007199254740992
    · exact rep 52 k K h1
    · obtain ⟨r, hr⟩ := rep 52 (k + 1) 4503599627370496 (by decide)
      refine ⟨r, ?_⟩
      rw [hr, show K = 4503599627370496 * 2 by omega, Nat.pow_succ]; ac_rfl
  have hlt := low_rung hk4 (by rw [hr]; exact Nat.mul_le_mul_right _ h)
  rw [hk] at hr
  have h3 := natR_eq (by omega) hr
  rw [h3]; exact ⟨hlt, hr⟩
theorem joO_bd {q : Nat} (h0 : q ≠ 0) (hq : q ≤ 9007199254740992) : blen (joO q) ≤ 53 ∧ joZ q + blen (joO q) ≤ 54 ∧ joO q * 2 ^ joZ q = q := by
  obtain ⟨h1, h2, h3, h4⟩ := join_parts q (by unfold W64; omega) h0
  have ho0 : joO q ≠ 0 := by omega
  obtain ⟨g1, g2, g3⟩ := blen_pos ho0
  have hz : joZ q + blen (joO q) ≤ 54 := by
    have h5 : 2 ^ (blen (joO q) - 1 + joZ q) ≤ q := by
      rw [Nat.pow_add]
      exact Nat.le_trans (Nat.mul_le_mul_right _ g1) (by omega)
    have h6 : 2 ^ (blen (joO q) - 1 + joZ q) < 2 ^ 54 := Nat.lt_of_le_of_lt h5 (by omega)
    have := (Nat.pow_lt_pow_iff_right (by decide : 1 < 2)).1 h6
    omega
  refine ⟨?_, hz, h1.symm⟩
  by_cases hs : joZ q = 0
  · by_cases h53 : q < 9007199254740992
    · exact blen_le (by omega)
    · exfalso
      rw [hs, Nat.pow_zero, Nat.mul_one] at h1
      omega
  · omega
/-- What a number is made whole to: of its magnitude M 2^E. -/
def whoQ (M : Nat) (E : Int) : Nat := M * 2 ^ E.toNat / 2 ^ (-E).toNat
def whoR (M : Nat) (E : Int) : Nat := M * 2 ^ E.toNat % 2 ^ (-E).toNat
def whoN (neg : Bool) (mode : Int) (M : Nat) (E : Int) : Nat := kW neg mode (whoQ M E) (ncmp (whoR M E * 2) (2 ^ (-E).toNat)) (decide (whoR M E = 0))
theorem who_up {neg : Bool} {mode : Int} {M : Nat} {E : Int} (h : 0 ≤ E) : whoN neg mode M E = M * 2 ^ E.toNat := by
  unfold whoN whoQ whoR
  rw [show (-E).toNat = 0 by omega, Nat.pow_zero, Nat.div_one, Nat.mod_one]
  unfold kW; simp
theorem who_low {M : Nat} {E : Int} (hE : E < 0) (hM : M < 9007199254740992) : whoQ M E < 4503599627370496 := by
  unfold whoQ
  rw [show E.toNat = 0 by omega, Nat.pow_zero, Nat.mul_one]
  have : 2 ≤ 2 ^ (-E).toNat := by
    have := Nat.pow_le_pow_right (show 0 < 2 by decide) (show 1 ≤ (-E).toNat by omega)
    simpa using this
  refine Nat.lt_of_le_of_lt (Nat.div_le_div_left this (by decide)) ?_
  omega
theorem who_bd {neg : Bool} {mode : Int} {M : Nat} {E : Int} (hE : E < 0) (hM : M < 9007199254740992) : whoN neg mode M E ≤ 4503599627370496 := by
  have h1 := who_low hE hM
  have h2 := (kW_le (neg := neg) (mode := mode) (q := whoQ M E) (h := ncmp (whoR M E * 2) (2 ^ (-E).toNat)) (z := decide (whoR M E = 0))).2
  unfold whoN; omega
/-- Of a finite number's bits. -/
def whoB (a : Nat) (mode : Int) : Nat := sgW (sgnB a) + natR (whoN (sgnB a) mode (spM a) (spE a))
theorem fin_sgn {b : Nat} (fb : finB b = true) : spS b = sgnB b := by
  obtain ⟨-, -⟩ := fin_not b fb
  cases hl : lowB b
  · exact (sp_norm b fb hl).1
  · cases hz : zeroB b
    · exact (sp_sub b fb hl hz).1
    · exact (sp_nought b fb hl hz).1
/-- A whole number cut to some bits. -/
def cutK (b n : Nat) : Nat := blen n - b
def cutM (neg : Bool) (b : Nat) (mode : Int) (n : Nat) : Nat := kW neg mode (n / 2 ^ cutK b n) (ncmp (n % 2 ^ cutK b n * 2) (2 ^ cutK b n)) (decide (n % 2 ^ cutK b n = 0))
def cutZ (b n : Nat) : Bool := decide (n % 2 ^ cutK b n = 0)
theorem cut_small {neg : Bool} {b n : Nat} {mode : Int} (h : blen n ≤ b) : cutM neg b mode n = n ∧ cutZ b n = true ∧ cutK b n = 0 := by
  have hk : cutK b n = 0 := by unfold cutK; omega
  unfold cutM cutZ
  rw [hk, Nat.pow_zero, Nat.div_one, Nat.mod_one]
  refine ⟨?_, rfl, rfl⟩
  unfold kW; simp
theorem cut_bd {neg : Bool} {b n : Nat} {mode : Int} (hb : 1 ≤ b) (h0 : n ≠ 0) (h : b < blen n) : 2 ^ (b - 1) ≤ n / 2 ^ cutK b n ∧ n / 2 ^ cutK b n < 2 ^ b ∧ cutM neg b mode n ≤ 2 ^ b := by
  obtain ⟨a1, a2, -⟩ := blen_pos h0
  have hk : blen n = b + cutK b n := by unfold cutK; omega
  rw [hk] at a1 a2
  have h1 : n / 2 ^ cutK b n < 2 ^ b := by
    rw [Nat.div_lt_iff_lt_mul (Nat.two_pow_pos _), ← Nat.pow_add]; exact a2
  refine ⟨?_, h1, ?_⟩
  · rw [Nat.le_div_iff_mul_le (Nat.two_pow_pos _), ← Nat.pow_add, show b - 1 + cutK b n = b + cutK b n - 1 by omega]; exact a1
  · have := (kW_le (neg := neg) (mode := mode) (q := n / 2 ^ cutK b n) (h := ncmp (n % 2 ^ cutK b n * 2) (2 ^ cutK b n)) (z := decide (n % 2 ^ cutK b n = 0))).2
    unfold cutM; omega
/-- A whole number's rounding: the document's, against the cut. -/
theorem from_out {b l T n : Nat} (hb : 2 ≤ b) (hl : 64 ≤ l) (hT : 66 ≤ T) (hb6 : b ≤ 64) (h0 : n ≠ 0) (hn : n < 18446744073709551616) (neg : Bool) (mode : Int) :
    ∃ m e, outG b (-(l : Int)) T neg mode (ratMag n 1 0) = ⟨false, m, e, !cutZ b n, false, false⟩ ∧ m < 2 ^ b ∧ -(l : Int) ≤ e ∧ e ≤ T ∧ (e = -(l : Int) ∨ 2 ^ (b - 1) ≤ m) ∧ m * 2 ^ (e + l).toNat = cutM neg b mode n * 2 ^ (cutK b n + l) := by
  have hok := ratMag_ok (M := n) (D := 1) (E := 0) (by decide)
  have h64 : blen n ≤ 64 := blen_le (by omega)
  have hp : 2 * 2 ^ (b - 1) = 2 ^ b := by rw [Nat.mul_comm, ← Nat.pow_succ]; congr 1; omega
  by_cases hs : blen n ≤ b
  · obtain ⟨c1, c2, c3⟩ := cut_small (neg := neg) (mode := mode) hs
    obtain ⟨a1, a2, a3⟩ := blen_pos h0
    obtain ⟨j, hj⟩ : ∃ j, b = blen n + j := ⟨b - blen n, by omega⟩
    have hQ : (ratMag n 1 0).Q (-(j : Int)) = n * 2 ^ j := by
      show n * 2 ^ (0 - -(j : Int)).toNat / (1 * 2 ^ (-(j : Int) - 0).toNat) = _
      rw [show (0 - -(j : Int)).toNat = j by omega, show (-(j : Int) - 0).toNat = 0 by omega]; simp
    have hZ : (ratMag n 1 0).Z (-(j : Int)) = true := by
      show decide (n * 2 ^ (0 - -(j : Int)).toNat % (1 * 2 ^ (-(j : Int) - 0).toNat) = 0) = true
      rw [show (-(j : Int) - 0).toNat = 0 by omega]; simp [Nat.mod_one]
    have h1 : 2 ^ (b - 1) ≤ n * 2 ^ j := by
      rw [show b - 1 = blen n - 1 + j by omega, Nat.pow_add]; exact Nat.mul_le_mul_right _ a1
    have h2 : n * 2 ^ j < 2 ^ b := by
      rw [hj, Nat.pow_add]; exact Nat.mul_lt_mul_of_pos_right a2 (Nat.two_pow_pos _)
    have hE : IsE b (-(l : Int)) (ratMag n 1 0) (-(j : Int)) := ⟨by omega, by rw [hQ]; exact h2, .inr (by rw [hQ]; exact h1)⟩
    refine ⟨n * 2 ^ j, -(j : Int), ?_, h2, by omega, by omega, .inr h1, ?_⟩
    · rw [exact_out (by omega) hok hE hZ (by omega), hQ, c2]; rfl
    · rw [c1, c3, show (-(j : Int) + l).toNat = l - j by omega, Nat.mul_assoc, ← Nat.pow_add]; congr 2; omega
  · obtain ⟨q1, q2, q3⟩ := cut_bd (neg := neg) (mode := mode) (by omega) h0 (show b < blen n by omega)
    obtain ⟨k, hk⟩ : ∃ k, k = cutK b n := ⟨_, rfl⟩
    have hk64 : k ≤ 64 := by rw [hk]; unfold cutK; omega
    have e1 : toN n 0 (k : Int) = n := by unfold toN; rw [show (0 - (k : Int)).toNat = 0 by omega]; simp
    have e2 : toD 1 0 (k : Int) = 2 ^ k := by unfold toD; rw [show ((k : Int) - 0).toNat = k by omega]; simp
    have hQ : (ratMag n 1 0).Q (k : Int) = n / 2 ^ k := by show toN n 0 k / toD 1 0 k = _; rw [e1, e2]
    have hH : (ratMag n 1 0).H (k : Int) = ncmp (n % 2 ^ k * 2) (2 ^ k) := by show ncmp (toN n 0 k % toD 1 0 k * 2) (toD 1 0 k) = _; rw [e1, e2]
    have hZ : (ratMag n 1 0).Z (k : Int) = decide (n % 2 ^ k = 0) := by show decide (toN n 0 k % toD 1 0 k = 0) = _; rw [e1, e2]
    unfold cutM at q3 ⊢
    unfold cutZ
    rw [← hk] at q1 q2 q3 ⊢
    have hE : IsE b (-(l : Int)) (ratMag n 1 0) (k : Int) := ⟨by omega, by rw [hQ]; exact q2, .inr (by rw [hQ]; exact q1)⟩
    rw [outG_eq (by omega) hok hE, hQ, hH, hZ]
    unfold outW
    have hq := (kW_le (neg := neg) (mode := mode) (q := n / 2 ^ k) (h := ncmp (n % 2 ^ k * 2) (2 ^ k)) (z := decide (n % 2 ^ k = 0))).1
    generalize kW neg mode (n / 2 ^ k) (ncmp (n % 2 ^ k * 2) (2 ^ k)) (decide (n % 2 ^ k = 0)) = K at *
    have hun : (!decide (n % 2 ^ k = 0) && decide (n / 2 ^ k < 2 ^ (b - 1))) = false := by
      rw [decide_eq_false (show ¬ n / 2 ^ k < 2 ^ (b - 1) by omega), Bool.and_false]
    rw [hun]
    by_cases hc : K = 2 ^ b
    · rw [if_pos hc, if_pos hc, if_neg (by omega)]
      refine ⟨_, _, rfl, by omega, by omega, by omega, .inr (Nat.le_refl _), ?_⟩
      rw [hc, show ((k : Int) + 1 + l).toNat = 1 + (k + l) by omega, Nat.pow_add, ← Nat.mul_assoc, ← hp]; congr 1; rw [Nat.pow_one]; omega
    · rw [if_neg hc, if_neg hc, if_neg (by omega)]
      refine ⟨_, _, rfl, by omega, by omega, by omega, .inr (by omega), ?_⟩
      rw [show ((k : Int) + l).toNat = k + l by omega]
/-- What the program tells of a whole number. -/
def fromW (neg : Bool) (b : Nat) (mode : Int) (n : Nat) : Nat := sgW neg + Ieee.double.nearest false (cutM neg b mode n) (cutK b n)
theorem from53 {n : Nat} (h0 : n ≠ 0) (hn : n < 18446744073709551616) (neg : Bool) (mode : Int) : ∃ m e, outG 53 (-1074) 971 neg mode (ratMag n 1 0) = ⟨false, m, e, !cutZ 53 n, false, false⟩ ∧ Canon m e ∧ bits64 neg (outG 53 (-1074) 971 neg mode (ratMag n 1 0)) = fromW neg 53 mode n ∧ fromW neg 53 mode n = sgW neg + rungN m e ∧ m ≠ 0 := by
  obtain ⟨m, e, h1, h2, h3, h4, h5, h6⟩ := from_out (b := 53) (l := 1074) (T := 971) (by decide) (by decide) (by decide) (by decide) h0 hn neg mode
  have hc : Canon m e := ⟨h2, by omega, by omega, by rcases h5 with h | h; exact .inl (by omega); exact .inr h⟩
  have h7 : fromW neg 53 mode n = sgW neg + rungN m e := by
    unfold fromW
    rw [near_exact (s := false) (by omega) hc.lt (by rw [hc.rv]; have := h6; rw [show ((cutK 53 n : Nat) : Int) + 1074 = ((cutK 53 n + 1074 : Nat) : Int) by omega, Int.toNat_natCast]; exact this)]
    show _ + (0 + rungN m e) = _
    rw [Nat.zero_add]
  refine ⟨m, e, h1, hc, ?_, h7, ?_⟩
  · have h1' : outG 53 (-1074) 971 neg mode (ratMag n 1 0) = ⟨false, m, e, !cutZ 53 n, false, false⟩ := h1
    rw [h1', bits64_fin2, h7]
  · intro h
    rw [h, Nat.zero_mul] at h6
    have : cutM neg 53 mode n ≠ 0 := by
      by_cases hs : blen n ≤ 53
      · rw [(cut_small hs).1]; exact h0
      · obtain ⟨q1, -, -⟩ := cut_bd (neg := neg) (mode := mode) (by decide) h0 (show 53 < blen n by omega)
        have := (kW_le (neg := neg) (mode := mode) (q := n / 2 ^ cutK 53 n) (h := ncmp (n % 2 ^ cutK 53 n * 2) (2 ^ cutK 53 n)) (z := decide (n % 2 ^ cutK 53 n = 0))).1
        unfold cutM
        omega
    rcases Nat.mul_eq_zero.1 h6.symm with h | h
    · exact this h
    · exact absurd h (Nat.pos_iff_ne_zero.1 (Nat.two_pow_pos _))
/-- A number that is a single as it stands, as one. -/
theorem conv_rung {b r : Nat} (hb : W64 b) (fb : finB b = true) (hr : r < 2139095040) (hv : rv 52 (absB b) = rv 23 r * 2 ^ LD) : Go.floatToFloatBits .f64 b .f32 = some (sgS (sgnB b) + r) := by
  obtain ⟨R, w1, w2⟩ := narrow b hb fb
  rw [hv] at w2
  have hR : R = r := Near.uniq (Nat.two_pow_pos _) w2 (Near.exact 23 r (2 ^ LD) (Nat.two_pow_pos _))
  subst hR
  rw [Nat.min_eq_left (by omega)] at w1
  have hsw : R < Ieee.single.signWeight := by rw [S_sw]; omega
  have hfin : fin Ieee.single (Ieee.single.word (sgnB b) R) := by unfold fin; rw [rg_word _ _ hsw, S_inf]; exact hr
  obtain ⟨m', k', h1', h2', _⟩ := read_num Ieee.double b ((fin_D b).2 fb)
  obtain ⟨m'', k'', h1'', h2'', _⟩ := read_num Ieee.single (Ieee.single.word (sgnB b) R) hfin
  rw [h1'] at w1
  rw [← word_S]
  unfold Go.floatToFloatBits
  rw [if_neg (by decide)]
  show (match Ieee.double.read b with | .nan _ _ => none | .infinity s => some (Ieee.single.write (.infinity s)) | .number s m e => if (Ieee.single.read (Ieee.single.write (.number s m e))).isInfinity then none else some (Ieee.single.write (.number s m e))) = _
  rw [h1']; dsimp only; rw [w1, h1'']; rfl
end Go.Proofs.YtgfbcncjboenbaaGreatDoor
