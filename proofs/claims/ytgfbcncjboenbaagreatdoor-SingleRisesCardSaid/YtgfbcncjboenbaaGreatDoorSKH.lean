/- Parts Kh, Ki, Kj, Kk of the proof, in one text. -/
import Derived.Test.YtgfbcncjboenbaaGreatDoorSCQ

/- Plain: narrowed and made whole, no order is turned round; opposites; Up and Down. -/
namespace Go.Proofs.YtgfbcncjboenbaaGreatDoor
open Go.RowKit
open Go.Lib hiding intOf

def RepS (v : Nat) : Prop := ∃ r, r < 2139095040 ∧ rv 23 r * 2^LD = v
theorem bits_join {b : Nat} (hb : W64 b) : b = sgW (sgnB b) + absB b := by
  unfold W64 at hb
  unfold sgW sgnB absB
  by_cases h : 9223372036854775808 ≤ b
  · rw [decide_eq_true h, if_pos rfl]; omega
  · rw [decide_eq_false h, if_neg (by decide)]; omega
theorem outW_ine {b : Nat} {T e hh : Int} {neg z : Bool} {mode : Int} {q : Nat} (h : (outW b T neg mode q hh z e).ine = false) : z = true ∧ ¬ T < (if kW neg mode q hh z = 2 ^ b then e + 1 else e) := by
  unfold outW at h
  by_cases ho : T < (if kW neg mode q hh z = 2 ^ b then e + 1 else e)
  · rw [if_pos ho] at h
    by_cases hx : maxW mode neg = true
    · rw [if_pos hx] at h; cases h
    · rw [if_neg hx] at h; cases h
  · rw [if_neg ho] at h
    refine ⟨?_, ho⟩
    cases z
    · cases h
    · rfl
theorem ine_single {m : Nat} {e : Int} {neg : Bool} {mode : Int} (he : -1074 ≤ e) (h : (outG 24 (-149) 104 neg mode (numG m e)).ine = false) : RepS (m * 2 ^ (e + 1074).toNat) := by
  have hE := isE_of (b := 24) (L := -149) (by decide) (numG_ok m e)
  unfold outG at h
  obtain ⟨f, hf⟩ : ∃ f, f = eOf 24 (-149) (numG m e) := ⟨_, rfl⟩
  rw [← hf] at h hE
  obtain ⟨K, hK⟩ : ∃ K, K = (numG m e).Q f := ⟨_, rfl⟩
  obtain ⟨z, hz⟩ : ∃ z, z = (numG m e).Z f := ⟨_, rfl⟩
  rw [← hK, ← hz] at h
  obtain ⟨h1, h2, h3⟩ := hE
  rw [← hK] at h2
  obtain ⟨hzt, hov⟩ := outW_ine h
  subst hzt
  have hk : kW neg mode K ((numG m e).H f) true = K := by unfold kW; simp
  rw [hk, if_neg (show ¬ K = 2 ^ 24 by omega)] at hov
  have hf4 : f ≤ 104 := by omega
  -- the value is K 2^f
  have hv : m * 2 ^ (e + 1074).toNat = K * 2 ^ (f + 1074).toNat := by
    have hq : toN (m * 2 ^ e.toNat) 0 f / toD (2 ^ (-e).toNat) 0 f = K := hK.symm
    have hr : decide (toN (m * 2 ^ e.toNat) 0 f % toD (2 ^ (-e).toNat) 0 f = 0) = true := hz.symm
    have h9 := Nat.div_add_mod (toN (m * 2 ^ e.toNat) 0 f) (toD (2 ^ (-e).toNat) 0 f)
    rw [hq, of_decide_eq_true hr, Nat.add_zero] at h9
    unfold toN toD at h9
    obtain ⟨j, hj⟩ : ∃ j, j = 1074 := ⟨_, rfl⟩
    rw [show e + 1074 = e + (j : Nat) by omega, show f + 1074 = f + (j : Nat) by omega]
    rw [show (0 - f).toNat = (-f).toNat by omega, show (f - 0).toNat = f.toNat by omega] at h9
    refine Nat.eq_of_mul_eq_mul_right (Nat.two_pow_pos ((-e).toNat + (-f).toNat)) ?_
    have e1 : 2 ^ (e + (j : Nat)).toNat * 2 ^ (-e).toNat = 2 ^ e.toNat * 2 ^ j := by rw [← Nat.pow_add, ← Nat.pow_add]; congr 1; omega
    have e2 : 2 ^ (f + (j : Nat)).toNat * 2 ^ (-f).toNat = 2 ^ f.toNat * 2 ^ j := by rw [← Nat.pow_add, ← Nat.pow_add]; congr 1; omega
    calc m * 2 ^ (e + (j : Nat)).toNat * 2 ^ ((-e).toNat + (-f).toNat) = m * (2 ^ (e + (j : Nat)).toNat * 2 ^ (-e).toNat) * 2 ^ (-f).toNat := by rw [Nat.pow_add]; ac_rfl
      _ = m * 2 ^ e.toNat * 2 ^ (-f).toNat * 2 ^ j := by rw [e1]; ac_rfl
      _ = 2 ^ (-e).toNat * 2 ^ f.toNat * K * 2 ^ j := by rw [h9]
      _ = K * (2 ^ f.toNat * 2 ^ j) * 2 ^ (-e).toNat := by ac_rfl
      _ = K * (2 ^ (f + (j : Nat)).toNat * 2 ^ (-f).toNat) * 2 ^ (-e).toNat := by rw [e2]
      _ = K * 2 ^ (f + (j : Nat)).toNat * 2 ^ ((-e).toNat + (-f).toNat) := by rw [Nat.pow_add]; ac_rfl
  obtain ⟨r, hr⟩ := rep 23 (f + 149).toNat K h2
  refine ⟨r, ?_, ?_⟩
  · refine (rv_lt_iff (p := 23)).1 ?_
    rw [hr, rv_inf23]
    have hi := LI_eq
    refine Nat.lt_of_lt_of_le (Nat.mul_lt_mul_of_pos_right h2 (Nat.two_pow_pos _)) ?_
    rw [← Nat.pow_add]
    exact Nat.pow_le_pow_right (by decide) (by omega)
  · rw [hr, scale32 h1, hv]
end Go.Proofs.YtgfbcncjboenbaaGreatDoor

namespace Go.Proofs.YtgfbcncjboenbaaGreatDoor
open Go.RowKit
open Go.Lib hiding intOf

/-- The rung that Narrow comes to. -/
def narR (b : Nat) (m : Int) : Nat := if infB b = true then 2139095040 else if zeroB b = true then 0 else (narO b m).rung 24 (-149) 104
theorem numGo (b : Nat) : (numG (spM b) (spE b)).Ok := numG_ok _ _
theorem narR_le (b : Nat) (m : Int) : narR b m ≤ 2139095040 := by
  unfold narR
  split
  · exact Nat.le_refl _
  · split
    · exact Nat.zero_le _
    · exact rung24_le (numGo b)
/-- Its flags. -/
def narF (b : Nat) (m : Int) : Bool × Bool × Bool := if infB b = true ∨ zeroB b = true then (false, false, false) else ((narO b m).ine, (narO b m).ov, (narO b m).un)
theorem nar_form {b : Nat} {m : Int} (hm : 1 ≤ m ∧ m ≤ 6) (n : nanB b = false) : narA b m = ⟨sgS (sgnB b) + narR b m, (narF b m).1, (narF b m).2.1, (narF b m).2.2, 0⟩ := by
  obtain ⟨o, ho⟩ : ∃ o, o = narO b m := ⟨_, rfl⟩
  unfold narA narR narF
  rw [if_neg (fun g => g hm), n, if_neg (by decide), ← ho]
  cases hi : infB b
  · cases hz : zeroB b
    · rw [if_neg (by decide), if_neg (by decide), if_neg (by decide), if_neg (by decide), if_neg (by simp)]
      rfl
    · rw [if_neg (by decide), if_pos rfl, if_neg (by decide), if_pos rfl, if_pos (.inr rfl)]
      rfl
  · rw [if_pos rfl, if_pos rfl, if_pos (.inl rfl)]
theorem rv_cross {M M' : Nat} {E E' : Int} (hE : -1074 ≤ E) (hE' : -1074 ≤ E') (h : M * 2 ^ (E + 1074).toNat ≤ M' * 2 ^ (E' + 1074).toNat) : M * 2 ^ E.toNat * 2 ^ (-E').toNat ≤ M' * 2 ^ E'.toNat * 2 ^ (-E).toNat := by
  obtain ⟨j, hj⟩ : ∃ j, j = 1074 := ⟨_, rfl⟩
  rw [show E + 1074 = E + (j : Nat) by omega, show E' + 1074 = E' + (j : Nat) by omega] at h
  refine Nat.le_of_mul_le_mul_right ?_ (Nat.two_pow_pos j)
  have e1 : 2 ^ E.toNat * 2 ^ j = 2 ^ (E + (j : Nat)).toNat * 2 ^ (-E).toNat := by rw [← Nat.pow_add, ← Nat.pow_add]; congr 1; omega
  have e2 : 2 ^ E'.toNat * 2 ^ j = 2 ^ (E' + (j : Nat)).toNat * 2 ^ (-E').toNat := by rw [← Nat.pow_add, ← Nat.pow_add]; congr 1; omega
  calc M * 2 ^ E.toNat * 2 ^ (-E').toNat * 2 ^ j = M * (2 ^ E.toNat * 2 ^ j) * 2 ^ (-E').toNat := by ac_rfl
    _ = M * 2 ^ (E + (j : Nat)).toNat * (2 ^ (-E).toNat * 2 ^ (-E').toNat) := by rw [e1]; ac_rfl
    _ ≤ M' * 2 ^ (E' + (j : Nat)).toNat * (2 ^ (-E).toNat * 2 ^ (-E').toNat) := Nat.mul_le_mul_right _ h
    _ = M' * (2 ^ E'.toNat * 2 ^ j) * 2 ^ (-E).toNat := by rw [e2]; ac_rfl
    _ = M' * 2 ^ E'.toNat * 2 ^ (-E).toNat * 2 ^ j := by ac_rfl
theorem nar_mono {a b : Nat} {m : Int} (na : nanB a = false) (nb : nanB b = false) (hs : sgnB a = sgnB b) (h : absB a ≤ absB b) : narR a m ≤ narR b m := by
  rcases kind_B a with ⟨h1, h2, h3⟩ | ⟨h1, h2, h3⟩ | ⟨h1, h2, h3, h4, h5⟩ | ⟨h1, h2, h3, h4, h5⟩
  · rw [na] at h1; cases h1
  · have e : infB b = true := by
      have := of_decide_eq_true h1
      have hb := of_decide_eq_false nb
      unfold infB; exact decide_eq_true (by omega)
    have : narR b m = 2139095040 := by unfold narR; rw [if_pos e]
    rw [this]; exact narR_le a m
  · have : narR a m = 0 := by unfold narR; rw [h3, if_neg (by decide), if_pos h1]
    rw [this]; exact Nat.zero_le _
  · have ea : narR a m = (narO a m).rung 24 (-149) 104 := by unfold narR; rw [h2, if_neg (by decide), h3, if_neg (by decide)]
    rcases kind_B b with ⟨g1, g2, g3⟩ | ⟨g1, g2, g3⟩ | ⟨g1, g2, g3, g4, g5⟩ | ⟨g1, g2, g3, g4, g5⟩
    · rw [nb] at g1; cases g1
    · have : narR b m = 2139095040 := by unfold narR; rw [if_pos g1]
      rw [this]; exact narR_le a m
    · omega
    · have eb : narR b m = (narO b m).rung 24 (-149) 104 := by unfold narR; rw [g2, if_neg (by decide), g3, if_neg (by decide)]
      rw [ea, eb]
      unfold narO
      rw [hs]
      have hv := rv_le (p := 52) h
      rw [sp_val a h4, sp_val b g4] at hv
      exact out_mono (by decide) (by decide) (numGo a) (numGo b) (rat_le (Nat.two_pow_pos _) (Nat.two_pow_pos _) (rv_cross (sp_bd a).1 (sp_bd b).1 hv))
theorem val_cases {x y : Nat} (h : valB x ≤ valB y) : (sgnB x = false ∧ sgnB y = false ∧ absB x ≤ absB y) ∨ (sgnB x = true ∧ sgnB y = true ∧ absB y ≤ absB x) ∨ (sgnB x = true ∧ sgnB y = false) ∨ (sgnB x = false ∧ sgnB y = true ∧ absB x = 0 ∧ absB y = 0) := by
  rw [val_sgn, val_sgn] at h
  cases hx : sgnB x <;> cases hy : sgnB y <;> rw [hx, hy] at h
  · refine .inl ⟨rfl, rfl, ?_⟩
    have : (rv 52 (absB x) : Int) ≤ rv 52 (absB y) := h
    exact (rv_le_iff (p := 52)).1 (by omega)
  · refine .inr (.inr (.inr ⟨rfl, rfl, ?_, ?_⟩))
    · have : (rv 52 (absB x) : Int) ≤ -(rv 52 (absB y) : Int) := h
      refine rv_inj (p := 52) ?_
      rw [rv_zero]; omega
    · have : (rv 52 (absB x) : Int) ≤ -(rv 52 (absB y) : Int) := h
      refine rv_inj (p := 52) ?_
      rw [rv_zero]; omega
  · exact .inr (.inr (.inl ⟨rfl, rfl⟩))
  · refine .inr (.inl ⟨rfl, rfl, ?_⟩)
    have : -(rv 52 (absB x) : Int) ≤ -(rv 52 (absB y) : Int) := h
    exact (rv_le_iff (p := 52)).1 (by omega)
/-- Singles by their signs and rungs: which is the greater one. -/
theorem ord3 {s t : Bool} {r q : Nat} (hr : r ≤ 2139095040) (hq : q ≤ 2139095040) (o : Ordering) : (Go.FloatKind.f32.format.order (sgS s + r) (sgS t + q) == some o) = (compare (sg s (rv 23 r)) (sg t (rv 23 q)) == o) := by
  obtain ⟨w1, w2, w3⟩ := b3_word s (show r < 2147483648 by omega)
  obtain ⟨v1, v2, v3⟩ := b3_word t (show q < 2147483648 by omega)
  have := order_all Ieee.single S_ok (sgS s + r) (sgS t + q) (by rw [rg_S, S_inf]; have : (sgS s + r) % 2147483648 = r := w3; omega) (by rw [rg_S, S_inf]; have : (sgS t + q) % 2147483648 = q := v3; omega)
  show (Ieee.single.order _ _ == some o) = _
  rw [this, V_S w1, V_S v1]
  unfold val3
  rw [w2, w3, v2, v3]
  cases compare (sg s (rv 23 r)) (sg t (rv 23 q)) <;> cases o <;> rfl
theorem cmp_ngt {x y : Int} (h : x ≤ y) : (compare x y == Ordering.gt) = false := by
  rcases Int.lt_or_eq_of_le h with h | h
  · rw [Int.compare_eq_lt.2 h]; rfl
  · rw [h]; simp
theorem cmp_nlt {x y : Int} (h : y ≤ x) : (compare x y == Ordering.lt) = false := by
  rcases Int.lt_or_eq_of_le h with h | h
  · rw [Int.compare_eq_gt.2 h]; rfl
  · rw [h]; simp
theorem nar_rises {x y : Nat} {m : Int} (nx : nanB x = false) (ny : nanB y = false) (h : valB x ≤ valB y) : (Go.FloatKind.f32.format.order (sgS (sgnB x) + narR x m) (sgS (sgnB y) + narR y m) == some .gt) = false := by
  rw [ord3 (narR_le _ _) (narR_le _ _)]
  refine cmp_ngt ?_
  rcases val_cases h with ⟨h1, h2, h3⟩ | ⟨h1, h2, h3⟩ | ⟨h1, h2⟩ | ⟨h1, h2, h3, h4⟩
  · have := rv_le (p := 23) (nar_mono (m := m) nx ny (h1.trans h2.symm) h3)
    rw [h1, h2]
    show (rv 23 (narR x m) : Int) ≤ rv 23 (narR y m)
    omega
  · have := rv_le (p := 23) (nar_mono (m := m) ny nx (h2.trans h1.symm) h3)
    rw [h1, h2]
    show -(rv 23 (narR x m) : Int) ≤ -(rv 23 (narR y m) : Int)
    omega
  · rw [h1, h2]
    show -(rv 23 (narR x m) : Int) ≤ (rv 23 (narR y m) : Int)
    omega
  · have z : ∀ b, absB b = 0 → narR b m = 0 := fun b hb => by
      have hz : zeroB b = true := by unfold zeroB; exact decide_eq_true hb
      have hi : infB b = false := by unfold infB; exact decide_eq_false (by omega)
      unfold narR; rw [hi, if_neg (by decide), if_pos hz]
    rw [h1, h2, z x h3, z y h4, rv_zero]
    show (0 : Int) ≤ -(0 : Int)
    omega
/-- Made whole. -/
theorem kW_mono {neg : Bool} {m : Int} {q q' : Nat} {h h' : Int} {z z' : Bool} (hq : q ≤ q') (he : q = q' → h ≤ h' ∧ (z' = true → z = true)) : kW neg m q h z ≤ kW neg m q' h' z' := by
  have a1 := (kW_le (neg := neg) (mode := m) (q := q) (h := h) (z := z)).2
  have a2 := (kW_le (neg := neg) (mode := m) (q := q') (h := h') (z := z')).1
  by_cases hlt : q < q'
  · omega
  · have e : q = q' := by omega
    obtain ⟨b1, b2⟩ := he e
    subst e
    unfold kW
    by_cases c : (!z && upW m neg (decide (q % 2 = 1)) h) = true
    · have hz : z = false := by cases z; rfl; simp at c
      have hz' : z' = false := by
        cases hz2 : z'
        · rfl
        · have := b2 hz2; rw [hz] at this; cases this
      rw [hz, Bool.not_false, Bool.true_and] at c
      rw [if_pos (by rw [hz, Bool.not_false, Bool.true_and]; exact c), if_pos (by rw [hz', Bool.not_false, Bool.true_and]; exact up_mono b1 c)]
      exact Nat.le_refl _
    · rw [if_neg c]; split <;> omega
theorem who_mono {a b : Nat} (fa : finB a = true) (fb : finB b = true) (neg : Bool) (m : Int) (h : absB a ≤ absB b) : whoN neg m (spM a) (spE a) ≤ whoN neg m (spM b) (spE b) := by
  rw [who_rv fa rfl neg m, who_rv fb rfl neg m]
  have hv := rv_le (p := 52) h
  obtain ⟨a1, a2⟩ := cut_le (Nat.two_pow_pos LP) (Nat.two_pow_pos LP) (Nat.mul_le_mul_right (2 ^ LP) hv)
  refine kW_mono a1 fun e => ?_
  obtain ⟨b1, b2⟩ := a2 e
  exact ⟨b1, fun hz => decide_eq_true (b2 (of_decide_eq_true hz))⟩
/-- The rung that Whole comes to. -/
def whoRg (a : Nat) (m : Int) : Nat := if infB a = true then 9218868437227405312 else natR (whoN (sgnB a) m (spM a) (spE a))
theorem who_form {a : Nat} {m : Int} (ha : W64 a) (hm : 1 ≤ m ∧ m ≤ 6) (n : nanB a = false) : whoA a m = sgW (sgnB a) + whoRg a m ∧ whoX a m = 0 ∧ whoRg a m ≤ 9218868437227405312 := by
  cases hi : infB a
  · have fa : finB a = true := by rw [finB_eq, n, hi]; rfl
    obtain ⟨h1, h2⟩ := who_fin hm n hi
    have hr : whoRg a m = natR (whoN (sgnB a) m (spM a) (spE a)) := by unfold whoRg; rw [hi, if_neg (by decide)]
    have := (who_rung fa rfl (sgnB a) m).1
    rw [h1, hr]
    exact ⟨rfl, h2, by omega⟩
  · obtain ⟨h1, h2⟩ := who_inf hm n hi
    have hr : whoRg a m = 9218868437227405312 := by unfold whoRg; rw [if_pos hi]
    rw [h1, hr]
    refine ⟨?_, h2, Nat.le_refl _⟩
    have := bits_join ha
    rw [of_decide_eq_true hi] at this
    exact this
theorem whoRg_mono {a b : Nat} {m : Int} (na : nanB a = false) (nb : nanB b = false) (hs : sgnB a = sgnB b) (h : absB a ≤ absB b) : whoRg a m ≤ whoRg b m := by
  cases hb : infB b
  · have fb : finB b = true := by rw [finB_eq, nb, hb]; rfl
    have ha : infB a = false := by have := finA_lt fb; unfold infB; exact decide_eq_false (by omega)
    have fa : finB a = true := by rw [finB_eq, na, ha]; rfl
    have e1 : whoRg a m = natR (whoN (sgnB a) m (spM a) (spE a)) := by unfold whoRg; rw [ha, if_neg (by decide)]
    have e2 : whoRg b m = natR (whoN (sgnB b) m (spM b) (spE b)) := by unfold whoRg; rw [hb, if_neg (by decide)]
    rw [e1, e2, hs]
    refine (rv_le_iff (p := 52)).1 ?_
    rw [(who_rung fa rfl (sgnB b) m).2, (who_rung fb rfl (sgnB b) m).2]
    exact Nat.mul_le_mul_right _ (who_mono fa fb _ m h)
  · have e2 : whoRg b m = 9218868437227405312 := by unfold whoRg; rw [if_pos hb]
    rw [e2]
    cases ha : infB a
    · have fa : finB a = true := by rw [finB_eq, na, ha]; rfl
      have e1 : whoRg a m = natR (whoN (sgnB a) m (spM a) (spE a)) := by unfold whoRg; rw [ha, if_neg (by decide)]
      have := (who_rung fa rfl (sgnB a) m).1
      rw [e1]; omega
    · unfold whoRg; rw [if_pos ha]; exact Nat.le_refl _
theorem who_rises {x y : Nat} {m : Int} (nx : nanB x = false) (ny : nanB y = false) (hx : whoRg x m ≤ 9218868437227405312) (hy : whoRg y m ≤ 9218868437227405312) (h : valB x ≤ valB y) : (Go.FloatKind.f64.format.order (sgW (sgnB x) + whoRg x m) (sgW (sgnB y) + whoRg y m) == some .gt) = false := by
  have f : ∀ (s : Bool) (r : Nat), r ≤ 9218868437227405312 → W64 (sgW s + r) ∧ nanB (sgW s + r) = false ∧ valB (sgW s + r) = sg s (rv 52 r) := fun s r hr => by
    have e1 := bits_abs s (show r < 9223372036854775808 by omega)
    have e2 := bits_sgn s (show r < 9223372036854775808 by omega)
    exact ⟨bits_W s (by omega), by unfold nanB; rw [e1]; exact decide_eq_false (by omega), by rw [val_sgn, e1, e2]⟩
  obtain ⟨x1, x2, x3⟩ := f (sgnB x) _ hx
  obtain ⟨y1, y2, y3⟩ := f (sgnB y) _ hy
  rw [ord_val x1 y1 x2 y2, x3, y3]
  refine cmp_ngt ?_
  rcases val_cases h with ⟨h1, h2, h3⟩ | ⟨h1, h2, h3⟩ | ⟨h1, h2⟩ | ⟨h1, h2, h3, h4⟩
  · have := rv_le (p := 52) (whoRg_mono (m := m) nx ny (h1.trans h2.symm) h3)
    rw [h1, h2]
    show (rv 52 (whoRg x m) : Int) ≤ rv 52 (whoRg y m)
    omega
  · have := rv_le (p := 52) (whoRg_mono (m := m) ny nx (h2.trans h1.symm) h3)
    rw [h1, h2]
    show -(rv 52 (whoRg x m) : Int) ≤ -(rv 52 (whoRg y m) : Int)
    omega
  · rw [h1, h2]
    show -(rv 52 (whoRg x m) : Int) ≤ (rv 52 (whoRg y m) : Int)
    omega
  · have z : ∀ b, absB b = 0 → whoRg b m = 0 := fun b hb => by
      have hi : infB b = false := by unfold infB; exact decide_eq_false (by omega)
      have fb : finB b = true := by unfold finB; exact decide_eq_true (by omega)
      have hw := who_self (K := 0) fb (by rw [hb, rv_zero, Nat.zero_mul]) (sgnB b) m
      unfold whoRg
      rw [hi, if_neg (by decide), hw]
      exact natR_eq (by decide) (by rw [rv_zero, Nat.zero_mul])
    rw [h1, h2, z x h3, z y h4, rv_zero]
    show (0 : Int) ≤ -(0 : Int)
    omega
end Go.Proofs.YtgfbcncjboenbaaGreatDoor

/- Plain: opposites, Up and Down of a number narrowed. -/
namespace Go.Proofs.YtgfbcncjboenbaaGreatDoor
open Go.RowKit
open Go.Lib hiding intOf

theorem wid_rung (s : Bool) {r : Nat} (h : r < 2139095040) : Go.floatToFloatBits .f32 (sgS s + r) .f64 = some (widB (sgS s + r)) ∧ W64 (widB (sgS s + r)) ∧ finB (widB (sgS s + r)) = true ∧ sgnB (widB (sgS s + r)) = s ∧ rv 52 (absB (widB (sgS s + r))) = rv 23 r * 2 ^ LD := by
  obtain ⟨b1, b2, b3⟩ := b3_word s (show r < 2147483648 by omega)
  have hf : abs3 (sgS s + r) < 2139095040 := by rw [b3]; exact h
  obtain ⟨w1, w2, w3, w4, w5⟩ := wid_fin b1 hf
  obtain ⟨p1, -, p3, -⟩ := sp3 hf
  rw [b3] at p1
  refine ⟨w1, w2, w3, w4.trans b2, ?_⟩
  rw [w5, p1, scale32 p3]
theorem nar_rung (s : Bool) {r : Nat} (h : r < 2139095040) {m : Int} (hm : 1 ≤ m ∧ m ≤ 6) : narR (widB (sgS s + r)) m = r := by
  obtain ⟨-, -, w3, w4, -⟩ := wid_rung s h
  have h1 := nar_wid (y := sgS s + r) (b3_word s (by omega)).1 (fun hn => by rw [num3 s (by omega)] at hn; cases hn) hm
  rw [nar_form hm (fin_nan w3), w4] at h1
  injection h1 with h2
  omega
theorem exact_rung {x r : Nat} (hx : W64 x) (hr : r < 2139095040) (h : rv 52 (absB x) = rv 23 r * 2 ^ LD) {m : Int} (hm : 1 ≤ m ∧ m ≤ 6) : narR x m = r := by
  obtain ⟨-, w2, -, w4, w5⟩ := wid_rung (sgnB x) hr
  rw [← w5] at h
  have e : x = widB (sgS (sgnB x) + r) := by
    have e1 := bits_join hx
    have e2 := bits_join w2
    rw [w4, ← rv_inj h] at e2
    exact e1.trans e2.symm
  rw [e]; exact nar_rung _ hr hm
theorem nar_between (x : Nat) : ∃ c : Bool, (∀ m, (narO x m).ine = c) ∧ (c = false → (narO x 4).ine = false) ∧
    (c = true → ∃ F, F < infR 24 (-149) 104 ∧ (narO x (if sgnB x = true then 3 else 4)).rung 24 (-149) 104 = F ∧ (narO x (if sgnB x = true then 4 else 3)).rung 24 (-149) 104 = F + 1) := by
  have key : ∀ f : Int → Out, (∀ m, f m = outG 24 (-149) 104 (sgnB x) m (numG (spM x) (spE x))) → ∃ c : Bool, (∀ m, (f m).ine = c) ∧ (c = false → (f 4).ine = false) ∧
      (c = true → ∃ F, F < infR 24 (-149) 104 ∧ (f (if sgnB x = true then 3 else 4)).rung 24 (-149) 104 = F ∧ (f (if sgnB x = true then 4 else 3)).rung 24 (-149) 104 = F + 1) := by
    intro f hf
    obtain ⟨c, c1, -, c3⟩ := out_between (b := 24) (L := -149) (T := 104) (neg := sgnB x) (g := numG (spM x) (spE x)) (by decide) (by decide) (numGo x)
    refine ⟨c, fun m => by rw [hf]; exact c1 m, fun hc => by rw [hf, c1, hc], fun hc => ?_⟩
    obtain ⟨F, f1, -, f3, f4⟩ := c3 hc
    exact ⟨F, f1, by rw [hf]; exact f3, by rw [hf]; exact f4⟩
  exact key (narO x) (fun m => by rw [narO])
/-- What is beside a number among the singles. -/
theorem up_down {x : Nat} (hx : W64 x) (fx : finB x = true) (h0 : absB x ≠ 0) : ∃ c : Bool, (narF x 4).1 = c ∧ (narF x 3).1 = c ∧
    (c = false → narR x 4 = narR x 3 ∧ narR x 4 < 2139095040 ∧ rv 23 (narR x 4) * 2 ^ LD = rv 52 (absB x)) ∧
    (c = true → ∃ F, F < 2139095040 ∧ narR x (if sgnB x = true then 3 else 4) = F ∧ narR x (if sgnB x = true then 4 else 3) = F + 1 ∧ rv 23 F * 2 ^ LD ≤ rv 52 (absB x) ∧ (F + 1 < 2139095040 → rv 52 (absB x) ≤ rv 23 (F + 1) * 2 ^ LD)) := by
  have hn := fin_nan fx
  have hi : infB x = false := by have := finA_lt fx; unfold infB; exact decide_eq_false (by omega)
  have hz : zeroB x = false := by unfold zeroB; exact decide_eq_false h0
  have hR : ∀ m, narR x m = (narO x m).rung 24 (-149) 104 := fun m => by unfold narR; rw [hi, if_neg (by decide), hz, if_neg (by decide)]
  have hF : ∀ m, (narF x m).1 = (narO x m).ine := fun m => by
    obtain ⟨o, ho⟩ : ∃ o, o = narO x m := ⟨_, rfl⟩
    unfold narF
    rw [if_neg (by rw [hi, hz]; simp), ← ho]
  obtain ⟨c, c1, c2, c3⟩ := nar_between x
  have hinf : infR 24 (-149) 104 = 2139095040 := by decide
  refine ⟨c, by rw [hF, c1], by rw [hF, c1], fun hc => ?_, fun hc => ?_⟩
  · have hI := c2 hc
    rw [narO] at hI
    obtain ⟨r, r1, r2⟩ := ine_single (sp_bd x).1 hI
    rw [← sp_val x fx] at r2
    have e4 := exact_rung (m := 4) hx r1 r2.symm (by decide)
    have e3 := exact_rung (m := 3) hx r1 r2.symm (by decide)
    rw [e4, e3]
    exact ⟨rfl, r1, r2⟩
  · obtain ⟨F, f1, f3, f4⟩ := c3 hc
    rw [hinf] at f1
    have g3 : narR x (if sgnB x = true then 3 else 4) = F := by rw [hR, f3]
    have g4 : narR x (if sgnB x = true then 4 else 3) = F + 1 := by rw [hR, f4]
    have hm3 : (1 : Int) ≤ (if sgnB x = true then 3 else 4) ∧ (if sgnB x = true then (3 : Int) else 4) ≤ 6 := by split <;> decide
    have hm4 : (1 : Int) ≤ (if sgnB x = true then 4 else 3) ∧ (if sgnB x = true then (4 : Int) else 3) ≤ 6 := by split <;> decide
    refine ⟨F, f1, g3, g4, ?_, fun h1 => ?_⟩
    · refine Nat.le_of_not_lt fun hlt => ?_
      obtain ⟨-, -, w3, w4, w5⟩ := wid_rung (sgnB x) f1
      rw [← w5] at hlt
      have hle : absB x ≤ absB (widB (sgS (sgnB x) + F)) := Nat.le_of_lt ((rv_lt_iff (p := 52)).1 hlt)
      have := nar_mono (m := if sgnB x = true then 4 else 3) hn (fin_nan w3) w4.symm hle
      rw [g4, nar_rung _ f1 hm4] at this
      omega
    · refine Nat.le_of_not_lt fun hlt => ?_
      obtain ⟨-, -, w3, w4, w5⟩ := wid_rung (sgnB x) h1
      rw [← w5] at hlt
      have hle : absB (widB (sgS (sgnB x) + (F + 1))) ≤ absB x := Nat.le_of_lt ((rv_lt_iff (p := 52)).1 hlt)
      have := nar_mono (m := if sgnB x = true then 3 else 4) (fin_nan w3) hn w4 hle
      rw [g3, nar_rung _ h1 hm3] at this
      omega
theorem wid_top (s : Bool) : Go.floatToFloatBits .f32 (sgS s + 2139095040) .f64 = some (widB (sgS s + 2139095040)) ∧ widB (sgS s + 2139095040) = sgW s + 9218868437227405312 := by
  obtain ⟨b1, b2, b3⟩ := b3_word s (show 2139095040 < 2147483648 by decide)
  have hi : inf3 (sgS s + 2139095040) = true := by unfold inf3; rw [b3]; decide
  obtain ⟨h1, h2⟩ := wid_inf b1 hi
  refine ⟨h1, ?_⟩
  unfold widB
  rw [h2, hi, if_neg (by decide), if_pos rfl, b2]
theorem word_val (s : Bool) {r : Nat} (h : r ≤ 9218868437227405312) : W64 (sgW s + r) ∧ nanB (sgW s + r) = false ∧ valB (sgW s + r) = sg s (rv 52 r) := by
  have e1 := bits_abs s (show r < 9223372036854775808 by omega)
  have e2 := bits_sgn s (show r < 9223372036854775808 by omega)
  exact ⟨bits_W s (by omega), by unfold nanB; rw [e1]; exact decide_eq_false (by omega), by rw [val_sgn, e1, e2]⟩
theorem nxt_beside (s : Bool) {F : Nat} (h : F < 2139095040) : nxt3 (sgS s + (if s = true then F + 1 else F)) = sgS s + (if s = true then F else F + 1) := by
  have hn : ∀ r, r ≤ 2139095040 → nan3 (sgS s + r) = false := fun r hr => num3 s hr
  cases s
  · have h1 : sgn3 (sgS false + F) = false := (b3_word false (show F < 2147483648 by omega)).2.1
    show nxt3 (sgS false + F) = sgS false + (F + 1)
    unfold nxt3
    rw [hn F (by omega), h1, if_neg (by decide)]
    have e0 : sgS false + F = F := Nat.zero_add F
    rw [e0, if_neg (by omega), if_neg (by omega), if_neg (by decide)]
    show F + 1 = 0 + (F + 1)
    omega
  · have h1 : sgn3 (sgS true + (F + 1)) = true := (b3_word true (show F + 1 < 2147483648 by omega)).2.1
    show nxt3 (sgS true + (F + 1)) = sgS true + F
    unfold nxt3
    rw [hn (F + 1) (by omega), h1, if_neg (by decide)]
    have e0 : sgS true = 2147483648 := rfl
    rw [e0, if_neg (by omega), if_neg (by omega), if_pos rfl]
    omega
theorem sg_le_f {a b : Nat} (h : a ≤ b) : sg false a ≤ sg false b := Int.ofNat_le.2 h
theorem sg_le_t {a b : Nat} (h : b ≤ a) : sg true a ≤ sg true b := Int.neg_le_neg (Int.ofNat_le.2 h)
/-- Up and Down of any number: what the law asks. -/
def SidesP (x : Nat) : Prop := ∃ (c : Bool) (r q : Nat), r ≤ 2139095040 ∧ q ≤ 2139095040 ∧ narR x 4 = r ∧ narR x 3 = q ∧ (narF x 4).1 = c ∧ (narF x 3).1 = c ∧ (c = false → r = q) ∧
    (c = true → nxt3 (sgS (sgnB x) + r) = sgS (sgnB x) + q) ∧
    (∃ l, Go.floatToFloatBits .f32 (sgS (sgnB x) + r) .f64 = some l ∧ (Go.FloatKind.f64.format.order l x == some .gt) = false) ∧
    (∃ l, Go.floatToFloatBits .f32 (sgS (sgnB x) + q) .f64 = some l ∧ (Go.FloatKind.f64.format.order l x == some .lt) = false)
theorem sides {x : Nat} (hx : W64 x) (nx : nanB x = false) : SidesP x := by
  have key : ∀ (r : Nat), r ≤ 2139095040 → ∃ l, Go.floatToFloatBits .f32 (sgS (sgnB x) + r) .f64 = some l ∧ W64 l ∧ nanB l = false ∧ valB l = sg (sgnB x) (if r < 2139095040 then rv 23 r * 2 ^ LD else rv 52 9218868437227405312) := by
    intro r hr
    by_cases h : r < 2139095040
    · obtain ⟨w1, w2, w3, w4, w5⟩ := wid_rung (sgnB x) h
      exact ⟨_, w1, w2, fin_nan w3, by rw [val_sgn, w4, w5, if_pos h]⟩
    · have : r = 2139095040 := by omega
      subst this
      obtain ⟨w1, w2⟩ := wid_top (sgnB x)
      obtain ⟨v1, v2, v3⟩ := word_val (sgnB x) (Nat.le_refl 9218868437227405312)
      rw [← w2] at v1 v2 v3
      exact ⟨_, w1, v1, v2, by rw [v3, if_neg h]⟩
  have htop : rv 52 (absB x) ≤ rv 52 9218868437227405312 := rv_le (by have := of_decide_eq_false nx; omega)
  -- what must be said of the values
  have fin : ∀ (c : Bool) (r q : Nat), r ≤ 2139095040 → q ≤ 2139095040 → narR x 4 = r → narR x 3 = q → (narF x 4).1 = c → (narF x 3).1 = c → (c = false → r = q) → (c = true → nxt3 (sgS (sgnB x) + r) = sgS (sgnB x) + q) →
      sg (sgnB x) (if r < 2139095040 then rv 23 r * 2 ^ LD else rv 52 9218868437227405312) ≤ valB x → valB x ≤ sg (sgnB x) (if q < 2139095040 then rv 23 q * 2 ^ LD else rv 52 9218868437227405312) → SidesP x := by
    intro c r q hr hq h1 h2 h3 h4 h5 h6 v1 v2
    obtain ⟨l, l1, l2, l3, l4⟩ := key r hr
    obtain ⟨u, u1, u2, u3, u4⟩ := key q hq
    refine ⟨c, r, q, hr, hq, h1, h2, h3, h4, h5, h6, ⟨l, l1, ?_⟩, ⟨u, u1, ?_⟩⟩
    · rw [ord_val l2 hx l3 nx, l4]; exact cmp_ngt v1
    · rw [ord_val u2 hx u3 nx, u4]; exact cmp_nlt v2
  rcases kind_B x with ⟨h1, h2, h3⟩ | ⟨h1, h2, h3⟩ | ⟨h1, h2, h3, h4, h5⟩ | ⟨h1, h2, h3, h4, h5⟩
  · rw [nx] at h1; cases h1
  · have e : ∀ m, narR x m = 2139095040 ∧ (narF x m).1 = false := fun m => ⟨by unfold narR; rw [if_pos h1], by unfold narF; rw [if_pos (.inl h1)]⟩
    have ev : valB x = sg (sgnB x) (rv 52 9218868437227405312) := by rw [val_sgn, of_decide_eq_true h1]
    refine fin false 2139095040 2139095040 (Nat.le_refl _) (Nat.le_refl _) (e 4).1 (e 3).1 (e 4).2 (e 3).2 (fun _ => rfl) (fun h => by cases h) ?_ ?_
    · rw [if_neg (by decide), ev]; exact Int.le_refl _
    · rw [if_neg (by decide), ev]; exact Int.le_refl _
  · have e : ∀ m, narR x m = 0 ∧ (narF x m).1 = false := fun m => ⟨by unfold narR; rw [h3, if_neg (by decide), if_pos h1], by unfold narF; rw [if_pos (.inr h1)]⟩
    have ev : valB x = sg (sgnB x) (rv 23 0 * 2 ^ LD) := by rw [val_sgn, h5, rv_zero, rv_zero, Nat.zero_mul]
    refine fin false 0 0 (Nat.zero_le _) (Nat.zero_le _) (e 4).1 (e 3).1 (e 4).2 (e 3).2 (fun _ => rfl) (fun h => by cases h) ?_ ?_
    · rw [if_pos (by decide), ev]; exact Int.le_refl _
    · rw [if_pos (by decide), ev]; exact Int.le_refl _
  · obtain ⟨c, c1, c2, c3, c4⟩ := up_down hx h4 h5
    cases c
    · obtain ⟨g1, g2, g3⟩ := c3 rfl
      have ev : valB x = sg (sgnB x) (rv 23 (narR x 4) * 2 ^ LD) := by rw [val_sgn, g3]
      refine fin false (narR x 4) (narR x 3) (narR_le _ _) (narR_le _ _) rfl rfl c1 c2 (fun _ => g1) (fun h => by cases h) ?_ ?_
      · rw [if_pos g2, ev]; exact Int.le_refl _
      · rw [← g1, if_pos g2, ev]; exact Int.le_refl _
    · obtain ⟨F, f1, f2, f3, f4, f5⟩ := c4 rfl
      have f6 : rv 52 (absB x) ≤ (if F + 1 < 2139095040 then rv 23 (F + 1) * 2 ^ LD else rv 52 9218868437227405312) := by
        by_cases h : F + 1 < 2139095040
        · rw [if_pos h]; exact f5 h
        · rw [if_neg h]; exact htop
      have hb := nxt_beside (sgnB x) f1
      have f1' : F ≤ 2139095040 := Nat.le_of_lt f1
      have f1'' : F + 1 ≤ 2139095040 := Nat.succ_le_of_lt f1
      have ev : valB x = sg (sgnB x) (rv 52 (absB x)) := val_sgn x
      cases hs : sgnB x
      · rw [hs, if_neg Bool.false_ne_true] at f2 f3
        rw [hs, if_neg Bool.false_ne_true, if_neg Bool.false_ne_true] at hb
        rw [hs] at ev
        have key2 := fin true F (F + 1) f1' f1'' f2 f3 c1 c2 (fun h => Bool.noConfusion h) (fun _ => by rw [hs]; exact hb)
        rw [hs] at key2
        refine key2 ?_ ?_
        · rw [if_pos f1, ev]; exact sg_le_f f4
        · rw [ev]; exact sg_le_f f6
      · rw [hs, if_pos rfl] at f2 f3
        rw [hs, if_pos rfl, if_pos rfl] at hb
        rw [hs] at ev
        have key2 := fin true (F + 1) F f1'' f1' f3 f2 c1 c2 (fun h => Bool.noConfusion h) (fun _ => by rw [hs]; exact hb)
        rw [hs] at key2
        refine key2 ?_ ?_
        · rw [ev]; exact sg_le_t f6
        · rw [if_pos f1, ev]; exact sg_le_t f4
end Go.Proofs.YtgfbcncjboenbaaGreatDoor

/- Plain: a number and its opposite. -/
namespace Go.Proofs.YtgfbcncjboenbaaGreatDoor
open Go.RowKit
open Go.Lib hiding intOf

theorem neg_word (s : Bool) {r : Nat} (h : r < 9223372036854775808) : Go.Op.negFloat .f64 (sgW s + r) = sgW (!s) + r := by
  have e1 := bits_abs s h
  have e2 := bits_sgn s h
  rw [negFloat_D _ (bits_W s h), e1, e2]
  cases s
  · rw [if_neg Bool.false_ne_true]
    show 0 + r + 9223372036854775808 = 9223372036854775808 + r
    omega
  · rw [if_pos rfl]
    show r = 0 + r
    omega
theorem neg_single (s : Bool) {r : Nat} (h : r < 2147483648) : Go.Op.negFloat .f32 (sgS s + r) = sgS (!s) + r := by
  unfold Go.Op.negFloat
  show (sgS s + r) ^^^ 2^31 = _
  obtain ⟨b, hb⟩ : ∃ b, b = sgS s + r := ⟨_, rfl⟩
  have h1 : (b ^^^ 2^31) % 2^31 = b % 2^31 := by rw [Nat.xor_mod_two_pow]; simp
  have h2 : (b ^^^ 2^31) / 2^31 = b / 2^31 ^^^ 1 := by rw [Nat.xor_div_two_pow]
  have h4 := Nat.div_add_mod (b ^^^ 2^31) (2^31)
  rw [h1, h2] at h4
  rw [← hb]
  cases s
  · have hb' : b = 0 + r := hb
    rw [show b / 2^31 = 0 by omega, show (0 ^^^ 1 : Nat) = 1 from rfl] at h4
    show _ = 2147483648 + r
    omega
  · have hb' : b = 2147483648 + r := hb
    rw [show b / 2^31 = 1 by omega, show (1 ^^^ 1 : Nat) = 0 from rfl] at h4
    show _ = 0 + r
    omega
theorem sp_abs {a b : Nat} (h : absB a = absB b) : spM a = spM b ∧ spE a = spE b := by
  have h1 : nanB a = nanB b := by unfold nanB; rw [h]
  have h2 : infB a = infB b := by unfold infB; rw [h]
  have h3 : zeroB a = zeroB b := by unfold zeroB; rw [h]
  have h4 : lowB a = lowB b := by unfold lowB; rw [h]
  have h5 : fracB a = fracB b := by unfold absB at h; unfold fracB; omega
  have h6 : expB a = expB b := by unfold absB at h; unfold expB; omega
  refine ⟨?_, ?_⟩
  · unfold spM mantB; rw [h1, h2, h3, h4, h5]
  · unfold spE; rw [h1, h2, h3, h4, h6]
theorem nar_opp {x X : Nat} (h : absB X = absB x) (hs : sgnB X = !sgnB x) (m : Int) : narR X (oppM m) = narR x m ∧ narF X (oppM m) = narF x m := by
  obtain ⟨h1, h2⟩ := sp_abs h
  have h3 : infB X = infB x := by unfold infB; rw [h]
  have h4 : zeroB X = zeroB x := by unfold zeroB; rw [h]
  have e : narO X (oppM m) = narO x m := by rw [narO, narO, h1, h2, hs, out_opp]
  refine ⟨?_, ?_⟩
  · unfold narR; rw [h3, h4, e]
  · unfold narF; rw [h3, h4, e]
theorem kw_opp (m : Int) (neg : Bool) (q : Nat) (h : Int) (z : Bool) : kW (!neg) (oppM m) q h z = kW neg m q h z := by unfold kW; rw [up_opp]
theorem who_opp {x X : Nat} (h : absB X = absB x) (hs : sgnB X = !sgnB x) (m : Int) : whoRg X (oppM m) = whoRg x m := by
  obtain ⟨h1, h2⟩ := sp_abs h
  have h3 : infB X = infB x := by unfold infB; rw [h]
  have e : whoN (sgnB X) (oppM m) (spM X) (spE X) = whoN (sgnB x) m (spM x) (spE x) := by unfold whoN; rw [h1, h2, hs, kw_opp]
  unfold whoRg
  rw [h3, e]
theorem opp_mode {m : Int} (h : 1 ≤ m ∧ m ≤ 6) : 1 ≤ oppM m ∧ oppM m ≤ 6 := by
  unfold oppM
  split
  · decide
  · split
    · decide
    · exact h
/-- What the law asks of a number and its opposite. -/
theorem opp_all {x : Nat} (hx : W64 x) (nx : nanB x = false) {m : Int} (hm : 1 ≤ m ∧ m ≤ 6) : ∃ X, X = Go.Op.negFloat .f64 x ∧ W64 X ∧
    narA X (oppM m) = ⟨sgS (!sgnB x) + narR x m, (narF x m).1, (narF x m).2.1, (narF x m).2.2, 0⟩ ∧ Go.Op.negFloat .f32 (sgS (!sgnB x) + narR x m) = sgS (sgnB x) + narR x m ∧
    whoA X (oppM m) = sgW (!sgnB x) + whoRg x m ∧ whoX X (oppM m) = 0 ∧ Go.Op.negFloat .f64 (sgW (!sgnB x) + whoRg x m) = sgW (sgnB x) + whoRg x m := by
  have ha : absB x < 9223372036854775808 := Nat.mod_lt _ (by decide)
  have e1 : Go.Op.negFloat .f64 x = sgW (!sgnB x) + absB x := by
    have := bits_join hx
    calc Go.Op.negFloat .f64 x = Go.Op.negFloat .f64 (sgW (sgnB x) + absB x) := by rw [← this]
      _ = _ := neg_word _ ha
  have f1 := bits_abs (!sgnB x) ha
  have f2 := bits_sgn (!sgnB x) ha
  have f3 := bits_W (!sgnB x) ha
  rw [← e1] at f1 f2 f3
  have f4 : nanB (Go.Op.negFloat .f64 x) = false := by
    unfold nanB at nx ⊢
    rw [f1]; exact nx
  obtain ⟨X, hX⟩ : ∃ X, X = Go.Op.negFloat .f64 x := ⟨_, rfl⟩
  rw [← hX] at f1 f2 f3 f4
  obtain ⟨g1, g2⟩ := nar_opp f1 f2 m
  have g3 := who_opp f1 f2 m
  have hm' := opp_mode hm
  obtain ⟨k1, k2, -⟩ := who_form f3 hm' f4
  obtain ⟨-, -, k3⟩ := who_form hx hm nx
  refine ⟨X, hX, f3, ?_, ?_, ?_, k2, ?_⟩
  · rw [nar_form hm' f4, f2, g1, g2]
  · have := narR_le x m
    rw [neg_single _ (by omega), Bool.not_not]
  · rw [k1, f2, g3]
  · rw [neg_word _ (by omega), Bool.not_not]
end Go.Proofs.YtgfbcncjboenbaaGreatDoor

/- Walks: the law SingleRises. -/
namespace Go.Proofs.YtgfbcncjboenbaaGreatDoor
open Go.RowKit
open Go.Lib hiding intOf

set_option maxHeartbeats 4000000 in
theorem opp4_v (m : Int) (w : World) : Calls Tryz.prog 59 #[.int .i64 m] w fun e w' => e = .returned (.int .i64 (oppM m)) ∧ w = w' := by
  unfold oppM
  by_cases h3 : m = 3
  · subst h3
    go_enter Tryz.func59, Tryz.ntmps59
    go_wp2
    go_ret
    exact ⟨rfl, rfl⟩
  · by_cases h4 : m = 4
    · subst h4
      go_enter Tryz.func59, Tryz.ntmps59
      go_wp2
      go_ret
      exact ⟨rfl, rfl⟩
    · have e3 : (m == 3) = false := by simp; omega
      have e4 : (m == 4) = false := by simp; omega
      rw [if_neg h3, if_neg h4]
      go_enter Tryz.func59, Tryz.ntmps59
      go_wp2
      go_ret
      exact ⟨rfl, rfl⟩
set_option maxHeartbeats 4000000 in
set_option maxRecDepth 100000 in
theorem rises_main (a b x y : Nat) (m : Int) (w : World) (ha : W64 a) (hb0 : W64 b) (na : nanB a = false) (nb : nanB b = false) (hx : W64 x) (hy : W64 y) (nx : nanB x = false) (ny : nanB y = false) (hxy : valB x ≤ valB y) (hm : 1 ≤ m ∧ m ≤ 6) (htab : Tab w)
    (hsort : (x = a ∧ y = b ∧ (Go.FloatKind.f64.format.order a b == some .gt) = false) ∨ (x = b ∧ y = a ∧ (Go.FloatKind.f64.format.order a b == some .gt) = true)) : Calls Tryz.prog 12 #[.int .u64 (a : Nat), .int .u64 (b : Nat), .int .i64 m] w fun e w' => e = .returned (.bool true) ∧ Below w.heap.size w w' := by
  have HW : Hid (Calls Tryz.prog 28 #[] w fun e w' => e = .returned (.bool true) ∧ Below w.heap.size w w') := awake4_v w htab
  have HNA : Hid (∀ W, Calls Tryz.prog 58 #[.int .u64 (a : Nat)] W fun e w' => e = .returned (.bool false) ∧ W = w') := fun W => by
    have := ref_isnan a W ha; rw [na] at this; exact this
  have HNB : Hid (∀ W, Calls Tryz.prog 58 #[.int .u64 (b : Nat)] W fun e w' => e = .returned (.bool false) ∧ W = w') := fun W => by
    have := ref_isnan b W hb0; rw [nb] at this; exact this
  have ordP := nar_rises (m := m) nx ny hxy
  obtain ⟨v1, v2, v3⟩ := who_form hx hm nx
  obtain ⟨u1, u2, u3⟩ := who_form hy hm ny
  have ordV := who_rises (m := m) nx ny v3 u3 hxy
  obtain ⟨X, hX, X1, X2, X3, X4, X5, X6⟩ := opp_all hx nx hm
  obtain ⟨c, r, q, r1, q1, h4, h3, f4, f3, hcf, hct, ⟨l, l1, l2⟩, ⟨k, k1, k2⟩⟩ := sides hx nx
  have n1 := nar_form hm nx
  have n2 := nar_form hm ny
  have n4 := nar_form (m := 4) (by decide) nx
  have n3 := nar_form (m := 3) (by decide) nx
  rw [h4] at n4
  rw [h3] at n3
  obtain ⟨⟨i, o, u⟩, hfx⟩ : ∃ f, f = narF x m := ⟨_, rfl⟩
  obtain ⟨⟨i', o', u'⟩, hfy⟩ : ∃ f, f = narF y m := ⟨_, rfl⟩
  obtain ⟨⟨c4, o4, u4⟩, hf4⟩ : ∃ f, f = narF x 4 := ⟨_, rfl⟩
  obtain ⟨⟨c3, o3, u3'⟩, hf3⟩ : ∃ f, f = narF x 3 := ⟨_, rfl⟩
  rw [← hfx] at n1 X2
  rw [← hfy] at n2
  rw [← hf4] at n4 f4
  rw [← hf3] at n3 f3
  have f4 : c4 = c := f4
  have f3 : c3 = c := f3
  subst f4
  subst f3
  have eqH : (Go.FloatKind.f32.format.order (sgS (sgnB x) + q) (sgS (sgnB x) + q) == some .eq) = true := by rw [ord3 q1 q1]; simp
  have hLW : W32 (sgS (sgnB x) + r) := (b3_word (sgnB x) (show r < 2147483648 by omega)).1
  have nA : nan3 (sgS (sgnB x) + r) = false := num3 (sgnB x) r1
  have hcf' : c3 = false → sgS (sgnB x) + r = sgS (sgnB x) + q := fun h => by rw [hcf h]
  obtain ⟨P, hP⟩ : ∃ P, P = sgS (sgnB x) + narR x m := ⟨_, rfl⟩
  obtain ⟨Q, hQ⟩ : ∃ P, P = sgS (sgnB y) + narR y m := ⟨_, rfl⟩
  obtain ⟨V, hV⟩ : ∃ P, P = sgW (sgnB x) + whoRg x m := ⟨_, rfl⟩
  obtain ⟨U, hU⟩ : ∃ P, P = sgW (sgnB y) + whoRg y m := ⟨_, rfl⟩
  obtain ⟨O, hO⟩ : ∃ P, P = sgS (!sgnB x) + narR x m := ⟨_, rfl⟩
  obtain ⟨N, hN⟩ : ∃ P, P = sgW (!sgnB x) + whoRg x m := ⟨_, rfl⟩
  obtain ⟨A, hA⟩ : ∃ P, P = sgS (sgnB x) + r := ⟨_, rfl⟩
  obtain ⟨B, hB⟩ : ∃ P, P = sgS (sgnB x) + q := ⟨_, rfl⟩
  rw [← hP] at n1 ordP X3
  rw [← hQ] at n2 ordP
  rw [← hV] at v1 ordV X6
  rw [← hU] at u1 ordV
  rw [← hO] at X2 X3
  rw [← hN] at X4 X6
  rw [← hA] at n4 hct l1 hLW hcf' nA
  rw [← hB] at n3 hct k1 eqH hcf'
  have H1 : Hid (∀ W, Below w.heap.size w W → Calls Tryz.prog 18 #[.float .f64 x, .int .i64 m] W fun e w' => e = .returned (.tuple #[.float .f32 P, .agg #[.bool i, .bool o, .bool u], .int .i64 0]) ∧ Below W.heap.size W w') := fun W hW => by
    have := s_narrow hx m W (htab.below hW); rw [n1] at this; exact this
  have H2 : Hid (∀ W, Below w.heap.size w W → Calls Tryz.prog 18 #[.float .f64 y, .int .i64 m] W fun e w' => e = .returned (.tuple #[.float .f32 Q, .agg #[.bool i', .bool o', .bool u'], .int .i64 0]) ∧ Below W.heap.size W w') := fun W hW => by
    have := s_narrow hy m W (htab.below hW); rw [n2] at this; exact this
  have H3 : Hid (∀ W, Calls Tryz.prog 39 #[.float .f64 x, .int .i64 m] W fun e w' => e = .returned (.tuple #[.float .f64 V, .int .i64 0]) ∧ Below W.heap.size W w') := fun W => by
    have := s_whole hx m W; rw [v1, v2] at this; exact this
  have H4 : Hid (∀ W, Calls Tryz.prog 39 #[.float .f64 y, .int .i64 m] W fun e w' => e = .returned (.tuple #[.float .f64 U, .int .i64 0]) ∧ Below W.heap.size W w') := fun W => by
    have := s_whole hy m W; rw [u1, u2] at this; exact this
  obtain ⟨M, hM⟩ : ∃ M, M = oppM m := ⟨_, rfl⟩
  rw [← hM] at X2 X4 X5
  have HO : Hid (∀ W, Calls Tryz.prog 59 #[.int .i64 m] W fun e w' => e = .returned (.int .i64 M) ∧ W = w') := fun W => by rw [hM]; exact opp4_v m W
  have H5 : Hid (∀ W, Below w.heap.size w W → Calls Tryz.prog 18 #[.float .f64 (Go.Op.negFloat .f64 x), .int .i64 M] W fun e w' => e = .returned (.tuple #[.float .f32 O, .agg #[.bool i, .bool o, .bool u], .int .i64 0]) ∧ Below W.heap.size W w') := fun W hW => by
    rw [← hX]
    have := s_narrow X1 M W (htab.below hW); rw [X2] at this; exact this
  have H6 : Hid (∀ W, Calls Tryz.prog 39 #[.float .f64 (Go.Op.negFloat .f64 x), .int .i64 M] W fun e w' => e = .returned (.tuple #[.float .f64 N, .int .i64 0]) ∧ Below W.heap.size W w') := fun W => by
    rw [← hX]
    have := s_whole X1 M W; rw [X4, X5] at this; exact this
  have H7 : Hid (∀ W, Calls Tryz.prog 30 #[.float .f32 (Go.Op.negFloat .f32 O), .int .u32 (P : Nat)] W fun e w' => e = .returned (.bool true) ∧ Below W.heap.size W w') := fun W => by
    have := has_v (Go.Op.negFloat .f32 O) P W; rw [decide_eq_true X3] at this; exact this
  have H8 : Hid (∀ W, Calls Tryz.prog 41 #[.float .f64 (Go.Op.negFloat .f64 N), .int .u64 (V : Nat)] W fun e w' => e = .returned (.bool true) ∧ Below W.heap.size W w') := fun W => by
    have := is4_v (Go.Op.negFloat .f64 N) V W; rw [decide_eq_true X6] at this; exact this
  have H9 : Hid (∀ W, Below w.heap.size w W → Calls Tryz.prog 18 #[.float .f64 x, .int .i64 4] W fun e w' => e = .returned (.tuple #[.float .f32 A, .agg #[.bool c3, .bool o4, .bool u4], .int .i64 0]) ∧ Below W.heap.size W w') := fun W hW => by
    have := s_narrow hx 4 W (htab.below hW); rw [n4] at this; exact this
  have H10 : Hid (∀ W, Below w.heap.size w W → Calls Tryz.prog 18 #[.float .f64 x, .int .i64 3] W fun e w' => e = .returned (.tuple #[.float .f32 B, .agg #[.bool c3, .bool o3, .bool u3'], .int .i64 0]) ∧ Below W.heap.size W w') := fun W hW => by
    have := s_narrow hx 3 W (htab.below hW); rw [n3] at this; exact this
  have H11 : Hid (c3 = true → ∀ W, Calls Tryz.prog 55 #[.float .f32 A] W fun e w' => e = .returned (.float .f32 B) ∧ Below W.heap.size W w') := fun hc W => by
    have := s_next A hLW W; rw [hct hc] at this; exact this
  have m1 : ¬ m < 1 := by omega
  have m2 : ¬ 6 < m := by omega
  clear hfx hfy hf4 hf3 n1 n2 n3 n4 h3 h4 hcf hct hP hQ hV hU hO hN hA hB hM hX X1 X2 X3 X4 X5 X6 v1 v2 v3 u1 u2 u3 hLW r1 q1 hx hy nx ny hxy hm htab ha hb0 na nb
  rcases hsort with ⟨rfl, rfl, hg⟩ | ⟨rfl, rfl, hg⟩
  all_goals
    go_enter Tryz.func12, Tryz.ntmps12
    go_wp2_with fail
    refine HW.out.mono ?_
    rintro e w1 ⟨rfl, hb⟩
    have HB : Hid (Below w.heap.size w w1) := hb
    clear hb
    go_wp2_with (go_at_call 58; first | ((with_reducible refine (HNA.out _).mono ?_); rintro e w' ⟨rfl, rfl⟩) | ((with_reducible refine (HNB.out _).mono ?_); rintro e w' ⟨rfl, rfl⟩))
    refine (H1.out _ HB.out).mono ?_
    rintro e w2 ⟨rfl, hb⟩
    have HK2 : Hid (Kept _ (w2.alloc (.cells #[.bool i, .bool o, .bool u] 35))) := (Kept.nil w2).push (.cells #[.bool i, .bool o, .bool u] 35 (0, 0))
    have HB : Hid (Below w.heap.size w (w2.alloc (.cells #[.bool i, .bool o, .bool u] 35))) := (HB.out.thru hb).alloc (HB.out.thru hb).size _
    clear hb
    go_wp2_with fail
    refine (H2.out _ HB.out).mono ?_
    rintro e w3 ⟨rfl, hb⟩
    have HK3 : Hid (Kept _ (w3.alloc (.cells #[.bool i', .bool o', .bool u'] 35))) := (HK2.out.below hb).push (.cells #[.bool i', .bool o', .bool u'] 35 (0, 0))
    have HB : Hid (Below w.heap.size w (w3.alloc (.cells #[.bool i', .bool o', .bool u'] 35))) := (HB.out.thru hb).alloc (HB.out.thru hb).size _
    clear hb
    clear HK2
    go_wp2_with fail
    refine (H3.out _).mono ?_
    rintro e w4 ⟨rfl, hb⟩
    have HK4 : Hid (Kept _ w4) := HK3.out.below hb
    have HB : Hid (Below w.heap.size w w4) := HB.out.thru hb
    clear hb HK3
    go_wp2_with fail
    refine (H4.out _).mono ?_
    rintro e w5 ⟨rfl, hb⟩
    have HK5 : Hid (Kept _ w5) := HK4.out.below hb
    have HB : Hid (Below w.heap.size w w5) := HB.out.thru hb
    clear hb HK4
    go_wp2_with (go_at_call 59; (with_reducible refine (HO.out _).mono ?_); rintro e w' ⟨rfl, rfl⟩)
    refine (H5.out _ HB.out).mono ?_
    rintro e w6 ⟨rfl, hb⟩
    have HK6 : Hid (Kept _ (w6.alloc (.cells #[.bool i, .bool o, .bool u] 35))) := (HK5.out.below hb).push (.cells #[.bool i, .bool o, .bool u] 35 (0, 0))
    have HB : Hid (Below w.heap.size w (w6.alloc (.cells #[.bool i, .bool o, .bool u] 35))) := (HB.out.thru hb).alloc (HB.out.thru hb).size _
    clear hb
    clear HK5
    go_wp2_with (go_at_call 59; (with_reducible refine (HO.out _).mono ?_); rintro e w' ⟨rfl, rfl⟩)
    refine (H6.out _).mono ?_
    rintro e w7 ⟨rfl, hb⟩
    have HK7 : Hid (Kept _ w7) := HK6.out.below hb
    have HB : Hid (Below w.heap.size w w7) := HB.out.thru hb
    clear hb HK6
    obtain ⟨p0, p1, p2⟩ := flag_cells (HK7.out _ (.head _))
    obtain ⟨q0, q1, q2⟩ := flag_cells (HK7.out _ (.tail _ (.tail _ (.head _))))
    have P0 := HK7.out _ (.head _)
    have Q0 := HK7.out _ (.tail _ (.tail _ (.head _)))
    go_wp2_with fail
    refine (H7.out _).mono ?_
    rintro e w8 ⟨rfl, hb⟩
    have HB : Hid (Below w.heap.size w w8) := HB.out.thru hb
    clear hb HK7 p0 p1 p2 q0 q1 q2 P0 Q0
    go_wp2_with fail
    refine (H8.out _).mono ?_
    rintro e w9 ⟨rfl, hb⟩
    have HB : Hid (Below w.heap.size w w9) := HB.out.thru hb
    clear hb
    go_wp2_with fail
    refine (H9.out _ HB.out).mono ?_
    rintro e w10 ⟨rfl, hb⟩
    have HK10 : Hid (Kept _ (w10.alloc (.cells #[.bool c3, .bool o4, .bool u4] 35))) := (Kept.nil w10).push (.cells #[.bool c3, .bool o4, .bool u4] 35 (0, 0))
    have HB : Hid (Below w.heap.size w (w10.alloc (.cells #[.bool c3, .bool o4, .bool u4] 35))) := (HB.out.thru hb).alloc (HB.out.thru hb).size _
    clear hb
    go_wp2_with fail
    refine (H10.out _ HB.out).mono ?_
    rintro e w11 ⟨rfl, hb⟩
    have HK11 : Hid (Kept _ (w11.alloc (.cells #[.bool c3, .bool o3, .bool u3'] 35))) := (HK10.out.below hb).push (.cells #[.bool c3, .bool o3, .bool u3'] 35 (0, 0))
    have HB : Hid (Below w.heap.size w (w11.alloc (.cells #[.bool c3, .bool o3, .bool u3'] 35))) := (HB.out.thru hb).alloc (HB.out.thru hb).size _
    clear hb
    clear HK10
    obtain ⟨p0, p1, p2⟩ := flag_cells (HK11.out _ (.head _))
    obtain ⟨q0, q1, q2⟩ := flag_cells (HK11.out _ (.tail _ (.head _)))
    cases c3
    · have e := hcf' rfl
      subst e
      have hlk : l = k := Option.some.inj (l1.symm.trans k1)
      subst hlk
      have cv1 := run_wid l1 (w11.alloc (.cells #[.bool false, .bool o3, .bool u3'] 35))
      clear hcf' H11 k1 l1
      go_wp2
      go_ret
      exact ⟨rfl, HB.out⟩
    · have H12 : Hid _ := H11.out rfl
      have cv1 := run_wid l1 (w11.alloc (.cells #[.bool true, .bool o3, .bool u3'] 35))
      have cv2 := run_wid k1 (w11.alloc (.cells #[.bool true, .bool o3, .bool u3'] 35))
      clear hcf' H11 k1 l1
      go_wp2_with fail
      refine (H12.out _).mono ?_
      rintro e w12 ⟨rfl, hb⟩
      have HB : Hid (Below w.heap.size w w12) := HB.out.thru hb
      clear hb
      go_wp2
      go_ret
      exact ⟨rfl, HB.out⟩
set_option maxHeartbeats 4000000 in
set_option maxRecDepth 100000 in
theorem singleRises_walk (a b : Nat) (m : Int) (w : World) (ha : W64 a) (hb0 : W64 b) (_ : -9223372036854775808 ≤ m) (_ : m ≤ 9223372036854775807) (htab : Tab w) : Calls Tryz.prog 12 #[.int .u64 (a : Nat), .int .u64 (b : Nat), .int .i64 m] w fun e w' => e = .returned (.bool true) ∧ Below w.heap.size w w' := by
  by_cases hn : nanB a = false ∧ nanB b = false ∧ 1 ≤ m ∧ m ≤ 6
  · obtain ⟨na, nb, hm⟩ := hn
    have ho := ord_val ha hb0 na nb .gt
    cases hg : (Go.FloatKind.f64.format.order a b == some .gt)
    · rw [hg] at ho
      refine rises_main a b a b m w ha hb0 na nb ha hb0 na nb ?_ hm htab (.inl ⟨rfl, rfl, hg⟩)
      refine Int.not_lt.1 fun h => ?_
      rw [Int.compare_eq_gt.2 h] at ho
      cases ho
    · rw [hg] at ho
      refine rises_main a b b a m w ha hb0 na nb hb0 ha nb na ?_ hm htab (.inr ⟨rfl, rfl, hg⟩)
      exact Int.le_of_lt (Int.compare_eq_gt.1 (eq_of_beq ho.symm))
  · have HW : Hid (Calls Tryz.prog 28 #[] w fun e w' => e = .returned (.bool true) ∧ Below w.heap.size w w') := awake4_v w htab
    obtain ⟨p, hp⟩ : ∃ p, p = nanB a := ⟨_, rfl⟩
    obtain ⟨q, hq⟩ : ∃ p, p = nanB b := ⟨_, rfl⟩
    have HNA : Hid (∀ W, Calls Tryz.prog 58 #[.int .u64 (a : Nat)] W fun e w' => e = .returned (.bool p) ∧ W = w') := fun W => by rw [hp]; exact ref_isnan a W ha
    have HNB : Hid (∀ W, Calls Tryz.prog 58 #[.int .u64 (b : Nat)] W fun e w' => e = .returned (.bool q) ∧ W = w') := fun W => by rw [hq]; exact ref_isnan b W hb0
    have hc : p = true ∨ (p = false ∧ q = true) ∨ (p = false ∧ q = false ∧ m < 1) ∨ (p = false ∧ q = false ∧ ¬ m < 1 ∧ 6 < m) := by
      rw [← hp, ← hq] at hn
      cases p <;> cases q <;> simp_all <;> omega
    clear hn hp hq ha hb0 htab
    rcases hc with rfl | ⟨rfl, rfl⟩ | ⟨rfl, rfl, h1⟩ | ⟨rfl, rfl, h1, h2⟩
    all_goals
      go_enter Tryz.func12, Tryz.ntmps12
      go_wp2_with fail
      refine HW.out.mono ?_
      rintro e w1 ⟨rfl, hb⟩
      go_wp2_with (go_at_call 58; first | ((with_reducible refine (HNA.out _).mono ?_); rintro e w' ⟨rfl, rfl⟩) | ((with_reducible refine (HNB.out _).mono ?_); rintro e w' ⟨rfl, rfl⟩))
      go_ret
      exact ⟨rfl, hb⟩
end Go.Proofs.YtgfbcncjboenbaaGreatDoor
