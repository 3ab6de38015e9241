/- Parts Cq, Cr, Cs, Ct, Cu, Cv, Cw, Cx, Cy, Cz of the proof, in one text. -/
import Derived.Test.YtgfbcncjboenbaaGreatDoorSCL
import Derived.Test.YtgfbcncjboenbaaGreatDoorSTB
import Derived.Test.YtgfbcncjboenbaaGreatDoorSBY
import Derived.Test.YtgfbcncjboenbaaGreatDoorSRJ

/- Walks: single's Whole. -/
namespace Go.Proofs.YtgfbcncjboenbaaGreatDoor
open Go.RowKit
open Go.Lib hiding intOf

theorem rv_unit {k : Nat} (hk : k = LP) : rv 52 4607182418800017408 = 2 ^ k ∧ rv 52 4611686018427387904 = 2 * 2 ^ k ∧ rv 52 4602678819172646912 * 2 = 2 ^ k := by
  have hk4 : k = 1074 := by rw [hk]; exact LP_eq
  clear hk
  obtain ⟨j, hj⟩ : ∃ j, k = j + 53 := ⟨1021, by omega⟩
  have h1 := rv_kq (j + 1) 4503599627370496 (by decide) (by decide)
  have h2 := rv_kq (j + 2) 4503599627370496 (by decide) (by decide)
  have h3 := rv_kq j 4503599627370496 (by decide) (by decide)
  rw [show (j + 1) * 4503599627370496 + 4503599627370496 = 4607182418800017408 by omega] at h1
  rw [show (j + 2) * 4503599627370496 + 4503599627370496 = 4611686018427387904 by omega] at h2
  rw [show j * 4503599627370496 + 4503599627370496 = 4602678819172646912 by omega] at h3
  rw [h1, h2, h3, hj, Nat.pow_add, Nat.pow_add, Nat.pow_add]
  refine ⟨?_, ?_, ?_⟩ <;> omega
theorem pos_cmp {r c : Nat} (hr : r < 9218868437227405312) (hc : c ≤ 9218868437227405312) : Ieee.double.order r c = some (compare r c) := by
  have e : absB r = r := by unfold absB; omega
  have n : nanB r = false := by unfold nanB; rw [e]; exact decide_eq_false (by omega)
  have := ord_abs r c hc n
  rwa [e] at this
theorem who_rv {a : Nat} (fa : finB a = true) {k : Nat} (hk : k = LP) (neg : Bool) (mode : Int) : whoN neg mode (spM a) (spE a) = kW neg mode (rv 52 (absB a) / 2 ^ k) (ncmp (rv 52 (absB a) % 2 ^ k * 2) (2 ^ k)) (decide (rv 52 (absB a) % 2 ^ k = 0)) := by
  have h1 := sp_val a fa
  have hE := (sp_bd a).1
  have hk4 : k = 1074 := by rw [hk]; exact LP_eq
  have hx : spM a * 2 ^ (spE a).toNat * 2 ^ k = rv 52 (absB a) * 2 ^ (-spE a).toNat := by
    rw [h1, Nat.mul_assoc, Nat.mul_assoc, ← Nat.pow_add, ← Nat.pow_add]; congr 2; omega
  unfold whoN whoQ whoR
  generalize spM a * 2 ^ (spE a).toNat = A at *
  generalize rv 52 (absB a) = B at *
  obtain ⟨a1, a2⟩ := cut_le (Nat.two_pow_pos (-spE a).toNat) (Nat.two_pow_pos k) (Nat.le_of_eq hx)
  obtain ⟨b1, b2⟩ := cut_le (Nat.two_pow_pos k) (Nat.two_pow_pos (-spE a).toNat) (Nat.le_of_eq hx.symm)
  have hq : A / 2 ^ (-spE a).toNat = B / 2 ^ k := by omega
  obtain ⟨a3, a4⟩ := a2 hq
  obtain ⟨b3, b4⟩ := b2 hq.symm
  have hz : decide (A % 2 ^ (-spE a).toNat = 0) = decide (B % 2 ^ k = 0) := by rw [decide_eq_decide]; exact ⟨b4, a4⟩
  rw [hq, hz, Int.le_antisymm a3 b3]
/-- What Whole reckons with: the whole part K, what is left r. -/
theorem who_facts {a : Nat} (fa : finB a = true) {k : Nat} (hk : k = LP) : natR (rv 52 (absB a) / 2 ^ k) < 9218868437227405312 ∧ rv 52 (natR (rv 52 (absB a) / 2 ^ k)) = rv 52 (absB a) / 2 ^ k * 2 ^ k ∧
    (rv 52 (absB a) % 2 ^ k ≠ 0 → rv 52 (absB a) / 2 ^ k < 4503599627370496) ∧ ∃ r, r < 9218868437227405312 ∧ rv 52 r = rv 52 (absB a) % 2 ^ k := by
  have hlt := finA_lt fa
  have h9 := Nat.div_add_mod (rv 52 (absB a)) (2 ^ k)
  have hlow : rv 52 (absB a) % 2 ^ k ≠ 0 → rv 52 (absB a) / 2 ^ k < 4503599627370496 := by
    intro h
    have h1 := sp_val a fa
    have hM := (sp_bd a).2.2
    have hk4 : k = 1074 := by rw [hk]; exact LP_eq
    have hE : spE a < 0 := by
      by_cases hE : spE a < 0
      · exact hE
      · exfalso; apply h
        rw [h1, show (spE a + 1074).toNat = (spE a).toNat + k by omega, Nat.pow_add, ← Nat.mul_assoc, Nat.mul_mod_left]
    rw [Nat.div_lt_iff_lt_mul (Nat.two_pow_pos _), h1]
    have h2 : 2 ^ (spE a + 1074).toNat * 2 ≤ 2 ^ k := by
      rw [← Nat.pow_succ]; exact Nat.pow_le_pow_right (by decide) (by omega)
    have hp := Nat.two_pow_pos k
    generalize 2 ^ (spE a + 1074).toNat = x at *
    generalize 2 ^ k = y at *
    calc spM a * x ≤ 9007199254740991 * x := Nat.mul_le_mul_right _ (by omega)
      _ < 4503599627370496 * y := by omega
  refine ⟨?_, ?_, hlow, ?_⟩
  · by_cases h : rv 52 (absB a) % 2 ^ k = 0
    · rw [natR_eq hlt (by rw [← hk]; rw [h, Nat.add_zero, Nat.mul_comm] at h9; exact h9.symm)]; exact hlt
    · have := (nat_rung (K := rv 52 (absB a) / 2 ^ k) (by have := hlow h; omega)).1; omega
  · by_cases h : rv 52 (absB a) % 2 ^ k = 0
    · have h8 : rv 52 (absB a) = rv 52 (absB a) / 2 ^ k * 2 ^ k := by rw [h, Nat.add_zero, Nat.mul_comm] at h9; exact h9.symm
      rw [natR_eq hlt (by rw [← hk]; exact h8)]; exact h8
    · have := (nat_rung (K := rv 52 (absB a) / 2 ^ k) (by have := hlow h; omega)).2
      rw [← hk] at this; exact this
  · obtain ⟨r, hr1, hr2⟩ := mod_ex 4607182418800017408 (by decide) (by decide) (absB a) (absB a) (Nat.le_refl _) hlt
    rw [(rv_unit hk).1] at hr2
    exact ⟨r, by omega, hr2⟩
theorem natR_succ {K : Nat} (h : K < 4503599627370496) : Go.floatBits .add .f64 (natR K) 4607182418800017408 = some (natR (K + 1)) := by
  obtain ⟨k, hk⟩ : ∃ k, k = LP := ⟨_, rfl⟩
  obtain ⟨n1, n2⟩ := nat_rung (K := K) (by omega)
  obtain ⟨n3, n4⟩ := nat_rung (K := K + 1) (by omega)
  rw [← hk] at n2 n4
  have f1 : finB (natR K) = true := by unfold finB absB; exact decide_eq_true (by omega)
  obtain ⟨R, g1, g2⟩ := add_D (natR K) 4607182418800017408 (by unfold W64; omega) (by unfold W64; decide) f1 (by decide)
  have v1 : valB (natR K) = ((K * 2 ^ k : Nat) : Int) := by rw [valB_small _ (by omega), n2]
  have v2 : valB 4607182418800017408 = ((2 ^ k : Nat) : Int) := by rw [valB_small _ (by decide), (rv_unit hk).1]
  have hp := Nat.two_pow_pos k
  have hs : valB (natR K) + valB 4607182418800017408 = (((K + 1) * 2 ^ k : Nat) : Int) := by rw [v1, v2, Nat.add_mul, Nat.one_mul, Int.natCast_add]
  have hpos : 0 < (K + 1) * 2 ^ k := Nat.mul_pos (by omega) hp
  rw [hs] at g1 g2
  have g1 : Near 52 ((K + 1) * 2 ^ k) 1 R := g1
  rw [← n4] at g1
  have h4 := Near.exact 52 (natR (K + 1)) 1 (by decide)
  rw [Nat.mul_one] at h4
  rw [Near.uniq (by decide) g1 h4] at g2
  rw [g2, if_neg (by omega), decide_eq_false (by omega), Nat.min_eq_left (by omega)]
  show some (0 + _) = _
  rw [Nat.zero_add]
theorem natR_odd {K : Nat} {r : Nat} {k : Nat} (hk : k = LP) (hr : r < 9218868437227405312) (h : rv 52 r = rv 52 (natR K) % rv 52 4611686018427387904) (hn : rv 52 (natR K) = K * 2 ^ k) : (Ieee.double.order r 4607182418800017408 == some Ordering.eq) = decide (K % 2 = 1) := by
  rw [pos_cmp hr (by decide), cmp_eq, decide_eq_decide]
  obtain ⟨u1, u2, -⟩ := rv_unit hk
  rw [hn, u2, Nat.mul_mod_mul_right] at h
  have hp := Nat.two_pow_pos k
  constructor
  · intro e
    rw [e, u1] at h
    rcases Nat.mod_two_eq_zero_or_one K with h0 | h0
    · rw [h0, Nat.zero_mul] at h; omega
    · exact h0
  · intro e
    rw [e, Nat.one_mul, ← u1] at h
    exact rv_inj h
/-- What Whole tells. -/
def whoA (a : Nat) (m : Int) : Nat := if ¬ (1 ≤ m ∧ m ≤ 6) then 0 else if nanB a = true then 0 else if infB a = true then a else whoB a m
def whoX (a : Nat) (m : Int) : Int := if ¬ (1 ≤ m ∧ m ≤ 6) then 1 else if nanB a = true then 10 else 0
set_option maxHeartbeats 4000000 in
set_option maxRecDepth 100000 in
theorem s_whole_fin {a : Nat} (ha : W64 a) (fa : finB a = true) {m : Int} (hm : 1 ≤ m ∧ m ≤ 6) (w : World) : Calls Tryz.prog 39 #[.float .f64 a, .int .i64 m] w fun e w' => e = .returned (.tuple #[.float .f64 (whoB a m), .int .i64 0]) ∧ Below w.heap.size w w' := by
  obtain ⟨k, hk⟩ : ∃ k, k = LP := ⟨_, rfl⟩
  obtain ⟨f1, f2, f3, r, f4, f5⟩ := who_facts fa hk
  have hN := who_rv fa hk (sgnB a) m
  obtain ⟨K, hK⟩ : ∃ K, K = rv 52 (absB a) / 2 ^ k := ⟨_, rfl⟩
  obtain ⟨t, ht⟩ : ∃ t, t = rv 52 (absB a) % 2 ^ k := ⟨_, rfl⟩
  have h9 := Nat.div_add_mod (rv 52 (absB a)) (2 ^ k)
  rw [← hK] at f1 f2 f3 hN h9
  rw [← ht] at f3 f5 hN h9
  obtain ⟨M, hM⟩ : ∃ M, M = natR K := ⟨_, rfl⟩
  rw [← hM] at f1 f2
  obtain ⟨S, hS⟩ : ∃ S, S = sgnB a := ⟨_, rfl⟩
  obtain ⟨A, hA⟩ : ∃ A, A = absB a := ⟨_, rfl⟩
  have hwA : W64 A := by rw [hA]; exact absB_W a
  have haA : absB A = A := by rw [hA]; exact absB_abs a
  have hsA : sgnB A = false := by rw [hA]; exact sgnB_abs a
  have hfA : finB A = true := by unfold finB; rw [haA, hA]; exact decide_eq_true (finA_lt fa)
  have HRI : Hid (∀ W, Calls Tryz.prog 73 #[.int .i64 m] W fun e w' => e = .returned (.bool true) ∧ W = w') := fun W => by
    have := s_right m W; rw [decide_eq_true hm] at this; exact this
  have HAB : Hid (∀ W, Calls Tryz.prog 23 #[.float .f64 a] W fun e w' => e = .returned (.float .f64 A) ∧ W = w') := fun W => by rw [hA]; exact abs_any a W ha
  have HTR : Hid (∀ W, Calls Tryz.prog 102 #[.float .f64 A] W fun e w' => e = .returned (.float .f64 M) ∧ w' = W) := fun W => by
    have := mtrunc_fin A W hwA hfA
    have hw : Ieee.double.write (.number (sgnB A) (whV A) 0) = M := by
      have hv : whV A = K := by unfold whV; rw [haA, hA, ← hk, ← hK]
      rw [hsA, hv, hM]; rfl
    rw [hw] at this; exact this
  have HNG : Hid (∀ W, Calls Tryz.prog 103 #[.float .f64 a] W fun e w' => e = .returned (.bool S) ∧ W = w') := fun W => by
    have := negative_any a W ha
    have hn : negB a = S := by unfold negB; rw [fin_nan fa, hS]; simp
    rw [hn] at this; exact this
  have HCL : Hid (∀ W, Calls Tryz.prog 22 #[.float .f64 a] W fun e w' => e = .returned (.int .i64 (clsB a)) ∧ W = w') := fun W => class_any a W ha
  have hc : clsB a = 3 ∨ clsB a = 4 ∨ clsB a = 5 := by
    have hi : infB a = false := by have := finA_lt fa; unfold infB; exact decide_eq_false (by omega)
    unfold clsB; rw [fin_nan fa, hi]; cases zeroB a <;> cases lowB a <;> simp
  obtain ⟨c, hcc⟩ : ∃ c, c = clsB a := ⟨_, rfl⟩
  rw [← hcc] at HCL hc
  have hc1 : (c == 1) = false ∧ (c == 2) = false := by rcases hc with h | h | h <;> rw [h] <;> exact ⟨rfl, rfl⟩
  obtain ⟨q1, q2⟩ := hc1
  have hsub : Go.floatBits .sub .f64 A M = some r := by
    refine sub_pos A M r (by rw [hA]; exact finA_lt fa) f1 ?_
    rw [f5, f2, hA, ← h9, Nat.mul_comm K]; omega
  have k1 := fun W => run_float_arith (P := Tryz.prog) W .sub 23 .f64 A M _ hsub
  have HCP : Hid (∀ W x, x < 9218868437227405312 → Calls Tryz.prog 106 #[.float .f64 x, .float .f64 13830554455654793216] W fun e w' => e = .returned (.float .f64 (sgW true + x)) ∧ W = w') := fun W x hx => by
    have := copysign_any x 13830554455654793216 W (by unfold W64; omega) (by unfold W64; decide)
    have h1 : absB x = x := by unfold absB; omega
    have h2 : sgnW 13830554455654793216 = sgW true := by decide
    rw [h1, h2] at this; exact this
  have o1 : (Ieee.double.order r 0 == some Ordering.gt) = decide (t ≠ 0) := by
    rw [pos_cmp f4 (by decide), cmp_gt, decide_eq_decide]
    constructor
    · intro h h0
      rw [h0, ← rv_zero 52] at f5
      have := rv_inj f5; omega
    · intro h
      rcases Nat.eq_zero_or_pos r with h0 | h0
      · rw [h0, rv_zero] at f5; exact absurd f5.symm h
      · exact h0
  obtain ⟨-, -, u3⟩ := rv_unit hk
  have o2 : (Ieee.double.order r 4602678819172646912 == some Ordering.gt) = decide (2 ^ k < t * 2) := by
    rw [pos_cmp f4 (by decide), cmp_gt, decide_eq_decide, ← rv_lt_iff (p := 52), f5]; omega
  have o3 : (Ieee.double.order r 4602678819172646912 == some Ordering.lt) = decide (t * 2 < 2 ^ k) := by
    rw [pos_cmp f4 (by decide), cmp_lt, decide_eq_decide, ← rv_lt_iff (p := 52), f5]; omega
  have hwho : whoB a m = sgW S + natR (kW S m K (ncmp (t * 2) (2 ^ k)) (decide (t = 0))) := by unfold whoB; rw [hN, ← hS]
  rw [hwho]
  have o1 : (Go.FloatKind.f64.format.order r 0 == some Ordering.gt) = decide (t ≠ 0) := o1
  have o2 : (Go.FloatKind.f64.format.order r 4602678819172646912 == some Ordering.gt) = decide (2 ^ k < t * 2) := o2
  have o3 : (Go.FloatKind.f64.format.order r 4602678819172646912 == some Ordering.lt) = decide (t * 2 < 2 ^ k) := o3
  by_cases h0 : t = 0
  · have hr : kW S m K (ncmp (t * 2) (2 ^ k)) (decide (t = 0)) = K := by unfold kW; rw [decide_eq_true h0]; simp
    rw [hr, ← hM]
    rw [decide_eq_false (by omega)] at o1
    have HF1 : Hid (M < 9218868437227405312) := f1
    clear hk f1 f2 f3 f4 f5 hN hK ht h9 hM hS hA hwA haA hsA hfA hc hcc hsub o2 o3 u3 hwho h0 hr hm
    have hz : sgW false + M = M := Nat.zero_add _
    cases S <;> (try rw [hz]) <;> clear hz
    all_goals
      go_enter Tryz.func39, Tryz.ntmps39
      go_wp2_with (first | (go_at_call 73; refine (HRI.out _).mono ?_; rintro e w' ⟨rfl, rfl⟩) | (go_at_call 22; refine (HCL.out _).mono ?_; rintro e w' ⟨rfl, rfl⟩) | (go_at_call 23; refine (HAB.out _).mono ?_; rintro e w' ⟨rfl, rfl⟩) | (go_at_call 102; refine (HTR.out _).mono ?_; rintro e w' ⟨rfl, rfl⟩) | (go_at_call 103; refine (HNG.out _).mono ?_; rintro e w' ⟨rfl, rfl⟩) | (go_at_call 106; refine (HCP.out _ _ HF1.out).mono ?_; rintro e w' ⟨rfl, rfl⟩))
      go_ret2
      exact ⟨rfl, Below.refl _ _⟩
  · have hK52 := f3 h0
    rw [decide_eq_true h0] at o1
    obtain ⟨h, hh⟩ : ∃ h, h = ncmp (t * 2) (2 ^ k) := ⟨_, rfl⟩
    obtain ⟨d, hd⟩ : ∃ d, d = decide (K % 2 = 1) := ⟨_, rfl⟩
    obtain ⟨u, hu⟩ : ∃ u, u = upW m S d h := ⟨_, rfl⟩
    have hMf : finB M = true := by unfold finB absB; exact decide_eq_true (by omega)
    have hMs : sgnB M = false := by unfold sgnB; exact decide_eq_false (by omega)
    have hMa : absB M = M := by unfold absB; omega
    obtain ⟨r2, p1, p2, p3⟩ := mmod_any M 4611686018427387904 (by unfold W64; omega) (by unfold W64; decide) hMf (by decide) (by decide)
    rw [hMa, hM, show absB 4611686018427387904 = 4611686018427387904 by decide] at p2
    have o4 := natR_odd hk p1 p2 (by rw [← hM]; exact f2)
    have o4 : (Go.FloatKind.f64.format.order r2 4607182418800017408 == some Ordering.eq) = d := by rw [hd]; exact o4
    have HMO : Hid (∀ W, Calls Tryz.prog 105 #[.float .f64 M, .float .f64 4611686018427387904] W fun e w' => e = .returned (.float .f64 r2) ∧ W = w') := fun W => by
      have := p3 W
      rw [hMs] at this
      have hz : sgW false + r2 = r2 := Nat.zero_add _
      rw [hz] at this; exact this
    have HAW : Hid (∀ W, Calls Tryz.prog 104 #[.int .i64 m, .bool S, .bool d, .int .i64 h] W fun e w' => e = .returned (.bool u) ∧ W = w') := fun W => by rw [hu]; exact s_away m S d h W
    have hsuc := natR_succ hK52
    rw [← hM] at hsuc
    have k2 := fun W => run_float_arith (P := Tryz.prog) W .add 23 .f64 M 4607182418800017408 _ hsuc
    obtain ⟨N, hN2⟩ : ∃ N, N = natR (K + 1) := ⟨_, rfl⟩
    rw [← hN2] at k2
    have hNlt : N < 9218868437227405312 := by rw [hN2]; have := (nat_rung (K := K + 1) (by omega)).1; omega
    have hr : natR (kW S m K (ncmp (t * 2) (2 ^ k)) (decide (t = 0))) = if u = true then N else M := by
      rw [← hh, decide_eq_false h0]
      unfold kW
      rw [← hd, ← hu]
      cases u
      · rw [if_neg (by decide), if_neg (by decide), hM]
      · rw [if_pos (by rfl), if_pos rfl, hN2]
    rw [hr]
    have HF1 : Hid (M < 9218868437227405312 ∧ N < 9218868437227405312) := ⟨f1, hNlt⟩
    have hhc : (t * 2 < 2 ^ k ∧ h = -1) ∨ (2 ^ k < t * 2 ∧ h = 1) ∨ (¬ t * 2 < 2 ^ k ∧ ¬ 2 ^ k < t * 2 ∧ h = 0) := by
      rw [hh]; unfold ncmp
      by_cases g1 : t * 2 < 2 ^ k
      · exact .inl ⟨g1, if_pos g1⟩
      · by_cases g2 : 2 ^ k < t * 2
        · exact .inr (.inl ⟨g2, by rw [if_neg g1, if_pos g2]⟩)
        · exact .inr (.inr ⟨g1, g2, by rw [if_neg g1, if_neg g2]⟩)
    have hoo : ((Go.FloatKind.f64.format.order r 4602678819172646912 == some Ordering.gt) = false ∧ (Go.FloatKind.f64.format.order r 4602678819172646912 == some Ordering.lt) = true ∧ h = -1) ∨ ((Go.FloatKind.f64.format.order r 4602678819172646912 == some Ordering.gt) = true ∧ h = 1) ∨ ((Go.FloatKind.f64.format.order r 4602678819172646912 == some Ordering.gt) = false ∧ (Go.FloatKind.f64.format.order r 4602678819172646912 == some Ordering.lt) = false ∧ h = 0) := by
      rw [o2, o3]
      rcases hhc with ⟨g1, g2⟩ | ⟨g1, g2⟩ | ⟨g1, g2, g3⟩
      · exact .inl ⟨decide_eq_false (by omega), decide_eq_true g1, g2⟩
      · exact .inr (.inl ⟨decide_eq_true g1, g2⟩)
      · exact .inr (.inr ⟨decide_eq_false g2, decide_eq_false g1, g3⟩)
    clear hk f1 f2 f3 f4 f5 hN hK ht h9 hM hS hA hwA haA hsA hfA hc hcc hsub o2 o3 u3 hwho h0 hr hm hK52 hd hu hh hMf hMs hMa p1 p2 p3 hsuc hN2 hNlt hhc
    rcases hoo with ⟨o5, o6, rfl⟩ | ⟨o5, rfl⟩ | ⟨o5, o6, rfl⟩ <;> cases u <;> cases S
    all_goals
      simp only [Bool.false_eq_true, if_false, if_true]
      (try rw [show sgW false + M = M from Nat.zero_add _])
      (try rw [show sgW false + N = N from Nat.zero_add _])
      go_enter Tryz.func39, Tryz.ntmps39
      go_wp2_with (first | (go_at_call 73; refine (HRI.out _).mono ?_; rintro e w' ⟨rfl, rfl⟩) | (go_at_call 22; refine (HCL.out _).mono ?_; rintro e w' ⟨rfl, rfl⟩) | (go_at_call 23; refine (HAB.out _).mono ?_; rintro e w' ⟨rfl, rfl⟩) | (go_at_call 102; refine (HTR.out _).mono ?_; rintro e w' ⟨rfl, rfl⟩) | (go_at_call 103; refine (HNG.out _).mono ?_; rintro e w' ⟨rfl, rfl⟩) | (go_at_call 105; refine (HMO.out _).mono ?_; rintro e w' ⟨rfl, rfl⟩) | (go_at_call 104; refine (HAW.out _).mono ?_; rintro e w' ⟨rfl, rfl⟩) | (go_at_call 106; first | (with_reducible refine (HCP.out _ _ HF1.out.1).mono ?_; rintro e w' ⟨rfl, rfl⟩) | (with_reducible refine (HCP.out _ _ HF1.out.2).mono ?_; rintro e w' ⟨rfl, rfl⟩)))
      go_ret2
      exact ⟨rfl, Below.refl _ _⟩
end Go.Proofs.YtgfbcncjboenbaaGreatDoor

/- Walks: single's Whole of anything, ToInt, ToUint. -/
namespace Go.Proofs.YtgfbcncjboenbaaGreatDoor
open Go.RowKit
open Go.Lib hiding intOf

theorem who_bad {a : Nat} {m : Int} (h : ¬ (1 ≤ m ∧ m ≤ 6)) : whoA a m = 0 ∧ whoX a m = 1 := ⟨if_pos h, if_pos h⟩
theorem who_nan {a : Nat} {m : Int} (h : 1 ≤ m ∧ m ≤ 6) (n : nanB a = true) : whoA a m = 0 ∧ whoX a m = 10 := by
  unfold whoA whoX
  exact ⟨(if_neg (fun g => g h)).trans (if_pos n), (if_neg (fun g => g h)).trans (if_pos n)⟩
theorem who_inf {a : Nat} {m : Int} (h : 1 ≤ m ∧ m ≤ 6) (n : nanB a = false) (i : infB a = true) : whoA a m = a ∧ whoX a m = 0 := by
  unfold whoA whoX
  exact ⟨(if_neg (fun g => g h)).trans ((if_neg (by rw [n]; decide)).trans (if_pos i)), (if_neg (fun g => g h)).trans (if_neg (by rw [n]; decide))⟩
theorem who_fin {a : Nat} {m : Int} (h : 1 ≤ m ∧ m ≤ 6) (n : nanB a = false) (i : infB a = false) : whoA a m = whoB a m ∧ whoX a m = 0 := by
  unfold whoA whoX
  exact ⟨(if_neg (fun g => g h)).trans ((if_neg (by rw [n]; decide)).trans (if_neg (by rw [i]; decide))), (if_neg (fun g => g h)).trans (if_neg (by rw [n]; decide))⟩
set_option maxRecDepth 100000 in
theorem s_whole {a : Nat} (ha : W64 a) (m : Int) (w : World) : Calls Tryz.prog 39 #[.float .f64 a, .int .i64 m] w fun e w' => e = .returned (.tuple #[.float .f64 (whoA a m), .int .i64 (whoX a m)]) ∧ Below w.heap.size w w' := by
  by_cases hm : 1 ≤ m ∧ m ≤ 6
  · have HRI : Hid (∀ W, Calls Tryz.prog 73 #[.int .i64 m] W fun e w' => e = .returned (.bool true) ∧ W = w') := fun W => by
      have := s_right m W; rw [decide_eq_true hm] at this; exact this
    have HCL : Hid (∀ W, Calls Tryz.prog 22 #[.float .f64 a] W fun e w' => e = .returned (.int .i64 (clsB a)) ∧ W = w') := fun W => class_any a W ha
    cases n : nanB a
    · cases i : infB a
      · have fa : finB a = true := by rw [finB_eq, n, i]; rfl
        rw [(who_fin hm n i).1, (who_fin hm n i).2]
        exact s_whole_fin ha fa hm w
      · have hc : clsB a = 2 := by unfold clsB; rw [n, if_neg (by decide), if_pos i]
        rw [hc] at HCL
        rw [(who_inf hm n i).1, (who_inf hm n i).2]
        clear hc
        go_enter Tryz.func39, Tryz.ntmps39
        go_wp2_with (first | (go_at_call 73; refine (HRI.out _).mono ?_; rintro e w' ⟨rfl, rfl⟩) | (go_at_call 22; refine (HCL.out _).mono ?_; rintro e w' ⟨rfl, rfl⟩))
        go_ret2
        exact ⟨rfl, Below.refl _ _⟩
    · have hc : clsB a = 1 := by unfold clsB; rw [if_pos n]
      rw [hc] at HCL
      rw [(who_nan hm n).1, (who_nan hm n).2]
      clear hc
      go_enter Tryz.func39, Tryz.ntmps39
      go_wp2_with (first | (go_at_call 73; refine (HRI.out _).mono ?_; rintro e w' ⟨rfl, rfl⟩) | (go_at_call 22; refine (HCL.out _).mono ?_; rintro e w' ⟨rfl, rfl⟩))
      go_ret2
      exact ⟨rfl, Below.refl _ _⟩
  · rw [(who_bad hm).1, (who_bad hm).2]
    have HRI : Hid (∀ W, Calls Tryz.prog 73 #[.int .i64 m] W fun e w' => e = .returned (.bool false) ∧ W = w') := fun W => by
      have := s_right m W; rw [decide_eq_false hm] at this; exact this
    go_enter Tryz.func39, Tryz.ntmps39
    go_wp2_with (refine (HRI.out _).mono ?_; rintro e w' ⟨rfl, rfl⟩)
    go_ret2
    exact ⟨rfl, Below.refl _ _⟩
theorem who_rung {a : Nat} (fa : finB a = true) {k : Nat} (hk : k = LP) (neg : Bool) (m : Int) : natR (whoN neg m (spM a) (spE a)) < 9218868437227405312 ∧ rv 52 (natR (whoN neg m (spM a) (spE a))) = whoN neg m (spM a) (spE a) * 2 ^ k := by
  by_cases h : 0 ≤ spE a
  · rw [who_up h]
    have h1 := sp_val a fa
    have hv : rv 52 (absB a) = spM a * 2 ^ (spE a).toNat * 2 ^ LP := by rw [h1, LP_eq, show (spE a + 1074).toNat = (spE a).toNat + 1074 by omega, Nat.pow_add, Nat.mul_assoc]
    rw [natR_eq (finA_lt fa) hv, hk]
    exact ⟨finA_lt fa, hv⟩
  · have h2 := who_bd (neg := neg) (mode := m) (show spE a < 0 by omega) (sp_bd a).2.2
    obtain ⟨n1, n2⟩ := nat_rung (K := whoN neg m (spM a) (spE a)) (by omega)
    rw [hk]
    exact ⟨by omega, n2⟩
theorem who_word {a : Nat} (fa : finB a = true) (m : Int) {K R : Nat} (hK : K = whoN (sgnB a) m (spM a) (spE a)) (hR : R = natR K) : whoB a m = sgW (sgnB a) + R ∧ R < 9218868437227405312 ∧ rv 52 R = K * 2 ^ LP ∧ W64 (sgW (sgnB a) + R) ∧ nanB (sgW (sgnB a) + R) = false ∧ finB (sgW (sgnB a) + R) = true ∧ absB (sgW (sgnB a) + R) = R ∧ sgnB (sgW (sgnB a) + R) = sgnB a ∧ valB (sgW (sgnB a) + R) = sg (sgnB a) K * 2 ^ LP := by
  obtain ⟨h1, h2⟩ := who_rung fa rfl (sgnB a) m
  rw [← hK, ← hR] at h1 h2
  have e1 := bits_abs (sgnB a) (show R < 9223372036854775808 by omega)
  have e2 := bits_sgn (sgnB a) (show R < 9223372036854775808 by omega)
  have e3 : finB (sgW (sgnB a) + R) = true := by unfold finB; rw [e1]; exact decide_eq_true h1
  refine ⟨by unfold whoB; rw [← hK, hR], h1, h2, bits_W _ (by omega), fin_nan e3, e3, e1, e2, ?_⟩
  rw [val_sgn, e2, e1, h2, sg_mul, Int.natCast_pow]; rfl
theorem val_63 {k : Nat} (hk : k = LP) : rv 52 4890909195324358656 = 9223372036854775808 * 2 ^ k ∧ rv 52 4895412794951729152 = 18446744073709551616 * 2 ^ k := by
  have hk4 : k = 1074 := by rw [hk]; exact LP_eq
  clear hk
  have h1 := rv_kq (k + 11) 4503599627370496 (by decide) (by decide)
  have h2 := rv_kq (k + 12) 4503599627370496 (by decide) (by decide)
  rw [show (k + 11) * 4503599627370496 + 4503599627370496 = 4890909195324358656 by omega] at h1
  rw [show (k + 12) * 4503599627370496 + 4503599627370496 = 4895412794951729152 by omega] at h2
  rw [h1, h2, Nat.pow_add, Nat.pow_add]
  constructor <;> omega
theorem sc_lt (x y : Int) (k : Nat) : (x * 2 ^ k < y * 2 ^ k ↔ x < y) ∧ (x * 2 ^ k = y * 2 ^ k ↔ x = y) := by
  have hp : (0 : Int) < 2 ^ k := Int.pow_pos (by decide)
  exact ⟨⟨fun h => Int.lt_of_mul_lt_mul_right h (Int.le_of_lt hp), fun h => Int.mul_lt_mul_of_pos_right h hp⟩, ⟨fun h => Int.eq_of_mul_eq_mul_right (by omega) h, fun h => by rw [h]⟩⟩
/-- A whole number's float against another. -/
theorem ord_whole {x y : Nat} {X Y : Int} (hx : W64 x) (hy : W64 y) (nx : nanB x = false) (ny : nanB y = false) (vx : valB x = X * 2 ^ LP) (vy : valB y = Y * 2 ^ LP) :
    (Go.FloatKind.f64.format.order x y == some .lt) = decide (X < Y) ∧ (Go.FloatKind.f64.format.order x y == some .gt || Go.FloatKind.f64.format.order x y == some .eq) = decide (Y ≤ X) := by
  rw [ord_val hx hy nx ny, ord_val hx hy nx ny, ord_val hx hy nx ny, vx, vy]
  obtain ⟨a1, a2⟩ := sc_lt X Y LP
  obtain ⟨b1, -⟩ := sc_lt Y X LP
  rcases Int.lt_trichotomy X Y with h | h | h
  · rw [Int.compare_eq_lt.2 (a1.2 h)]
    exact ⟨by rw [decide_eq_true h]; rfl, by rw [decide_eq_false (by omega)]; rfl⟩
  · rw [h, show compare (Y * 2 ^ LP) (Y * 2 ^ LP) = .eq by simp]
    exact ⟨by rw [decide_eq_false (by omega)]; rfl, by rw [decide_eq_true (by omega)]; rfl⟩
  · rw [Int.compare_eq_gt.2 (b1.2 h)]
    exact ⟨by rw [decide_eq_false (by omega)]; rfl, by rw [decide_eq_true (by omega)]; rfl⟩
theorem to_int_val {x : Nat} {s : Bool} {K : Nat} (hx : W64 x) (fx : finB x = true) (hs : sgnB x = s) (hv : rv 52 (absB x) = K * 2 ^ LP) (k : IntKind) (h1 : k.min ≤ sg s K) (h2 : sg s K ≤ k.max) : Go.floatToIntVal .f64 x k = some (sg s K) := by
  have hw : whV x = K := by unfold whV; rw [hv, Nat.mul_div_cancel _ (Nat.two_pow_pos _)]
  have h3 := cut_read x hx fx
  rw [hs, hw] at h3
  unfold Go.floatToIntVal
  have e1 : (FloatKind.f64.decode x).toInt .zero = some (sg s K) := by
    show (match (Ieee.double.read x).integral .zero with | .number s m _ => some (Ieee.signed s m 0) | _ => none) = _
    rw [h3]
    cases s <;> rfl
  rw [e1]
  dsimp only
  rw [if_pos ⟨h1, h2⟩]
/-- What ToInt, ToUint tell. -/
def toiN (a : Nat) (m : Int) : Int := sg (sgnB a) (whoN (sgnB a) m (spM a) (spE a))
def toiA (a : Nat) (m : Int) : Int := if whoX a m = 0 ∧ infB a = false ∧ -9223372036854775808 ≤ toiN a m ∧ toiN a m < 9223372036854775808 then toiN a m else 0
def toiX (a : Nat) (m : Int) : Int := if whoX a m ≠ 0 then whoX a m else if infB a = false ∧ -9223372036854775808 ≤ toiN a m ∧ toiN a m < 9223372036854775808 then 0 else 11
set_option maxHeartbeats 1000000 in
set_option maxRecDepth 100000 in
theorem s_toint {a : Nat} (ha : W64 a) (m : Int) (w : World) : Calls Tryz.prog 38 #[.float .f64 a, .int .i64 m] w fun e w' => e = .returned (.tuple #[.int .i64 (toiA a m), .int .i64 (toiX a m)]) ∧ Below w.heap.size w w' := by
  have HW : Hid (Calls Tryz.prog 39 #[.float .f64 a, .int .i64 m] w fun e w' => e = .returned (.tuple #[.float .f64 (whoA a m), .int .i64 (whoX a m)]) ∧ Below w.heap.size w w') := s_whole ha m w
  obtain ⟨W0, hW0⟩ : ∃ W0, W0 = whoA a m := ⟨_, rfl⟩
  obtain ⟨X, hX⟩ : ∃ X, X = whoX a m := ⟨_, rfl⟩
  rw [← hW0, ← hX] at HW
  by_cases h0 : X = 0
  · have q1 : (X != 0) = false := by rw [h0]; rfl
    have hm : (1 ≤ m ∧ m ≤ 6) ∧ nanB a = false := by
      by_cases hm : 1 ≤ m ∧ m ≤ 6
      · refine ⟨hm, ?_⟩
        cases n : nanB a
        · rfl
        · rw [hX, (who_nan hm n).2] at h0; cases h0
      · rw [hX, (who_bad hm).2] at h0; cases h0
    cases i : infB a
    · have fa : finB a = true := by rw [finB_eq, hm.2, i]; rfl
      obtain ⟨v1, v2, v3, v4, v5, v6, v7, v8, v9⟩ := who_word fa m rfl rfl
      have hB : W0 = sgW (sgnB a) + natR (whoN (sgnB a) m (spM a) (spE a)) := by rw [hW0, (who_fin hm.1 hm.2 i).1, v1]
      rw [← hB] at v4 v5 v6 v7 v8 v9
      obtain ⟨c1, -⟩ := ord_whole (X := toiN a m) (Y := -9223372036854775808) v4 (by unfold W64; decide : W64 14114281232179134464) v5 (by decide) v9 (by
        have h := (val_63 rfl).1
        show sg (sgnB 14114281232179134464) (rv 52 (absB 14114281232179134464)) = _
        rw [show sgnB 14114281232179134464 = true by decide, show absB 14114281232179134464 = 4890909195324358656 by decide, h, sg_mul, Int.natCast_pow]; rfl)
      obtain ⟨-, c2⟩ := ord_whole (X := toiN a m) (Y := 9223372036854775808) v4 (by unfold W64; decide : W64 4890909195324358656) v5 (by decide) v9 (by
        have h := (val_63 rfl).1
        show sg (sgnB 4890909195324358656) (rv 52 (absB 4890909195324358656)) = _
        rw [show sgnB 4890909195324358656 = false by decide, show absB 4890909195324358656 = 4890909195324358656 by decide, h, sg_mul, Int.natCast_pow]; rfl)
      by_cases hr : -9223372036854775808 ≤ toiN a m ∧ toiN a m < 9223372036854775808
      · rw [decide_eq_false (by omega)] at c1
        rw [decide_eq_false (by omega)] at c2
        have hA : toiA a m = toiN a m ∧ toiX a m = 0 := by
          unfold toiA toiX
          exact ⟨if_pos ⟨by rw [← hX, h0], i, hr⟩, (if_neg (by rw [← hX]; exact fun g => g h0)).trans (if_pos ⟨i, hr⟩)⟩
        rw [hA.1, hA.2]
        obtain ⟨T, hT⟩ : ∃ T, T = toiN a m := ⟨_, rfl⟩
        have hcv : Go.floatToIntVal .f64 W0 .i64 = some T := by
          rw [hT]
          exact to_int_val v4 v6 v8 (by rw [v7]; exact v3) .i64 (by show (-9223372036854775808 : Int) ≤ _; exact hr.1) (by show _ ≤ (9223372036854775807 : Int); have := hr.2; unfold toiN at this; omega)
        have kc := fun W => run_convert_float_int (P := Tryz.prog) W 23 2 .f64 .i64 W0 T (by kernel_rfl) (by kernel_rfl) hcv
        rw [← hT]
        clear hW0 hX h0 hm i fa v1 v2 v3 v4 v5 v6 v7 v8 v9 hB hr hA hT hcv
        go_enter Tryz.func38, Tryz.ntmps38
        go_wp2_with fail
        refine HW.out.mono ?_
        rintro e w1 ⟨rfl, hb1⟩
        go_wp2
        go_ret2
        exact ⟨rfl, hb1⟩
      · have hA : toiA a m = 0 ∧ toiX a m = 11 := by
          unfold toiA toiX
          exact ⟨if_neg (fun g => hr g.2.2), (if_neg (by rw [← hX]; exact fun g => g h0)).trans (if_neg (fun g => hr g.2))⟩
        rw [hA.1, hA.2]
        obtain ⟨T, hT⟩ : ∃ T, T = toiN a m := ⟨_, rfl⟩
        rw [← hT] at c1 c2 hr
        clear hW0 hX h0 hm i fa v1 v2 v3 v4 v5 v6 v7 v8 v9 hB hA hT
        by_cases hr2 : T < -9223372036854775808
        · rw [decide_eq_true hr2] at c1
          clear hr c2 hr2
          go_enter Tryz.func38, Tryz.ntmps38
          go_wp2_with fail
          refine HW.out.mono ?_
          rintro e w1 ⟨rfl, hb1⟩
          go_wp2
          go_ret2
          exact ⟨rfl, hb1⟩
        · rw [decide_eq_false hr2] at c1
          rw [decide_eq_true (by omega)] at c2
          clear hr hr2
          go_enter Tryz.func38, Tryz.ntmps38
          go_wp2_with fail
          refine HW.out.mono ?_
          rintro e w1 ⟨rfl, hb1⟩
          go_wp2
          go_ret2
          exact ⟨rfl, hb1⟩
    · have hA : toiA a m = 0 ∧ toiX a m = 11 := by
        unfold toiA toiX
        exact ⟨if_neg (fun g => by rw [i] at g; cases g.2.1), (if_neg (by rw [← hX]; exact fun g => g h0)).trans (if_neg (fun g => by rw [i] at g; cases g.1))⟩
      rw [hA.1, hA.2]
      have hW : W0 = a := by rw [hW0, (who_inf hm.1 hm.2 i).1]
      have hcs : a = 9218868437227405312 ∨ a = 18442240474082181120 := by
        have := of_decide_eq_true i
        have h2 := split_B a ha
        unfold sgnW at h2; split at h2 <;> omega
      rw [hW] at HW
      clear hW0 hX h0 hm i hA hW
      rcases hcs with rfl | rfl
      · have c1 : (Go.FloatKind.f64.format.order 9218868437227405312 14114281232179134464 == some .lt) = false := by kernel_rfl
        have c2 : (Go.FloatKind.f64.format.order 9218868437227405312 4890909195324358656 == some .gt || Go.FloatKind.f64.format.order 9218868437227405312 4890909195324358656 == some .eq) = true := by kernel_rfl
        go_enter Tryz.func38, Tryz.ntmps38
        go_wp2_with fail
        refine HW.out.mono ?_
        rintro e w1 ⟨rfl, hb1⟩
        go_wp2
        go_ret2
        exact ⟨rfl, hb1⟩
      · have c1 : (Go.FloatKind.f64.format.order 18442240474082181120 14114281232179134464 == some .lt) = true := by kernel_rfl
        go_enter Tryz.func38, Tryz.ntmps38
        go_wp2_with fail
        refine HW.out.mono ?_
        rintro e w1 ⟨rfl, hb1⟩
        go_wp2
        go_ret2
        exact ⟨rfl, hb1⟩
  · have q1 : (X != 0) = true := by rw [bne_iff_ne]; exact h0
    have hA : toiA a m = 0 ∧ toiX a m = X := by
      unfold toiA toiX
      rw [← hX]
      exact ⟨if_neg (fun g => h0 g.1), if_pos h0⟩
    rw [hA.1, hA.2]
    clear hW0 hX h0 hA
    go_enter Tryz.func38, Tryz.ntmps38
    go_wp2_with fail
    refine HW.out.mono ?_
    rintro e w1 ⟨rfl, hb1⟩
    go_wp2
    go_ret2
    exact ⟨rfl, hb1⟩
end Go.Proofs.YtgfbcncjboenbaaGreatDoor

/- Walks: single's cut, from, FromInt, FromUint, SingleInt. -/
namespace Go.Proofs.YtgfbcncjboenbaaGreatDoor
open Go.RowKit
open Go.Lib hiding intOf

set_option maxHeartbeats 1000000 in
set_option maxRecDepth 100000 in
theorem s_cut {n b : Nat} (hn : W64 n) (hb : 1 ≤ b ∧ b ≤ 64) (neg : Bool) (mode : Int) (w : World) : Calls Tryz.prog 154 #[.int .u64 (n : Nat), .int .i64 (b : Nat), .bool neg, .int .i64 mode] w fun e w' => e = .returned (.tuple #[.int .u64 (cutM neg b mode n : Nat), .int .i64 (cutK b n : Nat), .bool (cutZ b n)]) ∧ Below w.heap.size w w' := by
  have HLN : Hid (∀ W, Calls Tryz.prog 194 #[.int .u64 (n : Nat)] W fun e w' => e = .returned (.int .i64 (blen n : Nat)) ∧ W = w') := fun W => len_any n W hn
  have h64 : blen n ≤ 64 := blen_le (by unfold W64 at hn; omega)
  by_cases hs : blen n ≤ b
  · obtain ⟨c1, c2, c3⟩ := cut_small (neg := neg) (mode := mode) hs
    rw [c1, c2, c3]
    have e1 : IntKind.i64.wrap ((blen n : Int) - (b : Int)) = (blen n : Int) - b := IntWalk.i64_in _ (by omega)
    have e2 : max 0 ((blen n : Int) - (b : Int)) = 0 := by omega
    clear hs c1 c2 c3
    go_enter Tryz.func154, Tryz.ntmps154
    go_wp2_with (refine (HLN.out _).mono ?_; rintro e w' ⟨rfl, rfl⟩)
    exact bodyPost_ret (results_tmp3r rfl _ _ _) rfl ⟨rfl, Below.refl _ _⟩
  · obtain ⟨q1, q2, q3⟩ := cut_bd (neg := neg) (mode := mode) hb.1 (n := n) (by intro h; rw [h] at hs; exact hs (by show (if 0 = 0 then 0 else _) ≤ b; rw [if_pos rfl]; omega)) (show b < blen n by omega)
    obtain ⟨k, hk⟩ : ∃ k, k = cutK b n := ⟨_, rfl⟩
    have hkk : k = blen n - b := hk
    have e1 : IntKind.i64.wrap ((blen n : Int) - (b : Int)) = (k : Int) := by rw [IntWalk.i64_in _ (by omega)]; omega
    have e2 : max 0 (k : Int) = (k : Int) := by omega
    have e3 : ((k : Int) == 0) = false := by rw [Bool.eq_false_iff, Ne, beq_iff_eq]; omega
    have k1 : 1 ≤ k := by omega
    have k2 : k ≤ 64 := by omega
    have k3 : min k 64 = k := by omega
    have k4 : min (k - 1) 64 = k - 1 := by omega
    obtain ⟨q, hq⟩ : ∃ q, q = n / 2 ^ k := ⟨_, rfl⟩
    obtain ⟨R, hR⟩ : ∃ R, R = n % 2 ^ k := ⟨_, rfl⟩
    obtain ⟨P, hP⟩ : ∃ P, P = q * 2 ^ k := ⟨_, rfl⟩
    obtain ⟨H, hH⟩ : ∃ H, H = 2 ^ (k - 1) := ⟨_, rfl⟩
    have hdm := Nat.div_add_mod n (2 ^ k)
    rw [← hq, ← hR, Nat.mul_comm, ← hP] at hdm
    have hHk : 2 ^ k = H * 2 := by rw [hH, ← Nat.pow_succ]; congr 1; omega
    have hHl : H < 9223372036854775809 := by
      rw [hH]
      have := Nat.pow_le_pow_right (show 0 < 2 by decide) (show k - 1 ≤ 63 by omega)
      exact Nat.lt_succ_of_le this
    have hn' : n < 18446744073709551616 := hn
    have g0 : (n : Int) / 2 ^ k = (q : Int) := by rw [hq]; push_cast; rfl
    have g1 : IntKind.u64.wrap ((q : Int) * 2 ^ k) = (P : Int) := by
      have : (q : Int) * 2 ^ k = (P : Int) := by rw [hP]; push_cast; rfl
      rw [this]; exact IntWalk.u64_in _ (by omega)
    have g2 : IntKind.u64.wrap ((n : Int) - (P : Int)) = (R : Int) := by rw [IntWalk.u64_in _ (by omega)]; omega
    have g3 : IntKind.u64.wrap ((2 : Int) ^ (k - 1)) = (H : Int) := by
      have : (2 : Int) ^ (k - 1) = (H : Int) := by rw [hH]; push_cast; rfl
      rw [this]; exact IntWalk.u64_in _ (by omega)
    obtain ⟨d, hd⟩ : ∃ d, d = decide (q % 2 = 1) := ⟨_, rfl⟩
    have g4 : ((q : Int).tmod 2 == 1) = d := by
      rw [hd, Bool.eq_iff_iff, beq_iff_eq, decide_eq_true_eq, show (q : Int).tmod 2 = ((q % 2 : Nat) : Int) from rfl]; omega
    have g4' : ((q : Int) % 2 == 1) = d := by
      rw [hd, Bool.eq_iff_iff, beq_iff_eq, decide_eq_true_eq]; omega
    have hqb : q < 18446744073709551615 := by
      have : q ≤ P := by rw [hP]; exact Nat.le_mul_of_pos_right _ (Nat.two_pow_pos _)
      have h2 : 2 ≤ 2 ^ k := by
        have := Nat.pow_le_pow_right (show 0 < 2 by decide) (show 1 ≤ k by omega)
        simpa using this
      have h3 : q * 2 ≤ P := by rw [hP]; exact Nat.mul_le_mul_left _ h2
      omega
    have g5 : IntKind.u64.wrap ((q : Int) + 1) = ((q + 1 : Nat) : Int) := by rw [IntWalk.u64_in _ (by omega)]; omega
    obtain ⟨u, hu⟩ : ∃ u, u = upW mode neg d (ncmp (R * 2) (2 ^ k)) := ⟨_, rfl⟩
    have hres : cutM neg b mode n = (if R = 0 then q else if u = true then q + 1 else q) ∧ cutZ b n = decide (R = 0) := by
      unfold cutM cutZ
      rw [← hk, ← hq, ← hR]
      refine ⟨?_, rfl⟩
      unfold kW
      rw [← hd, ← hu]
      by_cases h0 : R = 0
      · rw [decide_eq_true h0, if_pos h0]; rfl
      · rw [decide_eq_false h0, if_neg h0]; rfl
    rw [hres.1, hres.2, ← hk]
    by_cases h0 : R = 0
    · rw [if_pos h0, decide_eq_true h0]
      have g6 : ((R : Int) == 0) = true := by rw [h0]; rfl
      clear hres hu hd hqb hHk hHl hdm hP hR hq hH q1 q2 q3 hs hk hkk h0 hn'
      go_enter Tryz.func154, Tryz.ntmps154
      go_wp2_with (refine (HLN.out _).mono ?_; rintro e w' ⟨rfl, rfl⟩)
      exact bodyPost_ret (results_tmp3r rfl _ _ _) rfl ⟨rfl, Below.refl _ _⟩
    · rw [if_neg h0, decide_eq_false h0]
      have g6 : ((R : Int) == 0) = false := by rw [Bool.eq_false_iff, Ne, beq_iff_eq]; omega
      have hoo : (R < H ∧ upW mode neg d (-1) = u) ∨ (H < R ∧ upW mode neg d 1 = u) ∨ (R = H ∧ upW mode neg d 0 = u) := by
        rw [hu]
        unfold ncmp
        rcases Nat.lt_trichotomy R H with h | h | h
        · exact .inl ⟨h, by rw [if_pos (by omega)]⟩
        · exact .inr (.inr ⟨h, by rw [if_neg (by omega), if_neg (by omega)]⟩)
        · exact .inr (.inl ⟨h, by rw [if_neg (by omega), if_pos (by omega)]⟩)
      clear hres hu hd hqb hHk hHl hdm hP hR hq hH q1 q2 q3 hs hk hkk h0 hn'
      rcases hoo with ⟨hc, hw⟩ | ⟨hc, hw⟩ | ⟨hc, hw⟩
      · have HAW : Hid (∀ W, Calls Tryz.prog 104 #[.int .i64 mode, .bool neg, .bool d, .int .i64 (-1)] W fun e w' => e = .returned (.bool u) ∧ W = w') := fun W => by rw [← hw]; exact s_away _ _ _ _ W
        have o1 : ¬ (H : Int) < R := by omega
        have o2 : (R : Int) < H := by omega
        clear hw hc
        cases u
        all_goals
          simp only [Bool.false_eq_true, if_false, ite_true]
          go_enter Tryz.func154, Tryz.ntmps154
          go_wp2_with (first | (go_at_call 194; refine (HLN.out _).mono ?_; rintro e w' ⟨rfl, rfl⟩) | (go_at_call 104; with_reducible refine (HAW.out _).mono ?_; rintro e w' ⟨rfl, rfl⟩))
          exact bodyPost_ret (results_tmp3r rfl _ _ _) rfl ⟨rfl, Below.refl _ _⟩
      · have HAW : Hid (∀ W, Calls Tryz.prog 104 #[.int .i64 mode, .bool neg, .bool d, .int .i64 1] W fun e w' => e = .returned (.bool u) ∧ W = w') := fun W => by rw [← hw]; exact s_away _ _ _ _ W
        have o1 : (H : Int) < R := by omega
        clear hw hc
        cases u
        all_goals
          simp only [Bool.false_eq_true, if_false, ite_true]
          go_enter Tryz.func154, Tryz.ntmps154
          go_wp2_with (first | (go_at_call 194; refine (HLN.out _).mono ?_; rintro e w' ⟨rfl, rfl⟩) | (go_at_call 104; with_reducible refine (HAW.out _).mono ?_; rintro e w' ⟨rfl, rfl⟩))
          exact bodyPost_ret (results_tmp3r rfl _ _ _) rfl ⟨rfl, Below.refl _ _⟩
      · have HAW : Hid (∀ W, Calls Tryz.prog 104 #[.int .i64 mode, .bool neg, .bool d, .int .i64 0] W fun e w' => e = .returned (.bool u) ∧ W = w') := fun W => by rw [← hw]; exact s_away _ _ _ _ W
        have o1 : ¬ (H : Int) < R := by omega
        have o2 : ¬ (R : Int) < H := by omega
        clear hw hc
        cases u
        all_goals
          simp only [Bool.false_eq_true, if_false, ite_true]
          go_enter Tryz.func154, Tryz.ntmps154
          go_wp2_with (first | (go_at_call 194; refine (HLN.out _).mono ?_; rintro e w' ⟨rfl, rfl⟩) | (go_at_call 104; with_reducible refine (HAW.out _).mono ?_; rintro e w' ⟨rfl, rfl⟩))
          exact bodyPost_ret (results_tmp3r rfl _ _ _) rfl ⟨rfl, Below.refl _ _⟩
/-- What a whole number is told as. -/
def fromA (neg : Bool) (b : Nat) (mode : Int) (n : Nat) : RA := if 1 ≤ mode ∧ mode ≤ 6 then ⟨fromW neg b mode n, !cutZ b n, false, false, 0⟩ else RA.no 1
theorem near_top {m : Nat} {e : Int} : Ieee.double.nearest false m e < 9223372036854775808 := by have := nearest_le m e; omega
theorem cutM_le {neg : Bool} {b n : Nat} {mode : Int} (hb : 1 ≤ b ∧ b ≤ 53) : cutM neg b mode n ≤ 9007199254740992 := by
  by_cases h0 : n = 0
  · have hs : blen n ≤ b := by rw [h0]; show (if 0 = 0 then 0 else _) ≤ b; rw [if_pos rfl]; omega
    rw [(cut_small hs).1, h0]; omega
  have hp : 2 ^ b ≤ 2 ^ 53 := Nat.pow_le_pow_right (by decide) hb.2
  by_cases hs : blen n ≤ b
  · rw [(cut_small hs).1]
    have := (blen_pos h0).2.1
    have h2 : 2 ^ blen n ≤ 2 ^ b := Nat.pow_le_pow_right (by decide) hs
    omega
  · have := (cut_bd (neg := neg) (mode := mode) hb.1 h0 (show b < blen n by omega)).2.2
    omega
set_option maxHeartbeats 2000000 in
set_option maxRecDepth 100000 in
theorem s_from {n b : Nat} (hn : W64 n) (hb : 1 ≤ b ∧ b ≤ 53) (neg : Bool) (mode : Int) (w : World) : Calls Tryz.prog 101 #[.int .u64 (n : Nat), .bool neg, .int .i64 (b : Nat), .int .i64 mode] w (RatioQ (fromA neg b mode n) w) := by
  obtain ⟨w1, hw1⟩ : ∃ W, W = w.alloc (.cells #[.bool false, .bool false, .bool false] 35) := ⟨_, rfl⟩
  have hb1 : Below w.heap.size w w1 := by rw [hw1]; exact (Below.refl _ _).alloc (Nat.le_refl _) _
  have q1 : w1.heap[w.heap.size]? = some (.cells #[.bool false, .bool false, .bool false] 35 (0, 0)) := by rw [hw1]; exact new_blk w _
  have HX : Hid (∀ W, Below w1.heap.size w1 W → W.heap[w.heap.size]? = some (.cells #[.bool false, .bool false, .bool false] 35 (0, 0)) ∧ Below w.heap.size w W) := fun W hW => ⟨hW.blk q1 (blk_lt q1), hb1.trans (hW.mono hb1.size)⟩
  obtain ⟨f0, c0, f1, c1, f2, c2, r3⟩ := rw3 (HX.out w1 (Below.refl _ _)).1
  have HR3 : Hid _ := r3
  have HBW : Hid (Below w.heap.size w w1) := hb1
  clear hb1 q1 r3
  by_cases hm : 1 ≤ mode ∧ mode ≤ 6
  · have HRI : Hid (∀ W, Calls Tryz.prog 73 #[.int .i64 mode] W fun e w' => e = .returned (.bool true) ∧ W = w') := fun W => by
      have := s_right mode W; rw [decide_eq_true hm] at this; exact this
    obtain ⟨m, hmm⟩ : ∃ m, m = cutM neg b mode n := ⟨_, rfl⟩
    obtain ⟨k, hk⟩ : ∃ k, k = cutK b n := ⟨_, rfl⟩
    obtain ⟨z, hz⟩ : ∃ z, z = cutZ b n := ⟨_, rfl⟩
    have HCU : Hid (∀ W, Calls Tryz.prog 154 #[.int .u64 (n : Nat), .int .i64 (b : Nat), .bool neg, .int .i64 mode] W fun e w' => e = .returned (.tuple #[.int .u64 (m : Nat), .int .i64 (k : Nat), .bool z]) ∧ Below W.heap.size W w') := fun W => by
      rw [hmm, hk, hz]; exact s_cut hn ⟨hb.1, by omega⟩ neg mode W
    obtain ⟨x, hx⟩ : ∃ x, x = Ieee.double.nearest false m k := ⟨_, rfl⟩
    have hk64 : k ≤ 64 := by rw [hk]; unfold cutK; have := blen_le (n := n) (k := 64) (by unfold W64 at hn; omega); omega
    have HLD : Hid (∀ W, Calls Tryz.prog 155 #[.float .f64 (floatOfInt .f64 m), .int .i64 (k : Nat)] W fun e' w' => e' = .returned (.float .f64 x) ∧ W = w') := fun W => by
      rw [hx]; exact ldexp_any m k W (by rw [hmm]; exact cutM_le hb) (by omega) (by omega)
    have hxl : x < 9223372036854775808 := by rw [hx]; exact near_top
    have HRN : Hid (fromA neg b mode n = ⟨sgW neg + x, !z, false, false, 0⟩) := by
      show _ = _
      unfold fromA; rw [if_pos hm]; unfold fromW; rw [hx, hmm, hk, hz]
    have hng : Go.Op.negFloat .f64 x = sgW true + x := by
      rw [negFloat_D x (by unfold W64; omega), if_neg (by unfold sgnB; simp; omega), Nat.add_comm]; rfl
    clear hm hmm hk hz hx hk64 hxl
    cases neg
    all_goals
      go_enter Tryz.func101, Tryz.ntmps101
      go_upto_region 1 with fail
      rw [← hw1]
      clear hw1
      go_wp2_with (refine (HRI.out _).mono ?_; rintro e w' ⟨rfl, rfl⟩)
      refine (HCU.out _).mono ?_
      rintro e w2 ⟨rfl, hb2⟩
      have HB2 : Hid (Below w1.heap.size w1 w2) := hb2
      clear hb2 f0 c0 f1 c1 f2 c2 HR3 HBW
      obtain ⟨f0, c0, f1, c1, f2, c2, r3⟩ := rw3 (HX.out w2 HB2.out).1
      have HR3 : Hid _ := r3
      have HBW : Hid (Below w.heap.size w w2) := (HX.out w2 HB2.out).2
      clear r3
      go_wp2_with (go_at_call 155; refine (HLD.out _).mono ?_; rintro e w' ⟨rfl, rfl⟩)
      exact ratio_end (p := 8) (u := 9) (q := 10) rfl rfl rfl rfl (HR3.out _ _ _) (below_row3 HBW.out (Nat.le_refl _) _ _ _) (by first | (rw [HRN.out, show sgW false + x = x from Nat.zero_add x]) | exact HRN.out)
  · have HRI : Hid (∀ W, Calls Tryz.prog 73 #[.int .i64 mode] W fun e w' => e = .returned (.bool false) ∧ W = w') := fun W => by
      have := s_right mode W; rw [decide_eq_false hm] at this; exact this
    have HRN : Hid (fromA neg b mode n = ⟨0, false, false, false, 1⟩) := by
      show _ = _
      unfold fromA; rw [if_neg hm]; rfl
    clear hm
    go_enter Tryz.func101, Tryz.ntmps101
    go_upto_region 1 with fail
    rw [← hw1]
    clear hw1
    go_wp2_with (refine (HRI.out _).mono ?_; rintro e w' ⟨rfl, rfl⟩)
    exact ratio_end (p := 8) (u := 9) (q := 10) rfl rfl rfl rfl (HR3.out _ _ _) (below_row3 HBW.out (Nat.le_refl _) _ _ _) HRN.out
end Go.Proofs.YtgfbcncjboenbaaGreatDoor

/- Walks: single's FromInt, FromUint, SingleInt. -/
namespace Go.Proofs.YtgfbcncjboenbaaGreatDoor
open Go.RowKit
open Go.Lib hiding intOf

theorem s_magnitude {n : Int} (h1 : -9223372036854775808 ≤ n) (h2 : n ≤ 9223372036854775807) (w : World) : Calls Tryz.prog 100 #[.int .i64 n] w fun e w' => e = .returned (.tuple #[.int .u64 (n.natAbs : Nat), .bool (decide (n < 0))]) ∧ w = w' := by
  by_cases h : n < 0
  · rw [decide_eq_true h]
    have e1 : IntKind.u64.wrap n = n + 18446744073709551616 := by
      have := IntKind.wrap_u64 n
      omega
    have e2 : IntKind.u64.wrap (-(n + 18446744073709551616)) = ((n.natAbs : Nat) : Int) := by
      have := IntKind.wrap_u64 (-(n + 18446744073709551616))
      omega
    go_enter Tryz.func100, Tryz.ntmps100
    go_wp2
    go_ret2
    exact ⟨rfl, rfl⟩
  · rw [decide_eq_false h]
    have e1 : IntKind.u64.wrap n = ((n.natAbs : Nat) : Int) := by
      have := IntKind.wrap_u64 n
      omega
    go_enter Tryz.func100, Tryz.ntmps100
    go_wp2
    go_ret2
    exact ⟨rfl, rfl⟩
theorem cut_zero0 (neg : Bool) (b : Nat) (mode : Int) : cutM neg b mode 0 = 0 ∧ cutK b 0 = 0 ∧ cutZ b 0 = true := by
  obtain ⟨c1, c2, c3⟩ := cut_small (neg := neg) (b := b) (n := 0) (mode := mode) (by show (if 0 = 0 then 0 else _) ≤ b; rw [if_pos rfl]; omega)
  exact ⟨c1, c3, c2⟩
theorem from_zero (neg : Bool) (b : Nat) (mode : Int) : fromW neg b mode 0 = sgW neg := by
  unfold fromW
  rw [(cut_zero0 neg b mode).1, (cut_zero0 neg b mode).2.1]
  have : Ieee.double.nearest false 0 ((0 : Nat) : Int) = 0 := nearest_zero _
  rw [this, Nat.add_zero]
/-- A whole number as a single. -/
def sinB (neg : Bool) (mode : Int) (n : Nat) : Nat := if n = 0 then sgS neg else bits32 neg (outG 24 (-149) 104 neg mode (ratMag n 1 0))
def sinA (neg : Bool) (mode : Int) (n : Nat) : RA := if 1 ≤ mode ∧ mode ≤ 6 then ⟨sinB neg mode n, !cutZ 24 n, false, false, 0⟩ else RA.no 1
theorem from24 {n : Nat} (hn : n < 18446744073709551616) (neg : Bool) (mode : Int) : Go.floatToFloatBits .f64 (fromW neg 24 mode n) .f32 = some (sinB neg mode n) ∧ (n ≠ 0 → ∃ m e, outG 24 (-149) 104 neg mode (ratMag n 1 0) = ⟨false, m, e, !cutZ 24 n, false, false⟩) := by
  by_cases h0 : n = 0
  · subst h0
    refine ⟨?_, fun h => absurd rfl h⟩
    rw [from_zero]
    have h1 := nar_zero (b := sgW neg) (by unfold W64; cases neg <;> decide) (by cases neg <;> decide) (by cases neg <;> decide)
    rw [h1]
    cases neg <;> rfl
  · obtain ⟨m, e, h1, h2, h3, h4, h5, h6⟩ := from_out (b := 24) (l := 149) (T := 104) (by decide) (by decide) (by decide) (by decide) h0 hn neg mode
    have h1 : outG 24 (-149) 104 neg mode (ratMag n 1 0) = ⟨false, m, e, !cutZ 24 n, false, false⟩ := h1
    have h6 : m * 2 ^ (e + 149).toNat = cutM neg 24 mode n * 2 ^ (cutK 24 n + 149) := h6
    refine ⟨?_, fun _ => ⟨m, e, h1⟩⟩
    obtain ⟨r, hr⟩ : ∃ r, r = (e + 149).toNat * 8388608 + m := ⟨_, rfl⟩
    have hb : sinB neg mode n = sgS neg + r := by
      unfold sinB; rw [if_neg h0, h1, bits32_fin2, hr]; rfl
    have hrv : rv 23 r = m * 2 ^ (e + 149).toNat := by
      rw [hr]; exact rv_qK 23 (e + 149).toNat m (by omega) (fun hp => by rcases h5 with h | h; omega; exact h)
    have hlt : r < 2139095040 := by rw [hr]; omega
    obtain ⟨c, -, w2, w3, -, w5⟩ := widen_conv false r hlt
    have hk : rv 52 (absB c) = cutM neg 24 mode n * 2 ^ (((cutK 24 n : Nat) : Int) + 1074).toNat := by
      have hL := LD_eq
      rw [w5, hrv, h6, Nat.mul_assoc, ← Nat.pow_add]; congr 2; omega
    have hf : fromW neg 24 mode n = sgW neg + absB c := by
      unfold fromW
      rw [near_exact (s := false) (by omega) (finA_lt w3) hk]
      show _ + (0 + absB c) = _
      rw [Nat.zero_add]
    have hal := finA_lt w3
    have e1 := bits_abs neg (show absB c < 9223372036854775808 by omega)
    have e2 := bits_sgn neg (show absB c < 9223372036854775808 by omega)
    have e3 : finB (sgW neg + absB c) = true := by unfold finB; rw [e1]; exact decide_eq_true hal
    rw [hf, hb]
    have := conv_rung (b := sgW neg + absB c) (bits_W neg (by omega)) e3 hlt (by rw [e1, w5])
    rw [e2] at this
    exact this
set_option maxHeartbeats 2000000 in
set_option maxRecDepth 100000 in
theorem s_fromint {n : Int} (h1 : -9223372036854775808 ≤ n) (h2 : n ≤ 9223372036854775807) (mode : Int) (w : World) : Calls Tryz.prog 35 #[.int .i64 n, .int .i64 mode] w (RatioQ (fromA (decide (n < 0)) 53 mode n.natAbs) w) := by
  obtain ⟨w1, hw1⟩ : ∃ W, W = w.alloc (.cells #[.bool false, .bool false, .bool false] 35) := ⟨_, rfl⟩
  have hb1 : Below w.heap.size w w1 := by rw [hw1]; exact (Below.refl _ _).alloc (Nat.le_refl _) _
  have q1 : w1.heap[w.heap.size]? = some (.cells #[.bool false, .bool false, .bool false] 35 (0, 0)) := by rw [hw1]; exact new_blk w _
  have HX : Hid (∀ W, Below w1.heap.size w1 W → W.heap[w.heap.size]? = some (.cells #[.bool false, .bool false, .bool false] 35 (0, 0)) ∧ Below w.heap.size w W) := fun W hW => ⟨hW.blk q1 (blk_lt q1), hb1.trans (hW.mono hb1.size)⟩
  obtain ⟨R, hR⟩ : ∃ R, R = fromA (decide (n < 0)) 53 mode n.natAbs := ⟨_, rfl⟩
  rw [← hR]
  have HMG : Hid (∀ W, Calls Tryz.prog 100 #[.int .i64 n] W fun e w' => e = .returned (.tuple #[.int .u64 (n.natAbs : Nat), .bool (decide (n < 0))]) ∧ W = w') := fun W => s_magnitude h1 h2 W
  have HFR : Hid (∀ W, Calls Tryz.prog 101 #[.int .u64 (n.natAbs : Nat), .bool (decide (n < 0)), .int .i64 53, .int .i64 mode] W fun e w' => e = .returned (.tuple #[.float .f64 R.bits, .agg #[.bool R.ine, .bool R.ov, .bool R.un], .int .i64 R.err]) ∧ Below W.heap.size W w') := fun W => by
    rw [hR]; exact s_from (b := 53) (by unfold W64; omega) (by decide) _ mode W
  generalize n.natAbs = N at *
  generalize decide (n < 0) = ng at *
  clear hb1 q1 hR h1 h2
  go_enter Tryz.func35, Tryz.ntmps35
  go_upto_region 1 with fail
  rw [← hw1]
  clear hw1
  go_wp2_with (refine (HMG.out _).mono ?_; rintro e w' ⟨rfl, rfl⟩)
  refine (HFR.out _).mono ?_
  rintro e w2 ⟨rfl, hb2⟩
  have HB2 : Hid (Below w1.heap.size w1 w2) := hb2
  clear hb2
  obtain ⟨f0, c0, f1, c1, f2, c2, r3⟩ := rw3 (HX.out w2 HB2.out).1
  have HR3 : Hid _ := r3
  clear r3
  go_wp2
  exact ratio_end (p := 4) (u := 5) (q := 6) rfl rfl rfl rfl (HR3.out _ _ _) (below_row3 (HX.out w2 HB2.out).2 (Nat.le_refl _) _ _ _) rfl
set_option maxHeartbeats 2000000 in
set_option maxRecDepth 100000 in
theorem s_singleint {n : Int} (h1 : -9223372036854775808 ≤ n) (h2 : n ≤ 9223372036854775807) (mode : Int) (w : World) : Calls Tryz.prog 36 #[.int .i64 n, .int .i64 mode] w (Ratio32Q (sinA (decide (n < 0)) mode n.natAbs) w) := by
  obtain ⟨w1, hw1⟩ : ∃ W, W = w.alloc (.cells #[.bool false, .bool false, .bool false] 35) := ⟨_, rfl⟩
  have hb1 : Below w.heap.size w w1 := by rw [hw1]; exact (Below.refl _ _).alloc (Nat.le_refl _) _
  have q1 : w1.heap[w.heap.size]? = some (.cells #[.bool false, .bool false, .bool false] 35 (0, 0)) := by rw [hw1]; exact new_blk w _
  have HX : Hid (∀ W, Below w1.heap.size w1 W → W.heap[w.heap.size]? = some (.cells #[.bool false, .bool false, .bool false] 35 (0, 0)) ∧ Below w.heap.size w W) := fun W hW => ⟨hW.blk q1 (blk_lt q1), hb1.trans (hW.mono hb1.size)⟩
  have HSZ : Hid (w.heap.size < w1.heap.size) := blk_lt q1
  obtain ⟨R, hR⟩ : ∃ R, R = fromA (decide (n < 0)) 24 mode n.natAbs := ⟨_, rfl⟩
  obtain ⟨S, hS⟩ : ∃ S, S = sinA (decide (n < 0)) mode n.natAbs := ⟨_, rfl⟩
  rw [← hS]
  have hcv : Go.floatToFloatBits .f64 R.bits .f32 = some S.bits ∧ S = ⟨S.bits, R.ine, R.ov, R.un, R.err⟩ := by
    rw [hR, hS]; unfold fromA sinA
    by_cases hm : 1 ≤ mode ∧ mode ≤ 6
    · rw [if_pos hm, if_pos hm]
      exact ⟨(from24 (by omega) _ mode).1, rfl⟩
    · rw [if_neg hm, if_neg hm]
      exact ⟨nar_zero (b := 0) (by unfold W64; decide) (by decide) (by decide), rfl⟩
  have HSR : Hid (S = ⟨S.bits, R.ine, R.ov, R.un, R.err⟩) := hcv.2
  have kc := run_nar hcv.1
  have HMG : Hid (∀ W, Calls Tryz.prog 100 #[.int .i64 n] W fun e w' => e = .returned (.tuple #[.int .u64 (n.natAbs : Nat), .bool (decide (n < 0))]) ∧ W = w') := fun W => s_magnitude h1 h2 W
  have HFR : Hid (∀ W, Calls Tryz.prog 101 #[.int .u64 (n.natAbs : Nat), .bool (decide (n < 0)), .int .i64 24, .int .i64 mode] W fun e w' => e = .returned (.tuple #[.float .f64 R.bits, .agg #[.bool R.ine, .bool R.ov, .bool R.un], .int .i64 R.err]) ∧ Below W.heap.size W w') := fun W => by
    rw [hR]; exact s_from (b := 24) (by unfold W64; omega) (by decide) _ mode W
  generalize n.natAbs = N at *
  generalize decide (n < 0) = ng at *
  clear hb1 q1 hR hS h1 h2 hcv
  go_enter Tryz.func36, Tryz.ntmps36
  go_upto_region 1 with fail
  rw [← hw1]
  clear hw1
  go_wp2_with (refine (HMG.out _).mono ?_; rintro e w' ⟨rfl, rfl⟩)
  refine (HFR.out _).mono ?_
  rintro e w2 ⟨rfl, hb2⟩
  have HB2 : Hid (Below w1.heap.size w1 w2) := hb2
  clear hb2
  go_upto_region 3 with fail
  obtain ⟨w3, hw3⟩ : ∃ W, W = w2.alloc (.cells #[.bool R.ine, .bool R.ov, .bool R.un] 35) := ⟨_, rfl⟩
  have hb3 : Below w1.heap.size w1 w3 := by rw [hw3]; exact HB2.out.alloc HB2.out.size _
  have q3 : w3.heap[w2.heap.size]? = some (.cells #[.bool R.ine, .bool R.ov, .bool R.un] 35 (0, 0)) := by rw [hw3]; exact new_blk w2 _
  have hne : w.heap.size < w2.heap.size := Nat.lt_of_lt_of_le HSZ.out HB2.out.size
  have HB3 : Hid (Below w1.heap.size w1 w3) := hb3
  obtain ⟨f0, c0, f1, c1, f2, c2, r3⟩ := rw3 (HX.out w3 HB3.out).1
  have HR3 : Hid _ := r3
  have k0 := cell_of_row w3 w2.heap.size 0 _ _ _ q3
  have k1 := cell_of_row w3 w2.heap.size 1 _ _ _ q3
  have k2 := cell_of_row w3 w2.heap.size 2 _ _ _ q3
  rw [← hw3]
  clear hw3 hb3 q3 r3
  go_region
  go_wp2
  exact ratio32_end (p := 4) (u := 5) (q := 6) rfl rfl rfl rfl (HR3.out _ _ _) (below_row3 (HX.out w3 HB3.out).2 (Nat.le_refl _) _ _ _).drew HSR.out
end Go.Proofs.YtgfbcncjboenbaaGreatDoor

/- Walks: awake, is, has of layer 4. -/
namespace Go.Proofs.YtgfbcncjboenbaaGreatDoor
open Go.RowKit
open Go.Lib hiding intOf

theorem nar_tenth : narA 4591870180066957722 1 = ⟨1036831949, true, false, false, 0⟩ := by kernel_rfl
theorem toi_half : toiA 4612811918334230528 2 = 3 ∧ toiX 4612811918334230528 2 = 0 := ⟨by kernel_rfl, by kernel_rfl⟩
theorem sin_some : sinA (decide ((1152921573326323713 : Int) < 0)) 1 (1152921573326323713 : Int).natAbs = ⟨1568669697, true, false, false, 0⟩ := by kernel_rfl
theorem sum_three4 : addF 1065353216 1073741824 = 1077936128 := by kernel_rfl
theorem wid_half : widB 1056964608 = 4602678819172646912 := by kernel_rfl
set_option maxRecDepth 100000 in
theorem is4_v (x b : Nat) (w : World) : Calls Tryz.prog 41 #[.float .f64 x, .int .u64 (b : Nat)] w fun e w' => e = .returned (.bool (decide (x = b))) ∧ Below w.heap.size w w' := by
  have h : ((x : Int) == (b : Int)) = decide (x = b) := by
    rw [Bool.eq_iff_iff, beq_iff_eq, decide_eq_true_eq]; omega
  go_enter Tryz.func41, Tryz.ntmps41
  go_wp2
  go_ret
  exact ⟨rfl, Below.refl _ _⟩
set_option maxRecDepth 100000 in
theorem has_v (x b : Nat) (w : World) : Calls Tryz.prog 30 #[.float .f32 x, .int .u32 (b : Nat)] w fun e w' => e = .returned (.bool (decide (x = b))) ∧ Below w.heap.size w w' := by
  have h : ((x : Int) == (b : Int)) = decide (x = b) := by
    rw [Bool.eq_iff_iff, beq_iff_eq, decide_eq_true_eq]; omega
  go_enter Tryz.func30, Tryz.ntmps30
  go_wp2
  go_ret
  exact ⟨rfl, Below.refl _ _⟩
set_option maxHeartbeats 4000000 in
set_option maxRecDepth 100000 in
theorem awake4_v (w : World) (htab : Tab w) : Calls Tryz.prog 28 #[] w fun e w' => e = .returned (.bool true) ∧ Below w.heap.size w w' := by
  have H1 : Hid (Calls Tryz.prog 18 #[.float .f64 4591870180066957722, .int .i64 1] w (Ratio32Q ⟨1036831949, true, false, false, 0⟩ w)) := by
    show Calls _ _ _ _ _
    rw [← nar_tenth]; exact s_narrow (by unfold W64; decide) 1 w htab
  have H2 : Hid (∀ W, Calls Tryz.prog 38 #[.float .f64 4612811918334230528, .int .i64 2] W fun e w' => e = .returned (.tuple #[.int .i64 3, .int .i64 0]) ∧ Below W.heap.size W w') := fun W => by
    have := s_toint (a := 4612811918334230528) (by unfold W64; decide) 2 W
    rw [toi_half.1, toi_half.2] at this; exact this
  have H3 : Hid (∀ W, Calls Tryz.prog 36 #[.int .i64 1152921573326323713, .int .i64 1] W (Ratio32Q ⟨1568669697, true, false, false, 0⟩ W)) := fun W => by
    rw [← sin_some]; exact s_singleint (by decide) (by decide) 1 W
  have H4 : Hid (∀ W, Calls Tryz.prog 31 #[.float .f32 1065353216, .float .f32 1073741824] W fun e w' => e = .returned (.float .f32 1077936128) ∧ Below W.heap.size W w') := fun W => by
    rw [← sum_three4]; exact s_add (by unfold W32; decide) (by unfold W32; decide) W
  have H5 : Hid (∀ W, Calls Tryz.prog 19 #[.float .f32 1056964608] W fun e w' => e = .returned (.float .f64 4602678819172646912) ∧ Below W.heap.size W w') := fun W => by
    rw [← wid_half]; exact s_widen 1056964608 (by unfold W32; decide) W
  have o1 : (Go.FloatKind.f32.format.order 1036831949 1036831949 == some Ordering.eq) = true := by kernel_rfl
  have o2 : (Go.FloatKind.f32.format.order 1568669697 1568669697 == some Ordering.eq) = true := by kernel_rfl
  have o3 : (Go.FloatKind.f32.format.order 1077936128 1077936128 == some Ordering.eq) = true := by kernel_rfl
  have o4 : (Go.FloatKind.f64.format.order 4602678819172646912 4602678819172646912 == some Ordering.eq) = true := by kernel_rfl
  clear htab
  go_enter Tryz.func28, Tryz.ntmps28
  go_wp2_with fail
  refine H1.out.mono ?_
  rintro e w1 ⟨rfl, hb⟩
  have HK1 : Hid (Kept _ (w1.alloc (.cells #[.bool true, .bool false, .bool false] 35))) := ((Kept.nil w).below hb).push (.cells #[.bool true, .bool false, .bool false] 35 (0, 0))
  have HB1 : Hid (Below w.heap.size w (w1.alloc (.cells #[.bool true, .bool false, .bool false] 35))) := hb.alloc hb.size _
  clear hb
  go_wp2_with fail
  refine (H2.out _).mono ?_
  rintro e w2 ⟨rfl, hb⟩
  have HK2 : Hid (Kept _ w2) := HK1.out.below hb
  have HB2 : Hid (Below w.heap.size w w2) := HB1.out.thru hb
  clear hb HB1 HK1
  go_wp2_with fail
  refine (H3.out _).mono ?_
  rintro e w3 ⟨rfl, hb⟩
  have HK3 : Hid (Kept _ (w3.alloc (.cells #[.bool true, .bool false, .bool false] 35))) := (HK2.out.below hb).push (.cells #[.bool true, .bool false, .bool false] 35 (0, 0))
  have HB3 : Hid (Below w.heap.size w (w3.alloc (.cells #[.bool true, .bool false, .bool false] 35))) := (HB2.out.thru hb).alloc (HB2.out.thru hb).size _
  clear hb HB2 HK2
  obtain ⟨x0, x1, x2⟩ := flag_cells (HK3.out _ (.tail _ (.head _)))
  go_wp2_with fail
  refine (H4.out _).mono ?_
  rintro e w4 ⟨rfl, hb⟩
  have HB4 : Hid (Below w.heap.size w w4) := HB3.out.thru hb
  clear hb HB3
  go_wp2_with fail
  refine (H5.out _).mono ?_
  rintro e w5 ⟨rfl, hb⟩
  have HB5 : Hid (Below w.heap.size w w5) := HB4.out.thru hb
  clear hb HB4
  go_wp2
  go_ret
  exact ⟨rfl, HB5.out⟩
end Go.Proofs.YtgfbcncjboenbaaGreatDoor

/- Walks: the law SingleReckons. -/
namespace Go.Proofs.YtgfbcncjboenbaaGreatDoor
open Go.RowKit
open Go.Lib hiding intOf

theorem inf_same {a b : Nat} (h1 : badS a b = false) (i1 : inf3 a = true) (i2 : inf3 b = true) : a = b := by
  unfold badS at h1
  rw [i1, i2] at h1
  by_cases h : a = b
  · exact h
  · rw [decide_eq_false h] at h1; simp at h1
theorem badS_comm (a b : Nat) : badS a b = badS b a := by
  unfold badS
  have : decide (a = b) = decide (b = a) := by rw [decide_eq_decide]; exact ⟨Eq.symm, Eq.symm⟩
  rw [this]
  cases nan3 a <;> cases nan3 b <;> cases inf3 a <;> cases inf3 b <;> rfl
theorem sumF_comm (a b : Nat) : sumF a b = sumF b a := by
  have hz : sumZ a b = sumZ b a := by
    unfold sumZ
    rw [Int.min_comm (e3 a) (e3 b), Int.add_comm]
  unfold sumF
  rw [hz, Bool.and_comm, Int.min_comm (e3 a) (e3 b)]
theorem addF_comm (a b : Nat) : addF a b = addF b a := by
  unfold addF
  rw [badS_comm b a]
  cases hb : badS a b
  · simp only [Bool.false_eq_true, if_false]
    cases i1 : inf3 a <;> cases i2 : inf3 b
    · simp only [Bool.false_eq_true, if_false]; exact sumF_comm a b
    · simp
    · simp
    · simp; exact inf_same hb i1 i2
  · simp
theorem mulF_comm (a b : Nat) : mulF a b = mulF b a := by
  have hp : mulP a b = mulP b a := by
    unfold mulP
    rw [Nat.mul_comm (m3 a), Int.add_comm (e3 a)]
    have : (sgn3 a != sgn3 b) = (sgn3 b != sgn3 a) := by cases sgn3 a <;> cases sgn3 b <;> rfl
    rw [this]
  have hs : (sgn3 a != sgn3 b) = (sgn3 b != sgn3 a) := by cases sgn3 a <;> cases sgn3 b <;> rfl
  unfold mulF badM
  rw [hp, hs]
  cases nan3 a <;> cases nan3 b <;> cases inf3 a <;> cases inf3 b <;> cases zer3 a <;> cases zer3 b <;> rfl
set_option maxHeartbeats 4000000 in
set_option maxRecDepth 100000 in
theorem singleReckons_walk (a b : Nat) (w : World) (ha : W32 a) (hb : W32 b) (htab : Tab w) : Calls Tryz.prog 5 #[.int .u32 (a : Nat), .int .u32 (b : Nat)] w fun e w' => e = .returned (.bool true) ∧ Below w.heap.size w w' := by
  have HW : Hid (Calls Tryz.prog 28 #[] w fun e w' => e = .returned (.bool true) ∧ Below w.heap.size w w') := awake4_v w htab
  obtain ⟨s, hs⟩ : ∃ s, s = addF a b := ⟨_, rfl⟩
  obtain ⟨p, hp⟩ : ∃ p, p = mulF a b := ⟨_, rfl⟩
  have A1 : Hid (∀ W, Calls Tryz.prog 31 #[.float .f32 a, .float .f32 b] W fun e w' => e = .returned (.float .f32 s) ∧ Below W.heap.size W w') := fun W => by rw [hs]; exact s_add ha hb W
  have A2 : Hid (∀ W, Calls Tryz.prog 31 #[.float .f32 b, .float .f32 a] W fun e w' => e = .returned (.float .f32 s) ∧ Below W.heap.size W w') := fun W => by rw [hs, addF_comm]; exact s_add hb ha W
  have A3 : Hid (∀ W, Calls Tryz.prog 32 #[.int .u32 a, .int .u32 b] W fun e w' => e = .returned (.int .u32 (s : Nat)) ∧ Below W.heap.size W w') := fun W => by rw [hs]; exact d_add ha hb W
  have A4 : Hid (∀ W, Calls Tryz.prog 32 #[.int .u32 b, .int .u32 a] W fun e w' => e = .returned (.int .u32 (s : Nat)) ∧ Below W.heap.size W w') := fun W => by rw [hs, addF_comm]; exact d_add hb ha W
  have M1 : Hid (∀ W, Calls Tryz.prog 33 #[.float .f32 a, .float .f32 b] W fun e w' => e = .returned (.float .f32 p) ∧ Below W.heap.size W w') := fun W => by rw [hp]; exact s_mul ha hb W
  have M2 : Hid (∀ W, Calls Tryz.prog 33 #[.float .f32 b, .float .f32 a] W fun e w' => e = .returned (.float .f32 p) ∧ Below W.heap.size W w') := fun W => by rw [hp, mulF_comm]; exact s_mul hb ha W
  have M3 : Hid (∀ W, Calls Tryz.prog 34 #[.int .u32 a, .int .u32 b] W fun e w' => e = .returned (.int .u32 (p : Nat)) ∧ Below W.heap.size W w') := fun W => by rw [hp]; exact d_mul ha hb W
  have M4 : Hid (∀ W, Calls Tryz.prog 34 #[.int .u32 b, .int .u32 a] W fun e w' => e = .returned (.int .u32 (p : Nat)) ∧ Below W.heap.size W w') := fun W => by rw [hp, mulF_comm]; exact d_mul hb ha W
  have HH : Hid (∀ W x, Calls Tryz.prog 30 #[.float .f32 x, .int .u32 (x : Nat)] W fun e w' => e = .returned (.bool true) ∧ Below W.heap.size W w') := fun W x => by
    have := has_v x x W; rw [decide_eq_true rfl] at this; exact this
  have r1 : ((s : Int) == s) = true := by simp
  have r2 : ((p : Int) == p) = true := by simp
  clear ha hb htab hs hp
  go_enter Tryz.func5, Tryz.ntmps5
  have HBW : Hid (Below w.heap.size w w) := Below.refl _ _
  go_wp2_with (first
    | (go_at_call 28; refine HW.out.mono ?_; rintro e w' ⟨rfl, hb⟩; have HBW : Hid (Below w.heap.size w w') := hb; clear hb)
    | (go_at_call 31; first | ((with_reducible refine (A1.out _).mono ?_); rintro e w' ⟨rfl, hb⟩; have HBW : Hid (Below w.heap.size w w') := HBW.out.thru hb; clear hb) | ((with_reducible refine (A2.out _).mono ?_); rintro e w' ⟨rfl, hb⟩; have HBW : Hid (Below w.heap.size w w') := HBW.out.thru hb; clear hb))
    | (go_at_call 32; first | ((with_reducible refine (A3.out _).mono ?_); rintro e w' ⟨rfl, hb⟩; have HBW : Hid (Below w.heap.size w w') := HBW.out.thru hb; clear hb) | ((with_reducible refine (A4.out _).mono ?_); rintro e w' ⟨rfl, hb⟩; have HBW : Hid (Below w.heap.size w w') := HBW.out.thru hb; clear hb))
    | (go_at_call 33; first | ((with_reducible refine (M1.out _).mono ?_); rintro e w' ⟨rfl, hb⟩; have HBW : Hid (Below w.heap.size w w') := HBW.out.thru hb; clear hb) | ((with_reducible refine (M2.out _).mono ?_); rintro e w' ⟨rfl, hb⟩; have HBW : Hid (Below w.heap.size w w') := HBW.out.thru hb; clear hb))
    | (go_at_call 34; first | ((with_reducible refine (M3.out _).mono ?_); rintro e w' ⟨rfl, hb⟩; have HBW : Hid (Below w.heap.size w w') := HBW.out.thru hb; clear hb) | ((with_reducible refine (M4.out _).mono ?_); rintro e w' ⟨rfl, hb⟩; have HBW : Hid (Below w.heap.size w w') := HBW.out.thru hb; clear hb))
    | (go_at_call 30; ((with_reducible refine (HH.out _ _).mono ?_); rintro e w' ⟨rfl, hb⟩; have HBW : Hid (Below w.heap.size w w') := HBW.out.thru hb; clear hb)))
  go_ret
  exact ⟨rfl, HBW.out⟩
end Go.Proofs.YtgfbcncjboenbaaGreatDoor

/- Walks: the laws SingleOdd. -/
namespace Go.Proofs.YtgfbcncjboenbaaGreatDoor
open Go.RowKit
open Go.Lib hiding intOf

/-- What Narrow rounds a canonical number to. -/
theorem nar_num (neg : Bool) {M : Nat} {e : Int} (h : Canon M e) (m : Int) : narO (sgW neg + rungN M e) m = outG 24 (-149) 104 neg m (numG M e) := by
  obtain ⟨c1, c2, c3, c4⟩ := canon_bits neg h
  have h1 := sp_val _ c4
  rw [c2, h.rv] at h1
  unfold narO
  rw [c3, out_same (num_same h.2.1 (sp_bd _).1 h1)]
theorem nar_fin (neg : Bool) {M : Nat} {e : Int} (h : Canon M e) (h0 : M ≠ 0) {m : Int} (hm : 1 ≤ m ∧ m ≤ 6) :
    narA (sgW neg + rungN M e) m = ⟨bits32 neg (outG 24 (-149) 104 neg m (numG M e)), (outG 24 (-149) 104 neg m (numG M e)).ine, (outG 24 (-149) 104 neg m (numG M e)).ov, (outG 24 (-149) 104 neg m (numG M e)).un, 0⟩ := by
  obtain ⟨c1, c2, c3, c4⟩ := canon_bits neg h
  have ha : absB (sgW neg + rungN M e) ≠ 0 := by
    rw [c2]; unfold rungN; rcases h.2.2.2 with h | h <;> omega
  have n : nanB (sgW neg + rungN M e) = false ∧ infB (sgW neg + rungN M e) = false ∧ zeroB (sgW neg + rungN M e) = false := by
    rcases kind_B (sgW neg + rungN M e) with ⟨h1, h2, h3⟩ | ⟨h1, h2, h3⟩ | ⟨h1, h2, h3, h4, h5⟩ | ⟨h1, h2, h3, h4, h5⟩
    · rw [fin_nan c4] at h1; cases h1
    · have := finA_lt c4; have := of_decide_eq_true h1; omega
    · exact absurd h5 ha
    · exact ⟨h1, h2, h3⟩
  unfold narA
  rw [if_neg (fun g => g hm), n.1, n.2.1, n.2.2, if_neg (by decide), if_neg (by decide), if_neg (by decide), nar_num neg h, c3]
theorem nar_zero2 (neg : Bool) {m : Int} (hm : 1 ≤ m ∧ m ≤ 6) : narA (sgW neg) m = ⟨sgS neg, false, false, false, 0⟩ := by
  have n : nanB (sgW neg) = false ∧ infB (sgW neg) = false ∧ zeroB (sgW neg) = true ∧ sgnB (sgW neg) = neg := by cases neg <;> decide
  unfold narA
  rw [if_neg (fun g => g hm), n.1, n.2.1, n.2.2.1, if_neg (by decide), if_neg (by decide), if_pos rfl, n.2.2.2]
/-- By Odd to a number, and then to a single, is to a single at once. -/
theorem odd_single {n : Nat} (hn : n < 18446744073709551616) (neg : Bool) {m : Int} (hm : 1 ≤ m ∧ m ≤ 6) : (narA (fromW neg 53 6 n) m).bits = sinB neg m n ∧ (narA (fromW neg 53 6 n) m).err = 0 := by
  by_cases h0 : n = 0
  · subst h0
    rw [from_zero, nar_zero2 neg hm]
    exact ⟨by unfold sinB; rw [if_pos rfl], rfl⟩
  · obtain ⟨M, e, h1, h2, -, h4, h5⟩ := from53 h0 hn neg 6
    obtain ⟨M', e', i, o, u, g1, -, -, -, -, -, g7⟩ := odd_out (neg := neg) (ratMag_ok (M := n) (D := 1) (E := 0) (by decide))
    rw [h1] at g1
    injection g1 with _ a1 a2
    rw [← a1, ← a2] at g7
    rw [h4, nar_fin neg h2 h5 hm, g7]
    exact ⟨by unfold sinB; rw [if_neg h0], rfl⟩
theorem sinA_ok {neg : Bool} {m : Int} {n : Nat} (hm : 1 ≤ m ∧ m ≤ 6) : sinA neg m n = ⟨sinB neg m n, !cutZ 24 n, false, false, 0⟩ := if_pos hm
theorem sinA_bad {neg : Bool} {m : Int} {n : Nat} (hm : ¬ (1 ≤ m ∧ m ≤ 6)) : sinA neg m n = RA.no 1 := if_neg hm
theorem narA_bad {b : Nat} {m : Int} (hm : ¬ (1 ≤ m ∧ m ≤ 6)) : narA b m = RA.no 1 := if_pos hm
theorem fromA_ok {neg : Bool} {m : Int} {b n : Nat} (hm : 1 ≤ m ∧ m ≤ 6) : fromA neg b m n = ⟨fromW neg b m n, !cutZ b n, false, false, 0⟩ := if_pos hm
theorem fromW_W {neg : Bool} {b : Nat} {m : Int} {n : Nat} : W64 (fromW neg b m n) := bits_W neg near_top
set_option maxHeartbeats 4000000 in
set_option maxRecDepth 100000 in
theorem singleOdd_walk (n m : Int) (w : World) (l1 : -9223372036854775808 ≤ n) (l2 : n ≤ 9223372036854775807) (_ : -9223372036854775808 ≤ m) (_ : m ≤ 9223372036854775807) (htab : Tab w) : Calls Tryz.prog 6 #[.int .i64 n, .int .i64 m] w fun e w' => e = .returned (.bool true) ∧ Below w.heap.size w w' := by
  have HW : Hid (Calls Tryz.prog 28 #[] w fun e w' => e = .returned (.bool true) ∧ Below w.heap.size w w') := awake4_v w htab
  obtain ⟨X, hX⟩ : ∃ X, X = fromA (decide (n < 0)) 53 6 n.natAbs := ⟨_, rfl⟩
  obtain ⟨Y, hY⟩ : ∃ Y, Y = narA X.bits m := ⟨_, rfl⟩
  obtain ⟨Z, hZ⟩ : ∃ Z, Z = sinA (decide (n < 0)) m n.natAbs := ⟨_, rfl⟩
  have hXe : X = ⟨fromW (decide (n < 0)) 53 6 n.natAbs, !cutZ 53 n.natAbs, false, false, 0⟩ := by rw [hX]; exact fromA_ok (by decide)
  have H1 : Hid (∀ W, Below w.heap.size w W → Calls Tryz.prog 35 #[.int .i64 n, .int .i64 6] W (RatioQ X W)) := fun W hW => by rw [hX]; exact s_fromint l1 l2 6 W
  have H2 : Hid (∀ W, Below w.heap.size w W → Calls Tryz.prog 18 #[.float .f64 X.bits, .int .i64 m] W (Ratio32Q Y W)) := fun W hW => by
    rw [hY]; exact s_narrow (by rw [hXe]; exact fromW_W) m W (htab.below hW)
  have H3 : Hid (∀ W, Below w.heap.size w W → Calls Tryz.prog 36 #[.int .i64 n, .int .i64 m] W (Ratio32Q Z W)) := fun W hW => by rw [hZ]; exact s_singleint l1 l2 m W
  have HH : Hid (∀ W x, Calls Tryz.prog 30 #[.float .f32 x, .int .u32 (x : Nat)] W fun e w' => e = .returned (.bool true) ∧ Below W.heap.size W w') := fun W x => by
    have := has_v x x W; rw [decide_eq_true rfl] at this; exact this
  have q1 : (X.err == 0) = true := by rw [hXe]; rfl
  by_cases hm : 1 ≤ m ∧ m ≤ 6
  · have hY2 : Y.bits = Z.bits ∧ Y.err = 0 ∧ Z.err = 0 := by
      rw [hY, hZ, hXe, sinA_ok hm]
      obtain ⟨a1, a2⟩ := odd_single (n := n.natAbs) (by omega) (decide (n < 0)) hm
      exact ⟨a1, a2, rfl⟩
    have q2 : (Y.err == 0) = true := by rw [hY2.2.1]; rfl
    have q3 : (Z.err == 0) = true := by rw [hY2.2.2]; rfl
    have q4 : ¬ m < 1 := by omega
    have q5 : ¬ 6 < m := by omega
    obtain ⟨B, hB⟩ : ∃ B, B = Z.bits := ⟨_, rfl⟩
    obtain ⟨XB, hXB⟩ : ∃ B, B = X.bits := ⟨_, rfl⟩
    have hYB : Y.bits = B := by rw [hY2.1, hB]
    have H2 : Hid (∀ W, Below w.heap.size w W → Calls Tryz.prog 18 #[.float .f64 XB, .int .i64 m] W fun e w' => e = .returned (.tuple #[.float .f32 B, .agg #[.bool Y.ine, .bool Y.ov, .bool Y.un], .int .i64 Y.err]) ∧ Below W.heap.size W w') := fun W hW => by rw [hXB, ← hYB]; exact H2.out W hW
    have H3 : Hid (∀ W, Below w.heap.size w W → Calls Tryz.prog 36 #[.int .i64 n, .int .i64 m] W fun e w' => e = .returned (.tuple #[.float .f32 B, .agg #[.bool Z.ine, .bool Z.ov, .bool Z.un], .int .i64 Z.err]) ∧ Below W.heap.size W w') := fun W hW => by rw [hB]; exact H3.out W hW
    have H1 : Hid (∀ W, Below w.heap.size w W → Calls Tryz.prog 35 #[.int .i64 n, .int .i64 6] W fun e w' => e = .returned (.tuple #[.float .f64 XB, .agg #[.bool X.ine, .bool X.ov, .bool X.un], .int .i64 X.err]) ∧ Below W.heap.size W w') := fun W hW => by rw [hXB]; exact H1.out W hW
    clear htab hX hY hZ hXe hm hY2 l1 l2 hB hXB hYB
    go_enter Tryz.func6, Tryz.ntmps6
    go_wp2_with fail
    refine HW.out.mono ?_
    rintro e w1 ⟨rfl, hb⟩
    have HB : Hid (Below w.heap.size w w1) := hb
    clear hb
    go_wp2_with fail
    refine (H1.out _ HB.out).mono ?_
    rintro e w2 ⟨rfl, hb⟩
    have HB : Hid (Below w.heap.size w w2) := HB.out.thru hb
    clear hb
    go_wp2_with fail
    refine (H2.out _ (HB.out.alloc HB.out.size _)).mono ?_
    rintro e w3 ⟨rfl, hb⟩
    have HB : Hid (Below w.heap.size w w3) := (HB.out.alloc HB.out.size _).thru hb
    clear hb
    go_wp2_with fail
    refine (H3.out _ (HB.out.alloc HB.out.size _)).mono ?_
    rintro e w4 ⟨rfl, hb⟩
    have HB : Hid (Below w.heap.size w w4) := (HB.out.alloc HB.out.size _).thru hb
    clear hb
    go_wp2_with fail
    refine (HH.out _ _).mono ?_
    rintro e w5 ⟨rfl, hb⟩
    have HB : Hid (Below w.heap.size w w5) := (HB.out.alloc HB.out.size _).thru hb
    go_wp2
    go_ret
    exact ⟨rfl, HB.out⟩
  · have hY2 : Y.err = 1 ∧ Z.err = 1 := by rw [hY, hZ, narA_bad hm, sinA_bad hm]; exact ⟨rfl, rfl⟩
    have q2 : (Y.err == 1) = true := by rw [hY2.1]; rfl
    have q3 : (Z.err == 1) = true := by rw [hY2.2]; rfl
    obtain ⟨XB, hXB⟩ : ∃ B, B = X.bits := ⟨_, rfl⟩
    have H2 : Hid (∀ W, Below w.heap.size w W → Calls Tryz.prog 18 #[.float .f64 XB, .int .i64 m] W fun e w' => e = .returned (.tuple #[.float .f32 Y.bits, .agg #[.bool Y.ine, .bool Y.ov, .bool Y.un], .int .i64 Y.err]) ∧ Below W.heap.size W w') := fun W hW => by rw [hXB]; exact H2.out W hW
    have H3 : Hid (∀ W, Below w.heap.size w W → Calls Tryz.prog 36 #[.int .i64 n, .int .i64 m] W fun e w' => e = .returned (.tuple #[.float .f32 Z.bits, .agg #[.bool Z.ine, .bool Z.ov, .bool Z.un], .int .i64 Z.err]) ∧ Below W.heap.size W w') := fun W hW => H3.out W hW
    have H1 : Hid (∀ W, Below w.heap.size w W → Calls Tryz.prog 35 #[.int .i64 n, .int .i64 6] W fun e w' => e = .returned (.tuple #[.float .f64 XB, .agg #[.bool X.ine, .bool X.ov, .bool X.un], .int .i64 X.err]) ∧ Below W.heap.size W w') := fun W hW => by rw [hXB]; exact H1.out W hW
    have hmm : m < 1 ∨ (¬ m < 1 ∧ 6 < m) := by omega
    clear htab hX hY hZ hXe hm hY2 l1 l2 hXB
    rcases hmm with h1 | ⟨h1, h2⟩
    all_goals
      go_enter Tryz.func6, Tryz.ntmps6
      go_wp2_with fail
      refine HW.out.mono ?_
      rintro e w1 ⟨rfl, hb⟩
      have HB : Hid (Below w.heap.size w w1) := hb
      clear hb
      go_wp2_with fail
      refine (H1.out _ HB.out).mono ?_
      rintro e w2 ⟨rfl, hb⟩
      have HB : Hid (Below w.heap.size w w2) := HB.out.thru hb
      clear hb
      go_wp2_with fail
      refine (H2.out _ (HB.out.alloc HB.out.size _)).mono ?_
      rintro e w3 ⟨rfl, hb⟩
      have HB : Hid (Below w.heap.size w w3) := (HB.out.alloc HB.out.size _).thru hb
      clear hb
      go_wp2_with fail
      refine (H3.out _ (HB.out.alloc HB.out.size _)).mono ?_
      rintro e w4 ⟨rfl, hb⟩
      have HB : Hid (Below w.heap.size w w4) := (HB.out.alloc HB.out.size _).thru hb
      clear hb
      go_wp2
      go_ret
      exact ⟨rfl, HB.out.alloc HB.out.size _⟩
end Go.Proofs.YtgfbcncjboenbaaGreatDoor

/- Plain: singles widened and narrowed, whole numbers there and back, Whole of Whole. -/
namespace Go.Proofs.YtgfbcncjboenbaaGreatDoor
open Go.RowKit
open Go.Lib hiding intOf

theorem nar_wid {y : Nat} (hy : W32 y) (hn : nan3 y = true → y = 2143289344) {m : Int} (hm : 1 ≤ m ∧ m ≤ 6) : narA (widB y) m = ⟨y, false, false, false, 0⟩ := by
  rcases kind3 y with ⟨n1, i1⟩ | ⟨i1, n1⟩ | ⟨n1, i1, f1⟩
  · have hw : widB y = theNaN := by unfold widB; rw [if_pos n1]
    rw [hw, hn n1]
    exact (if_neg (fun g => g hm)).trans (if_pos (by decide))
  · have hw : widB y = sgW (sgn3 y) + 9218868437227405312 := by unfold widB; rw [n1, i1, if_neg (by decide), if_pos rfl]
    have hy2 := inf3_eq hy i1
    have hb : nanB (sgW (sgn3 y) + 9218868437227405312) = false ∧ infB (sgW (sgn3 y) + 9218868437227405312) = true ∧ sgnB (sgW (sgn3 y) + 9218868437227405312) = sgn3 y := by cases sgn3 y <;> decide
    have hr : narA (widB y) m = ⟨sgS (sgn3 y) + 2139095040, false, false, false, 0⟩ := by
      rw [hw]; unfold narA
      rw [if_neg (fun g => g hm), hb.1, hb.2.1, if_neg (by decide), if_pos rfl, hb.2.2]
    rw [hr, ← hy2]
  · obtain ⟨p1, p2, p3, p4, p5, p6⟩ := sp3 f1
    obtain ⟨-, w2, w3, w4, w5⟩ := wid_fin hy f1
    have hyj := b3_join hy
    obtain ⟨M, e, hc, hr⟩ := fin_form (finA_lt w3)
    have hX : widB y = sgW (sgn3 y) + rungN M e := by rw [← hr, ← w4]; exact split_B _ w2
    rw [hr, hc.rv] at w5
    by_cases h0 : M = 0
    · have hz : m3 y = 0 := by
        rw [h0, Nat.zero_mul] at w5
        rcases Nat.mul_eq_zero.1 w5.symm with h | h
        · exact h
        · exact absurd h (Nat.pos_iff_ne_zero.1 (Nat.two_pow_pos _))
      have he : e = -1074 := by rcases hc.2.2.2 with h | h; exact h; omega
      have h3 : abs3 y = 0 := by unfold m3 at hz; split at hz <;> omega
      have hX2 : widB y = sgW (sgn3 y) := by rw [hX, h0, he]; rfl
      rw [hX2, nar_zero2 _ hm]
      rw [h3, Nat.add_zero] at hyj
      rw [← hyj]
    · have ho : outG 24 (-149) 104 (sgn3 y) m (numG M e) = ⟨false, m3 y, e3 y, false, false, false⟩ := by
        rw [out_same (num_same hc.2.1 (by omega) w5)]
        exact num_out (by decide) p2 p3 p4 (by rcases p5 with h | h; exact .inl h; exact .inr h)
      rw [hX, nar_fin _ hc h0 hm, ho]
      have hb : bits32 (sgn3 y) ⟨false, m3 y, e3 y, false, false, false⟩ = y := by
        rw [bits32_fin2, ← p6]; exact hyj.symm
      rw [hb]
/-- A whole number of at most 2^53 is a number as it stands. -/
theorem from_exact {N : Nat} (h : N ≤ 9007199254740992) (neg : Bool) (m : Int) : fromW neg 53 m N = sgW neg + natR N ∧ cutZ 53 N = true := by
  have hv : cutM neg 53 m N * 2 ^ cutK 53 N = N ∧ cutZ 53 N = true ∧ cutK 53 N ≤ 64 := by
    by_cases hs : blen N ≤ 53
    · obtain ⟨c1, c2, c3⟩ := cut_small (neg := neg) (mode := m) hs
      rw [c1, c2, c3]; exact ⟨by rw [Nat.pow_zero, Nat.mul_one], rfl, by omega⟩
    · have hN : N = 9007199254740992 := by
        by_cases hl : N < 9007199254740992
        · exact absurd (blen_le (n := N) (k := 53) (by omega)) hs
        · omega
      have hk : cutK 53 N = 1 := by rw [hN]; decide
      have hz : cutZ 53 N = true := by rw [hN]; decide
      refine ⟨?_, hz, by omega⟩
      have hz' : decide (9007199254740992 % 2 ^ 1 = 0) = true := by decide
      have hq : 9007199254740992 / 2 ^ 1 * 2 ^ 1 = 9007199254740992 := by decide
      unfold cutM
      rw [hk, hN, hz']
      unfold kW
      rw [Bool.not_true, Bool.false_and, if_neg (by decide)]
  refine ⟨?_, hv.2.1⟩
  obtain ⟨n1, n2⟩ := nat_rung h
  unfold fromW
  rw [near_exact (s := false) (r := natR N) (by omega) (by omega) ?_]
  · show _ + (0 + natR N) = _
    rw [Nat.zero_add]
  · rw [n2, show (((cutK 53 N : Nat) : Int) + 1074).toNat = cutK 53 N + 1074 by omega, Nat.pow_add, ← Nat.mul_assoc, hv.1, LP_eq]
/-- A number that is whole is made whole to itself. -/
theorem who_self {x K : Nat} (fx : finB x = true) (hv : rv 52 (absB x) = K * 2 ^ LP) (neg : Bool) (m : Int) : whoN neg m (spM x) (spE x) = K := by
  rw [who_rv fx rfl neg m, hv, Nat.mul_div_cancel _ (Nat.two_pow_pos _), Nat.mul_mod_left]
  unfold kW; simp
theorem who_twice {a : Nat} (fa : finB a = true) (m : Int) : whoB (whoB a m) m = whoB a m ∧ finB (whoB a m) = true ∧ W64 (whoB a m) := by
  obtain ⟨v1, v2, v3, v4, v5, v6, v7, v8, v9⟩ := who_word fa m rfl rfl
  obtain ⟨K, hK⟩ : ∃ K, K = whoN (sgnB a) m (spM a) (spE a) := ⟨_, rfl⟩
  rw [← hK] at v1 v2 v3 v4 v5 v6 v7 v8 v9
  refine ⟨?_, by rw [v1]; exact v6, by rw [v1]; exact v4⟩
  rw [v1]
  have hs := who_self v6 (by rw [v7]; exact v3) (sgnB a) m
  show sgW (sgnB (sgW (sgnB a) + natR K)) + natR (whoN (sgnB (sgW (sgnB a) + natR K)) m (spM (sgW (sgnB a) + natR K)) (spE (sgW (sgnB a) + natR K))) = _
  rw [v8, hs]
/-- Whole numbers there and back. -/
theorem int_back {n : Int} (h : n.natAbs ≤ 9007199254740992) {m : Int} (hm : 1 ≤ m ∧ m ≤ 6) : fromA (decide (n < 0)) 53 m n.natAbs = ⟨sgW (decide (n < 0)) + natR n.natAbs, false, false, false, 0⟩ ∧ W64 (sgW (decide (n < 0)) + natR n.natAbs) ∧
    toiA (sgW (decide (n < 0)) + natR n.natAbs) m = n ∧ toiX (sgW (decide (n < 0)) + natR n.natAbs) m = 0 := by
  obtain ⟨n1, n2⟩ := nat_rung h
  obtain ⟨g1, g2⟩ := from_exact h (decide (n < 0)) m
  obtain ⟨N, hN⟩ : ∃ N, N = n.natAbs := ⟨_, rfl⟩
  obtain ⟨s, hs⟩ : ∃ s, s = decide (n < 0) := ⟨_, rfl⟩
  have hsg : sg s N = n := by
    rw [hs, hN]; unfold sg
    by_cases h0 : n < 0
    · rw [decide_eq_true h0, if_pos rfl]; omega
    · rw [decide_eq_false h0, if_neg (by decide)]; omega
  rw [← hN] at n1 n2 g1 g2 h ⊢
  rw [← hs] at g1 ⊢
  have e1 := bits_abs s (show natR N < 9223372036854775808 by omega)
  have e2 := bits_sgn s (show natR N < 9223372036854775808 by omega)
  have e3 : finB (sgW s + natR N) = true := by unfold finB; rw [e1]; exact decide_eq_true (by omega)
  have hw := who_self e3 (by rw [e1]; exact n2) s m
  have hi : infB (sgW s + natR N) = false := by unfold infB; rw [e1]; exact decide_eq_false (by omega)
  have hX : whoX (sgW s + natR N) m = 0 := (who_fin hm (fin_nan e3) hi).2
  have ht : toiN (sgW s + natR N) m = n := by
    unfold toiN; rw [e2, hw, hsg]
  refine ⟨by rw [fromA_ok hm, g1, g2]; rfl, bits_W s (by omega), ?_, ?_⟩
  · unfold toiA; rw [ht, if_pos ⟨hX, hi, by omega, by omega⟩]
  · unfold toiX; rw [ht, if_neg (by rw [hX]; decide), if_pos ⟨hi, by omega, by omega⟩]
theorem one3_W {b : Nat} (hb : W32 b) : W32 (one3 b) ∧ (nan3 (one3 b) = true → one3 b = 2143289344) := by
  unfold one3
  by_cases n : nan3 b = true
  · rw [if_pos n]; exact ⟨by unfold W32; decide, fun _ => rfl⟩
  · rw [if_neg n]; exact ⟨hb, fun h => absurd h n⟩
theorem wid_W {y : Nat} (hy : W32 y) : W64 (widB y) := by
  rcases kind3 y with ⟨n1, i1⟩ | ⟨i1, n1⟩ | ⟨n1, i1, f1⟩
  · unfold widB; rw [if_pos n1]; unfold W64; decide
  · unfold widB; rw [n1, i1, if_neg (by decide), if_pos rfl]; unfold W64; cases sgn3 y <;> decide
  · exact (wid_fin hy f1).2.1
theorem whoA_W {a : Nat} (ha : W64 a) (m : Int) : W64 (whoA a m) := by
  by_cases hm : 1 ≤ m ∧ m ≤ 6
  · cases n : nanB a
    · cases i : infB a
      · rw [(who_fin hm n i).1]
        exact (who_twice (by rw [finB_eq, n, i]; rfl) m).2.2
      · rw [(who_inf hm n i).1]; exact ha
    · rw [(who_nan hm n).1]; unfold W64; decide
  · rw [(who_bad hm).1]; unfold W64; decide
/-- Whole of Whole. -/
theorem who_again {a : Nat} {m : Int} (hm : 1 ≤ m ∧ m ≤ 6) (h : whoX a m = 0) : whoX (whoA a m) m = 0 ∧ whoA (whoA a m) m = whoA a m := by
  cases n : nanB a
  · cases i : infB a
    · obtain ⟨t1, t2, -⟩ := who_twice (a := a) (by rw [finB_eq, n, i]; rfl) m
      rw [(who_fin hm n i).1]
      have hi : infB (whoB a m) = false := by have := finA_lt t2; unfold infB; exact decide_eq_false (by omega)
      obtain ⟨a1, a2⟩ := who_fin hm (fin_nan t2) hi
      exact ⟨a2, a1.trans t1⟩
    · rw [(who_inf hm n i).1]
      exact ⟨(who_inf hm n i).2, (who_inf hm n i).1⟩
  · rw [(who_nan hm n).2] at h; cases h
set_option maxHeartbeats 4000000 in
set_option maxRecDepth 100000 in
theorem singleBack_walk (b : Nat) (n : Int) (a : Nat) (m : Int) (w : World) (hb : W32 b) (_ : -9223372036854775808 ≤ n) (_ : n ≤ 9223372036854775807) (ha : W64 a) (_ : -9223372036854775808 ≤ m) (_ : m ≤ 9223372036854775807) (htab : Tab w) : Calls Tryz.prog 7 #[.int .u32 (b : Nat), .int .i64 n, .int .u64 (a : Nat), .int .i64 m] w fun e w' => e = .returned (.bool true) ∧ Below w.heap.size w w' := by
  have HW : Hid (Calls Tryz.prog 28 #[] w fun e w' => e = .returned (.bool true) ∧ Below w.heap.size w w') := awake4_v w htab
  have HO : Hid (∀ W, Calls Tryz.prog 37 #[.float .f32 b] W fun e w' => e = .returned (.float .f32 (one3 b)) ∧ W = w') := fun W => s_one b W
  obtain ⟨hy, hyn⟩ := one3_W hb
  obtain ⟨y, hye⟩ : ∃ y, y = one3 b := ⟨_, rfl⟩
  rw [← hye] at hy hyn HO
  by_cases hm : 1 ≤ m ∧ m ≤ 6
  · have q4 : ¬ m < 1 := by omega
    have q5 : ¬ 6 < m := by omega
    obtain ⟨D, hD⟩ : ∃ D, D = widB y := ⟨_, rfl⟩
    have HWD : Hid (∀ W, Calls Tryz.prog 19 #[.float .f32 y] W fun e w' => e = .returned (.float .f64 D) ∧ Below W.heap.size W w') := fun W => by rw [hD]; exact s_widen y hy W
    have HNA : Hid (∀ W, Below w.heap.size w W → Calls Tryz.prog 18 #[.float .f64 D, .int .i64 m] W fun e w' => e = .returned (.tuple #[.float .f32 y, .agg #[.bool false, .bool false, .bool false], .int .i64 0]) ∧ Below W.heap.size W w') := fun W hW => by
      have := s_narrow (b := D) (by rw [hD]; exact wid_W hy) m W (htab.below hW)
      rw [hD, nar_wid hy hyn hm, ← hD] at this
      exact this
    obtain ⟨k, hk⟩ : ∃ k : Int, k = n.tmod 9007199254740993 := ⟨_, rfl⟩
    have hkb : k.natAbs ≤ 9007199254740992 := by
      rw [hk, Int.natAbs_tmod]
      have := Nat.mod_lt n.natAbs (show 0 < (9007199254740993 : Int).natAbs by decide)
      omega
    obtain ⟨i1, i2, i3, i4⟩ := int_back hkb hm
    obtain ⟨X, hX⟩ : ∃ X, X = sgW (decide (k < 0)) + natR k.natAbs := ⟨_, rfl⟩
    rw [← hX] at i1 i2 i3 i4
    have HFI : Hid (∀ W, Calls Tryz.prog 35 #[.int .i64 k, .int .i64 m] W fun e w' => e = .returned (.tuple #[.float .f64 X, .agg #[.bool false, .bool false, .bool false], .int .i64 0]) ∧ Below W.heap.size W w') := fun W => by
      have := s_fromint (n := k) (by omega) (by omega) m W
      rw [i1] at this; exact this
    have HTI : Hid (∀ W, Calls Tryz.prog 38 #[.float .f64 X, .int .i64 m] W fun e w' => e = .returned (.tuple #[.int .i64 k, .int .i64 0]) ∧ Below W.heap.size W w') := fun W => by
      have := s_toint i2 m W
      rw [i3, i4] at this; exact this
    obtain ⟨V, hV⟩ : ∃ V, V = whoA a m := ⟨_, rfl⟩
    obtain ⟨E, hE⟩ : ∃ E, E = whoX a m := ⟨_, rfl⟩
    have HW1 : Hid (∀ W, Calls Tryz.prog 39 #[.float .f64 a, .int .i64 m] W fun e w' => e = .returned (.tuple #[.float .f64 V, .int .i64 E]) ∧ Below W.heap.size W w') := fun W => by rw [hV, hE]; exact s_whole ha m W
    have HIS : Hid (∀ W x, Calls Tryz.prog 41 #[.float .f64 x, .int .u64 (x : Nat)] W fun e w' => e = .returned (.bool true) ∧ Below W.heap.size W w') := fun W x => by
      have := is4_v x x W; rw [decide_eq_true rfl] at this; exact this
    have HH : Hid (∀ W x, Calls Tryz.prog 30 #[.float .f32 x, .int .u32 (x : Nat)] W fun e w' => e = .returned (.bool true) ∧ Below W.heap.size W w') := fun W x => by
      have := has_v x x W; rw [decide_eq_true rfl] at this; exact this
    have hk' : n.tmod 9007199254740993 = k := hk.symm
    have hw2 : ∃ V2 E2, (∀ W, Calls Tryz.prog 39 #[.float .f64 V, .int .i64 m] W fun e w' => e = .returned (.tuple #[.float .f64 V2, .int .i64 E2]) ∧ Below W.heap.size W w') ∧ (E = 0 → V2 = V ∧ E2 = 0) := by
      refine ⟨whoA V m, whoX V m, fun W => s_whole (by rw [hV]; exact whoA_W ha m) m W, fun h => ?_⟩
      rw [hE] at h
      have := who_again hm h
      rw [← hV] at this
      exact ⟨this.2, this.1⟩
    obtain ⟨V2, E2, hw3, hw4⟩ := hw2
    have HW2 : Hid _ := hw3
    clear htab hye hy hyn hm hD hk hkb i1 i2 i3 i4 hX hV hE ha hb hw3
    go_enter Tryz.func7, Tryz.ntmps7
    go_wp2_with fail
    refine HW.out.mono ?_
    rintro e w1 ⟨rfl, hb⟩
    have HB : Hid (Below w.heap.size w w1) := hb
    clear hb
    go_wp2_with (go_at_call 37; refine (HO.out _).mono ?_; rintro e w' ⟨rfl, rfl⟩)
    refine (HWD.out _).mono ?_
    rintro e w2 ⟨rfl, hb⟩
    have HB : Hid (Below w.heap.size w w2) := HB.out.thru hb
    clear hb
    go_wp2_with fail
    refine (HNA.out _ HB.out).mono ?_
    rintro e w3 ⟨rfl, hb⟩
    have HK3 : Hid (Kept _ (w3.alloc (.cells #[.bool false, .bool false, .bool false] 35))) := (Kept.nil w3).push (.cells #[.bool false, .bool false, .bool false] 35 (0, 0))
    have HB : Hid (Below w.heap.size w (w3.alloc (.cells #[.bool false, .bool false, .bool false] 35))) := (HB.out.thru hb).alloc (HB.out.thru hb).size _
    clear hb
    obtain ⟨x0, x1, x2⟩ := flag_cells (HK3.out _ (.head _))
    go_wp2_with fail
    refine (HH.out _ _).mono ?_
    rintro e w4 ⟨rfl, hb⟩
    have HB : Hid (Below w.heap.size w w4) := HB.out.thru hb
    clear hb x0 x1 x2
    go_wp2_with fail
    refine (HFI.out _).mono ?_
    rintro e w5 ⟨rfl, hb⟩
    have HK5 : Hid (Kept _ (w5.alloc (.cells #[.bool false, .bool false, .bool false] 35))) := (Kept.nil w5).push (.cells #[.bool false, .bool false, .bool false] 35 (0, 0))
    have HB : Hid (Below w.heap.size w (w5.alloc (.cells #[.bool false, .bool false, .bool false] 35))) := (HB.out.thru hb).alloc (HB.out.thru hb).size _
    clear hb
    go_wp2_with fail
    refine (HTI.out _).mono ?_
    rintro e w6 ⟨rfl, hb⟩
    obtain ⟨x0, x1, x2⟩ := flag_cells ((HK5.out.below hb) _ (.head _))
    have HB : Hid (Below w.heap.size w w6) := HB.out.thru hb
    clear hb
    go_wp2_with fail
    refine (HW1.out _).mono ?_
    rintro e w7 ⟨rfl, hb⟩
    have HB : Hid (Below w.heap.size w w7) := HB.out.thru hb
    clear hb x0 x1 x2
    go_wp2_with fail
    refine (HW2.out _).mono ?_
    rintro e w8 ⟨rfl, hb⟩
    have HB : Hid (Below w.heap.size w w8) := HB.out.thru hb
    clear hb
    by_cases h0 : E = 0
    · obtain ⟨rfl, rfl⟩ := hw4 h0
      subst h0
      clear hw4
      go_wp2_with fail
      refine (HIS.out _ _).mono ?_
      rintro e w9 ⟨rfl, hb⟩
      go_wp2
      go_ret
      exact ⟨rfl, HB.out.thru hb⟩
    · have e0 : (E != 0) = true := by rw [bne_iff_ne]; exact h0
      clear hw4 h0
      go_wp2
      go_ret
      exact ⟨rfl, HB.out⟩
  · have hmm : m < 1 ∨ (¬ m < 1 ∧ 6 < m) := by omega
    clear htab hye hy hyn hm ha hb
    rcases hmm with h1 | ⟨h1, h2⟩
    all_goals
      go_enter Tryz.func7, Tryz.ntmps7
      go_wp2_with fail
      refine HW.out.mono ?_
      rintro e w1 ⟨rfl, hb⟩
      go_wp2_with (go_at_call 37; refine (HO.out _).mono ?_; rintro e w' ⟨rfl, rfl⟩)
      go_ret
      exact ⟨rfl, hb⟩
end Go.Proofs.YtgfbcncjboenbaaGreatDoor

/- Walks: the document's Narrow. -/
namespace Go.Proofs.YtgfbcncjboenbaaGreatDoor
open Go.RowKit
open Go.Lib hiding intOf

theorem thirty_to {b : Nat} (fb : finB b = true) (h0 : absB b ≠ 0) {m : Int} (hm : 1 ≤ m ∧ m ≤ 6) {W : World} {s t : Value} (hs : Num .u32 4294967296 W s (spM b)) (ht : Num .u32 4294967296 W t 1) :
    Calls Tryz.prog 119 #[.agg #[.bool (sgnB b), s, t, .int .i64 (spE b), .bool false], .agg #[.int .i64 24, .int .i64 (-149), .int .i64 127], .int .i64 m] W (FlQ (sgnB b) (narO b m) W) := by
  have hz : zeroB b = false := by unfold zeroB; exact decide_eq_false h0
  have hM := spM_zero b fb hz
  obtain ⟨k1, k2, k3⟩ := sp_bd b
  have hbb : spM b < 2 ^ 53 := by omega
  have := to24_rat m hm (sgnB b) _ (spM b) 1 (spE b) W ⟨_, _, rfl, hs, ht⟩ hbb (by decide) (by decide) (by omega) (by omega) (by omega) (by decide)
  have ho : outG 24 (-149) 104 (sgnB b) m (ratMag (spM b) 1 (spE b)) = narO b m := out_same fun f => by
    obtain ⟨a1, a2, a3⟩ := num_rat (spM b) (spE b) f
    exact ⟨a1.symm, a2.symm, a3.symm⟩
  rw [ho] at this
  exact this
set_option maxHeartbeats 4000000 in
set_option maxRecDepth 100000 in
theorem d_narrow {b : Nat} (hb : W64 b) (m : Int) (w : World) : Calls Tryz.prog 57 #[.int .u64 (b : Nat), .int .i64 m] w (RefQ .u32 (narA b m) w) := by
  obtain ⟨w1, hw1⟩ : ∃ W, W = w.alloc (.cells #[.bool false, .bool false, .bool false] 35) := ⟨_, rfl⟩
  have hb1 : Below w.heap.size w w1 := by rw [hw1]; exact (Below.refl _ _).alloc (Nat.le_refl _) _
  have q1 : w1.heap[w.heap.size]? = some (.cells #[.bool false, .bool false, .bool false] 35 (0, 0)) := by rw [hw1]; exact new_blk w _
  have HX : Hid (∀ W, Below w1.heap.size w1 W → W.heap[w.heap.size]? = some (.cells #[.bool false, .bool false, .bool false] 35 (0, 0)) ∧ Below w.heap.size w W) := fun W hW => ⟨hW.blk q1 (blk_lt q1), hb1.trans (hW.mono hb1.size)⟩
  have HBW : Hid (Below w.heap.size w w1) := hb1
  have HMO : Hid (∀ W, Calls Tryz.prog 107 #[.int .i64 m] W fun e w' => e = .returned (.bool (decide (1 ≤ m ∧ m ≤ 6))) ∧ W = w') := fun W => d_mode m W
  have HNN : Hid (∀ W, Calls Tryz.prog 58 #[.int .u64 (b : Nat)] W fun e w' => e = .returned (.bool (nanB b)) ∧ W = w') := fun W => ref_isnan b W hb
  have hW : W64 b := hb
  have hsh : (b : Int) / 9223372036854775808 = if sgnB b = true then 1 else 0 := by
    unfold W64 at hb; unfold sgnB
    by_cases h : 9223372036854775808 ≤ b
    · rw [decide_eq_true h, if_pos rfl]; omega
    · rw [decide_eq_false h, if_neg (by decide)]; omega
  have hsh2 : (((if sgnB b = true then 1 else 0 : Int)) * 2147483648) = ((sgS (sgnB b) : Nat) : Int) := by cases sgnB b <;> rfl
  have hai : (((absB b : Nat) : Int) == 9218868437227405312) = infB b := by unfold infB; rw [Bool.eq_iff_iff, beq_iff_eq, decide_eq_true_eq]; omega
  have hz9 : ((spM b : Int) == 0) = decide (spM b = 0) := by rw [Bool.eq_iff_iff, beq_iff_eq, decide_eq_true_eq]; omega
  have or1 := w3_or_inf (sgnB b)
  have HSP : Hid (∀ W, Calls Tryz.prog 115 #[.int .u64 (b : Nat)] W fun e w' => e = .returned (.tuple #[.bool (spS b), .int .u64 (spM b : Nat), .int .i64 (spE b), .int .i64 (spX b)]) ∧ W = w') := fun W => ref_split b W hb
  obtain ⟨R, hR⟩ : ∃ R, R = narA b m := ⟨_, rfl⟩
  rw [← hR]
  obtain ⟨f0, c0, f1, c1, f2, c2, r3⟩ := rw3 (HX.out w1 (Below.refl _ _)).1
  have HR3 : Hid _ := r3
  clear hb1 q1 r3 hb
  by_cases hm : 1 ≤ m ∧ m ≤ 6
  · rw [decide_eq_true hm] at HMO
    rcases kind_B b with ⟨h1, h2, h3⟩ | ⟨h1, h2, h3⟩ | ⟨h1, h2, h3, h4, h5⟩ | ⟨h1, h2, h3, h4, h5⟩
    · have HRN : Hid (R = ⟨2143289344, false, false, false, 0⟩) := by
        show _ = _
        rw [hR]; unfold narA; rw [if_neg (fun h => h hm), if_pos h1]
      rw [h1] at HNN
      clear hR h1 h2 h3 hm hsh hsh2 hai hz9
      go_enter Tryz.func57, Tryz.ntmps57
      go_upto_region 1 with fail
      rw [← hw1]
      clear hw1
      go_wp2_with (first | (go_at_call 107; refine (HMO.out _).mono ?_; rintro e w' ⟨rfl, rfl⟩) | (go_at_call 58; refine (HNN.out _).mono ?_; rintro e w' ⟨rfl, rfl⟩))
      exact ref_end (p := 4) (u := 5) (q := 6) rfl rfl rfl rfl (HR3.out _ _ _) (below_row3 HBW.out (Nat.le_refl _) _ _ _) (by rw [HRN.out]; exact ⟨rfl, rfl, rfl, rfl, rfl⟩)
    · have HRN : Hid (R = ⟨sgS (sgnB b) + 2139095040, false, false, false, 0⟩) := by
        show _ = _
        rw [hR]; unfold narA; rw [if_neg (fun h => h hm), h2, if_neg (by decide), if_pos h1]
      rw [h2] at HNN
      rw [h1] at hai
      generalize hsg : sgnB b = S at *
      clear hR h1 h2 h3 hm hz9 hsg
      cases S
      all_goals
       go_enter Tryz.func57, Tryz.ntmps57
       go_upto_region 1 with fail
       rw [← hw1]
       clear hw1
       go_wp2_with (first | (go_at_call 107; refine (HMO.out _).mono ?_; rintro e w' ⟨rfl, rfl⟩) | (go_at_call 58; refine (HNN.out _).mono ?_; rintro e w' ⟨rfl, rfl⟩))
       exact ref_end (p := 4) (u := 5) (q := 6) rfl rfl rfl rfl (HR3.out _ _ _) (below_row3 HBW.out (Nat.le_refl _) _ _ _) (by rw [HRN.out]; exact ⟨rfl, rfl, rfl, rfl, rfl⟩)
    · have HRN : Hid (R = ⟨sgS (sgnB b), false, false, false, 0⟩) := by
        show _ = _
        rw [hR]; unfold narA; rw [if_neg (fun h => h hm), h2, if_neg (by decide), h3, if_neg (by decide), if_pos h1]
      have hM := (spM_nought b h4).2 h1
      rw [decide_eq_true hM] at hz9
      rw [h2] at HNN
      rw [h3] at hai
      generalize hsg : sgnB b = S at *
      generalize spM b = M at *
      clear hR h1 h2 h3 h4 h5 hm hsg hM
      cases S
      all_goals
       go_enter Tryz.func57, Tryz.ntmps57
       go_upto_region 1 with fail
       rw [← hw1]
       clear hw1
       go_wp2_with (first | (go_at_call 107; refine (HMO.out _).mono ?_; rintro e w' ⟨rfl, rfl⟩) | (go_at_call 58; refine (HNN.out _).mono ?_; rintro e w' ⟨rfl, rfl⟩) | (go_at_call 115; refine (HSP.out _).mono ?_; rintro e w' ⟨rfl, rfl⟩))
       exact ref_end (p := 4) (u := 5) (q := 6) rfl rfl rfl rfl (HR3.out _ _ _) (below_row3 HBW.out (Nat.le_refl _) _ _ _) (by rw [HRN.out]; exact ⟨rfl, rfl, rfl, rfl, rfl⟩)
    · obtain ⟨o, ho⟩ : ∃ o, o = narO b m := ⟨_, rfl⟩
      obtain ⟨BB, hBB⟩ : ∃ x, x = bits32 (sgnB b) o := ⟨_, rfl⟩
      have HRB : Hid (R = ⟨BB, o.ine, o.ov, o.un, 0⟩) := by
        show _ = _
        rw [hR, hBB, ho]; unfold narA; rw [if_neg (fun h => h hm), h1, if_neg (by decide), h2, if_neg (by decide), h3, if_neg (by decide)]
      have HO : Hid (o = outG 24 (-149) 104 (sgnB b) m (numG (spM b) (spE b))) := ho
      have HBB : Hid (BB = bits32 (sgnB b) o) := hBB
      have hM : decide (spM b = 0) = false := decide_eq_false (fun h => by have := (spM_nought b h4).1 h; rw [h3] at this; cases this)
      rw [hM] at hz9
      rw [h1] at HNN
      rw [h2] at hai
      have hs := fin_sgn h4
      rw [hs] at HSP
      have hMW := sp_bd b
      have HOF : Hid (∀ W, Calls Tryz.prog 94 #[.int .u64 (spM b : Nat)] W (NatQ (spM b) W)) := fun W => of_any (spM b) W (by omega)
      have HO1 : Hid (∀ W, Calls Tryz.prog 94 #[.int .u64 1] W (NatQ 1 W)) := fun W => of_any 1 W (by decide)
      have HTO : Hid (∀ W s t, Num .u32 4294967296 W s (spM b) → Num .u32 4294967296 W t 1 → Calls Tryz.prog 119 #[.agg #[.bool (sgnB b), s, t, .int .i64 (spE b), .bool false], .agg #[.int .i64 24, .int .i64 (-149), .int .i64 127], .int .i64 m] W (FlQ (sgnB b) o W)) := fun W s t hs ht => by
        rw [ho]; exact thirty_to h4 h5 hm hs ht
      generalize hsg : sgnB b = S at *
      generalize spM b = M at *
      generalize spE b = E at *
      generalize spX b = X at *
      clear hR h1 h2 h3 h4 h5 hm ho hBB hM hs hMW hsg or1 HR3 HBW f0 c0 f1 c1 f2 c2 hsh hsh2
      go_enter Tryz.func57, Tryz.ntmps57
      go_upto_region 1 with fail
      rw [← hw1]
      clear hw1
      go_wp2_with (first | (go_at_call 107; refine (HMO.out _).mono ?_; rintro e w' ⟨rfl, rfl⟩) | (go_at_call 58; refine (HNN.out _).mono ?_; rintro e w' ⟨rfl, rfl⟩) | (go_at_call 115; refine (HSP.out _).mono ?_; rintro e w' ⟨rfl, rfl⟩))
      refine (HOF.out _).mono ?_
      rintro e w2 ⟨v2, rfl, hn2, hb2⟩
      obtain ⟨a2, m2, c2, rfl⟩ := Num.shape hn2
      have HB2 : Hid (Below w1.heap.size w1 w2) := hb2
      have HN2 : Hid _ := hn2
      clear hb2 hn2
      go_wp2_with fail
      refine (HO1.out _).mono ?_
      rintro e w3 ⟨v3, rfl, hn3, hb3⟩
      obtain ⟨a3, m3, c3, rfl⟩ := Num.shape hn3
      have HB3 : Hid (Below w1.heap.size w1 w3) := HB2.out.thru hb3
      have HN2' : Hid _ := Num.below HN2.out (Nat.le_refl _) hb3
      have HN3 : Hid _ := hn3
      clear hb3 hn3 HN2 HB2
      go_wp2_with fail
      refine (thirty_any _).mono ?_
      rintro e w4 ⟨rfl, hb4⟩
      have HB4 : Hid (Below w1.heap.size w1 w4) := HB3.out.thru hb4
      have HN2 : Hid (Num .u32 4294967296 w4 (.slice a2 m2 c2) M) := Num.below HN2'.out (Nat.le_refl _) hb4
      have HN4 : Hid (Num .u32 4294967296 w4 (.slice a3 m3 c3) 1) := Num.below HN3.out (Nat.le_refl _) hb4
      clear hb4 HN2' HN3 HB3
      go_wp2_with fail
      with_reducible refine (HTO.out _ _ _ HN2.out HN4.out).mono ?_
      rintro e w7 ⟨rfl, hb7⟩
      have HB7 : Hid (Below w1.heap.size w1 w7) := HB4.out.thru hb7
      clear hb7 HN2 HN4 HB4
      go_upto_region 14 with fail
      obtain ⟨w8, hw8⟩ : ∃ W, W = (w7.alloc (.cells #[.bool S, .bool o.inf, .int .u64 (o.m : Nat), .int .i64 o.e] 160)).alloc (.cells #[.bool o.ine, .bool o.ov, .bool o.un] 35) := ⟨_, rfl⟩
      have HB8 : Hid (Below w1.heap.size w1 w8) := by show Below _ _ _; rw [hw8]; exact (HB7.out.alloc HB7.out.size _).alloc (by have := HB7.out.size; simp; omega) _
      have HR0 : Hid (∀ W, Below w8.heap.size w8 W → W.heap[w7.heap.size]? = some (.cells #[.bool S, .bool o.inf, .int .u64 (o.m : Nat), .int .i64 o.e] 160 (0, 0)) ∧ W.heap[w7.heap.size + 1]? = some (.cells #[.bool o.ine, .bool o.ov, .bool o.un] 35 (0, 0))) := fun W hW => by
        have q0 : w8.heap[w7.heap.size]? = some (.cells #[.bool S, .bool o.inf, .int .u64 (o.m : Nat), .int .i64 o.e] 160 (0, 0)) := by rw [hw8]; exact heap_alloc2_old w7 _ _
        have q1 : w8.heap[w7.heap.size + 1]? = some (.cells #[.bool o.ine, .bool o.ov, .bool o.un] 35 (0, 0)) := by rw [hw8]; exact heap_alloc2_new w7 _ _
        exact ⟨hW.blk q0 (blk_lt q0), hW.blk q1 (blk_lt q1)⟩
      have HBT : Hid (∀ W, Calls Tryz.prog 114 #[.agg #[.bool S, .bool o.inf, .int .u64 (o.m : Nat), .int .i64 o.e]] W fun e w' => e = .returned (.int .u32 (BB : Nat)) ∧ Below W.heap.size W w') := fun W => by
        rw [HBB.out, HO.out]; exact bits32_out S m _ (numG_ok _ _) W
      rw [← hw8]
      clear hw8
      have h1 : once [(58, 0), (59, 1), (60, 2), (4, 3)] = true := by kernel_rfl
      have h2 : within [(58, 0), (59, 1), (60, 2), (4, 3)] 61 = true := by kernel_rfl
      refine wp_region_flow 4 6 [(58, 0), (59, 1), (60, 2), (4, 3)] [] (fun i v W => match i with
        | 0 => v = .agg #[.bool S, .bool o.inf, .int .u64 (o.m : Nat), .int .i64 o.e]
        | 1 => v = .int .u32 (BB : Nat)
        | 2 => v = .agg #[.bool o.ine, .bool o.ov, .bool o.un]
        | _ => v = .int .u32 (BB : Nat)) w8.heap.size (Nat.le_refl _) (by kernel_rfl) (by kernel_rfl) (by kernel_rfl) (by decide) (by kernel_rfl) h1 (by kernel_rfl) ?_ ?_ ?_ ?_
      · intro j v W W' h hb
        match j, h with
        | 0, h => exact h
        | 1, h => exact h
        | 2, h => exact h
        | _ + 3, h => exact h
      · exact fun j hj => by cases hj
      · refine ⟨⟨⟨⟨trivial, ?_⟩, ?_⟩, ?_⟩, ?_⟩
        · refine flow_step _ 58 rfl rfl (fun d h => by simpa using h) h1 h2 fun ac xs W he hb hS K hK => ?_
          exact wp_load_row 160 (.tmp 14) rfl w7.heap.size (he 14) _ _ _ _ ((HR0.out W hb).1) Tryz.underlying160 rfl (by kernel_rfl) (hK _ _ rfl (Below.refl _ _) (fun h => absurd h (by decide)))
        · refine flow_step _ 59 rfl rfl (fun d h => by simpa using h) h1 h2 fun ac xs W he hb hS K hK => ?_
          have e0 : ac.eval (.tmp 58) = _ := (he 58).trans (hS 0 (by kernel_rfl))
          refine op_call 114 _ _ rfl _ (by simp only [List.map, e0]) (by go_simp) (HBT.out W) ?_
          rintro e' W' ⟨rfl, hb'⟩
          exact ⟨_, rfl, hK _ _ (rfl) hb' (fun h => absurd h (by decide))⟩
        · refine flow_step _ 60 rfl rfl (fun d h => by simpa using h) h1 h2 fun ac xs W he hb hS K hK => ?_
          exact wp_load_row 35 (.tmp 15) rfl (w7.heap.size + 1) (he 15) _ _ _ _ ((HR0.out W hb).2) Tryz.underlying35 rfl (by kernel_rfl) (hK _ _ rfl (Below.refl _ _) (fun h => absurd h (by decide)))
        · refine flow_step _ 4 rfl rfl (fun d h => by simpa using h) h1 h2 fun ac xs W he hb hS K hK => ?_
          exact op_move (.tmp 59) (.inr rfl) (hK _ _ ((he 59).trans (hS 1 (by kernel_rfl))) (Below.refl _ _) (fun h => absurd h (by decide)))
      · intro xs WL hb hS hD
        have s0 : xs 0 = _ := hS 0 (by decide)
        have s1 : xs 1 = _ := hS 1 (by decide)
        have s2 : xs 2 = _ := hS 2 (by decide)
        have s3 : xs 3 = _ := hS 3 (by decide)
        have HBL : Hid (Below w1.heap.size w1 WL) := HB8.out.thru hb
        obtain ⟨f0, c0, f1, c1, f2, c2, r3⟩ := rw3 (HX.out _ HBL.out).1
        have HR3 : Hid _ := r3
        have HBW : Hid (Below w.heap.size w WL) := (HX.out _ HBL.out).2
        simp only [layAll, s0, s1, s2, s3, List.setIfInBounds_toArray, List.set_cons_succ, List.set_cons_zero]
        clear hS hD hb r3 s0 s1 s2 s3 h1 h2
        go_wp2
        exact ref_end (p := 4) (u := 5) (q := 6) rfl rfl rfl rfl (HR3.out _ _ _) (below_row3 HBW.out (Nat.le_refl _) _ _ _) (by rw [HRB.out]; exact ⟨rfl, rfl, rfl, rfl, rfl⟩)
  · have HRN : Hid (R = ⟨0, false, false, false, 1⟩) := by
      show _ = _
      rw [hR, narA_bad hm]; rfl
    rw [decide_eq_false hm] at HMO
    clear hR hm hsh hsh2 hai hz9
    go_enter Tryz.func57, Tryz.ntmps57
    go_upto_region 1 with fail
    rw [← hw1]
    clear hw1
    go_wp2_with (go_at_call 107; refine (HMO.out _).mono ?_; rintro e w' ⟨rfl, rfl⟩)
    exact ref_end (p := 4) (u := 5) (q := 6) rfl rfl rfl rfl (HR3.out _ _ _) (below_row3 HBW.out (Nat.le_refl _) _ _ _) (by rw [HRN.out]; exact ⟨rfl, rfl, rfl, rfl, rfl⟩)
end Go.Proofs.YtgfbcncjboenbaaGreatDoor

/- Walks: the law SingleKinds. -/
namespace Go.Proofs.YtgfbcncjboenbaaGreatDoor
open Go.RowKit
open Go.Lib hiding intOf

set_option maxHeartbeats 4000000 in
set_option maxRecDepth 100000 in
theorem singleKinds_walk (b a : Nat) (m : Int) (w : World) (hb : W32 b) (ha : W64 a) (_ : -9223372036854775808 ≤ m) (_ : m ≤ 9223372036854775807) (htab : Tab w) : Calls Tryz.prog 11 #[.int .u32 (b : Nat), .int .u64 (a : Nat), .int .i64 m] w fun e w' => e = .returned (.bool true) ∧ Below w.heap.size w w' := by
  have HW : Hid (Calls Tryz.prog 28 #[] w fun e w' => e = .returned (.bool true) ∧ Below w.heap.size w w') := awake4_v w htab
  obtain ⟨R, hR⟩ : ∃ R, R = narA a m := ⟨_, rfl⟩
  obtain ⟨y, hy⟩ : ∃ y, y = one3 b := ⟨_, rfl⟩
  obtain ⟨d, hd⟩ : ∃ d, d = widB b := ⟨_, rfl⟩
  obtain ⟨x, hx⟩ : ∃ x, x = nxt3 b := ⟨_, rfl⟩
  have H1 : Hid (∀ W, Calls Tryz.prog 52 #[] W fun e w' => e = .returned (.float .f32 2143289344) ∧ Below W.heap.size W w') := fun W => (s_nan W).mono fun e w' ⟨h1, h2⟩ => ⟨h1, by rw [← h2]; exact Below.refl _ _⟩
  have H2 : Hid (∀ W, Calls Tryz.prog 53 #[.int .u32 2139095041] W fun e w' => e = .returned (.int .u32 2143289344) ∧ Below W.heap.size W w') := fun W => (d_one 2139095041 (by unfold W32; decide) W).mono fun e w' ⟨h1, h2⟩ => ⟨h1.trans (by rw [show one3 2139095041 = 2143289344 by decide]; rfl), by rw [← h2]; exact Below.refl _ _⟩
  have H3 : Hid (∀ W, Calls Tryz.prog 37 #[.float .f32 b] W fun e w' => e = .returned (.float .f32 y) ∧ Below W.heap.size W w') := fun W => by rw [hy]; exact (s_one b W).mono fun e w' ⟨h1, h2⟩ => ⟨h1, by rw [← h2]; exact Below.refl _ _⟩
  have H4 : Hid (∀ W, Calls Tryz.prog 53 #[.int .u32 (b : Nat)] W fun e w' => e = .returned (.int .u32 (y : Nat)) ∧ Below W.heap.size W w') := fun W => by rw [hy]; exact (d_one b hb W).mono fun e w' ⟨h1, h2⟩ => ⟨h1, by rw [← h2]; exact Below.refl _ _⟩
  have H5 : Hid (∀ W, Calls Tryz.prog 19 #[.float .f32 b] W fun e w' => e = .returned (.float .f64 d) ∧ Below W.heap.size W w') := fun W => by rw [hd]; exact s_widen b hb W
  have H6 : Hid (∀ W, Calls Tryz.prog 54 #[.int .u32 (b : Nat)] W fun e w' => e = .returned (.int .u64 (d : Nat)) ∧ Below W.heap.size W w') := fun W => by rw [hd]; exact (d_widen b hb W).mono fun e w' ⟨h1, h2⟩ => ⟨h1, by rw [← h2]; exact Below.refl _ _⟩
  have H7 : Hid (∀ W, Calls Tryz.prog 55 #[.float .f32 b] W fun e w' => e = .returned (.float .f32 x) ∧ Below W.heap.size W w') := fun W => by rw [hx]; exact s_next b hb W
  have H8 : Hid (∀ W, Calls Tryz.prog 56 #[.int .u32 (b : Nat)] W fun e w' => e = .returned (.int .u32 (x : Nat)) ∧ Below W.heap.size W w') := fun W => by rw [hx]; exact (d_next b hb W).mono fun e w' ⟨h1, h2⟩ => ⟨h1, by rw [← h2]; exact Below.refl _ _⟩
  have H9 : Hid (∀ W, Below w.heap.size w W → Calls Tryz.prog 18 #[.float .f64 a, .int .i64 m] W (Ratio32Q R W)) := fun W hW => by rw [hR]; exact s_narrow ha m W (htab.below hW)
  have H0 : Hid (∀ W, Calls Tryz.prog 57 #[.int .u64 (a : Nat), .int .i64 m] W (RefQ .u32 R W)) := fun W => by rw [hR]; exact d_narrow ha m W
  have HH : Hid (∀ W x, Calls Tryz.prog 30 #[.float .f32 x, .int .u32 (x : Nat)] W fun e w' => e = .returned (.bool true) ∧ Below W.heap.size W w') := fun W x => by
    have := has_v x x W; rw [decide_eq_true rfl] at this; exact this
  have HH0 : Hid (∀ W, Calls Tryz.prog 30 #[.float .f32 2143289344, .int .u32 2143289344] W fun e w' => e = .returned (.bool true) ∧ Below W.heap.size W w') := fun W => HH.out W 2143289344
  have HI : Hid (∀ W x, Calls Tryz.prog 41 #[.float .f64 x, .int .u64 (x : Nat)] W fun e w' => e = .returned (.bool true) ∧ Below W.heap.size W w') := fun W x => by
    have := is4_v x x W; rw [decide_eq_true rfl] at this; exact this
  have e3 : ((R.err : Int) == R.err) = true := by simp
  clear htab hR hy hd hx ha hb
  have HBW : Hid (Below w.heap.size w w) := Below.refl _ _
  go_enter Tryz.func11, Tryz.ntmps11
  go_wp2_with (first
    | (go_at_call 28; refine HW.out.mono ?_; rintro e w' ⟨rfl, hb⟩; have HBW : Hid (Below w.heap.size w w') := hb; clear hb)
    | (go_at_call 52; ((with_reducible refine (H1.out _).mono ?_); rintro e w' ⟨rfl, hb⟩; have HBW : Hid (Below w.heap.size w w') := HBW.out.thru hb; clear hb))
    | (go_at_call 53; first | ((with_reducible refine (H2.out _).mono ?_); rintro e w' ⟨rfl, hb⟩; have HBW : Hid (Below w.heap.size w w') := HBW.out.thru hb; clear hb) | ((with_reducible refine (H4.out _).mono ?_); rintro e w' ⟨rfl, hb⟩; have HBW : Hid (Below w.heap.size w w') := HBW.out.thru hb; clear hb))
    | (go_at_call 37; ((with_reducible refine (H3.out _).mono ?_); rintro e w' ⟨rfl, hb⟩; have HBW : Hid (Below w.heap.size w w') := HBW.out.thru hb; clear hb))
    | (go_at_call 19; ((with_reducible refine (H5.out _).mono ?_); rintro e w' ⟨rfl, hb⟩; have HBW : Hid (Below w.heap.size w w') := HBW.out.thru hb; clear hb))
    | (go_at_call 54; ((with_reducible refine (H6.out _).mono ?_); rintro e w' ⟨rfl, hb⟩; have HBW : Hid (Below w.heap.size w w') := HBW.out.thru hb; clear hb))
    | (go_at_call 55; ((with_reducible refine (H7.out _).mono ?_); rintro e w' ⟨rfl, hb⟩; have HBW : Hid (Below w.heap.size w w') := HBW.out.thru hb; clear hb))
    | (go_at_call 56; ((with_reducible refine (H8.out _).mono ?_); rintro e w' ⟨rfl, hb⟩; have HBW : Hid (Below w.heap.size w w') := HBW.out.thru hb; clear hb))
    | (go_at_call 30; ((with_reducible refine (HH0.out _).mono ?_); rintro e w' ⟨rfl, hb⟩; have HBW : Hid (Below w.heap.size w w') := HBW.out.thru hb; clear hb))
    | (go_at_call 30; ((with_reducible refine (HH.out _ _).mono ?_); rintro e w' ⟨rfl, hb⟩; have HBW : Hid (Below w.heap.size w w') := HBW.out.thru hb; clear hb))
    | (go_at_call 41; ((with_reducible refine (HI.out _ _).mono ?_); rintro e w' ⟨rfl, hb⟩; have HBW : Hid (Below w.heap.size w w') := HBW.out.thru hb; clear hb)))
  refine (H9.out _ HBW.out).mono ?_
  rintro e v1 ⟨rfl, hb⟩
  have HK1 : Hid (Kept _ (v1.alloc (.cells #[.bool R.ine, .bool R.ov, .bool R.un] 35))) := (Kept.nil v1).push (.cells #[.bool R.ine, .bool R.ov, .bool R.un] 35 (0, 0))
  have HB1 : Hid (Below w.heap.size w (v1.alloc (.cells #[.bool R.ine, .bool R.ov, .bool R.un] 35))) := (HBW.out.thru hb).alloc (HBW.out.thru hb).size _
  clear hb HBW
  go_wp2_with fail
  refine (H0.out _).mono ?_
  rintro e v2 ⟨rfl, hb⟩
  have HK2 : Hid (Kept _ (v2.alloc (.cells #[.bool R.ine, .bool R.ov, .bool R.un] 35))) := (HK1.out.below hb).push (.cells #[.bool R.ine, .bool R.ov, .bool R.un] 35 (0, 0))
  have HB2 : Hid (Below w.heap.size w (v2.alloc (.cells #[.bool R.ine, .bool R.ov, .bool R.un] 35))) := (HB1.out.thru hb).alloc (HB1.out.thru hb).size _
  clear hb HB1 HK1
  go_wp2_with fail
  refine (HH.out _ _).mono ?_
  rintro e v3 ⟨rfl, hb⟩
  have HK3 : Hid (Kept _ v3) := HK2.out.below hb
  have HB3 : Hid (Below w.heap.size w v3) := HB2.out.thru hb
  clear hb HB2 HK2
  obtain ⟨p0, p1, p2⟩ := flag_cells (HK3.out _ (.head _))
  obtain ⟨q0, q1, q2⟩ := flag_cells (HK3.out _ (.tail _ (.head _)))
  go_wp2
  go_ret
  exact ⟨rfl, HB3.out⟩
end Go.Proofs.YtgfbcncjboenbaaGreatDoor
