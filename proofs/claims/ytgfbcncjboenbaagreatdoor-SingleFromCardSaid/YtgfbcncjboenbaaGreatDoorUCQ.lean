/- Parts Cq, Cr, Cs, Ct, Cu, Cw of the proof, in one text. -/
import Derived.Test.YtgfbcncjboenbaaGreatDoorUCL
import Derived.Test.YtgfbcncjboenbaaGreatDoorUTB
import Derived.Test.YtgfbcncjboenbaaGreatDoorUBY
import Derived.Test.YtgfbcncjboenbaaGreatDoorUMN

/- Walks: single's Whole. -/
namespace Go.Proofs.YtgfbcncjboenbaaGreatDoor
open Go.RowKit
open Go.Lib hiding intOf

theorem rv_unit {k : Nat} (hk : k = LP) : rv 52 4607182418800017408 = 2 ^ k ∧ rv 52 4611686018427387904 = 2 * 2 ^ k ∧ rv 52 4602678819172646912 * 2 = 2 ^ k := by
  have hk4 : k = 1074 := by rw [hk]; exact LP_eq
  clear hk
  obtain ⟨j, hj⟩ : ∃ j, k = j + 53 := ⟨1021, by omega⟩
  have h1 := rv_kq (j + 1) 4503599627370496 (by decide) (by decide)
  have h2 := rv_kq (j + 2) 4503599627370496 (by decide) (by decide)
  have h3 := rv_kq j 4503599627370496 (by decide) (by decide)
  rw [show (j + 1) * 4503599627370496 + 4503599627370496 = 4607182418800017408 by omega] at h1
  rw [show (j + 2) * 4503599627370496 + 4503599627370496 = 4611686018427387904 by omega] at h2
  rw [show j * 4503599627370496 + 4503599627370496 = 4602678819172646912 by omega] at h3
  rw [h1, h2, h3, hj, Nat.pow_add, Nat.pow_add, Nat.pow_add]
  refine ⟨?_, ?_, ?_⟩ <;> omega
theorem pos_cmp {r c : Nat} (hr : r < 9218868437227405312) (hc : c ≤ 9218868437227405312) : Ieee.double.order r c = some (compare r c) := by
  have e : absB r = r := by unfold absB; omega
  have n : nanB r = false := by unfold nanB; rw [e]; exact decide_eq_false (by omega)
  have := ord_abs r c hc n
  rwa [e] at this
theorem who_rv {a : Nat} (fa : finB a = true) {k : Nat} (hk : k = LP) (neg : Bool) (mode : Int) : whoN neg mode (spM a) (spE a) = kW neg mode (rv 52 (absB a) / 2 ^ k) (ncmp (rv 52 (absB a) % 2 ^ k * 2) (2 ^ k)) (decide (rv 52 (absB a) % 2 ^ k = 0)) := by
  have h1 := sp_val a fa
  have hE := (sp_bd a).1
  have hk4 : k = 1074 := by rw [hk]; exact LP_eq
  have hx : spM a * 2 ^ (spE a).toNat * 2 ^ k = rv 52 (absB a) * 2 ^ (-spE a).toNat := by
    rw [h1, Nat.mul_assoc, Nat.mul_assoc, ← Nat.pow_add, ← Nat.pow_add]; congr 2; omega
  unfold whoN whoQ whoR
  generalize spM a * 2 ^ (spE a).toNat = A at *
  generalize rv 52 (absB a) = B at *
  obtain ⟨a1, a2⟩ := cut_le (Nat.two_pow_pos (-spE a).toNat) (Nat.two_pow_pos k) (Nat.le_of_eq hx)
  obtain ⟨b1, b2⟩ := cut_le (Nat.two_pow_pos k) (Nat.two_pow_pos (-spE a).toNat) (Nat.le_of_eq hx.symm)
  have hq : A / 2 ^ (-spE a).toNat = B / 2 ^ k := by omega
  obtain ⟨a3, a4⟩ := a2 hq
  obtain ⟨b3, b4⟩ := b2 hq.symm
  have hz : decide (A % 2 ^ (-spE a).toNat = 0) = decide (B % 2 ^ k = 0) := by rw [decide_eq_decide]; exact ⟨b4, a4⟩
  rw [hq, hz, Int.le_antisymm a3 b3]
/-- What Whole reckons with: the whole part K, what is left r. -/
theorem who_facts {a : Nat} (fa : finB a = true) {k : Nat} (hk : k = LP) : natR (rv 52 (absB a) / 2 ^ k) < 9218868437227405312 ∧ rv 52 (natR (rv 52 (absB a) / 2 ^ k)) = rv 52 (absB a) / 2 ^ k * 2 ^ k ∧
    (rv 52 (absB a) % 2 ^ k ≠ 0 → rv 52 (absB a) / 2 ^ k < 4503599627370496) ∧ ∃ r, r < 9218868437227405312 ∧ rv 52 r = rv 52 (absB a) % 2 ^ k := by
  have hlt := finA_lt fa
  have h9 := Nat.div_add_mod (rv 52 (absB a)) (2 ^ k)
  have hlow : rv 52 (absB a) % 2 ^ k ≠ 0 → rv 52 (absB a) / 2 ^ k < 4503599627370496 := by
    intro h
    have h1 := sp_val a fa
    have hM := (sp_bd a).2.2
    have hk4 : k = 1074 := by rw [hk]; exact LP_eq
    have hE : spE a < 0 := by
      by_cases hE : spE a < 0
      · exact hE
      · exfalso; apply h
        rw [h1, show (spE a + 1074).toNat = (spE a).toNat + k by omega, Nat.pow_add, ← Nat.mul_assoc, Nat.mul_mod_left]
    rw [Nat.div_lt_iff_lt_mul (Nat.two_pow_pos _), h1]
    have h2 : 2 ^ (spE a + 1074).toNat * 2 ≤ 2 ^ k := by
      rw [← Nat.pow_succ]; exact Nat.pow_le_pow_right (by decide) (by omega)
    have hp := Nat.two_pow_pos k
    generalize 2 ^ (spE a + 1074).toNat = x at *
    generalize 2 ^ k = y at *
    calc spM a * x ≤ 9007199254740991 * x := Nat.mul_le_mul_right _ (by omega)
      _ < 4503599627370496 * y := by omega
  refine ⟨?_, ?_, hlow, ?_⟩
  · by_cases h : rv 52 (absB a) % 2 ^ k = 0
    · rw [natR_eq hlt (by rw [← hk]; rw [h, Nat.add_zero, Nat.mul_comm] at h9; exact h9.symm)]; exact hlt
    · have := (nat_rung (K := rv 52 (absB a) / 2 ^ k) (by have := hlow h; omega)).1; omega
  · by_cases h : rv 52 (absB a) % 2 ^ k = 0
    · have h8 : rv 52 (absB a) = rv 52 (absB a) / 2 ^ k * 2 ^ k := by rw [h, Nat.add_zero, Nat.mul_comm] at h9; exact h9.symm
      rw [natR_eq hlt (by rw [← hk]; exact h8)]; exact h8
    · have := (nat_rung (K := rv 52 (absB a) / 2 ^ k) (by have := hlow h; omega)).2
      rw [← hk] at this; exact this
  · obtain ⟨r, hr1, hr2⟩ := mod_ex 4607182418800017408 (by decide) (by decide) (absB a) (absB a) (Nat.le_refl _) hlt
    rw [(rv_unit hk).1] at hr2
    exact ⟨r, by omega, hr2⟩
theorem natR_succ {K : Nat} (h : K < 4503599627370496) : Go.floatBits .add .f64 (natR K) 4607182418800017408 = some (natR (K + 1)) := by
  obtain ⟨k, hk⟩ : ∃ k, k = LP := ⟨_, rfl⟩
  obtain ⟨n1, n2⟩ := nat_rung (K := K) (by omega)
  obtain ⟨n3, n4⟩ := nat_rung (K := K + 1) (by omega)
  rw [← hk] at n2 n4
  have f1 : finB (natR K) = true := by unfold finB absB; exact decide_eq_true (by omega)
  obtain ⟨R, g1, g2⟩ := add_D (natR K) 4607182418800017408 (by unfold W64; omega) (by unfold W64; decide) f1 (by decide)
  have v1 : valB (natR K) = ((K * 2 ^ k : Nat) : Int) := by rw [valB_small _ (by omega), n2]
  have v2 : valB 4607182418800017408 = ((2 ^ k : Nat) : Int) := by rw [valB_small _ (by decide), (rv_unit hk).1]
  have hp := Nat.two_pow_pos k
  have hs : valB (natR K) + valB 4607182418800017408 = (((K + 1) * 2 ^ k : Nat) : Int) := by rw [v1, v2, Nat.add_mul, Nat.one_mul, Int.natCast_add]
  have hpos : 0 < (K + 1) * 2 ^ k := Nat.mul_pos (by omega) hp
  rw [hs] at g1 g2
  have g1 : Near 52 ((K + 1) * 2 ^ k) 1 R := g1
  rw [← n4] at g1
  have h4 := Near.exact 52 (natR (K + 1)) 1 (by decide)
  rw [Nat.mul_one] at h4
  rw [Near.uniq (by decide) g1 h4] at g2
  rw [g2, if_neg (by omega), decide_eq_false (by omega), Nat.min_eq_left (by omega)]
  show some (0 + _) = _
  rw [Nat.zero_add]
theorem natR_odd {K : Nat} {r : Nat} {k : Nat} (hk : k = LP) (hr : r < 9218868437227405312) (h : rv 52 r = rv 52 (natR K) % rv 52 4611686018427387904) (hn : rv 52 (natR K) = K * 2 ^ k) : (Ieee.double.order r 4607182418800017408 == some Ordering.eq) = decide (K % 2 = 1) := by
  rw [pos_cmp hr (by decide), cmp_eq, decide_eq_decide]
  obtain ⟨u1, u2, -⟩ := rv_unit hk
  rw [hn, u2, Nat.mul_mod_mul_right] at h
  have hp := Nat.two_pow_pos k
  constructor
  · intro e
    rw [e, u1] at h
    rcases Nat.mod_two_eq_zero_or_one K with h0 | h0
    · rw [h0, Nat.zero_mul] at h; omega
    · exact h0
  · intro e
    rw [e, Nat.one_mul, ← u1] at h
    exact rv_inj h
/-- What Whole tells. -/
def whoA (a : Nat) (m : Int) : Nat := if ¬ (1 ≤ m ∧ m ≤ 6) then 0 else if nanB a = true then 0 else if infB a = true then a else whoB a m
def whoX (a : Nat) (m : Int) : Int := if ¬ (1 ≤ m ∧ m ≤ 6) then 1 else if nanB a = true then 10 else 0
set_option maxHeartbeats 4000000 in
set_option maxRecDepth 100000 in
theorem s_whole_fin {a : Nat} (ha : W64 a) (fa : finB a = true) {m : Int} (hm : 1 ≤ m ∧ m ≤ 6) (w : World) : Calls Tryz.prog 39 #[.float .f64 a, .int .i64 m] w fun e w' => e = .returned (.tuple #[.float .f64 (whoB a m), .int .i64 0]) ∧ Below w.heap.size w w' := by
  obtain ⟨k, hk⟩ : ∃ k, k = LP := ⟨_, rfl⟩
  obtain ⟨f1, f2, f3, r, f4, f5⟩ := who_facts fa hk
  have hN := who_rv fa hk (sgnB a) m
  obtain ⟨K, hK⟩ : ∃ K, K = rv 52 (absB a) / 2 ^ k := ⟨_, rfl⟩
  obtain ⟨t, ht⟩ : ∃ t, t = rv 52 (absB a) % 2 ^ k := ⟨_, rfl⟩
  have h9 := Nat.div_add_mod (rv 52 (absB a)) (2 ^ k)
  rw [← hK] at f1 f2 f3 hN h9
  rw [← ht] at f3 f5 hN h9
  obtain ⟨M, hM⟩ : ∃ M, M = natR K := ⟨_, rfl⟩
  rw [← hM] at f1 f2
  obtain ⟨S, hS⟩ : ∃ S, S = sgnB a := ⟨_, rfl⟩
  obtain ⟨A, hA⟩ : ∃ A, A = absB a := ⟨_, rfl⟩
  have hwA : W64 A := by rw [hA]; exact absB_W a
  have haA : absB A = A := by rw [hA]; exact absB_abs a
  have hsA : sgnB A = false := by rw [hA]; exact sgnB_abs a
  have hfA : finB A = true := by unfold finB; rw [haA, hA]; exact decide_eq_true (finA_lt fa)
  have HRI : Hid (∀ W, Calls Tryz.prog 73 #[.int .i64 m] W fun e w' => e = .returned (.bool true) ∧ W = w') := fun W => by
    have := s_right m W; rw [decide_eq_true hm] at this; exact this
  have HAB : Hid (∀ W, Calls Tryz.prog 23 #[.float .f64 a] W fun e w' => e = .returned (.float .f64 A) ∧ W = w') := fun W => by rw [hA]; exact abs_any a W ha
  have HTR : Hid (∀ W, Calls Tryz.prog 102 #[.float .f64 A] W fun e w' => e = .returned (.float .f64 M) ∧ w' = W) := fun W => by
    have := mtrunc_fin A W hwA hfA
    have hw : Ieee.double.write (.number (sgnB A) (whV A) 0) = M := by
      have hv : whV A = K := by unfold whV; rw [haA, hA, ← hk, ← hK]
      rw [hsA, hv, hM]; rfl
    rw [hw] at this; exact this
  have HNG : Hid (∀ W, Calls Tryz.prog 103 #[.float .f64 a] W fun e w' => e = .returned (.bool S) ∧ W = w') := fun W => by
    have := negative_any a W ha
    have hn : negB a = S := by unfold negB; rw [fin_nan fa, hS]; simp
    rw [hn] at this; exact this
  have HCL : Hid (∀ W, Calls Tryz.prog 22 #[.float .f64 a] W fun e w' => e = .returned (.int .i64 (clsB a)) ∧ W = w') := fun W => class_any a W ha
  have hc : clsB a = 3 ∨ clsB a = 4 ∨ clsB a = 5 := by
    have hi : infB a = false := by have := finA_lt fa; unfold infB; exact decide_eq_false (by omega)
    unfold clsB; rw [fin_nan fa, hi]; cases zeroB a <;> cases lowB a <;> simp
  obtain ⟨c, hcc⟩ : ∃ c, c = clsB a := ⟨_, rfl⟩
  rw [← hcc] at HCL hc
  have hc1 : (c == 1) = false ∧ (c == 2) = false := by rcases hc with h | h | h <;> rw [h] <;> exact ⟨rfl, rfl⟩
  obtain ⟨q1, q2⟩ := hc1
  have hsub : Go.floatBits .sub .f64 A M = some r := by
    refine sub_pos A M r (by rw [hA]; exact finA_lt fa) f1 ?_
    rw [f5, f2, hA, ← h9, Nat.mul_comm K]; omega
  have k1 := fun W => run_float_arith (P := Tryz.prog) W .sub 23 .f64 A M _ hsub
  have HCP : Hid (∀ W x, x < 9218868437227405312 → Calls Tryz.prog 106 #[.float .f64 x, .float .f64 13830554455654793216] W fun e w' => e = .returned (.float .f64 (sgW true + x)) ∧ W = w') := fun W x hx => by
    have := copysign_any x 13830554455654793216 W (by unfold W64; omega) (by unfold W64; decide)
    have h1 : absB x = x := by unfold absB; omega
    have h2 : sgnW 13830554455654793216 = sgW true := by decide
    rw [h1, h2] at this; exact this
  have o1 : (Ieee.double.order r 0 == some Ordering.gt) = decide (t ≠ 0) := by
    rw [pos_cmp f4 (by decide), cmp_gt, decide_eq_decide]
    constructor
    · intro h h0
      rw [h0, ← rv_zero 52] at f5
      have := rv_inj f5; omega
    · intro h
      rcases Nat.eq_zero_or_pos r with h0 | h0
      · rw [h0, rv_zero] at f5; exact absurd f5.symm h
      · exact h0
  obtain ⟨-, -, u3⟩ := rv_unit hk
  have o2 : (Ieee.double.order r 4602678819172646912 == some Ordering.gt) = decide (2 ^ k < t * 2) := by
    rw [pos_cmp f4 (by decide), cmp_gt, decide_eq_decide, ← rv_lt_iff (p := 52), f5]; omega
  have o3 : (Ieee.double.order r 4602678819172646912 == some Ordering.lt) = decide (t * 2 < 2 ^ k) := by
    rw [pos_cmp f4 (by decide), cmp_lt, decide_eq_decide, ← rv_lt_iff (p := 52), f5]; omega
  have hwho : whoB a m = sgW S + natR (kW S m K (ncmp (t * 2) (2 ^ k)) (decide (t = 0))) := by unfold whoB; rw [hN, ← hS]
  rw [hwho]
  have o1 : (Go.FloatKind.f64.format.order r 0 == some Ordering.gt) = decide (t ≠ 0) := o1
  have o2 : (Go.FloatKind.f64.format.order r 4602678819172646912 == some Ordering.gt) = decide (2 ^ k < t * 2) := o2
  have o3 : (Go.FloatKind.f64.format.order r 4602678819172646912 == some Ordering.lt) = decide (t * 2 < 2 ^ k) := o3
  by_cases h0 : t = 0
  · have hr : kW S m K (ncmp (t * 2) (2 ^ k)) (decide (t = 0)) = K := by unfold kW; rw [decide_eq_true h0]; simp
    rw [hr, ← hM]
    rw [decide_eq_false (by omega)] at o1
    have HF1 : Hid (M < 9218868437227405312) := f1
    clear hk f1 f2 f3 f4 f5 hN hK ht h9 hM hS hA hwA haA hsA hfA hc hcc hsub o2 o3 u3 hwho h0 hr hm
    have hz : sgW false + M = M := Nat.zero_add _
    cases S <;> (try rw [hz]) <;> clear hz
    all_goals
      go_enter Tryz.func39, Tryz.ntmps39
      go_wp2_with (first | (go_at_call 73; refine (HRI.out _).mono ?_; rintro e w' ⟨rfl, rfl⟩) | (go_at_call 22; refine (HCL.out _).mono ?_; rintro e w' ⟨rfl, rfl⟩) | (go_at_call 23; refine (HAB.out _).mono ?_; rintro e w' ⟨rfl, rfl⟩) | (go_at_call 102; refine (HTR.out _).mono ?_; rintro e w' ⟨rfl, rfl⟩) | (go_at_call 103; refine (HNG.out _).mono ?_; rintro e w' ⟨rfl, rfl⟩) | (go_at_call 106; refine (HCP.out _ _ HF1.out).mono ?_; rintro e w' ⟨rfl, rfl⟩))
      go_ret2
      exact ⟨rfl, Below.refl _ _⟩
  · have hK52 := f3 h0
    rw [decide_eq_true h0] at o1
    obtain ⟨h, hh⟩ : ∃ h, h = ncmp (t * 2) (2 ^ k) := ⟨_, rfl⟩
    obtain ⟨d, hd⟩ : ∃ d, d = decide (K % 2 = 1) := ⟨_, rfl⟩
    obtain ⟨u, hu⟩ : ∃ u, u = upW m S d h := ⟨_, rfl⟩
    have hMf : finB M = true := by unfold finB absB; exact decide_eq_true (by omega)
    have hMs : sgnB M = false := by unfold sgnB; exact decide_eq_false (by omega)
    have hMa : absB M = M := by unfold absB; omega
    obtain ⟨r2, p1, p2, p3⟩ := mmod_any M 4611686018427387904 (by unfold W64; omega) (by unfold W64; decide) hMf (by decide) (by decide)
    rw [hMa, hM, show absB 4611686018427387904 = 4611686018427387904 by decide] at p2
    have o4 := natR_odd hk p1 p2 (by rw [← hM]; exact f2)
    have o4 : (Go.FloatKind.f64.format.order r2 4607182418800017408 == some Ordering.eq) = d := by rw [hd]; exact o4
    have HMO : Hid (∀ W, Calls Tryz.prog 105 #[.float .f64 M, .float .f64 4611686018427387904] W fun e w' => e = .returned (.float .f64 r2) ∧ W = w') := fun W => by
      have := p3 W
      rw [hMs] at this
      have hz : sgW false + r2 = r2 := Nat.zero_add _
      rw [hz] at this; exact this
    have HAW : Hid (∀ W, Calls Tryz.prog 104 #[.int .i64 m, .bool S, .bool d, .int .i64 h] W fun e w' => e = .returned (.bool u) ∧ W = w') := fun W => by rw [hu]; exact s_away m S d h W
    have hsuc := natR_succ hK52
    rw [← hM] at hsuc
    have k2 := fun W => run_float_arith (P := Tryz.prog) W .add 23 .f64 M 4607182418800017408 _ hsuc
    obtain ⟨N, hN2⟩ : ∃ N, N = natR (K + 1) := ⟨_, rfl⟩
    rw [← hN2] at k2
    have hNlt : N < 9218868437227405312 := by rw [hN2]; have := (nat_rung (K := K + 1) (by omega)).1; omega
    have hr : natR (kW S m K (ncmp (t * 2) (2 ^ k)) (decide (t = 0))) = if u = true then N else M := by
      rw [← hh, decide_eq_false h0]
      unfold kW
      rw [← hd, ← hu]
      cases u
      · rw [if_neg (by decide), if_neg (by decide), hM]
      · rw [if_pos (by rfl), if_pos rfl, hN2]
    rw [hr]
    have HF1 : Hid (M < 9218868437227405312 ∧ N < 9218868437227405312) := ⟨f1, hNlt⟩
    have hhc : (t * 2 < 2 ^ k ∧ h = -1) ∨ (2 ^ k < t * 2 ∧ h = 1) ∨ (¬ t * 2 < 2 ^ k ∧ ¬ 2 ^ k < t * 2 ∧ h = 0) := by
      rw [hh]; unfold ncmp
      by_cases g1 : t * 2 < 2 ^ k
      · exact .inl ⟨g1, if_pos g1⟩
      · by_cases g2 : 2 ^ k < t * 2
        · exact .inr (.inl ⟨g2, by rw [if_neg g1, if_pos g2]⟩)
        · exact .inr (.inr ⟨g1, g2, by rw [if_neg g1, if_neg g2]⟩)
    have hoo : ((Go.FloatKind.f64.format.order r 4602678819172646912 == some Ordering.gt) = false ∧ (Go.FloatKind.f64.format.order r 4602678819172646912 == some Ordering.lt) = true ∧ h = -1) ∨ ((Go.FloatKind.f64.format.order r 4602678819172646912 == some Ordering.gt) = true ∧ h = 1) ∨ ((Go.FloatKind.f64.format.order r 4602678819172646912 == some Ordering.gt) = false ∧ (Go.FloatKind.f64.format.order r 4602678819172646912 == some Ordering.lt) = false ∧ h = 0) := by
      rw [o2, o3]
      rcases hhc with ⟨g1, g2⟩ | ⟨g1, g2⟩ | ⟨g1, g2, g3⟩
      · exact .inl ⟨decide_eq_false (by omega), decide_eq_true g1, g2⟩
      · exact .inr (.inl ⟨decide_eq_true g1, g2⟩)
      · exact .inr (.inr ⟨decide_eq_false g2, decide_eq_false g1, g3⟩)
    clear hk f1 f2 f3 f4 f5 hN hK ht h9 hM hS hA hwA haA hsA hfA hc hcc hsub o2 o3 u3 hwho h0 hr hm hK52 hd hu hh hMf hMs hMa p1 p2 p3 hsuc hN2 hNlt hhc
    rcases hoo with ⟨o5, o6, rfl⟩ | ⟨o5, rfl⟩ | ⟨o5, o6, rfl⟩ <;> cases u <;> cases S
    all_goals
      simp only [Bool.false_eq_true, if_false, if_true]
      (try rw [show sgW false + M = M from Nat.zero_add _])
      (try rw [show sgW false + N = N from Nat.zero_add _])
      go_enter Tryz.func39, Tryz.ntmps39
      go_wp2_with (first | (go_at_call 73; refine (HRI.out _).mono ?_; rintro e w' ⟨rfl, rfl⟩) | (go_at_call 22; refine (HCL.out _).mono ?_; rintro e w' ⟨rfl, rfl⟩) | (go_at_call 23; refine (HAB.out _).mono ?_; rintro e w' ⟨rfl, rfl⟩) | (go_at_call 102; refine (HTR.out _).mono ?_; rintro e w' ⟨rfl, rfl⟩) | (go_at_call 103; refine (HNG.out _).mono ?_; rintro e w' ⟨rfl, rfl⟩) | (go_at_call 105; refine (HMO.out _).mono ?_; rintro e w' ⟨rfl, rfl⟩) | (go_at_call 104; refine (HAW.out _).mono ?_; rintro e w' ⟨rfl, rfl⟩) | (go_at_call 106; first | (with_reducible refine (HCP.out _ _ HF1.out.1).mono ?_; rintro e w' ⟨rfl, rfl⟩) | (with_reducible refine (HCP.out _ _ HF1.out.2).mono ?_; rintro e w' ⟨rfl, rfl⟩)))
      go_ret2
      exact ⟨rfl, Below.refl _ _⟩
end Go.Proofs.YtgfbcncjboenbaaGreatDoor

/- Walks: single's Whole of anything, ToInt, ToUint. -/
namespace Go.Proofs.YtgfbcncjboenbaaGreatDoor
open Go.RowKit
open Go.Lib hiding intOf

theorem who_bad {a : Nat} {m : Int} (h : ¬ (1 ≤ m ∧ m ≤ 6)) : whoA a m = 0 ∧ whoX a m = 1 := ⟨if_pos h, if_pos h⟩
theorem who_nan {a : Nat} {m : Int} (h : 1 ≤ m ∧ m ≤ 6) (n : nanB a = true) : whoA a m = 0 ∧ whoX a m = 10 := by
  unfold whoA whoX
  exact ⟨(if_neg (fun g => g h)).trans (if_pos n), (if_neg (fun g => g h)).trans (if_pos n)⟩
theorem who_inf {a : Nat} {m : Int} (h : 1 ≤ m ∧ m ≤ 6) (n : nanB a = false) (i : infB a = true) : whoA a m = a ∧ whoX a m = 0 := by
  unfold whoA whoX
  exact ⟨(if_neg (fun g => g h)).trans ((if_neg (by rw [n]; decide)).trans (if_pos i)), (if_neg (fun g => g h)).trans (if_neg (by rw [n]; decide))⟩
theorem who_fin {a : Nat} {m : Int} (h : 1 ≤ m ∧ m ≤ 6) (n : nanB a = false) (i : infB a = false) : whoA a m = whoB a m ∧ whoX a m = 0 := by
  unfold whoA whoX
  exact ⟨(if_neg (fun g => g h)).trans ((if_neg (by rw [n]; decide)).trans (if_neg (by rw [i]; decide))), (if_neg (fun g => g h)).trans (if_neg (by rw [n]; decide))⟩
set_option maxRecDepth 100000 in
theorem s_whole {a : Nat} (ha : W64 a) (m : Int) (w : World) : Calls Tryz.prog 39 #[.float .f64 a, .int .i64 m] w fun e w' => e = .returned (.tuple #[.float .f64 (whoA a m), .int .i64 (whoX a m)]) ∧ Below w.heap.size w w' := by
  by_cases hm : 1 ≤ m ∧ m ≤ 6
  · have HRI : Hid (∀ W, Calls Tryz.prog 73 #[.int .i64 m] W fun e w' => e = .returned (.bool true) ∧ W = w') := fun W => by
      have := s_right m W; rw [decide_eq_true hm] at this; exact this
    have HCL : Hid (∀ W, Calls Tryz.prog 22 #[.float .f64 a] W fun e w' => e = .returned (.int .i64 (clsB a)) ∧ W = w') := fun W => class_any a W ha
    cases n : nanB a
    · cases i : infB a
      · have fa : finB a = true := by rw [finB_eq, n, i]; rfl
        rw [(who_fin hm n i).1, (who_fin hm n i).2]
        exact s_whole_fin ha fa hm w
      · have hc : clsB a = 2 := by unfold clsB; rw [n, if_neg (by decide), if_pos i]
        rw [hc] at HCL
        rw [(who_inf hm n i).1, (who_inf hm n i).2]
        clear hc
        go_enter Tryz.func39, Tryz.ntmps39
        go_wp2_with (first | (go_at_call 73; refine (HRI.out _).mono ?_; rintro e w' ⟨rfl, rfl⟩) | (go_at_call 22; refine (HCL.out _).mono ?_; rintro e w' ⟨rfl, rfl⟩))
        go_ret2
        exact ⟨rfl, Below.refl _ _⟩
    · have hc : clsB a = 1 := by unfold clsB; rw [if_pos n]
      rw [hc] at HCL
      rw [(who_nan hm n).1, (who_nan hm n).2]
      clear hc
      go_enter Tryz.func39, Tryz.ntmps39
      go_wp2_with (first | (go_at_call 73; refine (HRI.out _).mono ?_; rintro e w' ⟨rfl, rfl⟩) | (go_at_call 22; refine (HCL.out _).mono ?_; rintro e w' ⟨rfl, rfl⟩))
      go_ret2
      exact ⟨rfl, Below.refl _ _⟩
  · rw [(who_bad hm).1, (who_bad hm).2]
    have HRI : Hid (∀ W, Calls Tryz.prog 73 #[.int .i64 m] W fun e w' => e = .returned (.bool false) ∧ W = w') := fun W => by
      have := s_right m W; rw [decide_eq_false hm] at this; exact this
    go_enter Tryz.func39, Tryz.ntmps39
    go_wp2_with (refine (HRI.out _).mono ?_; rintro e w' ⟨rfl, rfl⟩)
    go_ret2
    exact ⟨rfl, Below.refl _ _⟩
theorem who_rung {a : Nat} (fa : finB a = true) {k : Nat} (hk : k = LP) (neg : Bool) (m : Int) : natR (whoN neg m (spM a) (spE a)) < 9218868437227405312 ∧ rv 52 (natR (whoN neg m (spM a) (spE a))) = whoN neg m (spM a) (spE a) * 2 ^ k := by
  by_cases h : 0 ≤ spE a
  · rw [who_up h]
    have h1 := sp_val a fa
    have hv : rv 52 (absB a) = spM a * 2 ^ (spE a).toNat * 2 ^ LP := by rw [h1, LP_eq, show (spE a + 1074).toNat = (spE a).toNat + 1074 by omega, Nat.pow_add, Nat.mul_assoc]
    rw [natR_eq (finA_lt fa) hv, hk]
    exact ⟨finA_lt fa, hv⟩
  · have h2 := who_bd (neg := neg) (mode := m) (show spE a < 0 by omega) (sp_bd a).2.2
    obtain ⟨n1, n2⟩ := nat_rung (K := whoN neg m (spM a) (spE a)) (by omega)
    rw [hk]
    exact ⟨by omega, n2⟩
theorem who_word {a : Nat} (fa : finB a = true) (m : Int) {K R : Nat} (hK : K = whoN (sgnB a) m (spM a) (spE a)) (hR : R = natR K) : whoB a m = sgW (sgnB a) + R ∧ R < 9218868437227405312 ∧ rv 52 R = K * 2 ^ LP ∧ W64 (sgW (sgnB a) + R) ∧ nanB (sgW (sgnB a) + R) = false ∧ finB (sgW (sgnB a) + R) = true ∧ absB (sgW (sgnB a) + R) = R ∧ sgnB (sgW (sgnB a) + R) = sgnB a ∧ valB (sgW (sgnB a) + R) = sg (sgnB a) K * 2 ^ LP := by
  obtain ⟨h1, h2⟩ := who_rung fa rfl (sgnB a) m
  rw [← hK, ← hR] at h1 h2
  have e1 := bits_abs (sgnB a) (show R < 9223372036854775808 by omega)
  have e2 := bits_sgn (sgnB a) (show R < 9223372036854775808 by omega)
  have e3 : finB (sgW (sgnB a) + R) = true := by unfold finB; rw [e1]; exact decide_eq_true h1
  refine ⟨by unfold whoB; rw [← hK, hR], h1, h2, bits_W _ (by omega), fin_nan e3, e3, e1, e2, ?_⟩
  rw [val_sgn, e2, e1, h2, sg_mul, Int.natCast_pow]; rfl
theorem val_63 {k : Nat} (hk : k = LP) : rv 52 4890909195324358656 = 9223372036854775808 * 2 ^ k ∧ rv 52 4895412794951729152 = 18446744073709551616 * 2 ^ k := by
  have hk4 : k = 1074 := by rw [hk]; exact LP_eq
  clear hk
  have h1 := rv_kq (k + 11) 4503599627370496 (by decide) (by decide)
  have h2 := rv_kq (k + 12) 4503599627370496 (by decide) (by decide)
  rw [show (k + 11) * 4503599627370496 + 4503599627370496 = 4890909195324358656 by omega] at h1
  rw [show (k + 12) * 4503599627370496 + 4503599627370496 = 4895412794951729152 by omega] at h2
  rw [h1, h2, Nat.pow_add, Nat.pow_add]
  constructor <;> omega
theorem sc_lt (x y : Int) (k : Nat) : (x * 2 ^ k < y * 2 ^ k ↔ x < y) ∧ (x * 2 ^ k = y * 2 ^ k ↔ x = y) := by
  have hp : (0 : Int) < 2 ^ k := Int.pow_pos (by decide)
  exact ⟨⟨fun h => Int.lt_of_mul_lt_mul_right h (Int.le_of_lt hp), fun h => Int.mul_lt_mul_of_pos_right h hp⟩, ⟨fun h => Int.eq_of_mul_eq_mul_right (by omega) h, fun h => by rw [h]⟩⟩
/-- A whole number's float against another. -/
theorem ord_whole {x y : Nat} {X Y : Int} (hx : W64 x) (hy : W64 y) (nx : nanB x = false) (ny : nanB y = false) (vx : valB x = X * 2 ^ LP) (vy : valB y = Y * 2 ^ LP) :
    (Go.FloatKind.f64.format.order x y == some .lt) = decide (X < Y) ∧ (Go.FloatKind.f64.format.order x y == some .gt || Go.FloatKind.f64.format.order x y == some .eq) = decide (Y ≤ X) := by
  rw [ord_val hx hy nx ny, ord_val hx hy nx ny, ord_val hx hy nx ny, vx, vy]
  obtain ⟨a1, a2⟩ := sc_lt X Y LP
  obtain ⟨b1, -⟩ := sc_lt Y X LP
  rcases Int.lt_trichotomy X Y with h | h | h
  · rw [Int.compare_eq_lt.2 (a1.2 h)]
    exact ⟨by rw [decide_eq_true h]; rfl, by rw [decide_eq_false (by omega)]; rfl⟩
  · rw [h, show compare (Y * 2 ^ LP) (Y * 2 ^ LP) = .eq by simp]
    exact ⟨by rw [decide_eq_false (by omega)]; rfl, by rw [decide_eq_true (by omega)]; rfl⟩
  · rw [Int.compare_eq_gt.2 (b1.2 h)]
    exact ⟨by rw [decide_eq_false (by omega)]; rfl, by rw [decide_eq_true (by omega)]; rfl⟩
theorem to_int_val {x : Nat} {s : Bool} {K : Nat} (hx : W64 x) (fx : finB x = true) (hs : sgnB x = s) (hv : rv 52 (absB x) = K * 2 ^ LP) (k : IntKind) (h1 : k.min ≤ sg s K) (h2 : sg s K ≤ k.max) : Go.floatToIntVal .f64 x k = some (sg s K) := by
  have hw : whV x = K := by unfold whV; rw [hv, Nat.mul_div_cancel _ (Nat.two_pow_pos _)]
  have h3 := cut_read x hx fx
  rw [hs, hw] at h3
  unfold Go.floatToIntVal
  have e1 : (FloatKind.f64.decode x).toInt .zero = some (sg s K) := by
    show (match (Ieee.double.read x).integral .zero with | .number s m _ => some (Ieee.signed s m 0) | _ => none) = _
    rw [h3]
    cases s <;> rfl
  rw [e1]
  dsimp only
  rw [if_pos ⟨h1, h2⟩]
/-- What ToInt, ToUint tell. -/
def toiN (a : Nat) (m : Int) : Int := sg (sgnB a) (whoN (sgnB a) m (spM a) (spE a))
def toiA (a : Nat) (m : Int) : Int := if whoX a m = 0 ∧ infB a = false ∧ -9223372036854775808 ≤ toiN a m ∧ toiN a m < 9223372036854775808 then toiN a m else 0
def toiX (a : Nat) (m : Int) : Int := if whoX a m ≠ 0 then whoX a m else if infB a = false ∧ -9223372036854775808 ≤ toiN a m ∧ toiN a m < 9223372036854775808 then 0 else 11
def touA (a : Nat) (m : Int) : Int := if whoX a m = 0 ∧ infB a = false ∧ 0 ≤ toiN a m ∧ toiN a m < 18446744073709551616 then toiN a m else 0
def touX (a : Nat) (m : Int) : Int := if whoX a m ≠ 0 then whoX a m else if infB a = false ∧ 0 ≤ toiN a m ∧ toiN a m < 18446744073709551616 then 0 else 11
set_option maxHeartbeats 1000000 in
set_option maxRecDepth 100000 in
theorem s_toint {a : Nat} (ha : W64 a) (m : Int) (w : World) : Calls Tryz.prog 38 #[.float .f64 a, .int .i64 m] w fun e w' => e = .returned (.tuple #[.int .i64 (toiA a m), .int .i64 (toiX a m)]) ∧ Below w.heap.size w w' := by
  have HW : Hid (Calls Tryz.prog 39 #[.float .f64 a, .int .i64 m] w fun e w' => e = .returned (.tuple #[.float .f64 (whoA a m), .int .i64 (whoX a m)]) ∧ Below w.heap.size w w') := s_whole ha m w
  obtain ⟨W0, hW0⟩ : ∃ W0, W0 = whoA a m := ⟨_, rfl⟩
  obtain ⟨X, hX⟩ : ∃ X, X = whoX a m := ⟨_, rfl⟩
  rw [← hW0, ← hX] at HW
  by_cases h0 : X = 0
  · have q1 : (X != 0) = false := by rw [h0]; rfl
    have hm : (1 ≤ m ∧ m ≤ 6) ∧ nanB a = false := by
      by_cases hm : 1 ≤ m ∧ m ≤ 6
      · refine ⟨hm, ?_⟩
        cases n : nanB a
        · rfl
        · rw [hX, (who_nan hm n).2] at h0; cases h0
      · rw [hX, (who_bad hm).2] at h0; cases h0
    cases i : infB a
    · have fa : finB a = true := by rw [finB_eq, hm.2, i]; rfl
      obtain ⟨v1, v2, v3, v4, v5, v6, v7, v8, v9⟩ := who_word fa m rfl rfl
      have hB : W0 = sgW (sgnB a) + natR (whoN (sgnB a) m (spM a) (spE a)) := by rw [hW0, (who_fin hm.1 hm.2 i).1, v1]
      rw [← hB] at v4 v5 v6 v7 v8 v9
      obtain ⟨c1, -⟩ := ord_whole (X := toiN a m) (Y := -9223372036854775808) v4 (by unfold W64; decide : W64 14114281232179134464) v5 (by decide) v9 (by
        have h := (val_63 rfl).1
        show sg (sgnB 14114281232179134464) (rv 52 (absB 14114281232179134464)) = _
        rw [show sgnB 14114281232179134464 = true by decide, show absB 14114281232179134464 = 4890909195324358656 by decide, h, sg_mul, Int.natCast_pow]; rfl)
      obtain ⟨-, c2⟩ := ord_whole (X := toiN a m) (Y := 9223372036854775808) v4 (by unfold W64; decide : W64 4890909195324358656) v5 (by decide) v9 (by
        have h := (val_63 rfl).1
        show sg (sgnB 4890909195324358656) (rv 52 (absB 4890909195324358656)) = _
        rw [show sgnB 4890909195324358656 = false by decide, show absB 4890909195324358656 = 4890909195324358656 by decide, h, sg_mul, Int.natCast_pow]; rfl)
      by_cases hr : -9223372036854775808 ≤ toiN a m ∧ toiN a m < 9223372036854775808
      · rw [decide_eq_false (by omega)] at c1
        rw [decide_eq_false (by omega)] at c2
        have hA : toiA a m = toiN a m ∧ toiX a m = 0 := by
          unfold toiA toiX
          exact ⟨if_pos ⟨by rw [← hX, h0], i, hr⟩, (if_neg (by rw [← hX]; exact fun g => g h0)).trans (if_pos ⟨i, hr⟩)⟩
        rw [hA.1, hA.2]
        obtain ⟨T, hT⟩ : ∃ T, T = toiN a m := ⟨_, rfl⟩
        have hcv : Go.floatToIntVal .f64 W0 .i64 = some T := by
          rw [hT]
          exact to_int_val v4 v6 v8 (by rw [v7]; exact v3) .i64 (by show (-9223372036854775808 : Int) ≤ _; exact hr.1) (by show _ ≤ (9223372036854775807 : Int); have := hr.2; unfold toiN at this; omega)
        have kc := fun W => run_convert_float_int (P := Tryz.prog) W 23 2 .f64 .i64 W0 T (by kernel_rfl) (by kernel_rfl) hcv
        rw [← hT]
        clear hW0 hX h0 hm i fa v1 v2 v3 v4 v5 v6 v7 v8 v9 hB hr hA hT hcv
        go_enter Tryz.func38, Tryz.ntmps38
        go_wp2_with fail
        refine HW.out.mono ?_
        rintro e w1 ⟨rfl, hb1⟩
        go_wp2
        go_ret2
        exact ⟨rfl, hb1⟩
      · have hA : toiA a m = 0 ∧ toiX a m = 11 := by
          unfold toiA toiX
          exact ⟨if_neg (fun g => hr g.2.2), (if_neg (by rw [← hX]; exact fun g => g h0)).trans (if_neg (fun g => hr g.2))⟩
        rw [hA.1, hA.2]
        obtain ⟨T, hT⟩ : ∃ T, T = toiN a m := ⟨_, rfl⟩
        rw [← hT] at c1 c2 hr
        clear hW0 hX h0 hm i fa v1 v2 v3 v4 v5 v6 v7 v8 v9 hB hA hT
        by_cases hr2 : T < -9223372036854775808
        · rw [decide_eq_true hr2] at c1
          clear hr c2 hr2
          go_enter Tryz.func38, Tryz.ntmps38
          go_wp2_with fail
          refine HW.out.mono ?_
          rintro e w1 ⟨rfl, hb1⟩
          go_wp2
          go_ret2
          exact ⟨rfl, hb1⟩
        · rw [decide_eq_false hr2] at c1
          rw [decide_eq_true (by omega)] at c2
          clear hr hr2
          go_enter Tryz.func38, Tryz.ntmps38
          go_wp2_with fail
          refine HW.out.mono ?_
          rintro e w1 ⟨rfl, hb1⟩
          go_wp2
          go_ret2
          exact ⟨rfl, hb1⟩
    · have hA : toiA a m = 0 ∧ toiX a m = 11 := by
        unfold toiA toiX
        exact ⟨if_neg (fun g => by rw [i] at g; cases g.2.1), (if_neg (by rw [← hX]; exact fun g => g h0)).trans (if_neg (fun g => by rw [i] at g; cases g.1))⟩
      rw [hA.1, hA.2]
      have hW : W0 = a := by rw [hW0, (who_inf hm.1 hm.2 i).1]
      have hcs : a = 9218868437227405312 ∨ a = 18442240474082181120 := by
        have := of_decide_eq_true i
        have h2 := split_B a ha
        unfold sgnW at h2; split at h2 <;> omega
      rw [hW] at HW
      clear hW0 hX h0 hm i hA hW
      rcases hcs with rfl | rfl
      · have c1 : (Go.FloatKind.f64.format.order 9218868437227405312 14114281232179134464 == some .lt) = false := by kernel_rfl
        have c2 : (Go.FloatKind.f64.format.order 9218868437227405312 4890909195324358656 == some .gt || Go.FloatKind.f64.format.order 9218868437227405312 4890909195324358656 == some .eq) = true := by kernel_rfl
        go_enter Tryz.func38, Tryz.ntmps38
        go_wp2_with fail
        refine HW.out.mono ?_
        rintro e w1 ⟨rfl, hb1⟩
        go_wp2
        go_ret2
        exact ⟨rfl, hb1⟩
      · have c1 : (Go.FloatKind.f64.format.order 18442240474082181120 14114281232179134464 == some .lt) = true := by kernel_rfl
        go_enter Tryz.func38, Tryz.ntmps38
        go_wp2_with fail
        refine HW.out.mono ?_
        rintro e w1 ⟨rfl, hb1⟩
        go_wp2
        go_ret2
        exact ⟨rfl, hb1⟩
  · have q1 : (X != 0) = true := by rw [bne_iff_ne]; exact h0
    have hA : toiA a m = 0 ∧ toiX a m = X := by
      unfold toiA toiX
      rw [← hX]
      exact ⟨if_neg (fun g => h0 g.1), if_pos h0⟩
    rw [hA.1, hA.2]
    clear hW0 hX h0 hA
    go_enter Tryz.func38, Tryz.ntmps38
    go_wp2_with fail
    refine HW.out.mono ?_
    rintro e w1 ⟨rfl, hb1⟩
    go_wp2
    go_ret2
    exact ⟨rfl, hb1⟩
end Go.Proofs.YtgfbcncjboenbaaGreatDoor

/- Walks: single's cut, from, FromInt, FromUint, SingleInt. -/
namespace Go.Proofs.YtgfbcncjboenbaaGreatDoor
open Go.RowKit
open Go.Lib hiding intOf

set_option maxHeartbeats 1000000 in
set_option maxRecDepth 100000 in
theorem s_cut {n b : Nat} (hn : W64 n) (hb : 1 ≤ b ∧ b ≤ 64) (neg : Bool) (mode : Int) (w : World) : Calls Tryz.prog 154 #[.int .u64 (n : Nat), .int .i64 (b : Nat), .bool neg, .int .i64 mode] w fun e w' => e = .returned (.tuple #[.int .u64 (cutM neg b mode n : Nat), .int .i64 (cutK b n : Nat), .bool (cutZ b n)]) ∧ Below w.heap.size w w' := by
  have HLN : Hid (∀ W, Calls Tryz.prog 194 #[.int .u64 (n : Nat)] W fun e w' => e = .returned (.int .i64 (blen n : Nat)) ∧ W = w') := fun W => len_any n W hn
  have h64 : blen n ≤ 64 := blen_le (by unfold W64 at hn; omega)
  by_cases hs : blen n ≤ b
  · obtain ⟨c1, c2, c3⟩ := cut_small (neg := neg) (mode := mode) hs
    rw [c1, c2, c3]
    have e1 : IntKind.i64.wrap ((blen n : Int) - (b : Int)) = (blen n : Int) - b := IntWalk.i64_in _ (by omega)
    have e2 : max 0 ((blen n : Int) - (b : Int)) = 0 := by omega
    clear hs c1 c2 c3
    go_enter Tryz.func154, Tryz.ntmps154
    go_wp2_with (refine (HLN.out _).mono ?_; rintro e w' ⟨rfl, rfl⟩)
    exact bodyPost_ret (results_tmp3r rfl _ _ _) rfl ⟨rfl, Below.refl _ _⟩
  · obtain ⟨q1, q2, q3⟩ := cut_bd (neg := neg) (mode := mode) hb.1 (n := n) (by intro h; rw [h] at hs; exact hs (by show (if 0 = 0 then 0 else _) ≤ b; rw [if_pos rfl]; omega)) (show b < blen n by omega)
    obtain ⟨k, hk⟩ : ∃ k, k = cutK b n := ⟨_, rfl⟩
    have hkk : k = blen n - b := hk
    have e1 : IntKind.i64.wrap ((blen n : Int) - (b : Int)) = (k : Int) := by rw [IntWalk.i64_in _ (by omega)]; omega
    have e2 : max 0 (k : Int) = (k : Int) := by omega
    have e3 : ((k : Int) == 0) = false := by rw [Bool.eq_false_iff, Ne, beq_iff_eq]; omega
    have k1 : 1 ≤ k := by omega
    have k2 : k ≤ 64 := by omega
    have k3 : min k 64 = k := by omega
    have k4 : min (k - 1) 64 = k - 1 := by omega
    obtain ⟨q, hq⟩ : ∃ q, q = n / 2 ^ k := ⟨_, rfl⟩
    obtain ⟨R, hR⟩ : ∃ R, R = n % 2 ^ k := ⟨_, rfl⟩
    obtain ⟨P, hP⟩ : ∃ P, P = q * 2 ^ k := ⟨_, rfl⟩
    obtain ⟨H, hH⟩ : ∃ H, H = 2 ^ (k - 1) := ⟨_, rfl⟩
    have hdm := Nat.div_add_mod n (2 ^ k)
    rw [← hq, ← hR, Nat.mul_comm, ← hP] at hdm
    have hHk : 2 ^ k = H * 2 := by rw [hH, ← Nat.pow_succ]; congr 1; omega
    have hHl : H < 9223372036854775809 := by
      rw [hH]
      have := Nat.pow_le_pow_right (show 0 < 2 by decide) (show k - 1 ≤ 63 by omega)
      exact Nat.lt_succ_of_le this
    have hn' : n < 18446744073709551616 := hn
    have g0 : (n : Int) / 2 ^ k = (q : Int) := by rw [hq]; push_cast; rfl
    have g1 : IntKind.u64.wrap ((q : Int) * 2 ^ k) = (P : Int) := by
      have : (q : Int) * 2 ^ k = (P : Int) := by rw [hP]; push_cast; rfl
      rw [this]; exact IntWalk.u64_in _ (by omega)
    have g2 : IntKind.u64.wrap ((n : Int) - (P : Int)) = (R : Int) := by rw [IntWalk.u64_in _ (by omega)]; omega
    have g3 : IntKind.u64.wrap ((2 : Int) ^ (k - 1)) = (H : Int) := by
      have : (2 : Int) ^ (k - 1) = (H : Int) := by rw [hH]; push_cast; rfl
      rw [this]; exact IntWalk.u64_in _ (by omega)
    obtain ⟨d, hd⟩ : ∃ d, d = decide (q % 2 = 1) := ⟨_, rfl⟩
    have g4 : ((q : Int).tmod 2 == 1) = d := by
      rw [hd, Bool.eq_iff_iff, beq_iff_eq, decide_eq_true_eq, show (q : Int).tmod 2 = ((q % 2 : Nat) : Int) from rfl]; omega
    have g4' : ((q : Int) % 2 == 1) = d := by
      rw [hd, Bool.eq_iff_iff, beq_iff_eq, decide_eq_true_eq]; omega
    have hqb : q < 18446744073709551615 := by
      have : q ≤ P := by rw [hP]; exact Nat.le_mul_of_pos_right _ (Nat.two_pow_pos _)
      have h2 : 2 ≤ 2 ^ k := by
        have := Nat.pow_le_pow_right (show 0 < 2 by decide) (show 1 ≤ k by omega)
        simpa using this
      have h3 : q * 2 ≤ P := by rw [hP]; exact Nat.mul_le_mul_left _ h2
      omega
    have g5 : IntKind.u64.wrap ((q : Int) + 1) = ((q + 1 : Nat) : Int) := by rw [IntWalk.u64_in _ (by omega)]; omega
    obtain ⟨u, hu⟩ : ∃ u, u = upW mode neg d (ncmp (R * 2) (2 ^ k)) := ⟨_, rfl⟩
    have hres : cutM neg b mode n = (if R = 0 then q else if u = true then q + 1 else q) ∧ cutZ b n = decide (R = 0) := by
      unfold cutM cutZ
      rw [← hk, ← hq, ← hR]
      refine ⟨?_, rfl⟩
      unfold kW
      rw [← hd, ← hu]
      by_cases h0 : R = 0
      · rw [decide_eq_true h0, if_pos h0]; rfl
      · rw [decide_eq_false h0, if_neg h0]; rfl
    rw [hres.1, hres.2, ← hk]
    by_cases h0 : R = 0
    · rw [if_pos h0, decide_eq_true h0]
      have g6 : ((R : Int) == 0) = true := by rw [h0]; rfl
      clear hres hu hd hqb hHk hHl hdm hP hR hq hH q1 q2 q3 hs hk hkk h0 hn'
      go_enter Tryz.func154, Tryz.ntmps154
      go_wp2_with (refine (HLN.out _).mono ?_; rintro e w' ⟨rfl, rfl⟩)
      exact bodyPost_ret (results_tmp3r rfl _ _ _) rfl ⟨rfl, Below.refl _ _⟩
    · rw [if_neg h0, decide_eq_false h0]
      have g6 : ((R : Int) == 0) = false := by rw [Bool.eq_false_iff, Ne, beq_iff_eq]; omega
      have hoo : (R < H ∧ upW mode neg d (-1) = u) ∨ (H < R ∧ upW mode neg d 1 = u) ∨ (R = H ∧ upW mode neg d 0 = u) := by
        rw [hu]
        unfold ncmp
        rcases Nat.lt_trichotomy R H with h | h | h
        · exact .inl ⟨h, by rw [if_pos (by omega)]⟩
        · exact .inr (.inr ⟨h, by rw [if_neg (by omega), if_neg (by omega)]⟩)
        · exact .inr (.inl ⟨h, by rw [if_neg (by omega), if_pos (by omega)]⟩)
      clear hres hu hd hqb hHk hHl hdm hP hR hq hH q1 q2 q3 hs hk hkk h0 hn'
      rcases hoo with ⟨hc, hw⟩ | ⟨hc, hw⟩ | ⟨hc, hw⟩
      · have HAW : Hid (∀ W, Calls Tryz.prog 104 #[.int .i64 mode, .bool neg, .bool d, .int .i64 (-1)] W fun e w' => e = .returned (.bool u) ∧ W = w') := fun W => by rw [← hw]; exact s_away _ _ _ _ W
        have o1 : ¬ (H : Int) < R := by omega
        have o2 : (R : Int) < H := by omega
        clear hw hc
        cases u
        all_goals
          simp only [Bool.false_eq_true, if_false, ite_true]
          go_enter Tryz.func154, Tryz.ntmps154
          go_wp2_with (first | (go_at_call 194; refine (HLN.out _).mono ?_; rintro e w' ⟨rfl, rfl⟩) | (go_at_call 104; with_reducible refine (HAW.out _).mono ?_; rintro e w' ⟨rfl, rfl⟩))
          exact bodyPost_ret (results_tmp3r rfl _ _ _) rfl ⟨rfl, Below.refl _ _⟩
      · have HAW : Hid (∀ W, Calls Tryz.prog 104 #[.int .i64 mode, .bool neg, .bool d, .int .i64 1] W fun e w' => e = .returned (.bool u) ∧ W = w') := fun W => by rw [← hw]; exact s_away _ _ _ _ W
        have o1 : (H : Int) < R := by omega
        clear hw hc
        cases u
        all_goals
          simp only [Bool.false_eq_true, if_false, ite_true]
          go_enter Tryz.func154, Tryz.ntmps154
          go_wp2_with (first | (go_at_call 194; refine (HLN.out _).mono ?_; rintro e w' ⟨rfl, rfl⟩) | (go_at_call 104; with_reducible refine (HAW.out _).mono ?_; rintro e w' ⟨rfl, rfl⟩))
          exact bodyPost_ret (results_tmp3r rfl _ _ _) rfl ⟨rfl, Below.refl _ _⟩
      · have HAW : Hid (∀ W, Calls Tryz.prog 104 #[.int .i64 mode, .bool neg, .bool d, .int .i64 0] W fun e w' => e = .returned (.bool u) ∧ W = w') := fun W => by rw [← hw]; exact s_away _ _ _ _ W
        have o1 : ¬ (H : Int) < R := by omega
        have o2 : ¬ (R : Int) < H := by omega
        clear hw hc
        cases u
        all_goals
          simp only [Bool.false_eq_true, if_false, ite_true]
          go_enter Tryz.func154, Tryz.ntmps154
          go_wp2_with (first | (go_at_call 194; refine (HLN.out _).mono ?_; rintro e w' ⟨rfl, rfl⟩) | (go_at_call 104; with_reducible refine (HAW.out _).mono ?_; rintro e w' ⟨rfl, rfl⟩))
          exact bodyPost_ret (results_tmp3r rfl _ _ _) rfl ⟨rfl, Below.refl _ _⟩
/-- What a whole number is told as. -/
def fromA (neg : Bool) (b : Nat) (mode : Int) (n : Nat) : RA := if 1 ≤ mode ∧ mode ≤ 6 then ⟨fromW neg b mode n, !cutZ b n, false, false, 0⟩ else RA.no 1
theorem near_top {m : Nat} {e : Int} : Ieee.double.nearest false m e < 9223372036854775808 := by have := nearest_le m e; omega
theorem cutM_le {neg : Bool} {b n : Nat} {mode : Int} (hb : 1 ≤ b ∧ b ≤ 53) : cutM neg b mode n ≤ 9007199254740992 := by
  by_cases h0 : n = 0
  · have hs : blen n ≤ b := by rw [h0]; show (if 0 = 0 then 0 else _) ≤ b; rw [if_pos rfl]; omega
    rw [(cut_small hs).1, h0]; omega
  have hp : 2 ^ b ≤ 2 ^ 53 := Nat.pow_le_pow_right (by decide) hb.2
  by_cases hs : blen n ≤ b
  · rw [(cut_small hs).1]
    have := (blen_pos h0).2.1
    have h2 : 2 ^ blen n ≤ 2 ^ b := Nat.pow_le_pow_right (by decide) hs
    omega
  · have := (cut_bd (neg := neg) (mode := mode) hb.1 h0 (show b < blen n by omega)).2.2
    omega
set_option maxHeartbeats 2000000 in
set_option maxRecDepth 100000 in
theorem s_from {n b : Nat} (hn : W64 n) (hb : 1 ≤ b ∧ b ≤ 53) (neg : Bool) (mode : Int) (w : World) : Calls Tryz.prog 101 #[.int .u64 (n : Nat), .bool neg, .int .i64 (b : Nat), .int .i64 mode] w (RatioQ (fromA neg b mode n) w) := by
  obtain ⟨w1, hw1⟩ : ∃ W, W = w.alloc (.cells #[.bool false, .bool false, .bool false] 35) := ⟨_, rfl⟩
  have hb1 : Below w.heap.size w w1 := by rw [hw1]; exact (Below.refl _ _).alloc (Nat.le_refl _) _
  have q1 : w1.heap[w.heap.size]? = some (.cells #[.bool false, .bool false, .bool false] 35 (0, 0)) := by rw [hw1]; exact new_blk w _
  have HX : Hid (∀ W, Below w1.heap.size w1 W → W.heap[w.heap.size]? = some (.cells #[.bool false, .bool false, .bool false] 35 (0, 0)) ∧ Below w.heap.size w W) := fun W hW => ⟨hW.blk q1 (blk_lt q1), hb1.trans (hW.mono hb1.size)⟩
  obtain ⟨f0, c0, f1, c1, f2, c2, r3⟩ := rw3 (HX.out w1 (Below.refl _ _)).1
  have HR3 : Hid _ := r3
  have HBW : Hid (Below w.heap.size w w1) := hb1
  clear hb1 q1 r3
  by_cases hm : 1 ≤ mode ∧ mode ≤ 6
  · have HRI : Hid (∀ W, Calls Tryz.prog 73 #[.int .i64 mode] W fun e w' => e = .returned (.bool true) ∧ W = w') := fun W => by
      have := s_right mode W; rw [decide_eq_true hm] at this; exact this
    obtain ⟨m, hmm⟩ : ∃ m, m = cutM neg b mode n := ⟨_, rfl⟩
    obtain ⟨k, hk⟩ : ∃ k, k = cutK b n := ⟨_, rfl⟩
    obtain ⟨z, hz⟩ : ∃ z, z = cutZ b n := ⟨_, rfl⟩
    have HCU : Hid (∀ W, Calls Tryz.prog 154 #[.int .u64 (n : Nat), .int .i64 (b : Nat), .bool neg, .int .i64 mode] W fun e w' => e = .returned (.tuple #[.int .u64 (m : Nat), .int .i64 (k : Nat), .bool z]) ∧ Below W.heap.size W w') := fun W => by
      rw [hmm, hk, hz]; exact s_cut hn ⟨hb.1, by omega⟩ neg mode W
    obtain ⟨x, hx⟩ : ∃ x, x = Ieee.double.nearest false m k := ⟨_, rfl⟩
    have hk64 : k ≤ 64 := by rw [hk]; unfold cutK; have := blen_le (n := n) (k := 64) (by unfold W64 at hn; omega); omega
    have HLD : Hid (∀ W, Calls Tryz.prog 155 #[.float .f64 (floatOfInt .f64 m), .int .i64 (k : Nat)] W fun e' w' => e' = .returned (.float .f64 x) ∧ W = w') := fun W => by
      rw [hx]; exact ldexp_any m k W (by rw [hmm]; exact cutM_le hb) (by omega) (by omega)
    have hxl : x < 9223372036854775808 := by rw [hx]; exact near_top
    have HRN : Hid (fromA neg b mode n = ⟨sgW neg + x, !z, false, false, 0⟩) := by
      show _ = _
      unfold fromA; rw [if_pos hm]; unfold fromW; rw [hx, hmm, hk, hz]
    have hng : Go.Op.negFloat .f64 x = sgW true + x := by
      rw [negFloat_D x (by unfold W64; omega), if_neg (by unfold sgnB; simp; omega), Nat.add_comm]; rfl
    clear hm hmm hk hz hx hk64 hxl
    cases neg
    all_goals
      go_enter Tryz.func101, Tryz.ntmps101
      go_upto_region 1 with fail
      rw [← hw1]
      clear hw1
      go_wp2_with (refine (HRI.out _).mono ?_; rintro e w' ⟨rfl, rfl⟩)
      refine (HCU.out _).mono ?_
      rintro e w2 ⟨rfl, hb2⟩
      have HB2 : Hid (Below w1.heap.size w1 w2) := hb2
      clear hb2 f0 c0 f1 c1 f2 c2 HR3 HBW
      obtain ⟨f0, c0, f1, c1, f2, c2, r3⟩ := rw3 (HX.out w2 HB2.out).1
      have HR3 : Hid _ := r3
      have HBW : Hid (Below w.heap.size w w2) := (HX.out w2 HB2.out).2
      clear r3
      go_wp2_with (go_at_call 155; refine (HLD.out _).mono ?_; rintro e w' ⟨rfl, rfl⟩)
      exact ratio_end (p := 8) (u := 9) (q := 10) rfl rfl rfl rfl (HR3.out _ _ _) (below_row3 HBW.out (Nat.le_refl _) _ _ _) (by first | (rw [HRN.out, show sgW false + x = x from Nat.zero_add x]) | exact HRN.out)
  · have HRI : Hid (∀ W, Calls Tryz.prog 73 #[.int .i64 mode] W fun e w' => e = .returned (.bool false) ∧ W = w') := fun W => by
      have := s_right mode W; rw [decide_eq_false hm] at this; exact this
    have HRN : Hid (fromA neg b mode n = ⟨0, false, false, false, 1⟩) := by
      show _ = _
      unfold fromA; rw [if_neg hm]; rfl
    clear hm
    go_enter Tryz.func101, Tryz.ntmps101
    go_upto_region 1 with fail
    rw [← hw1]
    clear hw1
    go_wp2_with (refine (HRI.out _).mono ?_; rintro e w' ⟨rfl, rfl⟩)
    exact ratio_end (p := 8) (u := 9) (q := 10) rfl rfl rfl rfl (HR3.out _ _ _) (below_row3 HBW.out (Nat.le_refl _) _ _ _) HRN.out
end Go.Proofs.YtgfbcncjboenbaaGreatDoor

/- Walks: single's FromInt, FromUint, SingleInt. -/
namespace Go.Proofs.YtgfbcncjboenbaaGreatDoor
open Go.RowKit
open Go.Lib hiding intOf

theorem s_magnitude {n : Int} (h1 : -9223372036854775808 ≤ n) (h2 : n ≤ 9223372036854775807) (w : World) : Calls Tryz.prog 100 #[.int .i64 n] w fun e w' => e = .returned (.tuple #[.int .u64 (n.natAbs : Nat), .bool (decide (n < 0))]) ∧ w = w' := by
  by_cases h : n < 0
  · rw [decide_eq_true h]
    have e1 : IntKind.u64.wrap n = n + 18446744073709551616 := by
      have := IntKind.wrap_u64 n
      omega
    have e2 : IntKind.u64.wrap (-(n + 18446744073709551616)) = ((n.natAbs : Nat) : Int) := by
      have := IntKind.wrap_u64 (-(n + 18446744073709551616))
      omega
    go_enter Tryz.func100, Tryz.ntmps100
    go_wp2
    go_ret2
    exact ⟨rfl, rfl⟩
  · rw [decide_eq_false h]
    have e1 : IntKind.u64.wrap n = ((n.natAbs : Nat) : Int) := by
      have := IntKind.wrap_u64 n
      omega
    go_enter Tryz.func100, Tryz.ntmps100
    go_wp2
    go_ret2
    exact ⟨rfl, rfl⟩
theorem cut_zero0 (neg : Bool) (b : Nat) (mode : Int) : cutM neg b mode 0 = 0 ∧ cutK b 0 = 0 ∧ cutZ b 0 = true := by
  obtain ⟨c1, c2, c3⟩ := cut_small (neg := neg) (b := b) (n := 0) (mode := mode) (by show (if 0 = 0 then 0 else _) ≤ b; rw [if_pos rfl]; omega)
  exact ⟨c1, c3, c2⟩
theorem from_zero (neg : Bool) (b : Nat) (mode : Int) : fromW neg b mode 0 = sgW neg := by
  unfold fromW
  rw [(cut_zero0 neg b mode).1, (cut_zero0 neg b mode).2.1]
  have : Ieee.double.nearest false 0 ((0 : Nat) : Int) = 0 := nearest_zero _
  rw [this, Nat.add_zero]
/-- A whole number as a single. -/
def sinB (neg : Bool) (mode : Int) (n : Nat) : Nat := if n = 0 then sgS neg else bits32 neg (outG 24 (-149) 104 neg mode (ratMag n 1 0))
def sinA (neg : Bool) (mode : Int) (n : Nat) : RA := if 1 ≤ mode ∧ mode ≤ 6 then ⟨sinB neg mode n, !cutZ 24 n, false, false, 0⟩ else RA.no 1
theorem from24 {n : Nat} (hn : n < 18446744073709551616) (neg : Bool) (mode : Int) : Go.floatToFloatBits .f64 (fromW neg 24 mode n) .f32 = some (sinB neg mode n) ∧ (n ≠ 0 → ∃ m e, outG 24 (-149) 104 neg mode (ratMag n 1 0) = ⟨false, m, e, !cutZ 24 n, false, false⟩) := by
  by_cases h0 : n = 0
  · subst h0
    refine ⟨?_, fun h => absurd rfl h⟩
    rw [from_zero]
    have h1 := nar_zero (b := sgW neg) (by unfold W64; cases neg <;> decide) (by cases neg <;> decide) (by cases neg <;> decide)
    rw [h1]
    cases neg <;> rfl
  · obtain ⟨m, e, h1, h2, h3, h4, h5, h6⟩ := from_out (b := 24) (l := 149) (T := 104) (by decide) (by decide) (by decide) (by decide) h0 hn neg mode
    have h1 : outG 24 (-149) 104 neg mode (ratMag n 1 0) = ⟨false, m, e, !cutZ 24 n, false, false⟩ := h1
    have h6 : m * 2 ^ (e + 149).toNat = cutM neg 24 mode n * 2 ^ (cutK 24 n + 149) := h6
    refine ⟨?_, fun _ => ⟨m, e, h1⟩⟩
    obtain ⟨r, hr⟩ : ∃ r, r = (e + 149).toNat * 8388608 + m := ⟨_, rfl⟩
    have hb : sinB neg mode n = sgS neg + r := by
      unfold sinB; rw [if_neg h0, h1, bits32_fin2, hr]; rfl
    have hrv : rv 23 r = m * 2 ^ (e + 149).toNat := by
      rw [hr]; exact rv_qK 23 (e + 149).toNat m (by omega) (fun hp => by rcases h5 with h | h; omega; exact h)
    have hlt : r < 2139095040 := by rw [hr]; omega
    obtain ⟨c, -, w2, w3, -, w5⟩ := widen_conv false r hlt
    have hk : rv 52 (absB c) = cutM neg 24 mode n * 2 ^ (((cutK 24 n : Nat) : Int) + 1074).toNat := by
      have hL := LD_eq
      rw [w5, hrv, h6, Nat.mul_assoc, ← Nat.pow_add]; congr 2; omega
    have hf : fromW neg 24 mode n = sgW neg + absB c := by
      unfold fromW
      rw [near_exact (s := false) (by omega) (finA_lt w3) hk]
      show _ + (0 + absB c) = _
      rw [Nat.zero_add]
    have hal := finA_lt w3
    have e1 := bits_abs neg (show absB c < 9223372036854775808 by omega)
    have e2 := bits_sgn neg (show absB c < 9223372036854775808 by omega)
    have e3 : finB (sgW neg + absB c) = true := by unfold finB; rw [e1]; exact decide_eq_true hal
    rw [hf, hb]
    have := conv_rung (b := sgW neg + absB c) (bits_W neg (by omega)) e3 hlt (by rw [e1, w5])
    rw [e2] at this
    exact this
set_option maxHeartbeats 2000000 in
set_option maxRecDepth 100000 in
theorem s_fromint {n : Int} (h1 : -9223372036854775808 ≤ n) (h2 : n ≤ 9223372036854775807) (mode : Int) (w : World) : Calls Tryz.prog 35 #[.int .i64 n, .int .i64 mode] w (RatioQ (fromA (decide (n < 0)) 53 mode n.natAbs) w) := by
  obtain ⟨w1, hw1⟩ : ∃ W, W = w.alloc (.cells #[.bool false, .bool false, .bool false] 35) := ⟨_, rfl⟩
  have hb1 : Below w.heap.size w w1 := by rw [hw1]; exact (Below.refl _ _).alloc (Nat.le_refl _) _
  have q1 : w1.heap[w.heap.size]? = some (.cells #[.bool false, .bool false, .bool false] 35 (0, 0)) := by rw [hw1]; exact new_blk w _
  have HX : Hid (∀ W, Below w1.heap.size w1 W → W.heap[w.heap.size]? = some (.cells #[.bool false, .bool false, .bool false] 35 (0, 0)) ∧ Below w.heap.size w W) := fun W hW => ⟨hW.blk q1 (blk_lt q1), hb1.trans (hW.mono hb1.size)⟩
  obtain ⟨R, hR⟩ : ∃ R, R = fromA (decide (n < 0)) 53 mode n.natAbs := ⟨_, rfl⟩
  rw [← hR]
  have HMG : Hid (∀ W, Calls Tryz.prog 100 #[.int .i64 n] W fun e w' => e = .returned (.tuple #[.int .u64 (n.natAbs : Nat), .bool (decide (n < 0))]) ∧ W = w') := fun W => s_magnitude h1 h2 W
  have HFR : Hid (∀ W, Calls Tryz.prog 101 #[.int .u64 (n.natAbs : Nat), .bool (decide (n < 0)), .int .i64 53, .int .i64 mode] W fun e w' => e = .returned (.tuple #[.float .f64 R.bits, .agg #[.bool R.ine, .bool R.ov, .bool R.un], .int .i64 R.err]) ∧ Below W.heap.size W w') := fun W => by
    rw [hR]; exact s_from (b := 53) (by unfold W64; omega) (by decide) _ mode W
  generalize n.natAbs = N at *
  generalize decide (n < 0) = ng at *
  clear hb1 q1 hR h1 h2
  go_enter Tryz.func35, Tryz.ntmps35
  go_upto_region 1 with fail
  rw [← hw1]
  clear hw1
  go_wp2_with (refine (HMG.out _).mono ?_; rintro e w' ⟨rfl, rfl⟩)
  refine (HFR.out _).mono ?_
  rintro e w2 ⟨rfl, hb2⟩
  have HB2 : Hid (Below w1.heap.size w1 w2) := hb2
  clear hb2
  obtain ⟨f0, c0, f1, c1, f2, c2, r3⟩ := rw3 (HX.out w2 HB2.out).1
  have HR3 : Hid _ := r3
  clear r3
  go_wp2
  exact ratio_end (p := 4) (u := 5) (q := 6) rfl rfl rfl rfl (HR3.out _ _ _) (below_row3 (HX.out w2 HB2.out).2 (Nat.le_refl _) _ _ _) rfl
set_option maxHeartbeats 2000000 in
set_option maxRecDepth 100000 in
theorem s_fromuint {n : Nat} (hn : W64 n) (mode : Int) (w : World) : Calls Tryz.prog 43 #[.int .u64 (n : Nat), .int .i64 mode] w (RatioQ (fromA false 53 mode n) w) := by
  obtain ⟨w1, hw1⟩ : ∃ W, W = w.alloc (.cells #[.bool false, .bool false, .bool false] 35) := ⟨_, rfl⟩
  have hb1 : Below w.heap.size w w1 := by rw [hw1]; exact (Below.refl _ _).alloc (Nat.le_refl _) _
  have q1 : w1.heap[w.heap.size]? = some (.cells #[.bool false, .bool false, .bool false] 35 (0, 0)) := by rw [hw1]; exact new_blk w _
  have HX : Hid (∀ W, Below w1.heap.size w1 W → W.heap[w.heap.size]? = some (.cells #[.bool false, .bool false, .bool false] 35 (0, 0)) ∧ Below w.heap.size w W) := fun W hW => ⟨hW.blk q1 (blk_lt q1), hb1.trans (hW.mono hb1.size)⟩
  obtain ⟨R, hR⟩ : ∃ R, R = fromA false 53 mode n := ⟨_, rfl⟩
  rw [← hR]
  have HFR : Hid (∀ W, Calls Tryz.prog 101 #[.int .u64 (n : Nat), .bool false, .int .i64 53, .int .i64 mode] W fun e w' => e = .returned (.tuple #[.float .f64 R.bits, .agg #[.bool R.ine, .bool R.ov, .bool R.un], .int .i64 R.err]) ∧ Below W.heap.size W w') := fun W => by
    rw [hR]; exact s_from (b := 53) hn (by decide) _ mode W
  clear hb1 q1 hR hn
  go_enter Tryz.func43, Tryz.ntmps43
  go_upto_region 1 with fail
  rw [← hw1]
  clear hw1
  go_wp2_with fail
  refine (HFR.out _).mono ?_
  rintro e w2 ⟨rfl, hb2⟩
  have HB2 : Hid (Below w1.heap.size w1 w2) := hb2
  clear hb2
  obtain ⟨f0, c0, f1, c1, f2, c2, r3⟩ := rw3 (HX.out w2 HB2.out).1
  have HR3 : Hid _ := r3
  clear r3
  go_wp2
  exact ratio_end (p := 4) (u := 5) (q := 6) rfl rfl rfl rfl (HR3.out _ _ _) (below_row3 (HX.out w2 HB2.out).2 (Nat.le_refl _) _ _ _) rfl
set_option maxHeartbeats 2000000 in
set_option maxRecDepth 100000 in
theorem s_singleint {n : Int} (h1 : -9223372036854775808 ≤ n) (h2 : n ≤ 9223372036854775807) (mode : Int) (w : World) : Calls Tryz.prog 36 #[.int .i64 n, .int .i64 mode] w (Ratio32Q (sinA (decide (n < 0)) mode n.natAbs) w) := by
  obtain ⟨w1, hw1⟩ : ∃ W, W = w.alloc (.cells #[.bool false, .bool false, .bool false] 35) := ⟨_, rfl⟩
  have hb1 : Below w.heap.size w w1 := by rw [hw1]; exact (Below.refl _ _).alloc (Nat.le_refl _) _
  have q1 : w1.heap[w.heap.size]? = some (.cells #[.bool false, .bool false, .bool false] 35 (0, 0)) := by rw [hw1]; exact new_blk w _
  have HX : Hid (∀ W, Below w1.heap.size w1 W → W.heap[w.heap.size]? = some (.cells #[.bool false, .bool false, .bool false] 35 (0, 0)) ∧ Below w.heap.size w W) := fun W hW => ⟨hW.blk q1 (blk_lt q1), hb1.trans (hW.mono hb1.size)⟩
  have HSZ : Hid (w.heap.size < w1.heap.size) := blk_lt q1
  obtain ⟨R, hR⟩ : ∃ R, R = fromA (decide (n < 0)) 24 mode n.natAbs := ⟨_, rfl⟩
  obtain ⟨S, hS⟩ : ∃ S, S = sinA (decide (n < 0)) mode n.natAbs := ⟨_, rfl⟩
  rw [← hS]
  have hcv : Go.floatToFloatBits .f64 R.bits .f32 = some S.bits ∧ S = ⟨S.bits, R.ine, R.ov, R.un, R.err⟩ := by
    rw [hR, hS]; unfold fromA sinA
    by_cases hm : 1 ≤ mode ∧ mode ≤ 6
    · rw [if_pos hm, if_pos hm]
      exact ⟨(from24 (by omega) _ mode).1, rfl⟩
    · rw [if_neg hm, if_neg hm]
      exact ⟨nar_zero (b := 0) (by unfold W64; decide) (by decide) (by decide), rfl⟩
  have HSR : Hid (S = ⟨S.bits, R.ine, R.ov, R.un, R.err⟩) := hcv.2
  have kc := run_nar hcv.1
  have HMG : Hid (∀ W, Calls Tryz.prog 100 #[.int .i64 n] W fun e w' => e = .returned (.tuple #[.int .u64 (n.natAbs : Nat), .bool (decide (n < 0))]) ∧ W = w') := fun W => s_magnitude h1 h2 W
  have HFR : Hid (∀ W, Calls Tryz.prog 101 #[.int .u64 (n.natAbs : Nat), .bool (decide (n < 0)), .int .i64 24, .int .i64 mode] W fun e w' => e = .returned (.tuple #[.float .f64 R.bits, .agg #[.bool R.ine, .bool R.ov, .bool R.un], .int .i64 R.err]) ∧ Below W.heap.size W w') := fun W => by
    rw [hR]; exact s_from (b := 24) (by unfold W64; omega) (by decide) _ mode W
  generalize n.natAbs = N at *
  generalize decide (n < 0) = ng at *
  clear hb1 q1 hR hS h1 h2 hcv
  go_enter Tryz.func36, Tryz.ntmps36
  go_upto_region 1 with fail
  rw [← hw1]
  clear hw1
  go_wp2_with (refine (HMG.out _).mono ?_; rintro e w' ⟨rfl, rfl⟩)
  refine (HFR.out _).mono ?_
  rintro e w2 ⟨rfl, hb2⟩
  have HB2 : Hid (Below w1.heap.size w1 w2) := hb2
  clear hb2
  go_upto_region 3 with fail
  obtain ⟨w3, hw3⟩ : ∃ W, W = w2.alloc (.cells #[.bool R.ine, .bool R.ov, .bool R.un] 35) := ⟨_, rfl⟩
  have hb3 : Below w1.heap.size w1 w3 := by rw [hw3]; exact HB2.out.alloc HB2.out.size _
  have q3 : w3.heap[w2.heap.size]? = some (.cells #[.bool R.ine, .bool R.ov, .bool R.un] 35 (0, 0)) := by rw [hw3]; exact new_blk w2 _
  have hne : w.heap.size < w2.heap.size := Nat.lt_of_lt_of_le HSZ.out HB2.out.size
  have HB3 : Hid (Below w1.heap.size w1 w3) := hb3
  obtain ⟨f0, c0, f1, c1, f2, c2, r3⟩ := rw3 (HX.out w3 HB3.out).1
  have HR3 : Hid _ := r3
  have k0 := cell_of_row w3 w2.heap.size 0 _ _ _ q3
  have k1 := cell_of_row w3 w2.heap.size 1 _ _ _ q3
  have k2 := cell_of_row w3 w2.heap.size 2 _ _ _ q3
  rw [← hw3]
  clear hw3 hb3 q3 r3
  go_region
  go_wp2
  exact ratio32_end (p := 4) (u := 5) (q := 6) rfl rfl rfl rfl (HR3.out _ _ _) (below_row3 (HX.out w3 HB3.out).2 (Nat.le_refl _) _ _ _).drew HSR.out
end Go.Proofs.YtgfbcncjboenbaaGreatDoor

/- Walks: awake, is, has of layer 4. -/
namespace Go.Proofs.YtgfbcncjboenbaaGreatDoor
open Go.RowKit
open Go.Lib hiding intOf

theorem nar_tenth : narA 4591870180066957722 1 = ⟨1036831949, true, false, false, 0⟩ := by kernel_rfl
theorem toi_half : toiA 4612811918334230528 2 = 3 ∧ toiX 4612811918334230528 2 = 0 := ⟨by kernel_rfl, by kernel_rfl⟩
theorem sin_some : sinA (decide ((1152921573326323713 : Int) < 0)) 1 (1152921573326323713 : Int).natAbs = ⟨1568669697, true, false, false, 0⟩ := by kernel_rfl
theorem sum_three4 : addF 1065353216 1073741824 = 1077936128 := by kernel_rfl
theorem wid_half : widB 1056964608 = 4602678819172646912 := by kernel_rfl
set_option maxRecDepth 100000 in
theorem is4_v (x b : Nat) (w : World) : Calls Tryz.prog 41 #[.float .f64 x, .int .u64 (b : Nat)] w fun e w' => e = .returned (.bool (decide (x = b))) ∧ Below w.heap.size w w' := by
  have h : ((x : Int) == (b : Int)) = decide (x = b) := by
    rw [Bool.eq_iff_iff, beq_iff_eq, decide_eq_true_eq]; omega
  go_enter Tryz.func41, Tryz.ntmps41
  go_wp2
  go_ret
  exact ⟨rfl, Below.refl _ _⟩
set_option maxRecDepth 100000 in
theorem has_v (x b : Nat) (w : World) : Calls Tryz.prog 30 #[.float .f32 x, .int .u32 (b : Nat)] w fun e w' => e = .returned (.bool (decide (x = b))) ∧ Below w.heap.size w w' := by
  have h : ((x : Int) == (b : Int)) = decide (x = b) := by
    rw [Bool.eq_iff_iff, beq_iff_eq, decide_eq_true_eq]; omega
  go_enter Tryz.func30, Tryz.ntmps30
  go_wp2
  go_ret
  exact ⟨rfl, Below.refl _ _⟩
set_option maxHeartbeats 4000000 in
set_option maxRecDepth 100000 in
theorem awake4_v (w : World) (htab : Tab w) : Calls Tryz.prog 28 #[] w fun e w' => e = .returned (.bool true) ∧ Below w.heap.size w w' := by
  have H1 : Hid (Calls Tryz.prog 18 #[.float .f64 4591870180066957722, .int .i64 1] w (Ratio32Q ⟨1036831949, true, false, false, 0⟩ w)) := by
    show Calls _ _ _ _ _
    rw [← nar_tenth]; exact s_narrow (by unfold W64; decide) 1 w htab
  have H2 : Hid (∀ W, Calls Tryz.prog 38 #[.float .f64 4612811918334230528, .int .i64 2] W fun e w' => e = .returned (.tuple #[.int .i64 3, .int .i64 0]) ∧ Below W.heap.size W w') := fun W => by
    have := s_toint (a := 4612811918334230528) (by unfold W64; decide) 2 W
    rw [toi_half.1, toi_half.2] at this; exact this
  have H3 : Hid (∀ W, Calls Tryz.prog 36 #[.int .i64 1152921573326323713, .int .i64 1] W (Ratio32Q ⟨1568669697, true, false, false, 0⟩ W)) := fun W => by
    rw [← sin_some]; exact s_singleint (by decide) (by decide) 1 W
  have H4 : Hid (∀ W, Calls Tryz.prog 31 #[.float .f32 1065353216, .float .f32 1073741824] W fun e w' => e = .returned (.float .f32 1077936128) ∧ Below W.heap.size W w') := fun W => by
    rw [← sum_three4]; exact s_add (by unfold W32; decide) (by unfold W32; decide) W
  have H5 : Hid (∀ W, Calls Tryz.prog 19 #[.float .f32 1056964608] W fun e w' => e = .returned (.float .f64 4602678819172646912) ∧ Below W.heap.size W w') := fun W => by
    rw [← wid_half]; exact s_widen 1056964608 (by unfold W32; decide) W
  have o1 : (Go.FloatKind.f32.format.order 1036831949 1036831949 == some Ordering.eq) = true := by kernel_rfl
  have o2 : (Go.FloatKind.f32.format.order 1568669697 1568669697 == some Ordering.eq) = true := by kernel_rfl
  have o3 : (Go.FloatKind.f32.format.order 1077936128 1077936128 == some Ordering.eq) = true := by kernel_rfl
  have o4 : (Go.FloatKind.f64.format.order 4602678819172646912 4602678819172646912 == some Ordering.eq) = true := by kernel_rfl
  clear htab
  go_enter Tryz.func28, Tryz.ntmps28
  go_wp2_with fail
  refine H1.out.mono ?_
  rintro e w1 ⟨rfl, hb⟩
  have HK1 : Hid (Kept _ (w1.alloc (.cells #[.bool true, .bool false, .bool false] 35))) := ((Kept.nil w).below hb).push (.cells #[.bool true, .bool false, .bool false] 35 (0, 0))
  have HB1 : Hid (Below w.heap.size w (w1.alloc (.cells #[.bool true, .bool false, .bool false] 35))) := hb.alloc hb.size _
  clear hb
  go_wp2_with fail
  refine (H2.out _).mono ?_
  rintro e w2 ⟨rfl, hb⟩
  have HK2 : Hid (Kept _ w2) := HK1.out.below hb
  have HB2 : Hid (Below w.heap.size w w2) := HB1.out.thru hb
  clear hb HB1 HK1
  go_wp2_with fail
  refine (H3.out _).mono ?_
  rintro e w3 ⟨rfl, hb⟩
  have HK3 : Hid (Kept _ (w3.alloc (.cells #[.bool true, .bool false, .bool false] 35))) := (HK2.out.below hb).push (.cells #[.bool true, .bool false, .bool false] 35 (0, 0))
  have HB3 : Hid (Below w.heap.size w (w3.alloc (.cells #[.bool true, .bool false, .bool false] 35))) := (HB2.out.thru hb).alloc (HB2.out.thru hb).size _
  clear hb HB2 HK2
  obtain ⟨x0, x1, x2⟩ := flag_cells (HK3.out _ (.tail _ (.head _)))
  go_wp2_with fail
  refine (H4.out _).mono ?_
  rintro e w4 ⟨rfl, hb⟩
  have HB4 : Hid (Below w.heap.size w w4) := HB3.out.thru hb
  clear hb HB3
  go_wp2_with fail
  refine (H5.out _).mono ?_
  rintro e w5 ⟨rfl, hb⟩
  have HB5 : Hid (Below w.heap.size w w5) := HB4.out.thru hb
  clear hb HB4
  go_wp2
  go_ret
  exact ⟨rfl, HB5.out⟩
end Go.Proofs.YtgfbcncjboenbaaGreatDoor

/- Walks: the laws SingleOdd. -/
namespace Go.Proofs.YtgfbcncjboenbaaGreatDoor
open Go.RowKit
open Go.Lib hiding intOf

theorem sinA_ok {neg : Bool} {m : Int} {n : Nat} (hm : 1 ≤ m ∧ m ≤ 6) : sinA neg m n = ⟨sinB neg m n, !cutZ 24 n, false, false, 0⟩ := if_pos hm
theorem fromA_ok {neg : Bool} {m : Int} {b n : Nat} (hm : 1 ≤ m ∧ m ≤ 6) : fromA neg b m n = ⟨fromW neg b m n, !cutZ b n, false, false, 0⟩ := if_pos hm
end Go.Proofs.YtgfbcncjboenbaaGreatDoor
