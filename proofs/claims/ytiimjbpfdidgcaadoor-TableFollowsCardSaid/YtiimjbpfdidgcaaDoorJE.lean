/- Parts Fq, Yp of the proof, in one text. -/
import Derived.Test.YtiimjbpfdidgcaaDoorIO
import Derived.Test.YtiimjbpfdidgcaaDoorJA
import Derived.Test.YtiimjbpfdidgcaaDoorJB
import Derived.Test.YtiimjbpfdidgcaaDoorIK

/- The root of a number's rounded square is the number. Plain mathematics. -/
namespace Go.Proofs.YtiimjbpfdidgcaaDoor
open Go.RowKit

/-- By halves: what the root must lie between. -/
theorem root_between {n w H j m : Nat} (h1 : w * w ≤ n) (h2 : n < (w + 1) * (w + 1)) (hH : 1 ≤ H) (hj : m = 2 * j * 2^H) :
    (j * j < n → m * 1 < 2 * ((2 * w + (w * w != n).toNat) * 2^(H - 1))) ∧ (n < j * j → 2 * ((2 * w + (w * w != n).toNat) * 2^(H - 1)) < m * 1) := by
  obtain ⟨c1, c2⟩ := root_cmp (j := j) h1 h2
  have e : 2 * ((2 * w + (w * w != n).toNat) * 2^(H - 1)) = (2 * w + (w * w != n).toNat) * 2^H := by
    obtain ⟨i, rfl⟩ : ∃ i, H = i + 1 := ⟨H - 1, by omega⟩
    rw [Nat.add_sub_cancel, Nat.pow_succ, Nat.mul_comm 2, Nat.mul_assoc]
  rw [e, hj, Nat.mul_one]
  exact ⟨fun h => Nat.mul_lt_mul_of_pos_right (c1.1 h) (Nat.two_pow_pos _), fun h => Nat.mul_lt_mul_of_pos_right (c2.1 h) (Nat.two_pow_pos _)⟩

theorem sq_pow (K q : Nat) : K * 2^q * (K * 2^q) = K * K * 2^(2 * q) := by
  rw [Nat.mul_mul_mul_comm, ← Nat.pow_add, ← Nat.two_mul]

set_option maxRecDepth 100000 in
theorem square_root (x Z S : Nat) (hx : 4503599627370496 ≤ x) (hx1 : x < 9218868437227405312) (hZ : Near 52 (rv 52 x * rv 52 x) (2^LP) Z) (hZ1 : 4503599627370496 ≤ Z) (hZ2 : Z < 9218868437227405312) (hS : RootR Z S) : S = x := by
  obtain ⟨K, q, hk⟩ := kq_ex x hx hx1
  obtain ⟨M, p, hm⟩ := kq_ex Z hZ1 hZ2
  obtain ⟨n, w, H, g1, g2, g3, g4, g5, g6, -⟩ := hS
  rw [hm.abs] at g4
  obtain ⟨T, hT⟩ : ∃ T, T = rv 52 Z * 2^LP := ⟨_, rfl⟩
  rw [← hT] at g4
  have hTM : T = M * 2^(p + LP) := by rw [hT, hm.rv, Nat.mul_assoc, ← Nat.pow_add]
  have hU : rv 52 x * rv 52 x = K * K * 2^(2 * q) := by rw [hk.rv]; exact sq_pow K q
  obtain ⟨P, hP⟩ : ∃ P, P = 2^(p + LP) := ⟨_, rfl⟩
  obtain ⟨Q, hQ⟩ : ∃ Q, Q = 2^(2 * q) := ⟨_, rfl⟩
  have hP0 : 0 < P := by rw [hP]; exact Nat.two_pow_pos _
  have hQ0 : 0 < Q := by rw [hQ]; exact Nat.two_pow_pos _
  rw [hU] at hZ
  rw [← hP] at hTM
  rw [← hQ] at hZ
  have k1 := hk.lo
  have k2 := hk.hi
  have m1 := hm.lo
  have m2 := hm.hi
  -- neighbours of Z
  have hz1 : rv 52 (Z + 1) = rv 52 Z + 2^p := by
    rw [hm.rv, hm.eq, Nat.add_assoc, rv_kq p (M + 1) (by omega) (by omega), Nat.succ_mul]
  have hz0 : rv 52 Z ≤ rv 52 (Z - 1) + 2^p := by
    have e1 := rv_succ 52 (Z - 1)
    rw [show Z - 1 + 1 = Z by omega] at e1
    have e2 := rv_succ 52 Z
    have e3 := ulp_le (r := Z - 1) (s := Z) (by omega)
    omega
  have hA1 : 2 * T ≤ 2 * (K * K * Q) + P := by
    have h : (rv 52 (Z - 1) + rv 52 Z) * 2^LP ≤ 2 * (K * K * Q) := by
      rcases hZ.1 with h | h | h <;> omega
    have h2 : (2 * rv 52 Z) * 2^LP ≤ (rv 52 (Z - 1) + rv 52 Z + 2^p) * 2^LP := Nat.mul_le_mul_right _ (by omega)
    rw [Nat.add_mul _ (2^p), ← Nat.pow_add, ← hP, Nat.mul_assoc 2, ← hT] at h2
    omega
  have hA2 : 2 * (K * K * Q) ≤ 2 * T + P := by
    have h : 2 * (K * K * Q) ≤ (rv 52 Z + rv 52 (Z + 1)) * 2^LP := by
      rcases hZ.2 with h | h <;> omega
    rw [hz1, ← Nat.add_assoc, Nat.add_mul _ (2^p), ← Nat.pow_add, ← hP, ← Nat.two_mul, Nat.mul_assoc 2, ← hT] at h
    exact h
  -- the unit of Z
  have hTP : 4503599627370496 * P ≤ T := by rw [hTM]; exact Nat.mul_le_mul_right _ m1
  have hKK : K * K ≤ 9007199254740991 * 9007199254740991 := Nat.mul_le_mul (by omega) (by omega)
  have hKQ : K * K * Q ≤ 9007199254740991 * 9007199254740991 * Q := Nat.mul_le_mul_right _ hKK
  have hPQ1 : P < 18014398509481984 * Q := by omega
  have hpq : p + LP < 54 + 2 * q := by
    rw [hP, hQ, show (18014398509481984 : Nat) = 2^54 by decide, ← Nat.pow_add] at hPQ1
    exact (Nat.pow_lt_pow_iff_right (by decide)).1 hPQ1
  have hPQ : P ≤ 9007199254740992 * Q := by
    rw [hP, hQ, show (9007199254740992 : Nat) = 2^53 by decide, ← Nat.pow_add]
    exact Nat.pow_le_pow_right (by decide) (by omega)
  -- the root's last place
  have hHq : H + 2 ≤ q := by
    have h1 : 2^108 * 2^(2 * H) ≤ T := by rw [← g4]; exact Nat.mul_le_mul_right _ g3
    have h2 : T < 2^106 * Q := by
      have e : (2 : Nat)^106 = 81129638414606681695789005144064 := by decide
      rw [e]; omega
    rw [hQ] at h2
    rw [← Nat.pow_add] at h1 h2
    have := (Nat.pow_lt_pow_iff_right (a := 2) (by decide)).1 (Nat.lt_of_le_of_lt h1 h2)
    omega
  obtain ⟨c, hc⟩ : ∃ c, q = H + 2 + c := ⟨q - H - 2, by omega⟩
  have hp2 : ∀ a : Nat, a * 2^(c + 1) * (a * 2^(c + 1)) * 2^(2 * H) * 4 = a * a * Q := fun a => by
    rw [sq_pow, Nat.mul_assoc (a * a), ← Nat.pow_add, Nat.mul_assoc, show (4 : Nat) = 2^2 by decide, ← Nat.pow_add, hQ]
    congr 2; omega
  -- upwards
  have hup : rv 52 x + rv 52 (x + 1) = 2 * ((2 * K + 1) * 2^(c + 1)) * 2^H := by
    have e1 : rv 52 (x + 1) = (K + 1) * 2^q := by rw [hk.eq, Nat.add_assoc, rv_kq q (K + 1) (by omega) (by omega)]
    have e2 : 2^q = 2 * 2^(c + 1) * 2^H := by rw [Nat.mul_comm 2, ← Nat.pow_succ, ← Nat.pow_add]; congr 1; omega
    rw [hk.rv, e1, ← Nat.add_mul, e2, show K + (K + 1) = 2 * K + 1 by omega]
    simp only [Nat.mul_assoc, Nat.mul_left_comm]
  have hup2 : n < (2 * K + 1) * 2^(c + 1) * ((2 * K + 1) * 2^(c + 1)) := by
    have e := hp2 (2 * K + 1)
    refine Nat.lt_of_mul_lt_mul_right (a := 2^(2 * H) * 4) ?_
    rw [← Nat.mul_assoc, ← Nat.mul_assoc, g4, e]
    have e3 : (2 * K + 1) * (2 * K + 1) * Q = 4 * (K * K * Q) + 4 * (K * Q) + Q := by
      rw [show (2 * K + 1) * (2 * K + 1) = 4 * (K * K) + 4 * K + 1 by rw [Nat.add_mul, Nat.mul_add, Nat.mul_add, Nat.mul_mul_mul_comm]; omega, Nat.add_mul, Nat.add_mul, Nat.mul_assoc 4, Nat.mul_assoc 4, Nat.one_mul]
    rw [e3]
    have h4 : 4503599627370496 * Q ≤ K * Q := Nat.mul_le_mul_right _ k1
    omega
  have hnear2 := (root_between g1 g2 g5 hup).2 hup2
  -- downwards
  have hlow : ∃ j, rv 52 (x - 1) + rv 52 x = 2 * j * 2^H ∧ j * j < n := by
    by_cases hK : K = 4503599627370496
    · -- a power of two: exact
      have hUe : K * K * Q = 2^(104 + 2 * q) := by rw [hK, hQ, show (4503599627370496 * 4503599627370496 : Nat) = 2^104 by decide, ← Nat.pow_add]
      have hle : LP ≤ 104 + 2 * q := by
        have h1 : 2^(LP + 1) ≤ 2^(105 + 2 * q) := by
          have h2 : 2^(105 + 2 * q) = 2 * (K * K * Q) := by rw [hUe, show 105 + 2 * q = 104 + 2 * q + 1 by omega, Nat.pow_succ, Nat.mul_comm]
          rw [h2]
          have h3 : 2^LP ≤ P := by rw [hP]; exact Nat.pow_le_pow_right (by decide) (by omega)
          rw [Nat.pow_succ]
          omega
        have := (Nat.pow_le_pow_iff_right (a := 2) (by decide)).1 h1
        omega
      obtain ⟨Z', hZ'⟩ : Rep (1 * 2^(104 + 2 * q - LP)) := rep_mul _ _ (by decide)
      rw [Nat.one_mul] at hZ'
      have hT2 : T = K * K * Q := by
        have h := Near.exact 52 Z' (2^LP) (Nat.two_pow_pos _)
        have e : rv 52 Z' * 2^LP = K * K * Q := by rw [hZ', hUe, ← Nat.pow_add]; congr 1; omega
        rw [e] at h
        have := Near.uniq (Nat.two_pow_pos _) hZ h
        rw [hT, this, e]
      refine ⟨18014398509481983 * 2^c, ?_, ?_⟩
      · have e1 : rv 52 (x - 1) = 9007199254740991 * 2^(q - 1) := by
          have e : x - 1 = (q - 1) * 4503599627370496 + 9007199254740991 := by rw [hk.eq, hK]; omega
          rw [e, rv_kq (q - 1) 9007199254740991 (by decide) (by decide)]
        have e2 : 2^q = 2 * 2^(q - 1) := by rw [Nat.mul_comm, ← Nat.pow_succ]; congr 1; omega
        have e3 : 2^(q - 1) = 2 * (2^c * 2^H) := by rw [← Nat.pow_add, Nat.mul_comm, ← Nat.pow_succ]; congr 1; omega
        have e4 : 2 * (18014398509481983 * 2^c) * 2^H = 36028797018963966 * (2^c * 2^H) := by rw [← Nat.mul_assoc, Nat.mul_assoc]
        rw [e1, hk.rv, hK, e2, e3, e4]
        generalize 2^c * 2^H = Y
        omega
      · have e := sq_pow 18014398509481983 c
        refine Nat.lt_of_mul_lt_mul_right (a := 2^(2 * H)) ?_
        rw [g4, hT2, e, Nat.mul_assoc, ← Nat.pow_add, hUe]
        have e5 : 2^(104 + 2 * q) = 2^108 * 2^(2 * c + 2 * H) := by rw [← Nat.pow_add]; congr 1; omega
        rw [e5]
        exact Nat.mul_lt_mul_of_pos_right (by decide) (Nat.two_pow_pos _)
    · refine ⟨(2 * K - 1) * 2^(c + 1), ?_, ?_⟩
      · have e1 : rv 52 (x - 1) = (K - 1) * 2^q := by
          have e : x - 1 = q * 4503599627370496 + (K - 1) := by rw [hk.eq]; omega
          rw [e, rv_kq q (K - 1) (by omega) (by omega)]
        have e2 : 2^q = 2 * 2^(c + 1) * 2^H := by rw [Nat.mul_comm 2, ← Nat.pow_succ, ← Nat.pow_add]; congr 1; omega
        rw [hk.rv, e1, ← Nat.add_mul, e2, show K - 1 + K = 2 * K - 1 by omega]
        simp only [Nat.mul_assoc, Nat.mul_left_comm, Nat.mul_comm]
      · have e : (2 * K - 1) * 2^(c + 1) * ((2 * K - 1) * 2^(c + 1)) * (2^(2 * H) * 4) = (2 * K - 1) * (2 * K - 1) * Q := by rw [← Nat.mul_assoc]; exact hp2 (2 * K - 1)
        have g4' : n * (2^(2 * H) * 4) = T * 4 := by rw [← Nat.mul_assoc, g4]
        refine Nat.lt_of_mul_lt_mul_right (a := 2^(2 * H) * 4) ?_
        rw [g4', e]
        obtain ⟨J, hJ⟩ : ∃ J, K = J + 1 := ⟨K - 1, by omega⟩
        have e3 : (2 * K - 1) * (2 * K - 1) * Q + 4 * (K * Q) = 4 * (K * K * Q) + Q := by
          rw [hJ, show 2 * (J + 1) - 1 = 2 * J + 1 by omega]
          rw [show (2 * J + 1) * (2 * J + 1) = 4 * (J * J) + 4 * J + 1 by rw [Nat.add_mul, Nat.mul_add, Nat.mul_add, Nat.mul_mul_mul_comm]; omega, show (J + 1) * (J + 1) = J * J + 2 * J + 1 by rw [Nat.add_mul, Nat.mul_add]; omega]
          simp only [Nat.add_mul, Nat.mul_add, Nat.mul_assoc, Nat.one_mul]
          omega
        have h4 : 4503599627370497 * Q ≤ K * Q := Nat.mul_le_mul_right _ (by omega)
        omega
  obtain ⟨j, hj1, hj2⟩ := hlow
  have hnear1 := (root_between g1 g2 g5 hj1).1 hj2
  have hN : Near 52 ((2 * w + (w * w != n).toNat) * 2^(H - 1)) 1 x := ⟨.inr (.inl hnear1), .inl hnear2⟩
  exact Near.uniq (by decide) g6 hN
end Go.Proofs.YtiimjbpfdidgcaaDoor

/- What follows of layer 7 without the document's answer: orders, Fused by one and by nought, a sum and its rest, near numbers, what is left. Plain mathematics. -/
namespace Go.Proofs.YtiimjbpfdidgcaaDoor
open Go.RowKit

theorem eq_infs (a b : Nat) (ha : W64 a) (hb : W64 b) (ia : infB a = true) (ib : infB b = true) (hs : sgnB a = sgnB b) : a = b := by
  have ea := split_B a ha
  have eb := split_B b hb
  unfold sgnW at ea eb
  unfold infB at ia ib
  simp only [decide_eq_true_eq] at ia ib
  rw [hs, ia] at ea
  rw [ib] at eb
  exact ea.trans eb.symm

/-- A sum does not hang on the order. -/
theorem addB_comm (a b R : Nat) (ha : W64 a) (hb : W64 b) : addB b a R = addB a b R ∧ addX b a R = addX a b R := by
  have hbad : addBad b a = addBad a b := by
    unfold addBad
    cases nanB a <;> cases nanB b <;> cases infB a <;> cases infB b <;> cases sgnB a <;> cases sgnB b <;> rfl
  constructor
  · unfold addB
    rw [hbad, Int.add_comm (valB b)]
    cases h : addBad a b
    · simp only [Bool.false_eq_true, if_false]
      cases ia : infB a <;> cases ib : infB b <;> simp only [Bool.false_eq_true, if_false, if_true]
      · by_cases h1 : a = 9223372036854775808 ∧ b = 9223372036854775808
        · rw [if_pos (And.intro h1.2 h1.1), if_pos h1]
        · rw [if_neg (fun h2 : b = 9223372036854775808 ∧ a = 9223372036854775808 => h1 ⟨h2.2, h2.1⟩), if_neg h1]
      · refine (eq_infs a b ha hb ia ib ?_).symm
        unfold addBad at h
        rw [ia, ib] at h
        revert h
        cases nanB a <;> cases nanB b <;> cases sgnB a <;> cases sgnB b <;> decide
    · rfl
  · unfold addX
    rw [hbad, Int.add_comm (valB b)]
    cases addBad a b <;> cases infB a <;> cases infB b <;> rfl
/-- Nor does a product. -/
theorem mulB_comm (a b R : Nat) : mulB b a R = mulB a b R ∧ mulX b a R = mulX a b R := by
  constructor
  · unfold mulB
    cases nanB a <;> cases nanB b <;> cases infB a <;> cases infB b <;> cases zeroB a <;> cases zeroB b <;> cases sgnB a <;> cases sgnB b <;> rfl
  · unfold mulX
    cases nanB a <;> cases nanB b <;> cases infB a <;> cases infB b <;> cases zeroB a <;> cases zeroB b <;> rfl

theorem one_val : valB 4607182418800017408 = ((2^LP : Nat) : Int) := by
  rw [valB_small _ (by decide), pow_rv' 4607182418800017408 1022 LP (by decide) (by rw [LP_eq])]
theorem mul_pos_neg (A P : Int) (hP : 0 < P) : (A * P = 0 ↔ A = 0) ∧ (A * P < 0 ↔ A < 0) := by
  refine ⟨⟨fun h => ?_, fun h => by rw [h, Int.zero_mul]⟩, ⟨fun h => ?_, fun h => Int.mul_neg_of_neg_of_pos h hP⟩⟩
  · rcases Int.mul_eq_zero.1 h with h | h
    · exact h
    · omega
  · refine Decidable.byContradiction fun hn => ?_
    have := Int.mul_nonneg (show 0 ≤ A by omega) (Int.le_of_lt hP)
    omega

theorem near_one (x y R : Nat) (h : Near 52 (valB x + valB y).natAbs 1 R) : Near 52 (fusT x 4607182418800017408 y).natAbs (2^LP) R := by
  unfold fusT
  rw [one_val, ← Int.add_mul, Int.natAbs_mul, Int.natAbs_natCast]
  have := (Near.scale (p := 52) (R := R) (M := (valB x + valB y).natAbs) (S := 1) (2^LP) (Nat.two_pow_pos _)).2 h
  rwa [Nat.one_mul] at this
theorem near_nought (x y R : Nat) (h : Near 52 (rv 52 (absB x) * rv 52 (absB y)) (2^LP) R) : Near 52 (fusT x y 9223372036854775808).natAbs (2^LP) R := by
  unfold fusT
  rw [show valB 9223372036854775808 = 0 by decide, Int.zero_mul, Int.add_zero, Int.natAbs_mul, valB_abs', valB_abs']
  exact h

theorem neg_nought (x : Nat) (hx : W64 x) : (zeroB x && sgnB x) = decide (x = 9223372036854775808) := by
  unfold W64 at hx
  unfold zeroB sgnB absB
  rw [← Bool.decide_and, decide_eq_decide]
  omega
theorem inf_word (x : Nat) (hx : W64 x) (h : infB x = true) : sgW (sgnB x) + 9218868437227405312 = x := by
  have e := split_B x hx
  unfold infB at h
  rw [of_decide_eq_true h] at e
  exact e.symm

/-- Fused by one is the sum. -/
theorem fus_one (x y R : Nat) (hx : W64 x) : fusB x 4607182418800017408 y R = addB x y R ∧ fusX x 4607182418800017408 y R = addX x y R := by
  have n1 : nanB 4607182418800017408 = false := by decide
  have i1 : infB 4607182418800017408 = false := by decide
  have z1 : zeroB 4607182418800017408 = false := by decide
  have f1 : finB 4607182418800017408 = true := by decide
  have s1 : sgnB 4607182418800017408 = false := by decide
  have hT : fusT x 4607182418800017408 y = (valB x + valB y) * ((2^LP : Nat) : Int) := by unfold fusT; rw [one_val, Int.add_mul]
  obtain ⟨hT0, hTl⟩ := mul_pos_neg (valB x + valB y) _ (two_pow_int_pos LP)
  rw [← hT] at hT0 hTl
  have hbad : fusBad x 4607182418800017408 y = addBad x y := by
    unfold fusBad addBad
    rw [n1, i1, z1, s1]
    cases nanB x <;> cases nanB y <;> cases infB x <;> cases infB y <;> cases zeroB x <;> cases sgnB x <;> cases sgnB y <;> rfl
  have hfin : addBad x y = false → fusFin x 4607182418800017408 y = (!infB x && !infB y) := by
    unfold fusFin addBad
    rw [f1, finB_eq x, finB_eq y]
    cases nanB x <;> cases nanB y <;> simp
  constructor
  · unfold fusB addB
    rw [hbad, i1, z1, s1]
    cases addBad x y
    · cases ix : infB x
      · simp only [Bool.or_false, Bool.false_eq_true, if_false, Bool.bne_false]
        cases iy : infB y
        · simp only [Bool.false_eq_true, if_false]
          rw [neg_nought x hx, ← Bool.decide_and]
          simp only [decide_eq_true_eq]
          by_cases h0 : valB x + valB y = 0
          · rw [if_pos (hT0.2 h0), if_pos h0]
          · rw [if_neg (mt hT0.1 h0), if_neg h0, decide_eq_decide.2 hTl]
        · rfl
      · simp only [Bool.or_false, Bool.false_eq_true, if_false, if_true, Bool.bne_false]
        exact inf_word x hx ix
    · rfl
  · unfold fusX addX
    cases hb : addBad x y
    · rw [hfin hb]
      cases infB x <;> cases infB y <;> simp only [Bool.not_true, Bool.not_false, Bool.and_false, Bool.and_true, Bool.or_true, Bool.or_false, Bool.false_eq_true, if_false, if_true]
      by_cases h0 : valB x + valB y = 0
      · rw [if_pos (hT0.2 h0), if_pos h0]
      · rw [if_neg (mt hT0.1 h0), if_neg h0]
    · have : fusFin x 4607182418800017408 y = false := by
        unfold addBad at hb
        unfold fusFin
        rw [f1, finB_eq x, finB_eq y]
        revert hb
        cases nanB x <;> cases nanB y <;> cases infB x <;> cases infB y <;> simp
      rw [this]; rfl

theorem val_mul (x y : Nat) : valB x * valB y = sg (sgnB x != sgnB y) (rv 52 (absB x) * rv 52 (absB y)) := by
  have e : (sgnB x != sgnB y) = (sgnB x ^^ sgnB y) := by cases sgnB x <;> cases sgnB y <;> rfl
  rw [e, ← sg_mul_sg]; rfl
theorem rv_pos_zero (x : Nat) : rv 52 (absB x) = 0 ↔ zeroB x = true := by
  unfold zeroB
  rw [decide_eq_true_eq]
  constructor
  · intro h; exact rv_inj (p := 52) (by rw [h, rv_zero])
  · intro h; rw [h, rv_zero]

/-- Fused with nought is the product. -/
theorem fus_nought (x y R : Nat) : fusB x y 9223372036854775808 R = mulB x y R ∧ fusX x y 9223372036854775808 R = mulX x y R := by
  have n1 : nanB 9223372036854775808 = false := by decide
  have i1 : infB 9223372036854775808 = false := by decide
  have f1 : finB 9223372036854775808 = true := by decide
  have hT : fusT x y 9223372036854775808 = sg (sgnB x != sgnB y) (rv 52 (absB x) * rv 52 (absB y)) := by
    unfold fusT
    rw [show valB 9223372036854775808 = 0 by decide, Int.zero_mul, Int.add_zero, val_mul]
  have hT0 : fusT x y 9223372036854775808 = 0 ↔ (zeroB x || zeroB y) = true := by
    rw [hT, sg_zero, Nat.mul_eq_zero, rv_pos_zero, rv_pos_zero, Bool.or_eq_true]
  have hTl : (zeroB x || zeroB y) = false → decide (fusT x y 9223372036854775808 < 0) = (sgnB x != sgnB y) := fun h => by
    have h0 : rv 52 (absB x) * rv 52 (absB y) ≠ 0 := fun h0 => by
      have := hT0.1 (by rw [hT, sg_zero]; exact h0)
      rw [h] at this; cases this
    rw [hT]
    have := sg_lt (sgnB x != sgnB y) (rv 52 (absB x) * rv 52 (absB y))
    rw [Bool.eq_iff_iff, decide_eq_true_eq, this]
    exact ⟨fun h => h.1, fun h => ⟨h, h0⟩⟩
  have hbad : fusBad x y 9223372036854775808 = (nanB x || nanB y || (infB x && zeroB y || zeroB x && infB y)) := by
    unfold fusBad
    rw [n1, i1]
    simp only [Bool.or_false, Bool.and_false, Bool.false_and]
  constructor
  · unfold fusB mulB
    rw [hbad, i1]
    cases nanB x <;> cases nanB y <;> simp only [Bool.or_false, Bool.or_true, Bool.false_or, Bool.true_or, Bool.false_eq_true, if_false, if_true]
    cases h1 : (infB x && zeroB y || zeroB x && infB y)
    · simp only [Bool.false_eq_true, if_false]
      cases h2 : (infB x || infB y)
      · simp only [Bool.false_eq_true, if_false]
        cases h3 : (zeroB x || zeroB y)
        · rw [if_neg (mt hT0.1 (by rw [h3]; decide)), hTl h3]
          simp
        · rw [if_pos (hT0.2 h3)]
          cases (sgnB x != sgnB y) <;> simp [sgW]
      · rfl
    · have h2 : (infB x || infB y) = true := by revert h1; cases infB x <;> cases infB y <;> simp
      rw [h2]; rfl
  · unfold fusX mulX fusFin
    rw [f1, finB_eq x, finB_eq y]
    cases nanB x <;> cases nanB y <;> cases infB x <;> cases infB y <;> simp only [Bool.not_true, Bool.not_false, Bool.and_false, Bool.and_true, Bool.or_true, Bool.or_false, Bool.false_eq_true, if_false, if_true]
    cases h3 : (zeroB x || zeroB y)
    · rw [if_neg (mt hT0.1 (by rw [h3]; decide))]; rfl
    · rw [if_pos (hT0.2 h3)]; rfl

/-- What a sum's rounding lost is a number. -/
theorem rest_val (a b s r : Nat) (h4 : r < 9218868437227405312) (h5 : rv 52 r = (resD a b s).natAbs) : W64 (restB a b s r) ∧ finB (restB a b s r) = true ∧ valB (restB a b s r) = resD a b s := by
  unfold restB
  by_cases h0 : resD a b s = 0
  · rw [if_pos h0, h0]
    exact ⟨by unfold W64; decide, by decide, by decide⟩
  · rw [if_neg h0]
    obtain ⟨v1, v2, v3⟩ := valB_word (decide (resD a b s < 0)) r (by omega)
    refine ⟨v1, by unfold finB; rw [v2]; simpa using h4, ?_⟩
    rw [v3, h5]
    unfold sg
    by_cases h1 : resD a b s < 0
    · rw [decide_eq_true h1, if_pos rfl]; omega
    · rw [decide_eq_false h1, if_neg (by simp)]; omega

/-! Near numbers. -/
theorem half_key (X Y K J q p h : Nat) (hX : rv 52 X = K * 2^q) (hY : rv 52 Y = J * 2^p) (hK : K < 9007199254740992) (hJ : J < 9007199254740992) (hn : 4503599627370496 ≤ J ∨ p = 0) (H : Near 52 (rv 52 Y) 2 h) (l : h ≤ X) :
    p ≤ q + 1 ∧ (p = q + 1 → J ≤ K) := by
  have h4 : rv 52 h ≤ rv 52 X := rv_le l
  have hex : ∀ i, p = i + 1 → rv 52 h = J * 2^i := fun i hi => by
    obtain ⟨r, hr⟩ : Rep (J * 2^i) := rep_mul i J (Nat.le_of_lt hJ)
    have : h = r := by
      refine Near.uniq (by decide) H ?_
      rw [hY, hi, Nat.pow_succ, ← Nat.mul_assoc, ← hr]; exact Near.exact 52 r 2 (by decide)
    rw [this, hr]
  constructor
  · rcases Nat.lt_or_ge (q + 1) p with g | g
    · exfalso
      obtain ⟨i, rfl⟩ : ∃ i, p = i + 1 := ⟨p - 1, by omega⟩
      rw [hex i rfl, hX] at h4
      have h5 : 4503599627370496 * 2^i ≤ J * 2^i := Nat.mul_le_mul_right _ (by omega)
      have h6 : K * 2^q < 9007199254740992 * 2^q := Nat.mul_lt_mul_of_pos_right hK (Nat.two_pow_pos _)
      have h7 : 2^(q + 1) ≤ 2^i := Nat.pow_le_pow_right (by decide) (by omega)
      rw [Nat.pow_succ] at h7
      omega
    · exact g
  · intro g
    rw [hex q g, hX] at h4
    exact Nat.le_of_mul_le_mul_right h4 (Nat.two_pow_pos _)

theorem abs_mul_sub (A B P : Nat) : ((A : Int) - (B : Int)).natAbs * P = (((A * P : Nat) : Int) - ((B * P : Nat) : Int)).natAbs := by
  rw [Int.natCast_mul, Int.natCast_mul, ← Int.sub_mul, Int.natAbs_mul, Int.natAbs_natCast]
theorem near_diff (X Y hx hy : Nat) (Hx : Near 52 (rv 52 X) 2 hx) (Hy : Near 52 (rv 52 Y) 2 hy) (lx : hx ≤ Y) (ly : hy ≤ X) : ∃ r, rv 52 r = (((rv 52 X : Nat) : Int) - ((rv 52 Y : Nat) : Int)).natAbs := by
  obtain ⟨K, q, k1, k2, -, k4⟩ := rv_parts X
  obtain ⟨J, p, j1, j2, -, j4⟩ := rv_parts Y
  obtain ⟨a1, a2⟩ := half_key X Y K J q p hy k1 j1 k2 j2 j4 Hy ly
  obtain ⟨b1, b2⟩ := half_key Y X J K p q hx j1 k1 j2 k2 k4 Hx lx
  have hcase : p = q ∨ p = q + 1 ∨ q = p + 1 := by omega
  rcases hcase with h | h | h
  · obtain ⟨r, hr⟩ : Rep (((K : Int) - (J : Int)).natAbs * 2^q) := rep_mul q _ (by omega)
    refine ⟨r, ?_⟩
    rw [hr, abs_mul_sub, k1, j1, h]
  · have := a2 h
    obtain ⟨r, hr⟩ : Rep (((K : Int) - ((2 * J : Nat) : Int)).natAbs * 2^q) := rep_mul q _ (by omega)
    refine ⟨r, ?_⟩
    rw [hr, abs_mul_sub, k1, j1, h, Nat.pow_succ, Nat.mul_comm (2^q) 2, ← Nat.mul_assoc, Nat.mul_comm J 2]
  · have := b2 h
    obtain ⟨r, hr⟩ : Rep ((((2 * K : Nat) : Int) - (J : Int)).natAbs * 2^p) := rep_mul p _ (by omega)
    refine ⟨r, ?_⟩
    rw [hr, abs_mul_sub, k1, j1, h, Nat.pow_succ, Nat.mul_comm (2^p) 2, ← Nat.mul_assoc, Nat.mul_comm K 2]

/-- The difference of near numbers is a number. -/
theorem near_sub (x y hx hy R : Nat) (fx : finB x = true) (fy : finB y = true) (hs : sgnB x = sgnB y) (Hx : Near 52 (rv 52 (absB x)) 2 hx) (Hy : Near 52 (rv 52 (absB y)) 2 hy) (lx : hx ≤ absB y) (ly : hy ≤ absB x)
    (hR : Near 52 (valB x + valB (negR y)).natAbs 1 R) (hv : valB (negR y) = -valB y) : R < 9218868437227405312 ∧ rv 52 R = (valB x - valB y).natAbs := by
  obtain ⟨r, hr⟩ := near_diff (absB x) (absB y) hx hy Hx Hy lx ly
  have hd : (valB x - valB y).natAbs = rv 52 r := by
    rw [hr]
    unfold valB
    rw [hs]
    split <;> omega
  have e : (valB x + valB (negR y)).natAbs = rv 52 r := by rw [hv, ← Int.sub_eq_add_neg, hd]
  rw [e] at hR
  have hRr : R = r := Near.uniq (by decide) hR (by have := Near.exact 52 r 1 (by decide); rwa [Nat.mul_one] at this)
  rw [hRr, hd]
  refine ⟨?_, rfl⟩
  have l1 := finB_lt' x fx
  have l2 := finB_lt' y fy
  have hle : rv 52 r ≤ rv 52 (absB x) ∨ rv 52 r ≤ rv 52 (absB y) := by rw [hr]; omega
  rcases hle with h | h
  · have := rv_le_iff.1 h; omega
  · have := rv_le_iff.1 h; omega

/-- A sum that is a number. -/
theorem add_exact (a b R : Nat) (fa : finB a = true) (fb : finB b = true) (hR : Near 52 (valB a + valB b).natAbs 1 R) (hlt : R < 9218868437227405312) (he : rv 52 R = (valB a + valB b).natAbs) :
    W64 (addB a b R) ∧ finB (addB a b R) = true ∧ valB (addB a b R) = valB a + valB b ∧ addX a b R = 0 := by
  obtain ⟨g1, g2, g3, g4⟩ := add_val a b R fa fb hR hlt
  refine ⟨g1, g2, ?_, ?_⟩
  · have h1 := valB_abs' (addB a b R)
    rw [g3, he] at h1
    generalize valB (addB a b R) = s at *
    generalize valB a + valB b = t at *
    rcases Int.lt_trichotomy t 0 with h | h | h
    · rcases Int.lt_or_le 0 s with k | k
      · have := Int.mul_neg_of_pos_of_neg k h; omega
      · omega
    · omega
    · rcases Int.lt_or_le s 0 with k | k
      · have := Int.mul_neg_of_neg_of_pos k h; omega
      · omega
  · have na : nanB a = false ∧ infB a = false := by rw [finB_eq] at fa; simpa using fa
    have nb : nanB b = false ∧ infB b = false := by rw [finB_eq] at fb; simpa using fb
    have hbad : addBad a b = false := by unfold addBad; rw [na.1, nb.1, na.2]; rfl
    unfold addX resX
    simp only [hbad, na.2, nb.2, Bool.or_self, Bool.false_eq_true, if_false, if_pos hlt]
    split <;> rfl

/-- What is left lies between. -/
theorem mod_between (x y r R : Nat) (fx : finB x = true) (fy : finB y = true) (zy : zeroB y = false) (h : ModR x y r R) :
    W64 (mdB x y r R) ∧ finB (mdB x y r R) = true ∧ mdX x y = 0 ∧ ∃ t, t ≤ rv 52 (absB y) ∧ valB (mdB x y r R) = sg (sgnB y) t := by
  have na : nanB x = false ∧ infB x = false := by rw [finB_eq] at fx; simpa using fx
  have nb : nanB y = false ∧ infB y = false := by rw [finB_eq] at fy; simpa using fy
  have hy0 : 0 < absB y := by unfold zeroB at zy; simp at zy; omega
  have ly := finB_lt' y fy
  obtain ⟨l1, l2⟩ := h.le hy0
  have key : ∀ t, t ≤ absB y → W64 (sgW (sgnB y) + t) ∧ finB (sgW (sgnB y) + t) = true ∧ ∃ u, u ≤ rv 52 (absB y) ∧ valB (sgW (sgnB y) + t) = sg (sgnB y) u := fun t ht => by
    obtain ⟨v1, v2, v3⟩ := valB_word (sgnB y) t (by omega)
    exact ⟨v1, by unfold finB; rw [v2]; simp; omega, _, rv_le ht, v3⟩
  have hx : mdX x y = 0 := by unfold mdX; simp [na.1, nb.1, zy]
  have hm : ∃ t, t ≤ absB y ∧ mdB x y r R = sgW (sgnB y) + t := by
    unfold mdB
    simp only [na.1, na.2, nb.1, nb.2, zy, Bool.or_self, Bool.false_eq_true, if_false]
    by_cases h0 : r = 0
    · rw [if_pos h0]; exact ⟨0, Nat.zero_le _, rfl⟩
    · rw [if_neg h0]
      cases (sgnB x == sgnB y)
      · exact ⟨R, l2, rfl⟩
      · exact ⟨r, Nat.le_of_lt l1, rfl⟩
  obtain ⟨t, ht, e⟩ := hm
  obtain ⟨k1, k2, k3⟩ := key t ht
  rw [e]
  exact ⟨k1, k2, hx, k3⟩
/-- A half. -/
theorem half_any (a : Nat) (h : a < 9218868437227405312) : ∃ r, Go.floatBits .quo .f64 a 4611686018427387904 = some r ∧ r < 9218868437227405312 ∧ Near 52 (rv 52 a) 2 r := by
  have aa : absB a = a := by unfold absB; omega
  have sa : sgnB a = false := by unfold sgnB; simp; omega
  have hl := LP_eq
  obtain ⟨R, g1, g2⟩ := div_fin Ieee.double (by decide) (by decide) a 4611686018427387904 (by rw [fin_D]; unfold finB; rw [aa]; simpa using h) (by rw [fin_D]; decide) (by rw [rg_D]; decide)
  rw [sgn_D a (by unfold W64; omega), sgn_D _ (by unfold W64; decide), sa, D_inf] at g1
  rw [rg_D, rg_D, aa, D_lp', show (-(-(LP : Int))).toNat = LP from by omega, show absB 4611686018427387904 = 4611686018427387904 from by decide] at g2
  have g3 : Near 52 (rv 52 a) 2 R := by
    refine Near.cross (by rw [← rv_zero 52]; exact rv_lt (by decide)) (by decide) ?_ g2
    change rv 52 a * 2^LP * 2 = rv 52 a * rv 52 4611686018427387904
    rw [pow_rv' 4611686018427387904 1023 (LP + 1) (by decide) (by omega), Nat.pow_succ, Nat.mul_assoc]
  have hR : R ≤ a := by
    rcases Nat.lt_or_ge a R with lt | ge
    · exfalso
      have h1 : rv 52 a ≤ rv 52 (R-1) := rv_le (by omega)
      have h2 : rv 52 a < rv 52 R := rv_lt lt
      rcases g3.1 with c | c | ⟨c, _⟩ <;> omega
    · exact ge
  refine ⟨R, ?_, by omega, g3⟩
  show Ieee.double.div a 4611686018427387904 = some R
  rw [g1, Nat.min_eq_left (by omega)]; rfl
theorem ord_val (a b : Nat) (ha : W64 a) (hb : W64 b) (fa : finB a = true) (fb : finB b = true) : Go.FloatKind.f64.format.order a b = some (compare (valB a) (valB b)) := by
  have na : nanB a = false := by rw [finB_eq] at fa; revert fa; cases nanB a <;> simp
  have nb : nanB b = false := by rw [finB_eq] at fb; revert fb; cases nanB b <;> simp
  exact ord_D a b ha hb na nb
theorem pos_le (r y : Nat) (hr : r < 9218868437227405312) (hy : y < 9218868437227405312) : (Go.FloatKind.f64.format.order r y == some Ordering.lt || Go.FloatKind.f64.format.order r y == some Ordering.eq) = decide (r ≤ y) := by
  have ar : absB r = r := by unfold absB; omega
  have ay : absB y = y := by unfold absB; omega
  rw [ord_val r y (by unfold W64; omega) (by unfold W64; omega) (by unfold finB; rw [ar]; simpa using hr) (by unfold finB; rw [ay]; simpa using hy), cmpI_lt, cmpI_eq', ← Bool.decide_or, decide_eq_decide]
  rw [valB_small r (by omega), valB_small y (by omega)]
  have h1 := @rv_lt_iff 52 r y
  have h2 := @rv_le_iff 52 r y
  omega
theorem cmpI_gt (x y : Int) : (some (compare x y) == some Ordering.gt) = decide (y < x) := by
  show (some (if x < y then Ordering.lt else if x = y then .eq else .gt) == _) = _
  by_cases h : x < y
  · rw [if_pos h]; have : ¬ y < x := by omega
    simp [this]
  · rw [if_neg h]; by_cases e : x = y
    · rw [if_pos e]; subst e; simp
    · rw [if_neg e]; have : y < x := by omega
      simp [this]
/-- The tests of what is left: none ends the law. -/
theorem mod_tests (y m t : Nat) (wy : W64 y) (wm : W64 m) (fy : finB y = true) (fm : finB m = true) (zy : zeroB y = false) (ht : t ≤ rv 52 (absB y)) (hv : valB m = sg (sgnB y) t) :
    (Go.FloatKind.f64.format.order y 0 == some Ordering.gt) = !sgnB y ∧ (Go.FloatKind.f64.format.order y 0 == some Ordering.lt) = sgnB y ∧
    (sgnB y = false → (Go.FloatKind.f64.format.order m 0 == some Ordering.lt) = false ∧ (Go.FloatKind.f64.format.order m y == some Ordering.gt) = false) ∧
    (sgnB y = true → (Go.FloatKind.f64.format.order m 0 == some Ordering.gt) = false ∧ (Go.FloatKind.f64.format.order m y == some Ordering.lt) = false) := by
  have w0 : W64 0 := by unfold W64; decide
  have f0 : finB 0 = true := by decide
  have v0 : valB 0 = 0 := by decide
  have hp : 0 < rv 52 (absB y) := by
    have : 0 < absB y := by unfold zeroB at zy; simp at zy; omega
    have := rv_lt (p := 52) this; omega
  have hy : valB y = sg (sgnB y) (rv 52 (absB y)) := rfl
  rw [ord_val y 0 wy w0 fy f0, ord_val m 0 wm w0 fm f0, ord_val m y wm wy fm fy, cmpI_gt, cmpI_lt, cmpI_gt, cmpI_lt, cmpI_gt, cmpI_lt, v0, hv, hy]
  generalize rv 52 (absB y) = u at *
  cases sgnB y <;> unfold sg <;> simp <;> omega
end Go.Proofs.YtiimjbpfdidgcaaDoor
