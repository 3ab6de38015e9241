/- Parts Sj, Rj of the proof, in one text. -/
import Derived.Test.YtiimjbpfdidgcaaDoorHA
import Derived.Test.YtiimjbpfdidgcaaDoorHT

/- The square root: the model's, and the reference's, rounded once. Plain mathematics, no program. -/
namespace Go.Proofs.YtiimjbpfdidgcaaDoor
open Ieee

theorem sq_lt {a b : Nat} : a * a < b * b ↔ a < b := by
  constructor
  · intro h
    refine Decidable.byContradiction fun hc => ?_
    have := Nat.mul_le_mul (show b ≤ a by omega) (show b ≤ a by omega)
    omega
  · intro h
    exact Nat.mul_lt_mul_of_lt_of_le h (Nat.le_of_lt h) (by omega)

theorem root_from (n : Nat) : ∀ (todo root : Nat), root * root ≤ n → n < (root + 2^todo) * (root + 2^todo) → Datum.rootFrom n todo root * Datum.rootFrom n todo root ≤ n ∧ n < (Datum.rootFrom n todo root + 1) * (Datum.rootFrom n todo root + 1)
  | 0, root, h1, h2 => by simpa [Datum.rootFrom] using ⟨h1, h2⟩
  | todo + 1, root, h1, h2 => by
    have e : 1 <<< todo = 2^todo := by rw [Nat.shiftLeft_eq, Nat.one_mul]
    unfold Datum.rootFrom
    rw [e]
    dsimp only
    by_cases h : (root + 2^todo) * (root + 2^todo) ≤ n
    · rw [if_pos h]
      refine root_from n todo _ h ?_
      rw [Nat.add_assoc, ← Nat.two_mul, Nat.mul_comm 2, ← Nat.pow_succ]
      exact h2
    · rw [if_neg h]
      exact root_from n todo root h1 (by omega)

theorem root_start (n : Nat) : Datum.rootFrom n (n.log2 / 2 + 1) 0 * Datum.rootFrom n (n.log2 / 2 + 1) 0 ≤ n ∧ n < (Datum.rootFrom n (n.log2 / 2 + 1) 0 + 1) * (Datum.rootFrom n (n.log2 / 2 + 1) 0 + 1) := by
  refine root_from n _ 0 (by omega) ?_
  rw [Nat.zero_add, ← Nat.pow_add]
  exact Nat.lt_of_lt_of_le Nat.lt_log2_self (Nat.pow_le_pow_right (by decide) (by omega))

/-- How a whole number stands to a root, and to the root's whole part with a last digit that says whether anything is left. -/
theorem root_cmp {n w j : Nat} (h1 : w * w ≤ n) (h2 : n < (w + 1) * (w + 1)) : (j * j < n ↔ 2 * j < 2 * w + (w * w != n).toNat) ∧ (n < j * j ↔ 2 * w + (w * w != n).toNat < 2 * j) := by
  have hs : (w * w != n).toNat = if w * w = n then 0 else 1 := by by_cases h : w * w = n <;> simp [h]
  rw [hs]
  rcases Nat.lt_trichotomy j w with g | g | g
  · have := sq_lt.2 g
    split <;> omega
  · subst g
    split <;> omega
  · have := Nat.mul_le_mul (show w + 1 ≤ j by omega) (show w + 1 ≤ j by omega)
    split <;> omega

/-- The model's root of a finite number above nought. -/
theorem sqrt_D (x : Nat) (hx : W64 x) (fx : finB x = true) (hs : sgnB x = false) (hz : zeroB x = false) :
    ∃ n w H R, w * w ≤ n ∧ n < (w + 1) * (w + 1) ∧ 2^108 ≤ n ∧ n * 2^(2 * H) = rv 52 (absB x) * 2^LP ∧ 1 ≤ H ∧ Near 52 ((2 * w + (w * w != n).toNat) * 2^(H - 1)) 1 R ∧
      Go.FloatKind.f64.format.sqrt x = some (min R 9218868437227405312) := by
  have hl := LP_eq
  obtain ⟨m, k, h1, h2, h3⟩ := read_num Ieee.double x ((fin_D x).2 fx)
  rw [sgn_D x hx, hs] at h1
  have hm : m ≠ 0 := by rw [Ne, h3, rg_D]; unfold zeroB at hz; simpa using hz
  obtain ⟨i, hi⟩ : ∃ i : Int, i = Ieee.double.leastPlace + (k : Int) := ⟨_, rfl⟩
  rw [← hi] at h1
  rw [D_lp'] at hi
  obtain ⟨more0, hmore0⟩ : ∃ q, q = 2 * (Ieee.double.fractionBits + 2) - m.log2 := ⟨_, rfl⟩
  obtain ⟨more, hmore⟩ : ∃ q, q = more0 + ((i - (more0 : Int)) % 2).toNat := ⟨_, rfl⟩
  have hm0 : more0 = 108 - m.log2 := hmore0
  obtain ⟨n, hn⟩ : ∃ n, n = m <<< more := ⟨_, rfl⟩
  obtain ⟨w, hw⟩ : ∃ w, w = Datum.rootFrom n (n.log2 / 2 + 1) 0 := ⟨_, rfl⟩
  obtain ⟨r1, r2⟩ := root_start n
  rw [← hw] at r1 r2
  obtain ⟨R, g1, g2⟩ := nearest_near' Ieee.double (by decide) false (2 * w + (w * w != n).toNat) ((i - (more : Int)) / 2 - 1)
  obtain ⟨H, hH⟩ : ∃ H, H = ((i - (more : Int)) / 2 + LP).toNat := ⟨_, rfl⟩
  have hb : more ≤ 109 := by omega
  have hH1 : 1 ≤ H ∧ (H : Int) = (i - (more : Int)) / 2 + LP := by omega
  have hpar : (i - (more : Int)) % 2 = 0 := by omega
  refine ⟨n, w, H, R, r1, r2, ?_, ?_, hH1.1, ?_, ?_⟩
  · rw [hn, Nat.shiftLeft_eq]
    have h5 := Nat.log2_self_le hm
    have e : 2^108 ≤ 2^(m.log2) * 2^more := by
      rw [← Nat.pow_add]; exact Nat.pow_le_pow_right (by decide) (by omega)
    exact Nat.le_trans e (Nat.mul_le_mul_right _ h5)
  · rw [← rg_D]
    show n * 2^(2 * H) = rv 52 (rg Ieee.double x) * 2^LP
    have h2' : m * 2^k = rv 52 (rg Ieee.double x) := h2
    rw [← h2', hn, Nat.shiftLeft_eq, Nat.mul_assoc, Nat.mul_assoc, ← Nat.pow_add, ← Nat.pow_add]
    congr 2
    omega
  · rw [D_lp'] at g2
    rw [show ((i - (more : Int)) / 2 - 1 - -(LP : Int)).toNat = H - 1 by omega, show (-(LP : Int) - ((i - (more : Int)) / 2 - 1)).toNat = 0 by omega, Nat.pow_zero] at g2
    exact g2
  · show Ieee.double.sqrt x = _
    unfold Format.sqrt
    rw [h1]
    unfold Datum.root
    dsimp only
    rw [if_neg hm, if_neg (by simp), ← hmore0, ← hmore, ← hn, ← hw]
    show some (Ieee.double.nearest false _ _) = _
    rw [g1, word_sg, D_inf]
    simp [sgW]

/-- What a reference's root at a place comes to, rounded. -/
theorem root_round {num den n w H ec q R : Nat} (hden : 0 < den) (h1 : w * w ≤ n) (h2 : n < (w + 1) * (w + 1)) (hn : 2^108 ≤ n) (hval : num * 2^(2 * ec) = den * (n * 2^(2 * H))) (hH : 1 ≤ H)
    (hR : Near 52 ((2 * w + (w * w != n).toNat) * 2^(H - 1)) 1 R) (hq1 : q * q * den ≤ num) (hq2 : num < (q + 1) * (q + 1) * den) (hqlt : q < 9007199254740992) (hqge : 4503599627370496 ≤ q) :
    R = ec * 4503599627370496 + (if (!(decide (q * q * den = num)) && (decide ((2 * q + 1) * (2 * q + 1) * den < 4 * num) || (decide ((2 * q + 1) * (2 * q + 1) * den = 4 * num) && decide (q % 2 = 1)))) then q + 1 else q) := by
  obtain ⟨A, hA⟩ : ∃ A, A = 2 * w + (w * w != n).toNat := ⟨_, rfl⟩
  rw [← hA] at hR
  have hc := fun j => root_cmp (j := j) h1 h2
  rw [← hA] at hc
  -- the place lies well above what the root is known to
  have hec : H + 2 ≤ ec := by
    refine Decidable.byContradiction fun hcc => ?_
    have e1 : 2^(2 * ec) ≤ 2^(2 * H + 2) := Nat.pow_le_pow_right (by decide) (by omega)
    have e2 : (q + 1) * (q + 1) ≤ 9007199254740992 * 9007199254740992 := Nat.mul_le_mul (by omega) (by omega)
    have e3 : num * 2^(2 * ec) < 9007199254740992 * 9007199254740992 * den * 2^(2 * H + 2) := by
      refine Nat.lt_of_lt_of_le (Nat.mul_lt_mul_of_pos_right hq2 (Nat.two_pow_pos _)) (Nat.mul_le_mul (Nat.mul_le_mul_right _ e2) e1)
    have e4 : den * (2^108 * 2^(2 * H)) ≤ den * (n * 2^(2 * H)) := Nat.mul_le_mul_left _ (Nat.mul_le_mul_right _ hn)
    rw [hval] at e3
    have e5 : 9007199254740992 * 9007199254740992 * den * 2^(2 * H + 2) = den * (2^108 * 2^(2 * H)) := by
      rw [Nat.pow_add, show (9007199254740992 : Nat) * 9007199254740992 = 2^106 by decide, show (2:Nat)^108 = 2^106 * 2^2 by decide]
      simp only [Nat.mul_assoc, Nat.mul_left_comm, Nat.mul_comm]
    omega
  obtain ⟨b, hb⟩ : ∃ b, ec = H + 1 + b := ⟨ec - H - 1, by omega⟩
  have hb1 : 1 ≤ b := by omega
  have hval2 : num * 2^(2 * b + 2) = den * n := by
    have e : num * 2^(2 * b + 2) * 2^(2 * H) = den * n * 2^(2 * H) := by
      rw [Nat.mul_assoc, ← Nat.pow_add, Nat.mul_assoc den, ← hval]
      congr 2; omega
    exact Nat.eq_of_mul_eq_mul_right (Nat.two_pow_pos _) e
  have hP := Nat.two_pow_pos b
  have key : ∀ c, c * c * den * (2^b * 2^b) = den * ((c * 2^b) * (c * 2^b)) := fun c => by simp only [Nat.mul_assoc, Nat.mul_left_comm, Nat.mul_comm]
  have key2 : 4 * num * (2^b * 2^b) = den * n := by
    rw [← hval2, show 2 * b + 2 = b + b + 2 by omega, Nat.pow_add, Nat.pow_add, show (2:Nat)^2 = 4 from rfl]
    simp only [Nat.mul_assoc, Nat.mul_left_comm, Nat.mul_comm]
  have hPP : 0 < 2^b * 2^b := Nat.mul_pos hP hP
  have F1 : ∀ c, c * c * den < 4 * num ↔ 2 * (c * 2^b) < A := fun c => by
    rw [← (hc (c * 2^b)).1, ← Nat.mul_lt_mul_right hPP, key, key2, Nat.mul_lt_mul_left hden]
  have F2 : ∀ c, 4 * num < c * c * den ↔ A < 2 * (c * 2^b) := fun c => by
    rw [← (hc (c * 2^b)).2, ← Nat.mul_lt_mul_right hPP, key, key2, Nat.mul_lt_mul_left hden]
  obtain ⟨C, hC⟩ : ∃ C, C = 2^(b + 2) := ⟨_, rfl⟩
  have hC0 : 0 < C := by rw [hC]; exact Nat.two_pow_pos _
  have hcC : ∀ c, c * C = 2 * (2 * (c * 2^b)) := fun c => by rw [hC, Nat.pow_add, show (2:Nat)^2 = 4 from rfl, ← Nat.mul_assoc]; omega
  have G1 : ∀ c, c * C < 2 * A ↔ c * c * den < 4 * num := fun c => by rw [F1, hcC]; omega
  have G2 : ∀ c, 2 * A < c * C ↔ 4 * num < c * c * den := fun c => by rw [F2, hcC]; omega
  clear F1 F2 hcC key key2 hc
  have sq2 : ∀ x, (2 * x) * (2 * x) * den = 4 * (x * x * den) := fun x => by
    rw [Nat.mul_mul_mul_comm, Nat.mul_assoc]
  have low : q * C ≤ A := by
    have := mt (G2 (2 * q)).1 (by rw [sq2]; omega)
    rw [Nat.mul_assoc] at this; omega
  have high : A < (q + 1) * C := by
    have := (G2 (2 * (q + 1))).2 (by rw [sq2]; omega)
    rw [Nat.mul_assoc] at this; omega
  have hn1 : A < 2^(52+1) * C := Nat.lt_of_lt_of_le high (Nat.mul_le_mul_right _ (by omega))
  have hn2 : 0 < ec → 2^52 * C ≤ A := fun _ => Nat.le_trans (Nat.mul_le_mul_right _ (by omega)) low
  obtain ⟨K, hK⟩ : ∃ K, K = (if (!(decide (q * q * den = num)) && (decide ((2 * q + 1) * (2 * q + 1) * den < 4 * num) || (decide ((2 * q + 1) * (2 * q + 1) * den = 4 * num) && decide (q % 2 = 1)))) then q + 1 else q) := ⟨_, rfl⟩
  rw [← hK]
  have m1 := G1 (2 * q + 1)
  have m2 := G2 (2 * q + 1)
  have hRN : RN A C K := by
    have t1 : (2 * q + 1) * C = 2 * (q * C) + C := by rw [Nat.add_mul, Nat.one_mul, Nat.mul_assoc]
    have t2 : (q + 1) * C = q * C + C := by rw [Nat.add_mul, Nat.one_mul]
    have t3 : (2 * (q + 1) + 1) * C = 2 * (q * C) + 3 * C := by rw [Nat.add_mul, Nat.one_mul, Nat.mul_assoc, t2]; omega
    have t4 : (2 * (q + 1) - 1) * C = 2 * (q * C) + C := by rw [show 2 * (q + 1) - 1 = 2 * q + 1 by omega]; exact t1
    have t5 : (2 * q - 1) * C + C = 2 * (q * C) := by rw [← Nat.succ_mul, Nat.succ_eq_add_one, show 2 * q - 1 + 1 = 2 * q by omega, Nat.mul_assoc]
    unfold RN
    by_cases hcond : (!(decide (q * q * den = num)) && (decide ((2 * q + 1) * (2 * q + 1) * den < 4 * num) || (decide ((2 * q + 1) * (2 * q + 1) * den = 4 * num) && decide (q % 2 = 1)))) = true
    · rw [if_pos hcond] at hK
      subst hK
      rw [t3, t4]
      have hcd : ¬ q * q * den = num ∧ ((2 * q + 1) * (2 * q + 1) * den < 4 * num ∨ ((2 * q + 1) * (2 * q + 1) * den = 4 * num ∧ q % 2 = 1)) := by simpa using hcond
      rcases hcd.2 with g | ⟨g, g'⟩ <;> omega
    · rw [if_neg hcond] at hK
      subst hK
      rw [t1]
      have hcd : ¬ (¬ K * K * den = num ∧ ((2 * K + 1) * (2 * K + 1) * den < 4 * num ∨ ((2 * K + 1) * (2 * K + 1) * den = 4 * num ∧ K % 2 = 1))) := by simpa using hcond
      refine ⟨by omega, ?_⟩
      by_cases hw2 : K * K * den = num
      · have : 4 * num < (2 * K + 1) * (2 * K + 1) * den := by
          rw [← hw2, ← sq2]
          exact Nat.mul_lt_mul_of_pos_right (sq_lt.2 (by omega)) hden
        omega
      · omega
  have hnear := near_of_rn 52 ec A C K (by decide) hC0 hRN hn1 hn2
  have hcross : Near 52 (A * 2^ec) C R := by
    refine Near.cross (by decide) hC0 ?_ hR
    rw [Nat.mul_one, hC, Nat.mul_assoc, ← Nat.pow_add]
    congr 2; omega
  exact Near.uniq hC0 hcross hnear
end Go.Proofs.YtiimjbpfdidgcaaDoor

/- Walks: the reference's root of a quotient of whole numbers. -/
namespace Go.Proofs.YtiimjbpfdidgcaaDoor
open Go.RowKit

/-- The greatest q with q q D not above N. -/
def rootQ (N D : Nat) : Nat := Ieee.Datum.rootFrom (N / D) ((N / D).log2 / 2 + 1) 0
theorem rootQ_spec (N D : Nat) (hD : 0 < D) : rootQ N D * rootQ N D * D ≤ N ∧ N < (rootQ N D + 1) * (rootQ N D + 1) * D := by
  obtain ⟨h1, h2⟩ := root_start (N / D)
  exact ⟨(Nat.le_div_iff_mul_le hD).1 h1, (Nat.div_lt_iff_lt_mul hD).1 h2⟩
theorem rootQ_uniq {N D q : Nat} (hD : 0 < D) (h1 : q * q * D ≤ N) (h2 : N < (q + 1) * (q + 1) * D) : q = rootQ N D := by
  obtain ⟨g1, g2⟩ := rootQ_spec N D hD
  have a1 : q * q < (rootQ N D + 1) * (rootQ N D + 1) := Nat.lt_of_mul_lt_mul_right (Nat.lt_of_le_of_lt h1 g2)
  have a2 : rootQ N D * rootQ N D < (q + 1) * (q + 1) := Nat.lt_of_mul_lt_mul_right (Nat.lt_of_le_of_lt g1 h2)
  have := sq_lt.1 a1
  have := sq_lt.1 a2
  omega

theorem results_tmp3r {fn : Func} {t u v : Tmp} (h : fn.results = #[.tmp t, .tmp u, .tmp v]) (tmps : Array Value) (P : Program) (w : World) :
    (results fn tmps).run P w = .ok (.tuple #[tmps.getD t undef, tmps.getD u undef, tmps.getD v undef]) w := by
  simp [results, h]

/-- What root hands back. -/
def RootQ (N D : Nat) (w : World) (e : Ending) (w' : World) : Prop :=
  e = .returned (.tuple #[.int .u64 (rootQ N D : Nat), .int .i64 (ncmp (N * 4) ((2 * rootQ N D + 1) * (2 * rootQ N D + 1) * D)), .bool (decide (rootQ N D * rootQ N D * D = N))]) ∧ Below w.heap.size w w'

theorem or_bit (p j : Nat) (h : (2 * p + 1) * 2^j < 18446744073709551616) : Go.bits .or .u64 ((p * 2^(j + 1) : Nat) : Int) ((2^j : Nat) : Int) = (((2 * p + 1) * 2^j : Nat) : Int) := by
  have e : p * 2^(j + 1) + 2^j = (2 * p + 1) * 2^j := by rw [Nat.pow_succ, Nat.add_mul, Nat.one_mul, Nat.mul_comm (2^j) 2, ← Nat.mul_assoc, Nat.mul_comm p 2]
  have hlt : 2^j < 2^(j + 1) := Nat.pow_lt_pow_right (by decide) (by omega)
  rw [Go.u64_or_nat _ _ (by omega) (by omega), Go.nat_join (j + 1) _ _ (Nat.mul_mod_left _ _) hlt, e]

set_option maxHeartbeats 2000000 in
set_option maxRecDepth 100000 in
theorem nroot_any (s t : Value) (N D : Nat) (w : World) (h : Num .u32 4294967296 w s N) (h' : Num .u32 4294967296 w t D) {bb : Nat} (hN : N < 2 ^ bb) (hD : D < 2 ^ bb) (hb1 : 200 ≤ bb) (hbb : bb ≤ 1000000) (hD0 : 0 < D) (hsm : N < 2305843009213693952 * 2305843009213693952 * D) :
    Calls Tryd.prog 121 #[s, t] w (RootQ N D w) := by
  have HS : Hid (∀ W, Below w.heap.size w W → Num .u32 4294967296 W s N) := fun W hW => h.below (Nat.le_refl _) hW
  have HT : Hid (∀ W, Below w.heap.size w W → Num .u32 4294967296 W t D) := fun W hW => h'.below (Nat.le_refl _) hW
  obtain ⟨a, m, c, rfl⟩ := h.shape
  obtain ⟨a', m', c', rfl⟩ := h'.shape
  have HBD : Hid (N < 2 ^ bb ∧ D < 2 ^ bb ∧ 200 ≤ bb ∧ bb ≤ 1000000) := ⟨hN, hD, hb1, hbb⟩
  -- n n D of n below 2^62
  have HSQ : Hid (∀ W v n, Below w.heap.size w W → Num .u32 4294967296 W v n → n < 18446744073709551616 → Calls Tryd.prog 81 #[v, v] W (NatQ (n * n) W)) := fun W v n hW hv hn =>
    nmul_any v v n n W hv hv (bb := 64) (by omega) (by omega) (by decide)
  have HSD : Hid (∀ W v n, Below w.heap.size w W → Num .u32 4294967296 W v (n * n) → n < 18446744073709551616 → Calls Tryd.prog 81 #[v, .slice a' m' c'] W (NatQ (n * n * D) W)) := fun W v n hW hv hn =>
    nmul_any v _ (n * n) D W hv (HT.out W hW) (bb := bb) (Nat.lt_of_lt_of_le (Nat.mul_lt_mul_of_lt_of_le hn (Nat.le_of_lt hn) (by decide)) (Nat.le_trans (by decide : (18446744073709551616 * 18446744073709551616 : Nat) ≤ 2^200) (Nat.pow_le_pow_right (by decide) hb1))) HBD.out.2.1 (by omega)
  have HD0 : Hid (0 < D) := hD0
  have HSM : Hid (N < 2305843009213693952 * 2305843009213693952 * D) := hsm
  clear h h' hN hD hb1 hbb hD0 hsm
  go_enter Tryd.func121, Tryd.ntmps121
  go_wp2
  go_loopw [7, 8] (fun qv bv wr => ∃ j p : Nat, j ≤ 61 ∧ bv = .int .u64 ((2^j / 2 : Nat) : Int) ∧ qv = .int .u64 ((p * 2^j : Nat) : Int) ∧ p * 2^j + 2^j ≤ 2305843009213693952 ∧ Hid ((p * 2^j) * (p * 2^j) * D ≤ N) ∧ Hid (N < (p * 2^j + 2^j) * (p * 2^j + 2^j) * D) ∧ Below w.heap.size w wr)
    (fun _ bv _ => (intOf bv).toNat)
  case atStart =>
    refine ⟨61, 0, by omega, rfl, rfl, by decide, ?_, ?_, Below.refl _ _⟩
    · show _ ≤ _; simp
    · show _ < _
      rw [show 0 * 2^61 + 2^61 = 2305843009213693952 by decide]
      exact HSM.out
  case round =>
    obtain ⟨j, p, hj, rfl, rfl, hpb, hlo, hhi, hbr⟩ := hrel
    have HBR : Hid (Below w.heap.size w wr) := hbr
    clear hbr
    rcases Nat.eq_zero_or_pos j with hj0 | hj0
    · subst hj0
      rw [Nat.pow_zero, Nat.mul_one] at hlo hhi hpb ⊢
      have hq := rootQ_uniq HD0.out hlo.out hhi.out
      have HQ : Hid (p = rootQ N D) := hq
      rw [show (1 : Nat) / 2 = 0 from rfl]
      obtain ⟨h, hh⟩ : ∃ h : Nat, h = 2 * p + 1 := ⟨_, rfl⟩
      have HH : Hid (h = 2 * p + 1) := hh
      have hw1 : IntKind.u64.wrap (2 * (p : Int)) = 2 * (p : Int) := by rw [IntKind.wrap_u64]; omega
      have hw2 : IntKind.u64.wrap (2 * (p : Int) + 1) = (h : Int) := by rw [IntKind.wrap_u64]; omega
      have HPB : Hid (p < 2305843009213693952) := by show _ < _; omega
      have HL : Hid (∀ W, Below w.heap.size w W → Calls Tryd.prog 84 #[.slice a m c, .int .i64 2] W (NatQ (N * 2^2) W)) := fun W hW => by
        have := nleft_any _ N 0 2 2 W (HS.out W hW) (by omega) (by decide) (by decide) HBD.out.1 (by have := HBD.out.2.2; omega)
        exact this
      clear hq hh hlo hhi hpb hj
      go_wp2_with fail
      refine (of_any p _ (by have := HPB.out; omega)).mono ?_
      rintro ee w1 ⟨v1, rfl, hn1, hb1⟩
      have HW1 : Hid (Below w.heap.size w w1) := HBR.out.thru hb1
      have HN1 : Hid (Num .u32 4294967296 w1 v1 p) := hn1
      clear hb1 hn1
      go_wp2_with fail
      refine (HSQ.out _ _ p HW1.out HN1.out (by have := HPB.out; omega)).mono ?_
      rintro ee w2 ⟨v2, rfl, hn2, hb2⟩
      have HW2 : Hid (Below w.heap.size w w2) := HW1.out.thru hb2
      have HN2 : Hid (Num .u32 4294967296 w2 v2 (p * p)) := hn2
      clear hb2 hn2
      go_wp2_with fail
      refine (HSD.out _ _ p HW2.out HN2.out (by have := HPB.out; omega)).mono ?_
      rintro ee w3 ⟨v3, rfl, hn3, hb3⟩
      have HW3 : Hid (Below w.heap.size w w3) := HW2.out.thru hb3
      have HN3 : Hid (Num .u32 4294967296 w3 v3 (p * p * D)) := hn3
      clear hb3 hn3
      go_wp2_with fail
      refine (ncmp_any _ _ (p * p * D) N _ HN3.out (HS.out _ HW3.out)).mono ?_
      rintro ee w4 ⟨hee, hb4⟩
      subst hee
      have HW4 : Hid (Below w.heap.size w w4) := HW3.out.thru hb4
      have hz : (ncmp (p * p * D) N == 0) = decide (p * p * D = N) := by rw [Bool.eq_iff_iff, beq_iff_eq, decide_eq_true_eq]; exact ncmp_zero _ _
      clear hb4
      go_wp2_with fail
      refine (of_any h _ (by have := HPB.out; have := HH.out; omega)).mono ?_
      rintro ee w5 ⟨v5, rfl, hn5, hb5⟩
      have HW5 : Hid (Below w.heap.size w w5) := HW4.out.thru hb5
      have HN5 : Hid (Num .u32 4294967296 w5 v5 h) := hn5
      clear hb5 hn5 hw1 hw2
      go_wp2_with fail
      refine (HL.out _ HW5.out).mono ?_
      rintro ee w6 ⟨v6, rfl, hn6, hb6⟩
      have HW6 : Hid (Below w.heap.size w w6) := HW5.out.thru hb6
      have HN6 : Hid (Num .u32 4294967296 w6 v6 (N * 2^2)) := hn6
      have HN5' : Hid (Num .u32 4294967296 w6 v5 h) := HN5.out.below (Nat.le_refl _) hb6
      clear hb6 hn6
      go_wp2_with fail
      refine (HSQ.out _ _ h HW6.out HN5'.out (by have := HPB.out; have := HH.out; omega)).mono ?_
      rintro ee w7 ⟨v7, rfl, hn7, hb7⟩
      have HW7 : Hid (Below w.heap.size w w7) := HW6.out.thru hb7
      have HN7 : Hid (Num .u32 4294967296 w7 v7 (h * h)) := hn7
      have HN6' : Hid (Num .u32 4294967296 w7 v6 (N * 2^2)) := HN6.out.below (Nat.le_refl _) hb7
      clear hb7 hn7
      go_wp2_with fail
      refine (HSD.out _ _ h HW7.out HN7.out (by have := HPB.out; have := HH.out; omega)).mono ?_
      rintro ee w8 ⟨v8, rfl, hn8, hb8⟩
      have HW8 : Hid (Below w.heap.size w w8) := HW7.out.thru hb8
      have HN8 : Hid (Num .u32 4294967296 w8 v8 (h * h * D)) := hn8
      have HN6'' : Hid (Num .u32 4294967296 w8 v6 (N * 2^2)) := HN6'.out.below (Nat.le_refl _) hb8
      clear hb8 hn8
      go_wp2_with fail
      refine (ncmp_any _ _ (N * 2^2) (h * h * D) _ HN6''.out HN8.out).mono ?_
      rintro ee w9 ⟨hee, hb9⟩
      subst hee
      have HW9 : Hid (Below w.heap.size w w9) := HW8.out.thru hb9
      clear hb9
      go_wp2
      (try simp only [Exit.inBlock, Exit.then])
      refine bodyPost_ret (results_tmp3r rfl _ _ _) rfl ⟨?_, HW9.out⟩
      rw [← HQ.out, ← HH.out]
      rfl
    · obtain ⟨i, rfl⟩ : ∃ i, j = i + 1 := ⟨j - 1, by omega⟩
      have hB : 2^(i + 1) / 2 = 2^i := by rw [Nat.pow_succ, Nat.mul_div_cancel _ (by decide)]
      rw [hB]
      have eq2 : p * 2^(i + 1) = 2 * p * 2^i := by rw [Nat.pow_succ, Nat.mul_comm (2^i) 2, ← Nat.mul_assoc, Nat.mul_comm p 2]
      have en : (2 * p + 1) * 2^i = 2 * p * 2^i + 2^i := by rw [Nat.add_mul, Nat.one_mul]
      have e2 : 2^(i + 1) = 2^i + 2^i := by rw [Nat.pow_succ]; omega
      have hpos := Nat.two_pow_pos i
      have hor := or_bit p i (by rw [en, ← eq2]; omega)
      obtain ⟨B, hBB⟩ : ∃ B, B = 2^i := ⟨_, rfl⟩
      obtain ⟨n, hn⟩ : ∃ n, n = (2 * p + 1) * 2^i := ⟨_, rfl⟩
      obtain ⟨q0, hq0⟩ : ∃ q0, q0 = p * 2^(i + 1) := ⟨_, rfl⟩
      rw [← hn, ← hq0] at hor
      rw [← hq0] at hlo hhi hpb ⊢
      have HEQ : Hid (B = 2^i ∧ n = (2 * p + 1) * 2^i ∧ q0 = 2 * p * 2^i ∧ n = q0 + B) := ⟨hBB, hn, by rw [hq0, eq2], by rw [hn, en, hq0, eq2, hBB]⟩
      rw [e2] at hhi hpb
      rw [← hBB] at hhi hpb hpos hor ⊢
      have HNB : Hid (q0 + B + B ≤ 2305843009213693952 ∧ i ≤ 60) := by show _ ∧ _; omega
      have hpI : (0 : Int) < (B : Int) := by omega
      clear hB eq2 en e2 hBB hn hq0 hpb hj hj0 hpos
      go_wp2_with fail
      refine (of_any n _ (by have := HNB.out; have := HEQ.out.2.2.2; omega)).mono ?_
      rintro ee w1 ⟨v1, rfl, hn1, hb1⟩
      have HW1 : Hid (Below w.heap.size w w1) := HBR.out.thru hb1
      have HN1 : Hid (Num .u32 4294967296 w1 v1 n) := hn1
      clear hb1 hn1
      go_wp2_with fail
      refine (HSQ.out _ _ n HW1.out HN1.out (by have := HNB.out; have := HEQ.out.2.2.2; omega)).mono ?_
      rintro ee w2 ⟨v2, rfl, hn2, hb2⟩
      have HW2 : Hid (Below w.heap.size w w2) := HW1.out.thru hb2
      have HN2 : Hid (Num .u32 4294967296 w2 v2 (n * n)) := hn2
      clear hb2 hn2
      go_wp2_with fail
      refine (HSD.out _ _ n HW2.out HN2.out (by have := HNB.out; have := HEQ.out.2.2.2; omega)).mono ?_
      rintro ee w3 ⟨v3, rfl, hn3, hb3⟩
      have HW3 : Hid (Below w.heap.size w w3) := HW2.out.thru hb3
      have HN3 : Hid (Num .u32 4294967296 w3 v3 (n * n * D)) := hn3
      clear hb3 hn3
      go_wp2_with fail
      refine (ncmp_any _ _ (n * n * D) N _ HN3.out (HS.out _ HW3.out)).mono ?_
      rintro ee w4 ⟨hee, hb4⟩
      subst hee
      have HW4 : Hid (Below w.heap.size w w4) := HW3.out.thru hb4
      have hle := ncmp_le (n * n * D) N
      clear hb4
      obtain ⟨o, ho⟩ : ∃ o, o = ncmp (n * n * D) N := ⟨_, rfl⟩
      rw [← ho] at hle ⊢
      by_cases hc : n * n * D ≤ N
      · have ho0 : o ≤ 0 := hle.2 hc
        have HC : Hid (n * n * D ≤ N) := hc
        clear hle hc ho
        go_wp2
        go_roundw
        case rel =>
          obtain ⟨x1, x2, x3, x4⟩ := HEQ.out
          refine ⟨i, 2 * p + 1, by have := HNB.out; omega, by rw [← x1]; go_num, by rw [← x2], by rw [← x2, ← x1]; have := HNB.out; omega, ?_, ?_, HW4.out⟩
          · show _ ≤ _; rw [← x2]; exact HC.out
          · show _ < _; rw [← x2, ← x1, x4, Nat.add_assoc]; exact hhi.out
        case measure => simp [intOf]; omega
      · have ho0 : ¬ o ≤ 0 := fun h => hc (hle.1 h)
        have HC : Hid (N < n * n * D) := by show _ < _; omega
        clear hle hc ho
        go_wp2
        go_roundw
        case rel =>
          obtain ⟨x1, x2, x3, x4⟩ := HEQ.out
          refine ⟨i, 2 * p, by have := HNB.out; omega, by rw [← x1]; go_num, by rw [← x3], by rw [← x3, ← x1]; have := HNB.out; omega, ?_, ?_, HW4.out⟩
          · show _ ≤ _; rw [← x3]; exact hlo.out
          · show _ < _; rw [← x3, ← x1, ← x4]; exact HC.out
        case measure => simp [intOf]; omega
end Go.Proofs.YtiimjbpfdidgcaaDoor
