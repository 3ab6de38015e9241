/- Binary floats by whole numbers: the rungs of a format, and what rounding to the nearest gives. Plain mathematics over Ieee; nothing of the program. -/
import Ieee.Arith
import Derived.Laws.FloatBits
namespace Go.Proofs.YtlmbpjppkcdcnaaDoor
open Ieee

def rv (p r : Nat) : Nat := if r < 2^p then r else (2^p + r % 2^p) * 2^(r/2^p - 1)

theorem rv_small {p r : Nat} (h : r < 2^p) : rv p r = r := by unfold rv; rw [if_pos h]
theorem rv_form (p q t : Nat) (ht : t ≤ 2^p) : rv p ((q+1) * 2^p + t) = (2^p + t) * 2^q := by
  have hB : 0 < 2^p := Nat.two_pow_pos p
  unfold rv
  have h1 : ¬ (q+1) * 2^p + t < 2^p := by rw [Nat.add_mul, Nat.one_mul]; omega
  rw [if_neg h1]
  by_cases e : t = 2^p
  · subst e
    have h2 : (q+1) * 2^p + 2^p = 2^p * (q+2) := by rw [Nat.mul_comm, ← Nat.mul_add_one]
    rw [h2, Nat.mul_mod_right, Nat.mul_div_cancel_left _ hB]
    have : q + 2 - 1 = q + 1 := by omega
    rw [this, Nat.pow_succ]
    rw [Nat.add_zero, ← Nat.two_mul, Nat.mul_comm (2^q) 2, ← Nat.mul_assoc, Nat.mul_comm (2^p) 2]
  · have ht' : t < 2^p := by omega
    have h2 : ((q+1) * 2^p + t) % 2^p = t := by
      rw [Nat.add_comm, Nat.add_mul_mod_self_right, Nat.mod_eq_of_lt ht']
    have h3 : ((q+1) * 2^p + t) / 2^p = q + 1 := by
      rw [Nat.add_comm, Nat.add_mul_div_right _ _ hB, Nat.div_eq_of_lt ht']; omega
    rw [h2, h3]; rfl

theorem split_rung (p r : Nat) (h : ¬ r < 2^p) : ∃ q t, t < 2^p ∧ r = (q+1) * 2^p + t := by
  have hB : 0 < 2^p := Nat.two_pow_pos p
  refine ⟨r / 2^p - 1, r % 2^p, Nat.mod_lt _ hB, ?_⟩
  have h1 : 1 ≤ r / 2^p := (Nat.one_le_div_iff hB).2 (by omega)
  have := Nat.div_add_mod r (2^p)
  rw [show r / 2^p - 1 + 1 = r / 2^p from by omega, Nat.mul_comm]; exact this.symm

def ulp (p r : Nat) : Nat := 2^(r/2^p - 1)
theorem ulp_pos (p r : Nat) : 0 < ulp p r := Nat.two_pow_pos _

theorem rv_succ (p r : Nat) : rv p (r+1) = rv p r + ulp p r := by
  have hB : 0 < 2^p := Nat.two_pow_pos p
  by_cases h : r < 2^p
  · have hu : ulp p r = 1 := by unfold ulp; rw [Nat.div_eq_of_lt h]
    rw [rv_small h, hu]
    by_cases h' : r + 1 < 2^p
    · rw [rv_small h']
    · have e : r + 1 = (0+1) * 2^p + 0 := by omega
      rw [e, rv_form p 0 0 (Nat.zero_le _)]; omega
  · obtain ⟨q, t, ht, rfl⟩ := split_rung p r h
    have h3 : ((q+1) * 2^p + t) / 2^p = q + 1 := by
      rw [Nat.add_comm, Nat.add_mul_div_right _ _ hB, Nat.div_eq_of_lt ht]; omega
    have hu : ulp p ((q+1) * 2^p + t) = 2^q := by unfold ulp; rw [h3]; rfl
    rw [hu, Nat.add_assoc, rv_form p q (t+1) (by omega), rv_form p q t (by omega), ← Nat.add_assoc, Nat.add_mul (2^p + t) 1, Nat.one_mul]

theorem rv_lt_succ (p r : Nat) : rv p r < rv p (r+1) := by rw [rv_succ]; have := ulp_pos p r; omega
theorem rv_lt {p r s : Nat} (h : r < s) : rv p r < rv p s := by
  induction s with
  | zero => omega
  | succ s ih =>
    have := rv_lt_succ p s
    by_cases e : r = s
    · subst e; exact this
    · have := ih (by omega); omega
theorem rv_le {p r s : Nat} (h : r ≤ s) : rv p r ≤ rv p s := by
  rcases Nat.lt_or_eq_of_le h with h | rfl
  · exact Nat.le_of_lt (rv_lt h)
  · exact Nat.le_refl _
theorem rv_lt_iff {p r s : Nat} : rv p r < rv p s ↔ r < s :=
  ⟨fun h => by rcases Nat.lt_or_ge r s with g | g; exact g; have := rv_le (p := p) g; omega, rv_lt⟩
theorem rv_le_iff {p r s : Nat} : rv p r ≤ rv p s ↔ r ≤ s := by
  have := rv_lt_iff (p := p) (r := s) (s := r); omega
theorem rv_inj {p r s : Nat} (h : rv p r = rv p s) : r = s := by
  have h1 := rv_le_iff (p := p) (r := r) (s := s); have h2 := rv_le_iff (p := p) (r := s) (s := r); omega
theorem rv_zero (p : Nat) : rv p 0 = 0 := rv_small (Nat.two_pow_pos p)
theorem le_rv (p r : Nat) : r ≤ rv p r := by
  induction r with
  | zero => omega
  | succ r ih => have := rv_lt_succ p r; omega

/-- R is the nearest rung (ties to the even one) to M/S, of rungs that go on without end. -/
def Near (p M S R : Nat) : Prop :=
  (R = 0 ∨ (rv p (R-1) + rv p R) * S < 2*M ∨ ((rv p (R-1) + rv p R) * S = 2*M ∧ R % 2 = 0)) ∧
  (2*M < (rv p R + rv p (R+1)) * S ∨ (2*M = (rv p R + rv p (R+1)) * S ∧ R % 2 = 0))

theorem Near.uniq {p M S R R' : Nat} (hS : 0 < S) (h : Near p M S R) (h' : Near p M S R') : R = R' := by
  rcases Nat.lt_trichotomy R R' with lt | e | lt
  · exfalso
    have a : (rv p R + rv p (R+1)) * S ≤ (rv p (R'-1) + rv p R') * S :=
      Nat.mul_le_mul_right _ (Nat.add_le_add (rv_le (by omega)) (rv_le (by omega)))
    have b := h.2
    have c := h'.1
    by_cases e : R' = R + 1
    · subst e
      simp only [Nat.add_sub_cancel] at c a
      rcases b with b | ⟨b, b'⟩ <;> rcases c with c | c | ⟨c, c'⟩ <;> omega
    · have a' : (rv p R + rv p (R+1)) * S < (rv p (R'-1) + rv p R') * S :=
        Nat.mul_lt_mul_of_pos_right (Nat.add_lt_add (rv_lt (by omega)) (rv_lt (by omega))) hS
      rcases b with b | ⟨b, b'⟩ <;> rcases c with c | c | ⟨c, c'⟩ <;> omega
  · exact e
  · exfalso
    have a : (rv p R' + rv p (R'+1)) * S ≤ (rv p (R-1) + rv p R) * S :=
      Nat.mul_le_mul_right _ (Nat.add_le_add (rv_le (by omega)) (rv_le (by omega)))
    have b := h'.2
    have c := h.1
    by_cases e : R = R' + 1
    · subst e
      simp only [Nat.add_sub_cancel] at c a
      rcases b with b | ⟨b, b'⟩ <;> rcases c with c | c | ⟨c, c'⟩ <;> omega
    · have a' : (rv p R' + rv p (R'+1)) * S < (rv p (R-1) + rv p R) * S :=
        Nat.mul_lt_mul_of_pos_right (Nat.add_lt_add (rv_lt (by omega)) (rv_lt (by omega))) hS
      rcases b with b | ⟨b, b'⟩ <;> rcases c with c | c | ⟨c, c'⟩ <;> omega

theorem Near.exact (p R S : Nat) (hS : 0 < S) : Near p (rv p R * S) S R := by
  constructor
  · by_cases e : R = 0
    · exact .inl e
    · refine .inr (.inl ?_)
      have : rv p (R-1) < rv p R := rv_lt (by omega)
      rw [← Nat.mul_assoc, Nat.two_mul]
      exact Nat.mul_lt_mul_of_pos_right (by omega) hS
  · refine .inl ?_
    have := rv_lt_succ p R
    rw [← Nat.mul_assoc, Nat.two_mul]
    exact Nat.mul_lt_mul_of_pos_right (by omega) hS

theorem Near.scale {p M S R : Nat} (k : Nat) (hk : 0 < k) : Near p (M*k) (S*k) R ↔ Near p M S R := by
  unfold Near
  have e1 : ∀ a, a * (S*k) = a * S * k := fun a => by rw [Nat.mul_assoc]
  have e2 : 2 * (M*k) = 2*M*k := by rw [Nat.mul_assoc]
  simp only [e1, e2, Nat.mul_lt_mul_right hk, Nat.mul_right_cancel_iff hk]


theorem even_cut (neg : Bool) (n d : Nat) :
    let K := Toward.even.cut neg n d
    (K = 0 ∨ (2*K-1) * 2^d < 2*n ∨ ((2*K-1) * 2^d = 2*n ∧ K % 2 = 0)) ∧ (2*n < (2*K+1) * 2^d ∨ (2*n = (2*K+1) * 2^d ∧ K % 2 = 0)) := by
  intro K
  by_cases h : d ≤ n.log2 + 2
  · have e : K = n / 2^d + (decide (2^d < 2 * (n % 2^d)) || (2^d == 2 * (n % 2^d) && n / 2^d % 2 == 1)).toNat := by
      show Toward.even.cut neg n d = _
      unfold Toward.cut
      simp only [Nat.min_eq_left h, Nat.one_shiftLeft]
    have hg : 0 < 2^d := Nat.two_pow_pos d
    have hdm := Nat.div_add_mod n (2^d)
    have hml := Nat.mod_lt n hg
    generalize n / 2^d = a at *
    generalize n % 2^d = b at *
    generalize 2^d = g at *
    have f1 : ∀ x, (2*x+1)*g = 2*(g*x)+g := fun x => by rw [Nat.add_mul, Nat.one_mul, Nat.mul_assoc, Nat.mul_comm x g]
    have f2 : (2*(a+1)-1)*g = 2*(g*a)+g := by rw [show 2*(a+1)-1 = 2*a+1 from by omega, f1]
    have f3 : a ≠ 0 → (2*a-1)*g + g = 2*(g*a) := fun h => by
      rw [← Nat.succ_mul, show (2*a-1).succ = 2*a from by omega, Nat.mul_assoc, Nat.mul_comm a g]
    have f4 : g*(a+1) = g*a+g := Nat.mul_add_one _ _
    by_cases c1 : g < 2*b
    · have : K = a+1 := by rw [e]; simp [c1]
      rw [this, f2, f1, f4]; omega
    · by_cases c2 : g = 2*b
      · by_cases c3 : a % 2 = 1
        · have : K = a+1 := by rw [e]; simp [c2, c3]
          rw [this, f2, f1, f4]; omega
        · have : K = a := by rw [e]; simp [c2, c3]
          rw [this, f1]; refine ⟨?_, by omega⟩
          by_cases z : a = 0
          · exact .inl z
          · have := f3 z; omega
      · have : K = a := by rw [e]; simp [c1, c2]
        rw [this, f1]; refine ⟨?_, by omega⟩
        by_cases z : a = 0
        · exact .inl z
        · have := f3 z; omega
  · have hl : n < 2^(n.log2+1) := Nat.lt_log2_self
    have hg : 2^(n.log2+2) = 2 * 2^(n.log2+1) := by rw [Nat.pow_succ 2 (n.log2+1), Nat.mul_comm]
    have e : K = 0 := by
      show Toward.even.cut neg n d = _
      unfold Toward.cut
      simp only [Nat.min_eq_right (Nat.le_of_lt (Nat.lt_of_not_le h)), Nat.one_shiftLeft]
      have h1 : n < 2^(n.log2+2) := by omega
      rw [Nat.div_eq_of_lt h1, Nat.mod_eq_of_lt h1]
      have h2 : ¬ 2^(n.log2+2) < 2*n := by omega
      simp only [h2, decide_false, Bool.false_or, Nat.zero_mod]
      simp
    have h3 : 2^(n.log2+2) ≤ 2^d := Nat.pow_le_pow_right (by omega) (by omega)
    rw [e]; refine ⟨.inl rfl, .inl ?_⟩
    simp; omega

/-- K is the whole number nearest to A/C, of two the even one. -/
def RN (A C K : Nat) : Prop := (K = 0 ∨ (2*K-1) * C < 2*A ∨ ((2*K-1) * C = 2*A ∧ K % 2 = 0)) ∧ (2*A < (2*K+1) * C ∨ (2*A = (2*K+1) * C ∧ K % 2 = 0))
theorem rn_cut (neg : Bool) (n d : Nat) : RN n (2^d) (Toward.even.cut neg n d) := even_cut neg n d

theorem near_of_rn (p q A C K : Nat) (hp : 0 < p) (hC : 0 < C) (hcut : RN A C K) (hn1 : A < 2^(p+1) * C) (hn2 : 0 < q → 2^p * C ≤ A) : Near p (A * 2^q) C (q * 2^p + K) := by
  unfold RN at hcut
  have hB : 0 < 2^p := Nat.two_pow_pos p
  have hpp : 2^(p+1) = 2 * 2^p := by rw [Nat.pow_succ, Nat.mul_comm]
  have hQ : 0 < 2^q := Nat.two_pow_pos q
  have hK1 : K ≤ 2 * 2^p := by
    rcases Nat.lt_or_ge (2*2^p) K with h | h
    · exfalso
      have : (2*(2*2^p)+1) * C ≤ (2*K-1) * C := Nat.mul_le_mul_right _ (by omega)
      rw [hpp] at hn1
      have e : (2*(2*2^p)+1) * C = 2*(2*2^p*C) + C := by rw [Nat.add_mul, Nat.one_mul, Nat.mul_assoc 2 (2*2^p)]
      rcases hcut.1 with c | c | ⟨c, _⟩ <;> omega
    · exact h
  have hK2 : 0 < q → 2^p ≤ K := by
    intro h0
    have := hn2 h0
    rcases Nat.lt_or_ge K (2^p) with h | h
    · exfalso
      have : (2*K+1) * C + C ≤ 2 * (2^p * C) := by
        rw [← Nat.succ_mul, ← Nat.mul_assoc]; exact Nat.mul_le_mul_right _ (by omega)
      rcases hcut.2 with c | ⟨c, _⟩ <;> omega
    · exact h
  have heven : (q * 2^p + K) % 2 = K % 2 := by
    obtain ⟨p', rfl⟩ : ∃ p', p = p' + 1 := ⟨p - 1, by omega⟩
    rw [Nat.pow_succ, ← Nat.mul_assoc]; omega
  have hrvK : ∀ K', K' ≤ 2 * 2^p → (0 < q → 2^p ≤ K') → rv p (q * 2^p + K') = K' * 2^q := by
    intro K' h1 h2
    rcases Nat.lt_or_ge K' (2^p) with h | h
    · have : q = 0 := by rcases Nat.eq_zero_or_pos q with z | z; exact z; have := h2 z; omega
      subst this
      simp [rv_small h]
    · obtain ⟨t, rfl⟩ := Nat.exists_eq_add_of_le h
      rw [← Nat.add_assoc, ← Nat.succ_mul]
      exact rv_form p q t (by omega)
  have hR := hrvK K hK1 hK2
  constructor
  · by_cases z : q * 2^p + K = 0
    · exact .inl z
    refine .inr ?_
    by_cases h : 0 < q ∧ K = 2^p
    · obtain ⟨h0, rfl⟩ := h
      have h1 := hn2 h0
      have h2 : rv p (q * 2^p + 2^p - 1) < rv p (q * 2^p + 2^p) := rv_lt (by omega)
      rw [hR] at h2 ⊢
      refine .inl ?_
      have h3 : (rv p (q * 2^p + 2^p - 1) + 2^p * 2^q) * C < 2 * (2^p * 2^q) * C := Nat.mul_lt_mul_of_pos_right (by omega) hC
      have h4 : 2 * (2^p * 2^q) * C = 2 * (2^p * C * 2^q) := by rw [Nat.mul_assoc, Nat.mul_right_comm]
      have h5 : 2^p * C * 2^q ≤ A * 2^q := Nat.mul_le_mul_right _ h1
      omega
    · have hK0 : K ≠ 0 := by
        intro e; subst e
        have : 0 < q := by rcases Nat.eq_zero_or_pos q with z' | z'; (subst z'; simp at z); exact z'
        have := hK2 this; omega
      have e : q * 2^p + K - 1 = q * 2^p + (K - 1) := by omega
      have h1 := hrvK (K-1) (by omega) (fun h0 => by have := hK2 h0; omega)
      rw [e, h1, hR, heven, ← Nat.add_mul, show K - 1 + K = 2*K-1 from by omega, Nat.mul_right_comm, ← Nat.mul_assoc 2, Nat.mul_lt_mul_right hQ, Nat.mul_right_cancel_iff hQ]
      rcases hcut.1 with c | c
      · exact absurd c hK0
      · exact c
  · rw [hR, heven]
    by_cases h : K = 2 * 2^p
    · subst h
      refine .inl ?_
      have h1 : rv p (q * 2^p + 2*2^p) < rv p (q * 2^p + 2*2^p + 1) := rv_lt (by omega)
      rw [hR] at h1
      have h2 : 2 * (A * 2^q) < 2 * (2 * 2^p * 2^q) * C := by
        rw [Nat.mul_assoc 2 (2 * 2^p * 2^q), Nat.mul_right_comm (2*2^p)]
        rw [hpp] at hn1
        have := Nat.mul_lt_mul_of_pos_right hn1 hQ
        omega
      refine Nat.lt_of_lt_of_le h2 (Nat.mul_le_mul_right _ ?_)
      omega
    · have h1 := hrvK (K+1) (by omega) (fun h0 => by have := hK2 h0; omega)
      rw [Nat.add_assoc, h1, ← Nat.add_mul, show K + (K+1) = 2*K+1 from by omega, Nat.mul_right_comm, ← Nat.mul_assoc 2, Nat.mul_lt_mul_right hQ, Nat.mul_right_cancel_iff hQ]
      exact hcut.2

/-- What 'nearest' does: q, the last place that is kept; n and d, what is cut. -/
theorem nearest_parts (f : Format) (neg : Bool) (mag : Nat) (place : Int) (hm : mag ≠ 0) :
    ∃ q n d : Nat, f.nearest neg mag place = f.word neg (min (q * 2^f.fractionBits + Toward.even.cut neg n d) f.infRung) ∧
      (place - f.leastPlace + mag.log2 - f.fractionBits ≤ q) ∧ (0 < q → (q : Int) = place - f.leastPlace + mag.log2 - f.fractionBits) ∧
      n = mag * 2^(place - f.leastPlace - q).toNat ∧ d = ((q : Int) - (place - f.leastPlace)).toNat := by
  unfold Format.nearest
  rw [if_neg hm]
  dsimp only
  generalize hk : place - f.leastPlace = k
  generalize hlast : max (place + (mag.log2 : Int) - f.fractionBits) f.leastPlace = last
  obtain ⟨q, hq⟩ : ∃ q : Nat, last - f.leastPlace = q := ⟨(last - f.leastPlace).toNat, by omega⟩
  have e1 : place - last = k - q := by omega
  have e2 : last - place = q - k := by omega
  rw [hq, e1, e2]
  refine ⟨q, mag * 2^(k - q).toNat, ((q : Int) - k).toNat, ?_, by omega, by omega, rfl, rfl⟩
  simp only [Int.toNat_natCast, Nat.shiftLeft_eq]
  rfl

theorem nearest_near (f : Format) (hp : 0 < f.fractionBits) (neg : Bool) (mag : Nat) (place : Int) (hm : mag ≠ 0) :
    ∃ R, f.nearest neg mag place = f.word neg (min R f.infRung) ∧
      Near f.fractionBits (mag * 2^(place - f.leastPlace).toNat) (2^(f.leastPlace - place).toNat) R := by
  obtain ⟨q, n, d, h1, hqlo, hqhi, hn, hd⟩ := nearest_parts f neg mag place hm
  have hk' : f.leastPlace - place = -(place - f.leastPlace) := by omega
  rw [hk']
  generalize place - f.leastPlace = k at *
  refine ⟨_, h1, ?_⟩
  generalize f.fractionBits = p at *
  have hlog1 : 2^mag.log2 ≤ mag := Nat.log2_self_le hm
  have hlog2 : mag < 2^(mag.log2+1) := Nat.lt_log2_self
  have hn1 : n < 2^(p+1) * 2^d := by
    have : n < 2^(mag.log2+1) * 2^(k-q).toNat := by rw [hn]; exact Nat.mul_lt_mul_of_pos_right hlog2 (Nat.two_pow_pos _)
    refine Nat.lt_of_lt_of_le this ?_
    rw [← Nat.pow_add, ← Nat.pow_add]
    exact Nat.pow_le_pow_right (by omega) (by omega)
  have hn2 : 0 < q → 2^p * 2^d ≤ n := by
    intro h0
    have h1 := hqhi h0
    have : 2^mag.log2 * 2^(k-q).toNat ≤ n := by rw [hn]; exact Nat.mul_le_mul_right _ hlog1
    refine Nat.le_trans ?_ this
    rw [← Nat.pow_add, ← Nat.pow_add]
    exact Nat.pow_le_pow_right (by omega) (by omega)
  have hM : mag * 2^k.toNat * 2^d = n * 2^q * 2^(-k).toNat := by
    rw [hn, Nat.mul_assoc, Nat.mul_assoc, Nat.mul_assoc, ← Nat.pow_add, ← Nat.pow_add, ← Nat.pow_add]
    congr 2; omega
  rw [← Near.scale (2^d) (Nat.two_pow_pos d), hM, Nat.mul_comm (2^(-k).toNat), Near.scale _ (Nat.two_pow_pos _)]
  exact near_of_rn p q n (2^d) _ hp (Nat.two_pow_pos d) (rn_cut neg n d) hn1 hn2

theorem Near.cross {p M S M' S' R : Nat} (hS : 0 < S) (hS' : 0 < S') (e : M * S' = M' * S) (h : Near p M S R) : Near p M' S' R := by
  rw [← Near.scale S' hS', e, Nat.mul_comm S S', Near.scale S hS] at h; exact h

theorem near_zero (p S : Nat) (hS : 0 < S) : Near p 0 S 0 := by
  have := Near.exact p 0 S hS; rwa [rv_zero, Nat.zero_mul] at this

theorem nearest_near' (f : Format) (hp : 0 < f.fractionBits) (neg : Bool) (mag : Nat) (place : Int) :
    ∃ R, f.nearest neg mag place = f.word neg (min R f.infRung) ∧
      Near f.fractionBits (mag * 2^(place - f.leastPlace).toNat) (2^(f.leastPlace - place).toNat) R := by
  by_cases h : mag = 0
  · subst h
    exact ⟨0, by simp [Format.nearest], by rw [Nat.zero_mul]; exact near_zero _ _ (Nat.two_pow_pos _)⟩
  · exact nearest_near f hp neg mag place h

section
variable (f : Format)
def sgn (w : Nat) : Bool := w / f.signWeight % 2 == 1
def rg (w : Nat) : Nat := w % f.signWeight
def fin (w : Nat) : Prop := rg f w < f.infRung
/-- The value in units of 2^leastPlace. -/
def V (w : Nat) : Int := if sgn f w then -(rv f.fractionBits (rg f w) : Int) else (rv f.fractionBits (rg f w) : Int)

theorem sw_pos : 0 < f.signWeight := Nat.two_pow_pos _
theorem rg_word (neg : Bool) {r : Nat} (h : r < f.signWeight) : rg f (f.word neg r) = r := by
  unfold rg Format.word; split
  · rw [Nat.add_mod_left, Nat.mod_eq_of_lt h]
  · exact Nat.mod_eq_of_lt h
theorem sgn_word (neg : Bool) {r : Nat} (h : r < f.signWeight) : sgn f (f.word neg r) = neg := by
  unfold sgn Format.word; split
  · rename_i hn; rw [Nat.add_div_left _ (sw_pos f), Nat.div_eq_of_lt h, hn]; rfl
  · rename_i hn; rw [Nat.div_eq_of_lt h]; simp at hn; rw [hn]; rfl
theorem word_of (w : Nat) (hw : w < 2 * f.signWeight) : f.word (sgn f w) (rg f w) = w := by
  have h := Nat.div_add_mod w f.signWeight
  have h1 : w / f.signWeight < 2 := Nat.div_lt_of_lt_mul (by rw [Nat.mul_comm]; exact hw)
  unfold Format.word sgn rg
  generalize w / f.signWeight = q at *
  rcases (show q = 0 ∨ q = 1 by omega) with e | e <;> subst e <;> simp at h ⊢ <;> omega

theorem read_num (w : Nat) (h : fin f w) : ∃ m k : Nat, f.read w = .number (sgn f w) m (f.leastPlace + k) ∧ m * 2^k = rv f.fractionBits (rg f w) ∧ (m = 0 ↔ rg f w = 0) := by
  unfold fin at h
  unfold Format.read rv
  dsimp only
  change ∃ m k : Nat, (if rg f w < f.binade then _ else if rg f w < f.infRung then _ else _) = _ ∧ _
  have hB : 0 < f.binade := Nat.two_pow_pos _
  by_cases c : rg f w < f.binade
  · refine ⟨rg f w, 0, ?_, ?_, Iff.rfl⟩
    · rw [if_pos c]; simp [sgn, rg]
    · rw [if_pos (show rg f w < 2^f.fractionBits from c)]; simp
  · refine ⟨f.binade + rg f w % f.binade, rg f w / f.binade - 1, ?_, ?_, by omega⟩
    · rw [if_neg c, if_pos h]; rfl
    · rw [if_neg (show ¬ rg f w < 2^f.fractionBits from c)]; rfl
theorem read_inf (hB : f.binade ≤ f.infRung) (w : Nat) (h : rg f w = f.infRung) : f.read w = .infinity (sgn f w) := by
  unfold Format.read
  dsimp only
  change (if rg f w < f.binade then _ else if rg f w < f.infRung then _ else if rg f w = f.infRung then _ else _) = _
  rw [if_neg (by omega), if_neg (by omega), if_pos h]; rfl
theorem read_nan (hB : f.binade ≤ f.infRung) (w : Nat) (h : f.infRung < rg f w) : f.read w = .nan (sgn f w) (rg f w - f.infRung) := by
  unfold Format.read
  dsimp only
  change (if rg f w < f.binade then _ else if rg f w < f.infRung then _ else if rg f w = f.infRung then _ else _) = _
  rw [if_neg (by omega), if_neg (by omega), if_neg (by omega)]; rfl

theorem signed_mul (s : Bool) (m a b : Nat) : Ieee.signed s m a * ((2^b : Nat) : Int) = if s then -((m * 2^(a+b) : Nat) : Int) else ((m * 2^(a+b) : Nat) : Int) := by
  unfold Ieee.signed
  rw [Nat.shiftLeft_eq, Nat.pow_add, ← Nat.mul_assoc]
  split <;> simp [Int.neg_mul]

theorem two_pow_int_pos (b : Nat) : (0:Int) < ((2^b : Nat) : Int) := by have := Nat.two_pow_pos b; omega

/-- A sum of two, each in units of 2^leastPlace. -/
def sg (s : Bool) (n : Nat) : Int := if s then -(n : Int) else (n : Int)
theorem sum_num (lp : Int) (s t : Bool) (m1 k1 m2 k2 : Nat) : ∃ m k : Nat, ∃ r : Bool, (Datum.number s m1 (lp + k1)).sum (Datum.number t m2 (lp + k2)) = some (.number r m (lp + k)) ∧
    m * 2^k = (sg s (m1 * 2^k1) + sg t (m2 * 2^k2)).natAbs ∧ r = (if sg s (m1 * 2^k1) + sg t (m2 * 2^k2) = 0 then s && t else decide (sg s (m1 * 2^k1) + sg t (m2 * 2^k2) < 0)) := by
  unfold Datum.sum
  dsimp only
  have hb : min (lp + (k1:Int)) (lp + (k2:Int)) = lp + ((min k1 k2 : Nat) : Int) := by omega
  rw [hb]
  have h1 : (lp + (k1:Int) - (lp + ((min k1 k2 : Nat) : Int))).toNat = k1 - min k1 k2 := by omega
  have h2 : (lp + (k2:Int) - (lp + ((min k1 k2 : Nat) : Int))).toNat = k2 - min k1 k2 := by omega
  rw [h1, h2]
  have hV1 : Ieee.signed s m1 (k1 - min k1 k2) * ((2^(min k1 k2) : Nat) : Int) = sg s (m1 * 2^k1) := by
    rw [signed_mul, show k1 - min k1 k2 + min k1 k2 = k1 from by omega]; rfl
  have hV2 : Ieee.signed t m2 (k2 - min k1 k2) * ((2^(min k1 k2) : Nat) : Int) = sg t (m2 * 2^k2) := by
    rw [signed_mul, show k2 - min k1 k2 + min k1 k2 = k2 from by omega]; rfl
  generalize Ieee.signed s m1 (k1 - min k1 k2) = a at *
  generalize Ieee.signed t m2 (k2 - min k1 k2) = b at *
  have hp := two_pow_int_pos (min k1 k2)
  have hsum : sg s (m1 * 2^k1) + sg t (m2 * 2^k2) = (a + b) * ((2^(min k1 k2) : Nat) : Int) := by rw [← hV1, ← hV2, Int.add_mul]
  refine ⟨_, _, _, rfl, ?_, ?_⟩
  · rw [hsum, Int.natAbs_mul]; simp
  · rw [hsum]
    by_cases z : a + b = 0
    · rw [z]; simp
    · have z' : ¬ (a+b) * ((2^(min k1 k2) : Nat) : Int) = 0 := by
        intro h; rcases Int.mul_eq_zero.1 h with h | h <;> omega
      rw [if_neg z, if_neg z', decide_eq_decide]
      constructor
      · intro h; exact Int.mul_neg_of_neg_of_pos h hp
      · intro h; rcases Int.lt_or_le (a+b) 0 with g | g
        · exact g
        · have := Int.mul_nonneg g (Int.le_of_lt hp); omega
theorem V_sg (w : Nat) : V f w = sg (sgn f w) (rv f.fractionBits (rg f w)) := rfl
theorem sg_not (s : Bool) (n : Nat) : sg (!s) n = -sg s n := by unfold sg; cases s <;> simp

variable (hp : 0 < f.fractionBits)
include hp
theorem nearest_units (neg : Bool) (m k : Nat) : ∃ R, f.nearest neg m (f.leastPlace + k) = f.word neg (min R f.infRung) ∧ Near f.fractionBits (m * 2^k) 1 R := by
  obtain ⟨R, h1, h2⟩ := nearest_near' f hp neg m (f.leastPlace + k)
  refine ⟨R, h1, ?_⟩
  rw [show (f.leastPlace + (k:Int) - f.leastPlace).toNat = k from by omega, show (f.leastPlace - (f.leastPlace + (k:Int))).toNat = 0 from by omega, Nat.pow_zero] at h2
  exact h2

theorem add_fin (x y : Nat) (hx : fin f x) (hy : fin f y) : ∃ R, f.add x y = some (f.word (if V f x + V f y = 0 then sgn f x && sgn f y else decide (V f x + V f y < 0)) (min R f.infRung)) ∧
    Near f.fractionBits (V f x + V f y).natAbs 1 R := by
  obtain ⟨m1, k1, e1, v1, _⟩ := read_num f x hx
  obtain ⟨m2, k2, e2, v2, _⟩ := read_num f y hy
  obtain ⟨m, k, s, h, hm, hs⟩ := sum_num f.leastPlace (sgn f x) (sgn f y) m1 k1 m2 k2
  rw [v1, v2, ← V_sg, ← V_sg] at hm hs
  obtain ⟨R, h1, h2⟩ := nearest_units f hp s m k
  refine ⟨R, ?_, by rw [← hm]; exact h2⟩
  unfold Format.add
  rw [e1, e2, h, ← hs, ← h1]; rfl
theorem sub_fin (x y : Nat) (hx : fin f x) (hy : fin f y) : ∃ R, f.sub x y = some (f.word (if V f x - V f y = 0 then sgn f x && !sgn f y else decide (V f x - V f y < 0)) (min R f.infRung)) ∧
    Near f.fractionBits (V f x - V f y).natAbs 1 R := by
  obtain ⟨m1, k1, e1, v1, _⟩ := read_num f x hx
  obtain ⟨m2, k2, e2, v2, _⟩ := read_num f y hy
  obtain ⟨m, k, s, h, hm, hs⟩ := sum_num f.leastPlace (sgn f x) (!sgn f y) m1 k1 m2 k2
  rw [v1, v2, sg_not, ← V_sg, ← V_sg, ← Int.sub_eq_add_neg] at hm hs
  obtain ⟨R, h1, h2⟩ := nearest_units f hp s m k
  refine ⟨R, ?_, by rw [← hm]; exact h2⟩
  unfold Format.sub
  rw [e1, e2]
  show (Datum.sum _ (Datum.number _ _ _)).map f.write = _
  rw [h, ← hs, ← h1]; rfl
omit hp

theorem V_neg (w : Nat) : V f w < 0 ↔ sgn f w = true ∧ rg f w ≠ 0 := by
  unfold V
  have h0 : rv f.fractionBits (rg f w) = 0 ↔ rg f w = 0 := ⟨fun h => rv_inj (p := f.fractionBits) (by rw [h, rv_zero]), fun h => by rw [h, rv_zero]⟩
  cases h : sgn f w <;> simp <;> omega
theorem V_zero (w : Nat) : V f w = 0 ↔ rg f w = 0 := by
  unfold V
  have h0 : rv f.fractionBits (rg f w) = 0 ↔ rg f w = 0 := ⟨fun h => rv_inj (p := f.fractionBits) (by rw [h, rv_zero]), fun h => by rw [h, rv_zero]⟩
  cases h : sgn f w <;> simp <;> omega
theorem V_natAbs (w : Nat) : (V f w).natAbs = rv f.fractionBits (rg f w) := by
  unfold V; cases sgn f w <;> simp

theorem order_fin (x y : Nat) (hx : fin f x) (hy : fin f y) : f.order x y = some (compare (V f x) (V f y)) := by
  obtain ⟨m1, k1, e1, v1, _⟩ := read_num f x hx
  obtain ⟨m2, k2, e2, v2, _⟩ := read_num f y hy
  unfold Format.order
  rw [e1, e2]
  unfold Datum.order
  dsimp only
  have hb : min (f.leastPlace + (k1:Int)) (f.leastPlace + (k2:Int)) = f.leastPlace + ((min k1 k2 : Nat) : Int) := by omega
  rw [hb]
  have h1 : (f.leastPlace + (k1:Int) - (f.leastPlace + ((min k1 k2 : Nat) : Int))).toNat = k1 - min k1 k2 := by omega
  have h2 : (f.leastPlace + (k2:Int) - (f.leastPlace + ((min k1 k2 : Nat) : Int))).toNat = k2 - min k1 k2 := by omega
  rw [h1, h2]
  have hV1 : Ieee.signed (sgn f x) m1 (k1 - min k1 k2) * ((2^(min k1 k2) : Nat) : Int) = V f x := by
    rw [signed_mul, show k1 - min k1 k2 + min k1 k2 = k1 from by omega, v1]; rfl
  have hV2 : Ieee.signed (sgn f y) m2 (k2 - min k1 k2) * ((2^(min k1 k2) : Nat) : Int) = V f y := by
    rw [signed_mul, show k2 - min k1 k2 + min k1 k2 = k2 from by omega, v2]; rfl
  rw [← hV1, ← hV2]
  generalize Ieee.signed (sgn f x) m1 (k1 - min k1 k2) = a
  generalize Ieee.signed (sgn f y) m2 (k2 - min k1 k2) = b
  have hp := two_pow_int_pos (min k1 k2)
  congr 1
  show (if a < b then Ordering.lt else if a = b then .eq else .gt) = (if a * ((2^(min k1 k2) : Nat) : Int) < b * ((2^(min k1 k2) : Nat) : Int) then Ordering.lt else if a * ((2^(min k1 k2) : Nat) : Int) = b * ((2^(min k1 k2) : Nat) : Int) then .eq else .gt)
  simp only [Int.mul_lt_mul_right hp, Int.mul_eq_mul_right_iff (show ((2^(min k1 k2) : Nat) : Int) ≠ 0 by omega)]

theorem order_nan_left (hB : f.binade ≤ f.infRung) (x y : Nat) (hx : f.infRung < rg f x) : f.order x y = none := by
  unfold Format.order
  rw [read_nan f hB x hx]; rfl
theorem order_nan_right (hB : f.binade ≤ f.infRung) (x y : Nat) (hy : f.infRung < rg f y) : f.order x y = none := by
  unfold Format.order
  rw [read_nan f hB y hy]
  cases f.read x <;> rfl

theorem order_all (hB : f.binade ≤ f.infRung) (x y : Nat) (hx : rg f x ≤ f.infRung) (hy : rg f y ≤ f.infRung) : f.order x y = some (compare (V f x) (V f y)) := by
  have hb : 0 < f.infRung := Nat.lt_of_lt_of_le (Nat.two_pow_pos _) hB
  have hc : ∀ a b : Int, compare a b = if a < b then .lt else if a = b then .eq else .gt := fun a b => rfl
  have big : ∀ w, fin f w → rv f.fractionBits (rg f w) < rv f.fractionBits f.infRung := fun w hw => rv_lt hw
  have pos : 0 < rv f.fractionBits f.infRung := by rw [← rv_zero f.fractionBits]; exact rv_lt hb
  by_cases cx : rg f x = f.infRung
  · by_cases cy : rg f y = f.infRung
    · unfold Format.order
      rw [read_inf f hB x cx, read_inf f hB y cy, hc]
      unfold V
      rw [cx, cy]
      cases sgn f x <;> cases sgn f y <;> simp only [Datum.order, if_true] <;> (repeat' split) <;> first | rfl | omega | (exfalso; simp_all <;> omega)
    · have fy : fin f y := by unfold fin; omega
      obtain ⟨m2, k2, e2, v2, _⟩ := read_num f y fy
      unfold Format.order
      rw [read_inf f hB x cx, e2, hc]
      have := big y fy
      unfold V
      rw [cx]
      generalize rv f.fractionBits f.infRung = I at *
      generalize rv f.fractionBits (rg f y) = v at *
      cases sgn f x <;> cases sgn f y <;> simp only [Datum.order] <;> (repeat' split) <;> first | rfl | omega | (exfalso; simp_all <;> omega)
  · have fx : fin f x := by unfold fin; omega
    by_cases cy : rg f y = f.infRung
    · obtain ⟨m2, k2, e2, v2, _⟩ := read_num f x fx
      unfold Format.order
      rw [read_inf f hB y cy, e2, hc]
      have := big x fx
      unfold V
      rw [cy]
      generalize rv f.fractionBits f.infRung = I at *
      generalize rv f.fractionBits (rg f x) = v at *
      cases sgn f x <;> cases sgn f y <;> simp only [Datum.order] <;> (repeat' split) <;> first | rfl | omega | (exfalso; simp_all <;> omega)
    · exact order_fin f x y fx (by unfold fin; omega)

theorem mul_fin (hp : 0 < f.fractionBits) (hl : f.leastPlace ≤ 0) (x y : Nat) (hx : fin f x) (hy : fin f y) : ∃ R, f.mul x y = some (f.word (sgn f x ^^ sgn f y) (min R f.infRung)) ∧
    Near f.fractionBits (rv f.fractionBits (rg f x) * rv f.fractionBits (rg f y)) (2^(-f.leastPlace).toNat) R := by
  obtain ⟨m1, k1, e1, v1, _⟩ := read_num f x hx
  obtain ⟨m2, k2, e2, v2, _⟩ := read_num f y hy
  unfold Format.mul
  rw [e1, e2]
  unfold Datum.product
  obtain ⟨R, h1, h2⟩ := nearest_near' f hp (sgn f x ^^ sgn f y) (m1 * m2) (f.leastPlace + k1 + (f.leastPlace + k2))
  refine ⟨R, congrArg some h1, Near.cross (Nat.two_pow_pos _) (Nat.two_pow_pos _) ?_ h2⟩
  rw [← v1, ← v2]
  rw [show m1 * 2^k1 * (m2 * 2^k2) = m1 * m2 * 2^(k1+k2) from by rw [Nat.pow_add]; simp only [Nat.mul_assoc, Nat.mul_left_comm]]
  rw [Nat.mul_assoc (m1*m2), Nat.mul_assoc (m1*m2), ← Nat.pow_add, ← Nat.pow_add]
  congr 2; omega

/-- A quotient with a last digit that says whether anything is left over is rounded as the quotient itself. -/
theorem rn_sticky (D m q Q e K : Nat) (hm : 0 < m) (hq : q = D / m) (hQ : Q = 2 * q + (D % m != 0).toNat) (h : RN Q (2^(e+2)) K) : RN (2 * D) (m * 2^(e+2)) K := by
  have hdm := Nat.div_add_mod D m
  have hml := Nat.mod_lt D hm
  rw [← hq] at hdm
  have low : ∀ t, 2 * t < Q ↔ 2 * t * m < 2 * D := by
    intro t
    have e1 : 2 * t * m = 2 * (t * m) := Nat.mul_assoc 2 t m
    by_cases z : D % m = 0
    · have : Q = 2 * q := by rw [hQ, z]; rfl
      have e2 : t * m < q * m ↔ t < q := Nat.mul_lt_mul_right hm
      rw [Nat.mul_comm q m] at e2
      omega
    · have : Q = 2 * q + 1 := by rw [hQ]; simp [z]
      constructor
      · intro h
        have : t * m ≤ q * m := Nat.mul_le_mul_right _ (by omega)
        rw [Nat.mul_comm q m] at this; omega
      · intro h
        have : t < q + 1 := by
          rcases Nat.lt_or_ge t (q+1) with g | g
          · exact g
          · have := Nat.mul_le_mul_right m g
            rw [Nat.add_mul, Nat.mul_comm q m] at this; omega
        omega
  have high : ∀ t, Q < 2 * t ↔ 2 * D < 2 * t * m := by
    intro t
    have e1 : 2 * t * m = 2 * (t * m) := Nat.mul_assoc 2 t m
    by_cases z : D % m = 0
    · have : Q = 2 * q := by rw [hQ, z]; rfl
      have e2 : q * m < t * m ↔ q < t := Nat.mul_lt_mul_right hm
      rw [Nat.mul_comm q m] at e2
      omega
    · have : Q = 2 * q + 1 := by rw [hQ]; simp [z]
      constructor
      · intro h
        have : (q + 1) * m ≤ t * m := Nat.mul_le_mul_right _ (by omega)
        rw [Nat.add_mul, Nat.mul_comm q m] at this; omega
      · intro h
        have : q < t := by
          rcases Nat.lt_or_ge q t with g | g
          · exact g
          · have := Nat.mul_le_mul_right m g
            rw [Nat.mul_comm q m] at this; omega
        omega
  have shape : ∀ c, c * 2^(e+2) = 2 * (2 * (c * 2^e)) := fun c => by rw [Nat.pow_add, ← Nat.mul_assoc]; omega
  have shape' : ∀ c, c * (m * 2^(e+2)) = 2 * (2 * (c * 2^e) * m) := fun c => by
    rw [Nat.mul_left_comm, shape, Nat.mul_comm m, Nat.mul_assoc]
  have f1 : ∀ c, c * 2^(e+2) < 2 * Q ↔ c * (m * 2^(e+2)) < 2 * (2 * D) := fun c => by
    have := low (c * 2^e); rw [shape, shape']; omega
  have f2 : ∀ c, 2 * Q < c * 2^(e+2) ↔ 2 * (2 * D) < c * (m * 2^(e+2)) := fun c => by
    have := high (c * 2^e); rw [shape, shape']; omega
  have f3 : ∀ c, c * 2^(e+2) = 2 * Q ↔ c * (m * 2^(e+2)) = 2 * (2 * D) := fun c => by
    have := f1 c; have := f2 c; omega
  have f4 : ∀ c, 2 * Q = c * 2^(e+2) ↔ 2 * (2 * D) = c * (m * 2^(e+2)) := fun c => by
    have := f1 c; have := f2 c; omega
  unfold RN at *
  rw [← f1, ← f2, ← f3, ← f4]; exact h

/-- The quotient: rounded once. -/
theorem div_fin (hp : 0 < f.fractionBits) (hl : f.leastPlace ≤ 0) (x y : Nat) (hx : fin f x) (hy : fin f y) (h0 : rg f y ≠ 0) : ∃ R, f.div x y = some (f.word (sgn f x ^^ sgn f y) (min R f.infRung)) ∧
    Near f.fractionBits (rv f.fractionBits (rg f x) * 2^(-f.leastPlace).toNat) (rv f.fractionBits (rg f y)) R := by
  obtain ⟨m1, k1, e1, v1, z1⟩ := read_num f x hx
  obtain ⟨m2, k2, e2, v2, z2⟩ := read_num f y hy
  have hm2 : m2 ≠ 0 := fun h => h0 (z2.1 h)
  unfold Format.div
  rw [e1, e2]
  unfold Datum.quotient
  dsimp only
  rw [if_neg hm2]
  have hrv2 : 0 < rv f.fractionBits (rg f y) := by rw [← v2]; exact Nat.mul_pos (by omega) (Nat.two_pow_pos _)
  generalize hmore : f.fractionBits + 2 + m2.log2 - m1.log2 = more
  rw [Nat.shiftLeft_eq]
  by_cases c : m1 = 0
  · refine ⟨0, ?_, ?_⟩
    · rw [c]; simp [Format.write, Format.nearest, Option.map]
    · rw [← v1, c, Nat.zero_mul, Nat.zero_mul]; exact near_zero _ _ hrv2
  have a1 : 2^m1.log2 ≤ m1 := Nat.log2_self_le c
  have a2 : m2 < 2^(m2.log2+1) := Nat.lt_log2_self
  generalize hD : m1 * 2^more = D
  have hDlo : 2^(f.fractionBits + 1) * 2^(m2.log2 + 1) ≤ D := by
    rw [← hD, ← Nat.pow_add]
    refine Nat.le_trans (Nat.pow_le_pow_right (by decide) ?_) (Nat.le_trans (Nat.le_of_eq (Nat.pow_add 2 m1.log2 more)) (Nat.mul_le_mul_right _ a1))
    omega
  have hqlo : 2^(f.fractionBits + 1) ≤ D / m2 := by
    refine (Nat.le_div_iff_mul_le (by omega)).2 (Nat.le_trans (Nat.mul_le_mul_left _ (Nat.le_of_lt a2)) hDlo)
  generalize hQ : 2 * (D / m2) + (D % m2 != 0).toNat = Q
  have hQ0 : Q ≠ 0 := by have := Nat.two_pow_pos (f.fractionBits + 1); omega
  have hQlog : f.fractionBits + 2 ≤ Q.log2 := (Nat.le_log2 hQ0).2 (by rw [Nat.pow_succ]; omega)
  have hpl : f.leastPlace + (k1 : Int) - (f.leastPlace + k2) - more - 1 = (k1 : Int) - k2 - more - 1 := by omega
  rw [hpl]
  obtain ⟨q, n, d, h1, hqlo', hqhi, hn, hd⟩ := nearest_parts f (sgn f x ^^ sgn f y) Q ((k1 : Int) - k2 - more - 1) hQ0
  refine ⟨_, congrArg some h1, ?_⟩
  have hdn : n = Q ∧ ∃ e, d = e + 2 := by
    refine ⟨?_, d - 2, by omega⟩
    rw [hn, show ((k1 : Int) - k2 - more - 1 - f.leastPlace - q).toNat = 0 from by omega, Nat.pow_zero, Nat.mul_one]
  obtain ⟨rfl, e, rfl⟩ := hdn
  clear hn
  have hrn := rn_sticky D m2 (D / m2) n e _ (by omega) rfl hQ.symm (rn_cut (sgn f x ^^ sgn f y) n (e+2))
  generalize Toward.even.cut (sgn f x ^^ sgn f y) n (e+2) = K at *
  -- bounds on 2 D against m2 2^(e+2)
  have hlog1 : 2^n.log2 ≤ n := Nat.log2_self_le hQ0
  have hlog2 : n < 2^(n.log2+1) := Nat.lt_log2_self
  have hdm := Nat.div_add_mod D m2
  have hml := Nat.mod_lt D (show 0 < m2 by omega)
  have hb1 : 2 * D < 2^(n.log2+1) * m2 := by
    -- n + 1 is at most 2^(log2 n + 1); 2 D / m2 < 2 (q + 1)
    have h2 : 2 * (D / m2) + 2 ≤ 2^(n.log2+1) := by
      have : 2^(n.log2+1) = 2 * 2^n.log2 := by rw [Nat.pow_succ, Nat.mul_comm]
      have : 2 * (D / m2) ≤ n := by omega
      omega
    have h3 : (2 * (D / m2) + 2) * m2 ≤ 2^(n.log2+1) * m2 := Nat.mul_le_mul_right _ h2
    rw [Nat.add_mul, Nat.mul_assoc, Nat.mul_comm (D / m2)] at h3
    omega
  have hb2 : 2^n.log2 * m2 ≤ 2 * D := by
    obtain ⟨t, ht⟩ : ∃ t, n.log2 = t + 1 := ⟨n.log2 - 1, by omega⟩
    rw [ht, Nat.pow_succ] at hlog1 ⊢
    have h2 : 2^t ≤ D / m2 := by
      have : (D % m2 != 0).toNat ≤ 1 := Bool.toNat_le _
      omega
    have h3 := Nat.mul_le_mul_right m2 h2
    rw [Nat.mul_comm (D / m2)] at h3
    rw [Nat.mul_right_comm]
    omega
  have near := near_of_rn f.fractionBits q (2 * D) (m2 * 2^(e+2)) K hp (Nat.mul_pos (by omega) (Nat.two_pow_pos _)) hrn
    (by
      rw [Nat.mul_comm m2, ← Nat.mul_assoc, ← Nat.pow_add]
      refine Nat.lt_of_lt_of_le hb1 (Nat.mul_le_mul_right _ (Nat.pow_le_pow_right (by decide) ?_))
      omega)
    (by
      intro h0
      have := hqhi h0
      rw [Nat.mul_comm m2, ← Nat.mul_assoc, ← Nat.pow_add]
      refine Nat.le_trans (Nat.mul_le_mul_right _ (Nat.pow_le_pow_right (by decide) ?_)) hb2
      omega)
  refine Near.cross (Nat.mul_pos (by omega) (Nat.two_pow_pos _)) hrv2 ?_ near
  rw [← hD, ← v1, ← v2]
  have hpow : 2 * 2^more * 2^q * 2^k2 = 2^k1 * 2^(-f.leastPlace).toNat * 2^(e+2) := by
    rw [show 2 * 2^more = 2^(more+1) from by rw [Nat.pow_succ, Nat.mul_comm], ← Nat.pow_add, ← Nat.pow_add, ← Nat.pow_add, ← Nat.pow_add]
    congr 1; omega
  calc 2 * (m1 * 2^more) * 2^q * (m2 * 2^k2) = m1 * m2 * (2 * 2^more * 2^q * 2^k2) := by simp only [Nat.mul_comm, Nat.mul_left_comm, Nat.mul_assoc]
    _ = m1 * m2 * (2^k1 * 2^(-f.leastPlace).toNat * 2^(e+2)) := by rw [hpow]
    _ = m1 * 2^k1 * 2^(-f.leastPlace).toNat * (m2 * 2^(e+2)) := by simp only [Nat.mul_comm, Nat.mul_left_comm, Nat.mul_assoc]
end
end Go.Proofs.YtlmbpjppkcdcnaaDoor
