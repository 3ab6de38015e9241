/- Parts An, Aq of the proof, in one text. -/
import Derived.Test.YtapahfoebpiajaaGreatDoorPAA
import Derived.Test.YtapahfoebpiajaaGreatDoorPQT

/- Plain: what decimals are rounded to: quotients, roots, to numbers and to singles, to places. -/
namespace Go.Proofs.YtapahfoebpiajaaGreatDoor
open Go.RowKit Go.Lib

/-- What is told: bits, flags, errno. -/
structure RA where
  bits : Nat
  ine : Bool
  ov : Bool
  un : Bool
  err : Int
def RA.no (e : Int) : RA := ⟨0, false, false, false, e⟩
def bits64 (neg : Bool) (o : Out) : Nat := (if neg = true then 2^63 else 0) + o.rung 53 (-1074) 971
def bits32 (neg : Bool) (o : Out) : Nat := (if neg = true then 2^31 else 0) + o.rung 24 (-149) 104
def oneD : Dc := ⟨false, [49], 0⟩
def qM (a b : Dc) : Nat := quoM (dval a.s) (a.e - b.e)
def qD (a b : Dc) : Nat := quoD (dval b.s) (a.e - b.e)
/-- The magnitude of a quotient; of a root. -/
def quoG (a b : Dc) : Mag := ratMag (qM a b) (qD a b) 0
def rootG (a : Dc) : Mag := rootMag (qM a oneD) (qD a oneD) 0
def ratioA (a b : Dc) (m : Int) : RA :=
  if ¬ (a.ok ∧ b.ok ∧ 1 ≤ m ∧ m ≤ 6) then RA.no 1 else if b.s = [] then RA.no 13 else if a.s = [] then RA.no 0
  else ⟨bits64 (a.neg != b.neg) (outG 53 (-1074) 971 (a.neg != b.neg) m (quoG a b)), (outG 53 (-1074) 971 (a.neg != b.neg) m (quoG a b)).ine, (outG 53 (-1074) 971 (a.neg != b.neg) m (quoG a b)).ov, (outG 53 (-1074) 971 (a.neg != b.neg) m (quoG a b)).un, 0⟩
def to64A (a : Dc) (m : Int) : RA := ratioA a oneD m
def to32A (a : Dc) (m : Int) : RA :=
  if ¬ (a.ok ∧ 1 ≤ m ∧ m ≤ 6) then RA.no 1 else if a.s = [] then RA.no 0
  else ⟨bits32 a.neg (outG 24 (-149) 104 a.neg m (quoG a oneD)), (outG 24 (-149) 104 a.neg m (quoG a oneD)).ine, (outG 24 (-149) 104 a.neg m (quoG a oneD)).ov, (outG 24 (-149) 104 a.neg m (quoG a oneD)).un, 0⟩
def rootA (a : Dc) (m : Int) : RA :=
  if ¬ (a.ok ∧ 1 ≤ m ∧ m ≤ 6) then RA.no 1 else if a.neg = true then RA.no 14 else if a.s = [] then RA.no 0
  else ⟨bits64 false (outG 53 (-1074) 971 false m (rootG a)), (outG 53 (-1074) 971 false m (rootG a)).ine, (outG 53 (-1074) 971 false m (rootG a)).ov, (outG 53 (-1074) 971 false m (rootG a)).un, 0⟩
theorem oneD_ok : oneD.ok := (okB_iff _).1 (by decide)
theorem oneD_s : oneD.s ≠ [] := by decide
theorem oneD_val : dval oneD.s = 1 := by decide
theorem ok_low {d : Dc} (h : d.ok) (h0 : d.s ≠ []) : 10 ^ (d.s.length - 1) ≤ dval d.s := by
  have h1 := ok_bare h
  rcases Nat.lt_or_ge (dval d.s) (10 ^ (d.s.length - 1)) with g | g
  · have := bare_len_le _ _ g
    rw [← h1] at this
    have : 0 < d.s.length := List.length_pos_iff.2 h0
    omega
  · exact g
theorem qD_pos {a b : Dc} (hb : b.ok) (h0 : b.s ≠ []) : 0 < qD a b := quoD_pos (ok_pos hb h0) _
theorem qM_pos {a b : Dc} (ha : a.ok) (h0 : a.s ≠ []) : 0 < qM a b := quoM_pos (ok_pos ha h0) _
theorem quoG_ok {a b : Dc} (hb : b.ok) (h0 : b.s ≠ []) : (quoG a b).Ok := ratMag_ok (qD_pos hb h0)
theorem rootG_ok (a : Dc) : (rootG a).Ok := rootMag_ok (qD_pos oneD_ok oneD_s)

/-- About how many figures stand ahead of a quotient's point. -/
def farV (a b : Dc) : Int := (a.s.length : Int) - b.s.length + (a.e - b.e)
theorem quo_up {a b : Dc} (ha : a.ok) (hb : b.ok) (h0 : a.s ≠ []) {k : Nat} (h : (k : Int) < farV a b) : qD a b * 2 ^ (3 * k) ≤ qM a b := by
  have h1 : 0 < a.s.length := List.length_pos_iff.2 h0
  unfold farV at h
  exact Nat.le_trans (Nat.mul_le_mul_left _ (two_ten k)) (quo_big (ok_low ha h0) (Nat.le_of_lt (ok_val hb)) (by omega))
theorem quo_down {a b : Dc} (ha : a.ok) (hb : b.ok) (h0 : b.s ≠ []) {k : Nat} (h : (k : Int) < -farV a b) : qM a b * 2 ^ (3 * k) < qD a b := by
  have h1 : 0 < b.s.length := List.length_pos_iff.2 h0
  unfold farV at h
  exact Nat.lt_of_le_of_lt (Nat.mul_le_mul_left _ (two_ten k)) (quo_small (ok_val ha) (ok_low hb h0) (by omega))
theorem far_up {b T l M D k : Nat} (hTb : T + b ≤ k) (hD : 0 < D) (h : D * 2 ^ k ≤ M) : Far b (-(l : Int)) T (ratMag M D 0) true :=
  rat_huge hD (Nat.le_trans (Nat.mul_le_mul_left _ (Nat.pow_le_pow_right (by decide) hTb)) h)
theorem far_down {b l M D k : Nat} {T : Int} (hl : l < k) (hM : 0 < M) (h : M * 2 ^ k < D) : Far b (-(l : Int)) T (ratMag M D 0) false :=
  rat_tiny hM (Nat.lt_of_le_of_lt (Nat.mul_le_mul_left _ (Nat.pow_le_pow_right (by decide) (by omega))) h)
theorem rfar_up {b T l M D k : Nat} (hTb : 2 * (T + b) ≤ k) (hD : 0 < D) (h : D * 2 ^ k ≤ M) : Far b (-(l : Int)) T (rootMag M D 0) true :=
  root_huge hD (Nat.le_trans (Nat.mul_le_mul_left _ (Nat.pow_le_pow_right (by decide) (by omega))) h)
theorem rfar_down {b l M D k : Nat} {T : Int} (hl : 2 * l + 2 ≤ k) (hM : 0 < M) (h : M * 2 ^ k < D) : Far b (-(l : Int)) T (rootMag M D 0) false :=
  root_tiny hM (Nat.lt_of_le_of_lt (Nat.mul_le_mul_left _ (Nat.pow_le_pow_right (by decide) (by omega))) h)
theorem quo_far_up {a b : Dc} {c T l : Nat} (hTb : T + c ≤ 1024) (ha : a.ok) (hb : b.ok) (h0 : a.s ≠ []) (h1 : b.s ≠ []) (h : 399 < farV a b) : Far c (-(l : Int)) T (quoG a b) true :=
  far_up (k := 3 * 399) (by omega) (qD_pos hb h1) (quo_up ha hb h0 (k := 399) h)
theorem quo_far_down {a b : Dc} {c l : Nat} {T : Int} (hl : l ≤ 1074) (ha : a.ok) (hb : b.ok) (h0 : a.s ≠ []) (h1 : b.s ≠ []) (h : farV a b < -400) : Far c (-(l : Int)) T (quoG a b) false :=
  far_down (k := 3 * 400) (by omega) (qM_pos ha h0) (quo_down ha hb h1 (k := 400) (by omega))
theorem root_far_up {a : Dc} {c T l : Nat} (hTb : T + c ≤ 1024) (ha : a.ok) (h0 : a.s ≠ []) (h : 799 < farV a oneD) : Far c (-(l : Int)) T (rootG a) true :=
  rfar_up (k := 3 * 799) (by omega) (qD_pos oneD_ok oneD_s) (quo_up ha oneD_ok h0 (k := 799) h)
theorem root_far_down {a : Dc} {c l : Nat} {T : Int} (hl : l ≤ 1074) (ha : a.ok) (h0 : a.s ≠ []) (h : farV a oneD < -800) : Far c (-(l : Int)) T (rootG a) false :=
  rfar_down (k := 3 * 800) (by omega) (qM_pos ha h0) (quo_down ha oneD_ok oneD_s (k := 800) (by omega))
/-- The document's far ones. -/
theorem doc_up {c T l : Nat} (hTc : T + c ≤ 1024) : Far c (-(l : Int)) T (ratMag 1 1 1400) true := by
  show 2 ^ c ≤ toQ 1 1 1400 T
  refine toQ_ge (by decide) (by decide) ?_
  rw [show blen 1 = 1 by decide]
  omega
theorem doc_down {c l : Nat} {T : Int} (hl : l ≤ 1074) : Far c (-(l : Int)) T (ratMag 1 1 (-1400)) false := by
  have e1 : toN 1 (-1400) (-(l : Int)) = 1 := by
    unfold toN
    rw [show ((-1400 : Int) - -(l : Int)).toNat = 0 by omega]
  have e2 : toD 1 (-1400) (-(l : Int)) = 2 ^ (1400 - l) := by
    unfold toD
    rw [show (-(l : Int) - (-1400 : Int)).toNat = 1400 - l by omega, Nat.one_mul]
  have h1 : 2 ^ 2 ≤ 2 ^ (1400 - l) := Nat.pow_le_pow_right (by decide) (by omega)
  show toQ 1 1 (-1400) (-(l : Int)) = 0 ∧ ncmp (toN 1 (-1400) (-(l : Int)) % toD 1 (-1400) (-(l : Int)) * 2) (toD 1 (-1400) (-(l : Int))) = -1 ∧ decide (toN 1 (-1400) (-(l : Int)) % toD 1 (-1400) (-(l : Int)) = 0) = false
  unfold toQ
  rw [e1, e2]
  generalize 2 ^ (1400 - l) = X at *
  rw [Nat.div_eq_of_lt (by omega), Nat.mod_eq_of_lt (by omega)]
  exact ⟨rfl, ncmp_lt (by omega), rfl⟩
end Go.Proofs.YtapahfoebpiajaaGreatDoor

/- Plain: Down and Up lie about; the opposite by the opposite ways; a number's own decimal. -/
namespace Go.Proofs.YtapahfoebpiajaaGreatDoor
open Go.RowKit Go.Lib

/-- What is rounded lies on the ladder. -/
theorem out_range {b : Nat} {L T : Int} {neg : Bool} {mode : Int} {g : Mag} (hb : 2 ≤ b) (hLT : L ≤ T) (hg : g.Ok) :
    (outG b L T neg mode g).inf = true ∨ ((outG b L T neg mode g).inf = false ∧ (outG b L T neg mode g).m < 2 ^ b ∧ L ≤ (outG b L T neg mode g).e ∧ (outG b L T neg mode g).e ≤ T ∧ ((outG b L T neg mode g).e = L ∨ 2 ^ (b - 1) ≤ (outG b L T neg mode g).m)) := by
  obtain ⟨h1, h2, h3⟩ := isE_of (b := b) (L := L) (by omega) hg
  have hk := kW_le (neg := neg) (mode := mode) (q := g.Q (eOf b L g)) (h := g.H (eOf b L g)) (z := g.Z (eOf b L g))
  have hB : 2 ^ b = 2 * 2 ^ (b - 1) := by rw [Nat.mul_comm, ← Nat.pow_succ]; congr 1; omega
  have hB0 : 0 < 2 ^ (b - 1) := Nat.two_pow_pos _
  unfold outG outW
  generalize kW neg mode (g.Q (eOf b L g)) (g.H (eOf b L g)) (g.Z (eOf b L g)) = K at *
  generalize g.Q (eOf b L g) = q at *
  generalize eOf b L g = e at *
  rw [hB] at h2 ⊢
  generalize 2 ^ (b - 1) = B at *
  by_cases ho : T < (if K = 2 * B then e + 1 else e)
  · rw [if_pos ho]
    by_cases hm : maxW mode neg = true
    · rw [if_pos hm]
      exact .inr ⟨rfl, by show 2 * B - 1 < 2 * B; omega, hLT, Int.le_refl _, .inr (by show B ≤ 2 * B - 1; omega)⟩
    · rw [if_neg hm]
      exact .inl rfl
  · rw [if_neg ho]
    right
    by_cases hK : K = 2 * B
    · rw [if_pos hK] at ho
      simp only [if_pos hK]
      exact ⟨trivial, by omega, by omega, by omega, .inr (Nat.le_refl _)⟩
    · rw [if_neg hK] at ho
      simp only [if_neg hK]
      refine ⟨trivial, by omega, h1, by omega, ?_⟩
      rcases h3 with h | h
      · exact .inl h
      · right; omega
end Go.Proofs.YtapahfoebpiajaaGreatDoor
