/- Parts An, Ao, Ap, Aq of the proof, in one text. -/
import Derived.Test.YtapahfoebpiajaaGreatDoorSAA
import Derived.Test.YtapahfoebpiajaaGreatDoorSQT

/- Plain: what decimals are rounded to: quotients, roots, to numbers and to singles, to places. -/
namespace Go.Proofs.YtapahfoebpiajaaGreatDoor
open Go.RowKit Go.Lib

/-- What is told: bits, flags, errno. -/
structure RA where
  bits : Nat
  ine : Bool
  ov : Bool
  un : Bool
  err : Int
def RA.no (e : Int) : RA := ⟨0, false, false, false, e⟩
def bits64 (neg : Bool) (o : Out) : Nat := (if neg = true then 2^63 else 0) + o.rung 53 (-1074) 971
def bits32 (neg : Bool) (o : Out) : Nat := (if neg = true then 2^31 else 0) + o.rung 24 (-149) 104
def oneD : Dc := ⟨false, [49], 0⟩
def qM (a b : Dc) : Nat := quoM (dval a.s) (a.e - b.e)
def qD (a b : Dc) : Nat := quoD (dval b.s) (a.e - b.e)
/-- The magnitude of a quotient; of a root. -/
def quoG (a b : Dc) : Mag := ratMag (qM a b) (qD a b) 0
def rootG (a : Dc) : Mag := rootMag (qM a oneD) (qD a oneD) 0
def ratioA (a b : Dc) (m : Int) : RA :=
  if ¬ (a.ok ∧ b.ok ∧ 1 ≤ m ∧ m ≤ 6) then RA.no 1 else if b.s = [] then RA.no 13 else if a.s = [] then RA.no 0
  else ⟨bits64 (a.neg != b.neg) (outG 53 (-1074) 971 (a.neg != b.neg) m (quoG a b)), (outG 53 (-1074) 971 (a.neg != b.neg) m (quoG a b)).ine, (outG 53 (-1074) 971 (a.neg != b.neg) m (quoG a b)).ov, (outG 53 (-1074) 971 (a.neg != b.neg) m (quoG a b)).un, 0⟩
def to64A (a : Dc) (m : Int) : RA := ratioA a oneD m
def to32A (a : Dc) (m : Int) : RA :=
  if ¬ (a.ok ∧ 1 ≤ m ∧ m ≤ 6) then RA.no 1 else if a.s = [] then RA.no 0
  else ⟨bits32 a.neg (outG 24 (-149) 104 a.neg m (quoG a oneD)), (outG 24 (-149) 104 a.neg m (quoG a oneD)).ine, (outG 24 (-149) 104 a.neg m (quoG a oneD)).ov, (outG 24 (-149) 104 a.neg m (quoG a oneD)).un, 0⟩
def rootA (a : Dc) (m : Int) : RA :=
  if ¬ (a.ok ∧ 1 ≤ m ∧ m ≤ 6) then RA.no 1 else if a.neg = true then RA.no 14 else if a.s = [] then RA.no 0
  else ⟨bits64 false (outG 53 (-1074) 971 false m (rootG a)), (outG 53 (-1074) 971 false m (rootG a)).ine, (outG 53 (-1074) 971 false m (rootG a)).ov, (outG 53 (-1074) 971 false m (rootG a)).un, 0⟩
/-- How many units of the last place there are. -/
def unitK (a : Dc) (n m : Int) : Nat :=
  kW a.neg m (dval a.s / 10 ^ (-n - a.e).toNat) (ncmp (2 * (dval a.s % 10 ^ (-n - a.e).toNat)) (10 ^ (-n - a.e).toNat)) false
def placesC (a : Dc) (n m : Int) : Dc × Int :=
  if -n - a.e ≤ 0 then (a, 0) else (⟨madeS a.neg (unitK a n m) (-n), madeL (unitK a n m) (-n), madeE (unitK a n m) (-n)⟩, madeX (unitK a n m) (-n))
def placesA (a : Dc) (n m : Int) : Dc × Int :=
  if ¬ (a.ok ∧ 1 ≤ m ∧ m ≤ 6 ∧ -20000 ≤ n ∧ n ≤ 20000) then (Dc.none, 1) else if a.s = [] then (a, 0) else placesC a n m
def figuresA (a : Dc) (n m : Int) : Dc × Int :=
  if ¬ (a.ok ∧ 1 ≤ m ∧ m ≤ 6 ∧ 1 ≤ n ∧ n ≤ 8192) then (Dc.none, 1) else if a.s = [] then (a, 0) else placesC a (n - a.s.length - a.e) m

theorem oneD_ok : oneD.ok := (okB_iff _).1 (by decide)
theorem oneD_s : oneD.s ≠ [] := by decide
theorem oneD_val : dval oneD.s = 1 := by decide
theorem ok_low {d : Dc} (h : d.ok) (h0 : d.s ≠ []) : 10 ^ (d.s.length - 1) ≤ dval d.s := by
  have h1 := ok_bare h
  rcases Nat.lt_or_ge (dval d.s) (10 ^ (d.s.length - 1)) with g | g
  · have := bare_len_le _ _ g
    rw [← h1] at this
    have : 0 < d.s.length := List.length_pos_iff.2 h0
    omega
  · exact g
theorem qD_pos {a b : Dc} (hb : b.ok) (h0 : b.s ≠ []) : 0 < qD a b := quoD_pos (ok_pos hb h0) _
theorem qM_pos {a b : Dc} (ha : a.ok) (h0 : a.s ≠ []) : 0 < qM a b := quoM_pos (ok_pos ha h0) _
theorem quoG_ok {a b : Dc} (hb : b.ok) (h0 : b.s ≠ []) : (quoG a b).Ok := ratMag_ok (qD_pos hb h0)
theorem rootG_ok (a : Dc) : (rootG a).Ok := rootMag_ok (qD_pos oneD_ok oneD_s)

/-- About how many figures stand ahead of a quotient's point. -/
def farV (a b : Dc) : Int := (a.s.length : Int) - b.s.length + (a.e - b.e)
theorem quo_up {a b : Dc} (ha : a.ok) (hb : b.ok) (h0 : a.s ≠ []) {k : Nat} (h : (k : Int) < farV a b) : qD a b * 2 ^ (3 * k) ≤ qM a b := by
  have h1 : 0 < a.s.length := List.length_pos_iff.2 h0
  unfold farV at h
  exact Nat.le_trans (Nat.mul_le_mul_left _ (two_ten k)) (quo_big (ok_low ha h0) (Nat.le_of_lt (ok_val hb)) (by omega))
theorem quo_down {a b : Dc} (ha : a.ok) (hb : b.ok) (h0 : b.s ≠ []) {k : Nat} (h : (k : Int) < -farV a b) : qM a b * 2 ^ (3 * k) < qD a b := by
  have h1 : 0 < b.s.length := List.length_pos_iff.2 h0
  unfold farV at h
  exact Nat.lt_of_le_of_lt (Nat.mul_le_mul_left _ (two_ten k)) (quo_small (ok_val ha) (ok_low hb h0) (by omega))
theorem far_up {b T l M D k : Nat} (hTb : T + b ≤ k) (hD : 0 < D) (h : D * 2 ^ k ≤ M) : Far b (-(l : Int)) T (ratMag M D 0) true :=
  rat_huge hD (Nat.le_trans (Nat.mul_le_mul_left _ (Nat.pow_le_pow_right (by decide) hTb)) h)
theorem far_down {b l M D k : Nat} {T : Int} (hl : l < k) (hM : 0 < M) (h : M * 2 ^ k < D) : Far b (-(l : Int)) T (ratMag M D 0) false :=
  rat_tiny hM (Nat.lt_of_le_of_lt (Nat.mul_le_mul_left _ (Nat.pow_le_pow_right (by decide) (by omega))) h)
theorem rfar_up {b T l M D k : Nat} (hTb : 2 * (T + b) ≤ k) (hD : 0 < D) (h : D * 2 ^ k ≤ M) : Far b (-(l : Int)) T (rootMag M D 0) true :=
  root_huge hD (Nat.le_trans (Nat.mul_le_mul_left _ (Nat.pow_le_pow_right (by decide) (by omega))) h)
theorem rfar_down {b l M D k : Nat} {T : Int} (hl : 2 * l + 2 ≤ k) (hM : 0 < M) (h : M * 2 ^ k < D) : Far b (-(l : Int)) T (rootMag M D 0) false :=
  root_tiny hM (Nat.lt_of_le_of_lt (Nat.mul_le_mul_left _ (Nat.pow_le_pow_right (by decide) (by omega))) h)
theorem quo_far_up {a b : Dc} {c T l : Nat} (hTb : T + c ≤ 1024) (ha : a.ok) (hb : b.ok) (h0 : a.s ≠ []) (h1 : b.s ≠ []) (h : 399 < farV a b) : Far c (-(l : Int)) T (quoG a b) true :=
  far_up (k := 3 * 399) (by omega) (qD_pos hb h1) (quo_up ha hb h0 (k := 399) h)
theorem quo_far_down {a b : Dc} {c l : Nat} {T : Int} (hl : l ≤ 1074) (ha : a.ok) (hb : b.ok) (h0 : a.s ≠ []) (h1 : b.s ≠ []) (h : farV a b < -400) : Far c (-(l : Int)) T (quoG a b) false :=
  far_down (k := 3 * 400) (by omega) (qM_pos ha h0) (quo_down ha hb h1 (k := 400) (by omega))
theorem root_far_up {a : Dc} {c T l : Nat} (hTb : T + c ≤ 1024) (ha : a.ok) (h0 : a.s ≠ []) (h : 799 < farV a oneD) : Far c (-(l : Int)) T (rootG a) true :=
  rfar_up (k := 3 * 799) (by omega) (qD_pos oneD_ok oneD_s) (quo_up ha oneD_ok h0 (k := 799) h)
theorem root_far_down {a : Dc} {c l : Nat} {T : Int} (hl : l ≤ 1074) (ha : a.ok) (h0 : a.s ≠ []) (h : farV a oneD < -800) : Far c (-(l : Int)) T (rootG a) false :=
  rfar_down (k := 3 * 800) (by omega) (qM_pos ha h0) (quo_down ha oneD_ok oneD_s (k := 800) (by omega))
end Go.Proofs.YtapahfoebpiajaaGreatDoor

/- Plain: numbers' own magnitudes; Odd between; the order of what is rounded. -/
namespace Go.Proofs.YtapahfoebpiajaaGreatDoor
open Go.RowKit Go.Lib

/-- A number's own magnitude, m 2^e. -/
def numG (m : Nat) (e : Int) : Mag := ratMag (m * 2 ^ e.toNat) (2 ^ (-e).toNat) 0
theorem numG_ok (m : Nat) (e : Int) : (numG m e).Ok := ratMag_ok (Nat.two_pow_pos _)
theorem numG_at (m : Nat) (e : Int) : (numG m e).Q e = m ∧ (numG m e).Z e = true := by
  have e1 : toN (m * 2 ^ e.toNat) 0 e = m * toD (2 ^ (-e).toNat) 0 e := by
    unfold toN toD
    rw [Nat.mul_assoc, ← Nat.pow_add, ← Nat.pow_add, show e.toNat + (0 - e).toNat = (-e).toNat + (e - 0).toNat by omega]
  have hp : 0 < toD (2 ^ (-e).toNat) 0 e := Nat.mul_pos (Nat.two_pow_pos _) (Nat.two_pow_pos _)
  refine ⟨?_, ?_⟩
  · show toN _ _ _ / toD _ _ _ = m
    rw [e1, Nat.mul_div_cancel _ hp]
  · show decide (toN _ _ _ % toD _ _ _ = 0) = true
    rw [e1, Nat.mul_mod_left]; rfl
/-- What is a number already. -/
theorem exact_out {b : Nat} {L T e : Int} {neg : Bool} {mode : Int} {g : Mag} (hb : 1 ≤ b) (hg : g.Ok) (h : IsE b L g e) (hz : g.Z e = true) (he : e ≤ T) : outG b L T neg mode g = ⟨false, g.Q e, e, false, false, false⟩ := by
  rw [outG_eq hb hg h]
  have hk : kW neg mode (g.Q e) (g.H e) (g.Z e) = g.Q e := by unfold kW; rw [hz]; rfl
  have h2 := h.2.1
  unfold outW
  rw [hk, if_neg (show ¬ g.Q e = 2 ^ b by omega), if_neg (show ¬ g.Q e = 2 ^ b by omega), if_neg (show ¬ T < e by omega), hz]
  rfl
/-- A number's place in the order. -/
def ordR (neg : Bool) (r : Nat) : Int := if neg = true then -(r : Int) else r
theorem quo_cross {a b : Dc} {f : Int} (ha : f ≤ a.e) (hb : f ≤ b.e) (h : dval a.s * 10 ^ (a.e - f).toNat ≤ dval b.s * 10 ^ (b.e - f).toNat) : qM a oneD * qD b oneD ≤ qM b oneD * qD a oneD := by
  have h0 : ∀ d : Dc, d.e - oneD.e = d.e := fun d => by show d.e - 0 = d.e; omega
  unfold qM qD quoM quoD
  rw [h0, h0, oneD_val, Nat.one_mul, Nat.one_mul]
  obtain ⟨j, hj⟩ : ∃ j, j = a.e.natAbs + b.e.natAbs + f.natAbs := ⟨_, rfl⟩
  refine Nat.le_of_mul_le_mul_right ?_ (Nat.pow_pos (n := j) (show 0 < 10 by decide))
  have e1 : 10 ^ a.e.toNat * 10 ^ j = 10 ^ (a.e - f).toNat * (10 ^ (f + j).toNat * 10 ^ (-a.e).toNat) := by rw [← Nat.pow_add, ← Nat.pow_add, ← Nat.pow_add]; congr 1; omega
  have e2 : 10 ^ b.e.toNat * 10 ^ j = 10 ^ (b.e - f).toNat * (10 ^ (f + j).toNat * 10 ^ (-b.e).toNat) := by rw [← Nat.pow_add, ← Nat.pow_add, ← Nat.pow_add]; congr 1; omega
  calc dval a.s * 10 ^ a.e.toNat * 10 ^ (-b.e).toNat * 10 ^ j = dval a.s * (10 ^ a.e.toNat * 10 ^ j) * 10 ^ (-b.e).toNat := by ac_rfl
    _ = (dval a.s * 10 ^ (a.e - f).toNat) * (10 ^ (f + j).toNat * 10 ^ (-a.e).toNat * 10 ^ (-b.e).toNat) := by rw [e1]; ac_rfl
    _ ≤ (dval b.s * 10 ^ (b.e - f).toNat) * (10 ^ (f + j).toNat * 10 ^ (-a.e).toNat * 10 ^ (-b.e).toNat) := Nat.mul_le_mul_right _ h
    _ = dval b.s * (10 ^ b.e.toNat * 10 ^ j) * 10 ^ (-a.e).toNat := by rw [e2]; ac_rfl
    _ = dval b.s * 10 ^ b.e.toNat * 10 ^ (-a.e).toNat * 10 ^ j := by ac_rfl
end Go.Proofs.YtapahfoebpiajaaGreatDoor

/- Plain: rounding turns no order round; places twice; Down and Up lie about. -/
namespace Go.Proofs.YtapahfoebpiajaaGreatDoor
open Go.RowKit Go.Lib

/-- A decimal's rung; its root's. -/
def rung64 (a : Dc) (m : Int) : Nat := if a.s = [] then 0 else (outG 53 (-1074) 971 a.neg m (quoG a oneD)).rung 53 (-1074) 971
def rungRoot (a : Dc) (m : Int) : Nat := if a.s = [] then 0 else (outG 53 (-1074) 971 false m (rootG a)).rung 53 (-1074) 971
theorem nil_neg {a : Dc} (ha : a.ok) (h : a.s = []) : a.neg = false := by rw [ok_nil ha h]; rfl
theorem to64_bits {a : Dc} {m : Int} (ha : a.ok) (hm : 1 ≤ m ∧ m ≤ 6) : (to64A a m).bits = (if a.neg = true then 2^63 else 0) + rung64 a m ∧ (to64A a m).err = 0 := by
  unfold to64A ratioA rung64
  rw [if_neg (fun h => h ⟨ha, oneD_ok, hm⟩), if_neg oneD_s]
  by_cases h : a.s = []
  · rw [if_pos h, if_pos h, nil_neg ha h]; exact ⟨rfl, rfl⟩
  · rw [if_neg h, if_neg h, show (a.neg != oneD.neg) = a.neg by show (a.neg != false) = a.neg; cases a.neg <;> rfl]
    exact ⟨rfl, rfl⟩
theorem lift_sign (a : Dc) (f : Int) : liftV a f = sg a.neg (dval a.s * 10 ^ (a.e - f).toNat) := by
  unfold liftV Dc.v
  rw [sg_mul]; push_cast; rfl
theorem rung_mono {a b : Dc} {m f : Int} (h0 : a.s ≠ []) (h1 : b.s ≠ []) (hn : a.neg = b.neg) (fa : f ≤ a.e) (fb : f ≤ b.e) (h : dval a.s * 10 ^ (a.e - f).toNat ≤ dval b.s * 10 ^ (b.e - f).toNat) : rung64 a m ≤ rung64 b m := by
  unfold rung64
  rw [if_neg h0, if_neg h1, hn]
  exact out_mono (by decide) (by decide) (quoG_ok oneD_ok oneD_s) (quoG_ok oneD_ok oneD_s) (rat_le (qD_pos oneD_ok oneD_s) (qD_pos oneD_ok oneD_s) (quo_cross fa fb h))
theorem root_mono {a b : Dc} {m f : Int} (h0 : a.s ≠ []) (h1 : b.s ≠ []) (fa : f ≤ a.e) (fb : f ≤ b.e) (h : dval a.s * 10 ^ (a.e - f).toNat ≤ dval b.s * 10 ^ (b.e - f).toNat) : rungRoot a m ≤ rungRoot b m := by
  unfold rungRoot
  rw [if_neg h0, if_neg h1]
  exact out_mono (by decide) (by decide) (rootG_ok a) (rootG_ok b) (root_le (qD_pos oneD_ok oneD_s) (qD_pos oneD_ok oneD_s) (quo_cross fa fb h))
/-- How two stand, told of signs and magnitudes. -/
theorem cmp_cases {a b : Dc} (ha : a.ok) (hb : b.ok) (h : liftV a (liftE a b) < liftV b (liftE a b)) :
    (a.s = [] ∧ b.s ≠ [] ∧ b.neg = false) ∨ (b.s = [] ∧ a.s ≠ [] ∧ a.neg = true) ∨ (a.s ≠ [] ∧ b.s ≠ [] ∧ liftE a b ≤ a.e ∧ liftE a b ≤ b.e ∧
      ((a.neg = true ∧ b.neg = false) ∨ (a.neg = false ∧ b.neg = false ∧ dval a.s * 10 ^ (a.e - liftE a b).toNat ≤ dval b.s * 10 ^ (b.e - liftE a b).toNat) ∨
       (a.neg = true ∧ b.neg = true ∧ dval b.s * 10 ^ (b.e - liftE a b).toNat ≤ dval a.s * 10 ^ (a.e - liftE a b).toNat))) := by
  obtain ⟨c1, c2, -⟩ := liftE_cases ha hb
  rw [lift_sign, lift_sign] at h
  have n0 : ∀ d : Dc, d.s = [] → dval d.s = 0 := fun d h => by rw [h]; exact dval_nil
  generalize liftE a b = f at *
  by_cases ga : a.s = []
  · left
    rw [n0 a ga, Nat.zero_mul, nil_neg ha ga] at h
    refine ⟨ga, fun gb => ?_, ?_⟩
    · rw [n0 b gb, Nat.zero_mul, nil_neg hb gb] at h; exact absurd h (by decide)
    · cases hn : b.neg
      · rfl
      · rw [hn] at h; unfold sg at h; generalize dval b.s * 10 ^ (b.e - f).toNat = y at h; simp at h; omega
  · by_cases gb : b.s = []
    · right; left
      rw [n0 b gb, Nat.zero_mul, nil_neg hb gb] at h
      refine ⟨gb, ga, ?_⟩
      cases hn : a.neg
      · rw [hn] at h; unfold sg at h; generalize dval a.s * 10 ^ (a.e - f).toNat = y at h; simp at h; omega
      · rfl
    · right; right
      refine ⟨ga, gb, c1.resolve_left ga, c2.resolve_left gb, ?_⟩
      generalize dval a.s * 10 ^ (a.e - f).toNat = x at *
      generalize dval b.s * 10 ^ (b.e - f).toNat = y at *
      unfold sg at h
      cases hn : a.neg <;> cases hm : b.neg <;> rw [hn, hm] at h <;> simp at h ⊢ <;> omega
theorem cmp_same {a b : Dc} (ha : a.ok) (hb : b.ok) (h : liftV a (liftE a b) = liftV b (liftE a b)) : a = b := by
  obtain ⟨c1, c2, -⟩ := liftE_cases ha hb
  have h1 := rep_lift ha c1
  have h2 := rep_lift hb c2
  rw [h] at h1
  exact h1.uniq h2
theorem to64_rises {a b : Dc} {m : Int} (ha : a.ok) (hb : b.ok) (h : liftV a (liftE a b) < liftV b (liftE a b)) : ordR a.neg (rung64 a m) ≤ ordR b.neg (rung64 b m) := by
  unfold ordR
  rcases cmp_cases ha hb h with ⟨g1, g2, g3⟩ | ⟨g1, g2, g3⟩ | ⟨g1, g2, g3, g4, g5⟩
  · rw [g3, nil_neg ha g1]; unfold rung64; rw [if_pos g1]; simp
  · rw [g3, nil_neg hb g1]; unfold rung64; rw [if_pos g1]; simp
  · rcases g5 with ⟨k1, k2⟩ | ⟨k1, k2, k3⟩ | ⟨k1, k2, k3⟩
    · rw [k1, k2]; simp
    · have := rung_mono (m := m) g1 g2 (by rw [k1, k2]) g3 g4 k3
      rw [k1, k2]; simp; exact this
    · have := rung_mono (m := m) g2 g1 (by rw [k1, k2]) g4 g3 k3
      rw [k1, k2]; simp; exact this
theorem root_rises {a b : Dc} {m : Int} (ha : a.ok) (hb : b.ok) (na : a.neg = false) (h : liftV a (liftE a b) < liftV b (liftE a b)) : rungRoot a m ≤ rungRoot b m := by
  rcases cmp_cases ha hb h with ⟨g1, g2, g3⟩ | ⟨g1, g2, g3⟩ | ⟨g1, g2, g3, g4, g5⟩
  · unfold rungRoot; rw [if_pos g1]; exact Nat.zero_le _
  · rw [na] at g3; cases g3
  · rcases g5 with ⟨k1, k2⟩ | ⟨k1, k2, k3⟩ | ⟨k1, k2, k3⟩
    · rw [na] at k1; cases k1
    · exact root_mono g1 g2 g3 g4 k3
    · rw [na] at k1; cases k1

/-- Places by Zero. -/
theorem unit_zero (a : Dc) (n : Int) : unitK a n 5 = dval a.s / 10 ^ (-n - a.e).toNat := by
  unfold unitK kW
  rw [show ∀ x y, upW 5 a.neg x y = false from fun x y => rfl]
  rfl
theorem strip_len {K k : Nat} (h : K < 10 ^ k) : (bareD (strip K)).length ≤ k := by
  refine bare_len_le _ _ (Nat.lt_of_le_of_lt ?_ h)
  have := strip_mul K
  exact Nat.le_trans (Nat.le_mul_of_pos_right _ (Nat.pow_pos (by decide))) (Nat.le_of_eq this)
theorem place_room {N l K k : Nat} {n : Int} (hN : N < 10 ^ l) (hl : l ≤ 8192) (hK : K = N / 10 ^ k) (hn : -60 ≤ n ∧ n ≤ 60) : madeX K (-n) = 0 := by
  have hlt : K < 10 ^ l := by
    rw [hK]
    exact Nat.lt_of_le_of_lt (Nat.div_le_self _ _) hN
  unfold madeX
  by_cases h0 : K = 0
  · rw [if_pos h0]
  · rw [if_neg h0]
    have h1 := strip_len hlt
    have h2 := bare_len_tz K (by omega)
    have h3 := bare_len_le K l hlt
    rw [if_neg (by omega), if_neg (by omega)]
theorem places_twice {a : Dc} {n : Int} (ha : a.ok) (hn : -50 ≤ n ∧ n ≤ 50) : (placesA a (n + 3) 5).2 = 0 ∧ (placesA a n 5).2 = 0 ∧ placesA (placesA a (n + 3) 5).1 n 5 = placesA a n 5 := by
  have hA : ∀ (d : Dc) (k : Int), d.ok → -20000 ≤ k → k ≤ 20000 → placesA d k 5 = if d.s = [] then (d, 0) else placesC d k 5 := fun d k h1 h2 h3 => by
    unfold placesA; rw [if_neg (fun h => h ⟨h1, by decide, by decide, h2, h3⟩)]
  have hv := ok_val ha
  have hl := ok_len ha
  by_cases h0 : a.s = []
  · have e1 : ∀ k : Int, -20000 ≤ k → k ≤ 20000 → placesA a k 5 = (a, 0) := fun k h1 h2 => by rw [hA a k ha h1 h2, if_pos h0]
    rw [e1 _ (by omega) (by omega), e1 _ (by omega) (by omega)]
    exact ⟨rfl, rfl, rfl⟩
  · have hX : ∀ k : Int, -60 ≤ k → k ≤ 60 → (placesA a k 5).2 = 0 := fun k h1 h2 => by
      rw [hA a k ha (by omega) (by omega), if_neg h0]
      unfold placesC
      split
      · rfl
      · exact place_room hv hl (unit_zero a k) ⟨h1, h2⟩
    refine ⟨hX _ (by omega) (by omega), hX _ (by omega) (by omega), ?_⟩
    have e1 : placesA a (n + 3) 5 = placesC a (n + 3) 5 := by rw [hA a _ ha (by omega) (by omega), if_neg h0]
    have e2 : placesA a n 5 = placesC a n 5 := by rw [hA a _ ha (by omega) (by omega), if_neg h0]
    by_cases hd : -(n + 3) - a.e ≤ 0
    · have : placesC a (n + 3) 5 = (a, 0) := by unfold placesC; rw [if_pos hd]
      rw [e1, this]
    · have hx1 := hX (n + 3) (by omega) (by omega)
      have hx2 := hX n (by omega) (by omega)
      rw [e1] at hx1 ⊢
      rw [e2] at hx2 ⊢
      unfold placesC at hx1 hx2 ⊢
      rw [if_neg hd, unit_zero] at hx1 ⊢
      have hd2 : ¬ -n - a.e ≤ 0 := by omega
      rw [if_neg hd2, unit_zero] at hx2 ⊢
      obtain ⟨K1, hK1⟩ : ∃ K, K = dval a.s / 10 ^ (-(n + 3) - a.e).toNat := ⟨_, rfl⟩
      have hK : dval a.s / 10 ^ (-n - a.e).toNat = K1 / 1000 := by
        rw [hK1, show (-n - a.e).toNat = (-(n + 3) - a.e).toNat + 3 by omega, Nat.pow_add, ← Nat.div_div_eq_div_mul]
      rw [← hK1] at hx1 ⊢
      rw [hK] at hx2 ⊢
      have hx1 : madeX K1 (-(n + 3)) = 0 := hx1
      have hx2 : madeX (K1 / 1000) (-n) = 0 := hx2
      have hok := made_may a.neg K1 (-(n + 3))
      rcases Nat.eq_zero_or_pos K1 with g | g
      · obtain ⟨m1, m2, m3⟩ := made_none (neg := a.neg) (N := K1) (e := -(n + 3)) (.inl g)
        obtain ⟨k1, k2, k3⟩ := made_none (neg := a.neg) (N := K1 / 1000) (e := -n) (.inl (by omega))
        rw [m1, m2, m3, k1, k2, k3, hx2]
        exact (hA ⟨false, [], 0⟩ n none_ok (by omega) (by omega)).trans (if_pos rfl)
      · obtain ⟨m1, m2, m3⟩ := made_some (neg := a.neg) g hx1
        have hne : bareD (strip K1) ≠ [] := bare_pos_ne (strip_pos g)
        rw [m1, m2, m3] at hok ⊢
        rw [hA _ n hok (by omega) (by omega), if_neg hne]
        unfold placesC
        have hsm := strip_mul K1
        by_cases ht : 3 ≤ tz K1
        · rw [if_pos (by show -n - (-(n + 3) + (tz K1 : Int)) ≤ 0; omega)]
          have h3 : K1 = K1 / 1000 * 10 ^ 3 := by
            obtain ⟨t, ht⟩ := Nat.exists_eq_add_of_le ht
            rw [ht, Nat.pow_add, Nat.mul_comm (10 ^ 3), ← Nat.mul_assoc] at hsm
            generalize strip K1 * 10 ^ t = y at *
            omega
          obtain ⟨s1, s2, s3, s4⟩ := made_scale a.neg (K1 / 1000) 3 (-(n + 3))
          rw [← h3, show -(n + 3) + ((3 : Nat) : Int) = -n by omega] at s1 s2 s3 s4
          rw [← s2, ← s3, ← s4, m1, m2, m3, hx2]
        · rw [if_neg (by show ¬ -n - (-(n + 3) + (tz K1 : Int)) ≤ 0; omega), unit_zero]
          have h3 : dval (bareD (strip K1)) / 10 ^ (-n - (-(n + 3) + (tz K1 : Int))).toNat = K1 / 1000 := by
            rw [dval_bare, show (-n - (-(n + 3) + (tz K1 : Int))).toNat = 3 - tz K1 by omega]
            obtain ⟨t, ht⟩ : ∃ t, t = tz K1 := ⟨_, rfl⟩
            rw [← ht] at hsm ⊢
            rw [← hsm, show (1000 : Nat) = 10 ^ (3 - t) * 10 ^ t by rw [← Nat.pow_add, show 3 - t + t = 3 by omega], Nat.mul_div_mul_right _ _ (Nat.pow_pos (by decide)), hsm]
          show ((⟨madeS a.neg (dval (bareD (strip K1)) / _) _, madeL (dval (bareD (strip K1)) / _) _, madeE (dval (bareD (strip K1)) / _) _⟩ : Dc), madeX (dval (bareD (strip K1)) / _) _) = _
          rw [h3]
end Go.Proofs.YtapahfoebpiajaaGreatDoor

/- Plain: Down and Up lie about; the opposite by the opposite ways; a number's own decimal. -/
namespace Go.Proofs.YtapahfoebpiajaaGreatDoor
open Go.RowKit Go.Lib

/-- A number's own magnitude is rounded to it. -/
theorem num_out {b m : Nat} {L T e : Int} {neg : Bool} {mode : Int} (hb : 1 ≤ b) (hm : m < 2 ^ b) (h1 : L ≤ e) (h2 : e ≤ T) (h3 : e = L ∨ 2 ^ (b - 1) ≤ m) : outG b L T neg mode (numG m e) = ⟨false, m, e, false, false, false⟩ := by
  obtain ⟨n1, n2⟩ := numG_at m e
  rw [exact_out hb (numG_ok m e) ⟨h1, by rw [n1]; exact hm, by rw [n1]; exact h3⟩ n2 h2, n1]
/-- What is rounded lies on the ladder. -/
theorem out_range {b : Nat} {L T : Int} {neg : Bool} {mode : Int} {g : Mag} (hb : 2 ≤ b) (hLT : L ≤ T) (hg : g.Ok) :
    (outG b L T neg mode g).inf = true ∨ ((outG b L T neg mode g).inf = false ∧ (outG b L T neg mode g).m < 2 ^ b ∧ L ≤ (outG b L T neg mode g).e ∧ (outG b L T neg mode g).e ≤ T ∧ ((outG b L T neg mode g).e = L ∨ 2 ^ (b - 1) ≤ (outG b L T neg mode g).m)) := by
  obtain ⟨h1, h2, h3⟩ := isE_of (b := b) (L := L) (by omega) hg
  have hk := kW_le (neg := neg) (mode := mode) (q := g.Q (eOf b L g)) (h := g.H (eOf b L g)) (z := g.Z (eOf b L g))
  have hB : 2 ^ b = 2 * 2 ^ (b - 1) := by rw [Nat.mul_comm, ← Nat.pow_succ]; congr 1; omega
  have hB0 : 0 < 2 ^ (b - 1) := Nat.two_pow_pos _
  unfold outG outW
  generalize kW neg mode (g.Q (eOf b L g)) (g.H (eOf b L g)) (g.Z (eOf b L g)) = K at *
  generalize g.Q (eOf b L g) = q at *
  generalize eOf b L g = e at *
  rw [hB] at h2 ⊢
  generalize 2 ^ (b - 1) = B at *
  by_cases ho : T < (if K = 2 * B then e + 1 else e)
  · rw [if_pos ho]
    by_cases hm : maxW mode neg = true
    · rw [if_pos hm]
      exact .inr ⟨rfl, by show 2 * B - 1 < 2 * B; omega, hLT, Int.le_refl _, .inr (by show B ≤ 2 * B - 1; omega)⟩
    · rw [if_neg hm]
      exact .inl rfl
  · rw [if_neg ho]
    right
    by_cases hK : K = 2 * B
    · rw [if_pos hK] at ho
      simp only [if_pos hK]
      exact ⟨trivial, by omega, by omega, by omega, .inr (Nat.le_refl _)⟩
    · rw [if_neg hK] at ho
      simp only [if_neg hK]
      refine ⟨trivial, by omega, h1, by omega, ?_⟩
      rcases h3 with h | h
      · exact .inl h
      · right; omega
end Go.Proofs.YtapahfoebpiajaaGreatDoor
