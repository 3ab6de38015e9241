/- Parts An, Ao, Ap, Aq of the proof, in one text. -/
import Derived.Test.YtapahfoebpiajaaGreatDoorOAA
import Derived.Test.YtapahfoebpiajaaGreatDoorOQT

/- Plain: what decimals are rounded to: quotients, roots, to numbers and to singles, to places. -/
namespace Go.Proofs.YtapahfoebpiajaaGreatDoor
open Go.RowKit Go.Lib

/-- What is told: bits, flags, errno. -/
structure RA where
  bits : Nat
  ine : Bool
  ov : Bool
  un : Bool
  err : Int
def RA.no (e : Int) : RA := ⟨0, false, false, false, e⟩
def bits64 (neg : Bool) (o : Out) : Nat := (if neg = true then 2^63 else 0) + o.rung 53 (-1074) 971
def bits32 (neg : Bool) (o : Out) : Nat := (if neg = true then 2^31 else 0) + o.rung 24 (-149) 104
def oneD : Dc := ⟨false, [49], 0⟩
def qM (a b : Dc) : Nat := quoM (dval a.s) (a.e - b.e)
def qD (a b : Dc) : Nat := quoD (dval b.s) (a.e - b.e)
/-- The magnitude of a quotient; of a root. -/
def quoG (a b : Dc) : Mag := ratMag (qM a b) (qD a b) 0
def ratioA (a b : Dc) (m : Int) : RA :=
  if ¬ (a.ok ∧ b.ok ∧ 1 ≤ m ∧ m ≤ 6) then RA.no 1 else if b.s = [] then RA.no 13 else if a.s = [] then RA.no 0
  else ⟨bits64 (a.neg != b.neg) (outG 53 (-1074) 971 (a.neg != b.neg) m (quoG a b)), (outG 53 (-1074) 971 (a.neg != b.neg) m (quoG a b)).ine, (outG 53 (-1074) 971 (a.neg != b.neg) m (quoG a b)).ov, (outG 53 (-1074) 971 (a.neg != b.neg) m (quoG a b)).un, 0⟩
def to64A (a : Dc) (m : Int) : RA := ratioA a oneD m
def to32A (a : Dc) (m : Int) : RA :=
  if ¬ (a.ok ∧ 1 ≤ m ∧ m ≤ 6) then RA.no 1 else if a.s = [] then RA.no 0
  else ⟨bits32 a.neg (outG 24 (-149) 104 a.neg m (quoG a oneD)), (outG 24 (-149) 104 a.neg m (quoG a oneD)).ine, (outG 24 (-149) 104 a.neg m (quoG a oneD)).ov, (outG 24 (-149) 104 a.neg m (quoG a oneD)).un, 0⟩
theorem oneD_ok : oneD.ok := (okB_iff _).1 (by decide)
theorem oneD_s : oneD.s ≠ [] := by decide
theorem oneD_val : dval oneD.s = 1 := by decide
theorem ok_low {d : Dc} (h : d.ok) (h0 : d.s ≠ []) : 10 ^ (d.s.length - 1) ≤ dval d.s := by
  have h1 := ok_bare h
  rcases Nat.lt_or_ge (dval d.s) (10 ^ (d.s.length - 1)) with g | g
  · have := bare_len_le _ _ g
    rw [← h1] at this
    have : 0 < d.s.length := List.length_pos_iff.2 h0
    omega
  · exact g
theorem qD_pos {a b : Dc} (hb : b.ok) (h0 : b.s ≠ []) : 0 < qD a b := quoD_pos (ok_pos hb h0) _
theorem qM_pos {a b : Dc} (ha : a.ok) (h0 : a.s ≠ []) : 0 < qM a b := quoM_pos (ok_pos ha h0) _
theorem quoG_ok {a b : Dc} (hb : b.ok) (h0 : b.s ≠ []) : (quoG a b).Ok := ratMag_ok (qD_pos hb h0)
/-- About how many figures stand ahead of a quotient's point. -/
def farV (a b : Dc) : Int := (a.s.length : Int) - b.s.length + (a.e - b.e)
theorem quo_up {a b : Dc} (ha : a.ok) (hb : b.ok) (h0 : a.s ≠ []) {k : Nat} (h : (k : Int) < farV a b) : qD a b * 2 ^ (3 * k) ≤ qM a b := by
  have h1 : 0 < a.s.length := List.length_pos_iff.2 h0
  unfold farV at h
  exact Nat.le_trans (Nat.mul_le_mul_left _ (two_ten k)) (quo_big (ok_low ha h0) (Nat.le_of_lt (ok_val hb)) (by omega))
theorem quo_down {a b : Dc} (ha : a.ok) (hb : b.ok) (h0 : b.s ≠ []) {k : Nat} (h : (k : Int) < -farV a b) : qM a b * 2 ^ (3 * k) < qD a b := by
  have h1 : 0 < b.s.length := List.length_pos_iff.2 h0
  unfold farV at h
  exact Nat.lt_of_le_of_lt (Nat.mul_le_mul_left _ (two_ten k)) (quo_small (ok_val ha) (ok_low hb h0) (by omega))
theorem far_up {b T l M D k : Nat} (hTb : T + b ≤ k) (hD : 0 < D) (h : D * 2 ^ k ≤ M) : Far b (-(l : Int)) T (ratMag M D 0) true :=
  rat_huge hD (Nat.le_trans (Nat.mul_le_mul_left _ (Nat.pow_le_pow_right (by decide) hTb)) h)
theorem far_down {b l M D k : Nat} {T : Int} (hl : l < k) (hM : 0 < M) (h : M * 2 ^ k < D) : Far b (-(l : Int)) T (ratMag M D 0) false :=
  rat_tiny hM (Nat.lt_of_le_of_lt (Nat.mul_le_mul_left _ (Nat.pow_le_pow_right (by decide) (by omega))) h)
theorem quo_far_up {a b : Dc} {c T l : Nat} (hTb : T + c ≤ 1024) (ha : a.ok) (hb : b.ok) (h0 : a.s ≠ []) (h1 : b.s ≠ []) (h : 399 < farV a b) : Far c (-(l : Int)) T (quoG a b) true :=
  far_up (k := 3 * 399) (by omega) (qD_pos hb h1) (quo_up ha hb h0 (k := 399) h)
theorem quo_far_down {a b : Dc} {c l : Nat} {T : Int} (hl : l ≤ 1074) (ha : a.ok) (hb : b.ok) (h0 : a.s ≠ []) (h1 : b.s ≠ []) (h : farV a b < -400) : Far c (-(l : Int)) T (quoG a b) false :=
  far_down (k := 3 * 400) (by omega) (qM_pos ha h0) (quo_down ha hb h1 (k := 400) (by omega))
end Go.Proofs.YtapahfoebpiajaaGreatDoor

/- Plain: numbers' own magnitudes; Odd between; the order of what is rounded. -/
namespace Go.Proofs.YtapahfoebpiajaaGreatDoor
open Go.RowKit Go.Lib

/-- A number's own magnitude, m 2^e. -/
def numG (m : Nat) (e : Int) : Mag := ratMag (m * 2 ^ e.toNat) (2 ^ (-e).toNat) 0
theorem numG_ok (m : Nat) (e : Int) : (numG m e).Ok := ratMag_ok (Nat.two_pow_pos _)
theorem numG_at (m : Nat) (e : Int) : (numG m e).Q e = m ∧ (numG m e).Z e = true := by
  have e1 : toN (m * 2 ^ e.toNat) 0 e = m * toD (2 ^ (-e).toNat) 0 e := by
    unfold toN toD
    rw [Nat.mul_assoc, ← Nat.pow_add, ← Nat.pow_add, show e.toNat + (0 - e).toNat = (-e).toNat + (e - 0).toNat by omega]
  have hp : 0 < toD (2 ^ (-e).toNat) 0 e := Nat.mul_pos (Nat.two_pow_pos _) (Nat.two_pow_pos _)
  refine ⟨?_, ?_⟩
  · show toN _ _ _ / toD _ _ _ = m
    rw [e1, Nat.mul_div_cancel _ hp]
  · show decide (toN _ _ _ % toD _ _ _ = 0) = true
    rw [e1, Nat.mul_mod_left]; rfl
/-- What is a number already. -/
theorem exact_out {b : Nat} {L T e : Int} {neg : Bool} {mode : Int} {g : Mag} (hb : 1 ≤ b) (hg : g.Ok) (h : IsE b L g e) (hz : g.Z e = true) (he : e ≤ T) : outG b L T neg mode g = ⟨false, g.Q e, e, false, false, false⟩ := by
  rw [outG_eq hb hg h]
  have hk : kW neg mode (g.Q e) (g.H e) (g.Z e) = g.Q e := by unfold kW; rw [hz]; rfl
  have h2 := h.2.1
  unfold outW
  rw [hk, if_neg (show ¬ g.Q e = 2 ^ b by omega), if_neg (show ¬ g.Q e = 2 ^ b by omega), if_neg (show ¬ T < e by omega), hz]
  rfl
/-- By Odd to 53 bits: never beyond, what comes. -/
theorem odd_out {neg : Bool} {g : Mag} (hg : g.Ok) : ∃ m e ine ov un, outG 53 (-1074) 971 neg 6 g = ⟨false, m, e, ine, ov, un⟩ ∧ m < 2 ^ 53 ∧ -1074 ≤ e ∧ e ≤ 971 ∧ (e = -1074 ∨ 2 ^ 52 ≤ m) ∧ (m = 0 → g.Q (-1074) = 0 ∧ g.Z (-1074) = true) ∧
    ∀ neg' mode, outG 24 (-149) 104 neg' mode (numG m e) = outG 24 (-149) 104 neg' mode g := by
  have hE := isE_of (b := 53) (L := -1074) (by decide) hg
  obtain ⟨e, he⟩ : ∃ e, e = eOf 53 (-1074) g := ⟨_, rfl⟩
  rw [← he] at hE
  rw [outG_eq (by decide) hg hE]
  obtain ⟨q, hq⟩ : ∃ q, q = g.Q e := ⟨_, rfl⟩
  obtain ⟨h1, h2, h3⟩ := hE
  rw [← hq] at h2 h3 ⊢
  have hk : kW neg 6 q (g.H e) (g.Z e) = if (!g.Z e && decide (q % 2 = 0)) = true then q + 1 else q := by
    unfold kW
    have : upW 6 neg (decide (q % 2 = 1)) (g.H e) = decide (q % 2 = 0) := by
      show (!decide (q % 2 = 1)) = _
      rcases Nat.mod_two_eq_zero_or_one q with h | h <;> rw [h] <;> rfl
    rw [this]
  obtain ⟨K, hK⟩ : ∃ K, K = kW neg 6 q (g.H e) (g.Z e) := ⟨_, rfl⟩
  have hK2 : K < 2 ^ 53 ∧ q ≤ K := by
    rw [← hK] at hk
    split at hk
    · rename_i h; simp at h; omega
    · omega
  unfold outW
  rw [← hK, if_neg (show ¬ K = 2 ^ 53 by omega), if_neg (show ¬ K = 2 ^ 53 by omega)]
  by_cases ho : (971 : Int) < e
  · rw [if_pos ho]
    have hb1 : 2 ^ 24 ≤ g.Q 104 := by
      have := hg.anti (show (104 : Int) ≤ e by omega)
      have := h3.resolve_left (by omega)
      omega
    have hb2 : 2 ^ 24 ≤ (numG (2 ^ 53 - 1) 971).Q 104 := by
      have h7 := (numG_ok (2 ^ 53 - 1) 971).anti (show (104 : Int) ≤ 971 by decide)
      rw [(numG_at _ _).1] at h7
      omega
    refine ⟨2 ^ 53 - 1, 971, true, true, _, rfl, by decide, by decide, by decide, .inr (by decide), fun h => absurd h (by decide), fun neg' mode => ?_⟩
    rw [outG_huge (by decide) hg (by decide) hb1, outG_huge (by decide) (numG_ok _ _) (by decide) hb2]
  · rw [if_neg ho]
    refine ⟨K, e, _, _, _, rfl, hK2.1, h1, by omega, ?_, ?_, fun neg' mode => ?_⟩
    · rcases h3 with h | h
      · exact .inl h
      · right; omega
    · intro h0
      have hq0 : q = 0 := by omega
      rw [← hK, h0, hq0] at hk
      have he1 : e = -1074 := h3.resolve_right (by omega)
      rw [he1] at hq hk
      refine ⟨by omega, ?_⟩
      cases hz : g.Z (-1074)
      · rw [hz] at hk; simp at hk
      · rfl
    · obtain ⟨n1, n2⟩ := numG_at K e
      have ho2 := odd_mag hg (numG_ok K e) (by rw [n1, hK, hk, hq]) n2
      refine out_of_eq (f := e + 1 + 1) (by decide) hg (numG_ok K e) ?_ fun f hf => ?_
      · have hE2 := isE_of (b := 24) (L := -149) (by decide) hg
        rcases Int.lt_or_le (eOf 24 (-149) g) (e + 1 + 1) with hlt | hge
        · exfalso
          have a1 := hE2.1
          have a2 := hE2.2.1
          have a3 := hg.anti (show eOf 24 (-149) g ≤ e + 1 by omega)
          rw [hg.next] at a3
          have a4 := h3.resolve_left (by omega)
          omega
        · exact hge
      · obtain ⟨k, hk⟩ : ∃ k : Nat, f = e + 1 + 1 + k := ⟨(f - (e + 1 + 1)).toNat, by omega⟩
        rw [hk]; exact ho2 k
/-- The decimal of a value says its magnitude. -/
theorem rep_quo {d : Dc} {W e : Int} (h : Rep d W e) (f : Int) : (quoG d oneD).Q f = (ratMag (quoM W.natAbs e) (quoD 1 e) 0).Q f ∧ (quoG d oneD).H f = (ratMag (quoM W.natAbs e) (quoD 1 e) 0).H f ∧ (quoG d oneD).Z f = (ratMag (quoM W.natAbs e) (quoD 1 e) 0).Z f := by
  refine rat_eq (qD_pos oneD_ok oneD_s) (quoD_pos (by decide) _) ?_ f
  obtain ⟨j, hj⟩ : ∃ j, j = d.e.natAbs + e.natAbs := ⟨_, rfl⟩
  have h1 := congrArg Int.natAbs (h.all j (by omega) (by omega))
  rw [Int.natAbs_mul, Int.natAbs_mul, v_abs, Int.natAbs_pow, Int.natAbs_pow] at h1
  have h1 : dval d.s * 10 ^ (d.e + j).toNat = W.natAbs * 10 ^ (e + j).toNat := h1
  have h0 : d.e - oneD.e = d.e := by show d.e - 0 = d.e; omega
  unfold qM qD quoM quoD
  rw [h0, oneD_val, Nat.one_mul, Nat.one_mul]
  refine Nat.eq_of_mul_eq_mul_right (Nat.pow_pos (n := j) (show 0 < 10 by decide)) ?_
  have e1 : 10 ^ d.e.toNat * 10 ^ j = 10 ^ (d.e + j).toNat * 10 ^ (-d.e).toNat := by rw [← Nat.pow_add, ← Nat.pow_add]; congr 1; omega
  have e2 : 10 ^ e.toNat * 10 ^ j = 10 ^ (e + j).toNat * 10 ^ (-e).toNat := by rw [← Nat.pow_add, ← Nat.pow_add]; congr 1; omega
  calc dval d.s * 10 ^ d.e.toNat * 10 ^ (-e).toNat * 10 ^ j = dval d.s * (10 ^ d.e.toNat * 10 ^ j) * 10 ^ (-e).toNat := by ac_rfl
    _ = dval d.s * 10 ^ (d.e + j).toNat * 10 ^ (-d.e).toNat * 10 ^ (-e).toNat := by rw [e1]; ac_rfl
    _ = W.natAbs * (10 ^ (e + j).toNat * 10 ^ (-e).toNat) * 10 ^ (-d.e).toNat := by rw [h1]; ac_rfl
    _ = W.natAbs * (10 ^ e.toNat * 10 ^ j) * 10 ^ (-d.e).toNat := by rw [e2]
    _ = W.natAbs * 10 ^ e.toNat * 10 ^ (-d.e).toNat * 10 ^ j := by ac_rfl
/-- The decimal of a number. -/
theorem num_quo {d : Dc} {m l : Nat} {e : Int} {s : Bool} (h : Rep d (sg s (m * 2 ^ (e + l).toNat) * 5 ^ l) (-(l : Int))) (he : -(l : Int) ≤ e) (f : Int) : (quoG d oneD).Q f = (numG m e).Q f ∧ (quoG d oneD).H f = (numG m e).H f ∧ (quoG d oneD).Z f = (numG m e).Z f := by
  obtain ⟨r1, r2, r3⟩ := rep_quo h f
  rw [r1, r2, r3]
  refine rat_eq (quoD_pos (by decide) _) (Nat.two_pow_pos _) ?_ f
  rw [Int.natAbs_mul, sg_natAbs, Int.natAbs_pow]
  unfold quoM quoD
  rw [show ((5 : Int).natAbs) = 5 from rfl, show (-(l : Int)).toNat = 0 by omega, show (- -(l : Int)).toNat = l by omega, Nat.pow_zero, Nat.mul_one, Nat.one_mul, show 10 ^ l = 2 ^ l * 5 ^ l by rw [← Nat.mul_pow]]
  have e1 : 2 ^ (e + l).toNat * 2 ^ (-e).toNat = 2 ^ e.toNat * 2 ^ l := by rw [← Nat.pow_add, ← Nat.pow_add]; congr 1; omega
  calc m * 2 ^ (e + l).toNat * 5 ^ l * 2 ^ (-e).toNat = m * (2 ^ (e + l).toNat * 2 ^ (-e).toNat) * 5 ^ l := by ac_rfl
    _ = m * 2 ^ e.toNat * (2 ^ l * 5 ^ l) := by rw [e1]; ac_rfl

end Go.Proofs.YtapahfoebpiajaaGreatDoor

/- Plain: rounding turns no order round; places twice; Down and Up lie about. -/
namespace Go.Proofs.YtapahfoebpiajaaGreatDoor
open Go.RowKit Go.Lib

/-- A decimal's rung; its root's. -/
def rung64 (a : Dc) (m : Int) : Nat := if a.s = [] then 0 else (outG 53 (-1074) 971 a.neg m (quoG a oneD)).rung 53 (-1074) 971
theorem nil_neg {a : Dc} (ha : a.ok) (h : a.s = []) : a.neg = false := by rw [ok_nil ha h]; rfl
theorem to64_bits {a : Dc} {m : Int} (ha : a.ok) (hm : 1 ≤ m ∧ m ≤ 6) : (to64A a m).bits = (if a.neg = true then 2^63 else 0) + rung64 a m ∧ (to64A a m).err = 0 := by
  unfold to64A ratioA rung64
  rw [if_neg (fun h => h ⟨ha, oneD_ok, hm⟩), if_neg oneD_s]
  by_cases h : a.s = []
  · rw [if_pos h, if_pos h, nil_neg ha h]; exact ⟨rfl, rfl⟩
  · rw [if_neg h, if_neg h, show (a.neg != oneD.neg) = a.neg by show (a.neg != false) = a.neg; cases a.neg <;> rfl]
    exact ⟨rfl, rfl⟩
end Go.Proofs.YtapahfoebpiajaaGreatDoor

/- Plain: Down and Up lie about; the opposite by the opposite ways; a number's own decimal. -/
namespace Go.Proofs.YtapahfoebpiajaaGreatDoor
open Go.RowKit Go.Lib

/-- A number's own magnitude is rounded to it. -/
theorem num_out {b m : Nat} {L T e : Int} {neg : Bool} {mode : Int} (hb : 1 ≤ b) (hm : m < 2 ^ b) (h1 : L ≤ e) (h2 : e ≤ T) (h3 : e = L ∨ 2 ^ (b - 1) ≤ m) : outG b L T neg mode (numG m e) = ⟨false, m, e, false, false, false⟩ := by
  obtain ⟨n1, n2⟩ := numG_at m e
  rw [exact_out hb (numG_ok m e) ⟨h1, by rw [n1]; exact hm, by rw [n1]; exact h3⟩ n2 h2, n1]
/-- What is rounded lies on the ladder. -/
theorem out_range {b : Nat} {L T : Int} {neg : Bool} {mode : Int} {g : Mag} (hb : 2 ≤ b) (hLT : L ≤ T) (hg : g.Ok) :
    (outG b L T neg mode g).inf = true ∨ ((outG b L T neg mode g).inf = false ∧ (outG b L T neg mode g).m < 2 ^ b ∧ L ≤ (outG b L T neg mode g).e ∧ (outG b L T neg mode g).e ≤ T ∧ ((outG b L T neg mode g).e = L ∨ 2 ^ (b - 1) ≤ (outG b L T neg mode g).m)) := by
  obtain ⟨h1, h2, h3⟩ := isE_of (b := b) (L := L) (by omega) hg
  have hk := kW_le (neg := neg) (mode := mode) (q := g.Q (eOf b L g)) (h := g.H (eOf b L g)) (z := g.Z (eOf b L g))
  have hB : 2 ^ b = 2 * 2 ^ (b - 1) := by rw [Nat.mul_comm, ← Nat.pow_succ]; congr 1; omega
  have hB0 : 0 < 2 ^ (b - 1) := Nat.two_pow_pos _
  unfold outG outW
  generalize kW neg mode (g.Q (eOf b L g)) (g.H (eOf b L g)) (g.Z (eOf b L g)) = K at *
  generalize g.Q (eOf b L g) = q at *
  generalize eOf b L g = e at *
  rw [hB] at h2 ⊢
  generalize 2 ^ (b - 1) = B at *
  by_cases ho : T < (if K = 2 * B then e + 1 else e)
  · rw [if_pos ho]
    by_cases hm : maxW mode neg = true
    · rw [if_pos hm]
      exact .inr ⟨rfl, by show 2 * B - 1 < 2 * B; omega, hLT, Int.le_refl _, .inr (by show B ≤ 2 * B - 1; omega)⟩
    · rw [if_neg hm]
      exact .inl rfl
  · rw [if_neg ho]
    right
    by_cases hK : K = 2 * B
    · rw [if_pos hK] at ho
      simp only [if_pos hK]
      exact ⟨trivial, by omega, by omega, by omega, .inr (Nat.le_refl _)⟩
    · rw [if_neg hK] at ho
      simp only [if_neg hK]
      refine ⟨trivial, by omega, h1, by omega, ?_⟩
      rcases h3 with h | h
      · exact .inl h
      · right; omega
end Go.Proofs.YtapahfoebpiajaaGreatDoor
