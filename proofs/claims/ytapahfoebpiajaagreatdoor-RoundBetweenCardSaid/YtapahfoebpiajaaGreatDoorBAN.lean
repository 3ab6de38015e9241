/- Parts An, Ao, Aq of the proof, in one text. -/
import Derived.Test.YtapahfoebpiajaaGreatDoorBAA
import Derived.Test.YtapahfoebpiajaaGreatDoorBQT

/- Plain: what decimals are rounded to: quotients, roots, to numbers and to singles, to places. -/
namespace Go.Proofs.YtapahfoebpiajaaGreatDoor
open Go.RowKit Go.Lib

/-- What is told: bits, flags, errno. -/
structure RA where
  bits : Nat
  ine : Bool
  ov : Bool
  un : Bool
  err : Int
def RA.no (e : Int) : RA := ⟨0, false, false, false, e⟩
def bits64 (neg : Bool) (o : Out) : Nat := (if neg = true then 2^63 else 0) + o.rung 53 (-1074) 971
def bits32 (neg : Bool) (o : Out) : Nat := (if neg = true then 2^31 else 0) + o.rung 24 (-149) 104
def oneD : Dc := ⟨false, [49], 0⟩
def qM (a b : Dc) : Nat := quoM (dval a.s) (a.e - b.e)
def qD (a b : Dc) : Nat := quoD (dval b.s) (a.e - b.e)
/-- The magnitude of a quotient; of a root. -/
def quoG (a b : Dc) : Mag := ratMag (qM a b) (qD a b) 0
def ratioA (a b : Dc) (m : Int) : RA :=
  if ¬ (a.ok ∧ b.ok ∧ 1 ≤ m ∧ m ≤ 6) then RA.no 1 else if b.s = [] then RA.no 13 else if a.s = [] then RA.no 0
  else ⟨bits64 (a.neg != b.neg) (outG 53 (-1074) 971 (a.neg != b.neg) m (quoG a b)), (outG 53 (-1074) 971 (a.neg != b.neg) m (quoG a b)).ine, (outG 53 (-1074) 971 (a.neg != b.neg) m (quoG a b)).ov, (outG 53 (-1074) 971 (a.neg != b.neg) m (quoG a b)).un, 0⟩
def to64A (a : Dc) (m : Int) : RA := ratioA a oneD m
def to32A (a : Dc) (m : Int) : RA :=
  if ¬ (a.ok ∧ 1 ≤ m ∧ m ≤ 6) then RA.no 1 else if a.s = [] then RA.no 0
  else ⟨bits32 a.neg (outG 24 (-149) 104 a.neg m (quoG a oneD)), (outG 24 (-149) 104 a.neg m (quoG a oneD)).ine, (outG 24 (-149) 104 a.neg m (quoG a oneD)).ov, (outG 24 (-149) 104 a.neg m (quoG a oneD)).un, 0⟩
theorem oneD_ok : oneD.ok := (okB_iff _).1 (by decide)
theorem oneD_s : oneD.s ≠ [] := by decide
theorem ok_low {d : Dc} (h : d.ok) (h0 : d.s ≠ []) : 10 ^ (d.s.length - 1) ≤ dval d.s := by
  have h1 := ok_bare h
  rcases Nat.lt_or_ge (dval d.s) (10 ^ (d.s.length - 1)) with g | g
  · have := bare_len_le _ _ g
    rw [← h1] at this
    have : 0 < d.s.length := List.length_pos_iff.2 h0
    omega
  · exact g
theorem qD_pos {a b : Dc} (hb : b.ok) (h0 : b.s ≠ []) : 0 < qD a b := quoD_pos (ok_pos hb h0) _
theorem qM_pos {a b : Dc} (ha : a.ok) (h0 : a.s ≠ []) : 0 < qM a b := quoM_pos (ok_pos ha h0) _
theorem quoG_ok {a b : Dc} (hb : b.ok) (h0 : b.s ≠ []) : (quoG a b).Ok := ratMag_ok (qD_pos hb h0)
/-- About how many figures stand ahead of a quotient's point. -/
def farV (a b : Dc) : Int := (a.s.length : Int) - b.s.length + (a.e - b.e)
theorem quo_up {a b : Dc} (ha : a.ok) (hb : b.ok) (h0 : a.s ≠ []) {k : Nat} (h : (k : Int) < farV a b) : qD a b * 2 ^ (3 * k) ≤ qM a b := by
  have h1 : 0 < a.s.length := List.length_pos_iff.2 h0
  unfold farV at h
  exact Nat.le_trans (Nat.mul_le_mul_left _ (two_ten k)) (quo_big (ok_low ha h0) (Nat.le_of_lt (ok_val hb)) (by omega))
theorem quo_down {a b : Dc} (ha : a.ok) (hb : b.ok) (h0 : b.s ≠ []) {k : Nat} (h : (k : Int) < -farV a b) : qM a b * 2 ^ (3 * k) < qD a b := by
  have h1 : 0 < b.s.length := List.length_pos_iff.2 h0
  unfold farV at h
  exact Nat.lt_of_le_of_lt (Nat.mul_le_mul_left _ (two_ten k)) (quo_small (ok_val ha) (ok_low hb h0) (by omega))
theorem far_up {b T l M D k : Nat} (hTb : T + b ≤ k) (hD : 0 < D) (h : D * 2 ^ k ≤ M) : Far b (-(l : Int)) T (ratMag M D 0) true :=
  rat_huge hD (Nat.le_trans (Nat.mul_le_mul_left _ (Nat.pow_le_pow_right (by decide) hTb)) h)
theorem far_down {b l M D k : Nat} {T : Int} (hl : l < k) (hM : 0 < M) (h : M * 2 ^ k < D) : Far b (-(l : Int)) T (ratMag M D 0) false :=
  rat_tiny hM (Nat.lt_of_le_of_lt (Nat.mul_le_mul_left _ (Nat.pow_le_pow_right (by decide) (by omega))) h)
theorem quo_far_up {a b : Dc} {c T l : Nat} (hTb : T + c ≤ 1024) (ha : a.ok) (hb : b.ok) (h0 : a.s ≠ []) (h1 : b.s ≠ []) (h : 399 < farV a b) : Far c (-(l : Int)) T (quoG a b) true :=
  far_up (k := 3 * 399) (by omega) (qD_pos hb h1) (quo_up ha hb h0 (k := 399) h)
theorem quo_far_down {a b : Dc} {c l : Nat} {T : Int} (hl : l ≤ 1074) (ha : a.ok) (hb : b.ok) (h0 : a.s ≠ []) (h1 : b.s ≠ []) (h : farV a b < -400) : Far c (-(l : Int)) T (quoG a b) false :=
  far_down (k := 3 * 400) (by omega) (qM_pos ha h0) (quo_down ha hb h1 (k := 400) (by omega))
end Go.Proofs.YtapahfoebpiajaaGreatDoor

/- Plain: numbers' own magnitudes; Odd between; the order of what is rounded. -/
namespace Go.Proofs.YtapahfoebpiajaaGreatDoor
open Go.RowKit Go.Lib

/-- A number's own magnitude, m 2^e. -/
def numG (m : Nat) (e : Int) : Mag := ratMag (m * 2 ^ e.toNat) (2 ^ (-e).toNat) 0
theorem numG_ok (m : Nat) (e : Int) : (numG m e).Ok := ratMag_ok (Nat.two_pow_pos _)
theorem numG_at (m : Nat) (e : Int) : (numG m e).Q e = m ∧ (numG m e).Z e = true := by
  have e1 : toN (m * 2 ^ e.toNat) 0 e = m * toD (2 ^ (-e).toNat) 0 e := by
    unfold toN toD
    rw [Nat.mul_assoc, ← Nat.pow_add, ← Nat.pow_add, show e.toNat + (0 - e).toNat = (-e).toNat + (e - 0).toNat by omega]
  have hp : 0 < toD (2 ^ (-e).toNat) 0 e := Nat.mul_pos (Nat.two_pow_pos _) (Nat.two_pow_pos _)
  refine ⟨?_, ?_⟩
  · show toN _ _ _ / toD _ _ _ = m
    rw [e1, Nat.mul_div_cancel _ hp]
  · show decide (toN _ _ _ % toD _ _ _ = 0) = true
    rw [e1, Nat.mul_mod_left]; rfl
/-- What is a number already. -/
theorem exact_out {b : Nat} {L T e : Int} {neg : Bool} {mode : Int} {g : Mag} (hb : 1 ≤ b) (hg : g.Ok) (h : IsE b L g e) (hz : g.Z e = true) (he : e ≤ T) : outG b L T neg mode g = ⟨false, g.Q e, e, false, false, false⟩ := by
  rw [outG_eq hb hg h]
  have hk : kW neg mode (g.Q e) (g.H e) (g.Z e) = g.Q e := by unfold kW; rw [hz]; rfl
  have h2 := h.2.1
  unfold outW
  rw [hk, if_neg (show ¬ g.Q e = 2 ^ b by omega), if_neg (show ¬ g.Q e = 2 ^ b by omega), if_neg (show ¬ T < e by omega), hz]
  rfl
end Go.Proofs.YtapahfoebpiajaaGreatDoor

/- Plain: Down and Up lie about; the opposite by the opposite ways; a number's own decimal. -/
namespace Go.Proofs.YtapahfoebpiajaaGreatDoor
open Go.RowKit Go.Lib

theorem inf_pos (b : Nat) {L T : Int} (h : L ≤ T) : 0 < infR b L T := Nat.mul_pos (by omega) (Nat.two_pow_pos _)
/-- What all ways tell of one magnitude. -/
theorem out_between {b : Nat} {L T : Int} {neg : Bool} {g : Mag} (hb : 2 ≤ b) (hLT : L ≤ T) (hg : g.Ok) :
    ∃ ine : Bool, (∀ m, (outG b L T neg m g).ine = ine) ∧
    (ine = false → ∀ m, outG b L T neg m g = outG b L T neg 1 g) ∧
    (ine = true → ∃ F, F < infR b L T ∧ (∀ m, (outG b L T neg m g).rung b L T = F ∨ (outG b L T neg m g).rung b L T = F + 1) ∧
      (outG b L T neg (if neg = true then 3 else 4) g).rung b L T = F ∧ (outG b L T neg (if neg = true then 4 else 3) g).rung b L T = F + 1) := by
  have hE := isE_of (b := b) (L := L) (by omega) hg
  have hO := fun m => (out_rung (neg := neg) (mode := m) (T := T) hb hLT hE).2
  have hR := fun m => rnR_fl (b := b) (L := L) (neg := neg) (mode := m) (g := g) (e := eOf b L g)
  have hip := inf_pos b hLT
  unfold outG
  obtain ⟨e, he⟩ : ∃ e, e = eOf b L g := ⟨_, rfl⟩
  rw [← he] at hE hO hR ⊢
  obtain ⟨F, hF⟩ : ∃ F, F = flR b L g e := ⟨_, rfl⟩
  obtain ⟨I, hI⟩ : ∃ I, I = infR b L T := ⟨_, rfl⟩
  rw [← hF] at hR
  rw [← hI] at hO hip ⊢
  obtain ⟨z, hz⟩ : ∃ z, z = g.Z e := ⟨_, rfl⟩
  rw [← hz] at hO hR ⊢
  have hlt := hE.2.1
  cases z with
  | true =>
    have hk : ∀ m, kW neg m (g.Q e) (g.H e) true = g.Q e := fun m => by unfold kW; simp
    by_cases ho : T < e
    · refine ⟨true, fun m => ?_, (fun h => by cases h), fun _ => ?_⟩
      · unfold outW
        rw [hk, if_neg (show ¬ g.Q e = 2 ^ b by omega), if_pos ho]
        cases maxW m neg <;> rfl
      · have hov : ∀ m, I ≤ rnR b L neg m g e := fun m => by
          have := (out_rung (neg := neg) (mode := m) (T := T) hb hLT hE).1
          rw [← hI] at this
          have h2 : (outW b T neg m (g.Q e) (g.H e) (g.Z e) e).ov = true := by
            rw [← hz]
            unfold outW
            rw [hk, if_neg (show ¬ g.Q e = 2 ^ b by omega), if_pos ho]
            cases maxW m neg <;> rfl
          rw [h2] at this
          exact of_decide_eq_true this.symm
        refine ⟨I - 1, by omega, fun m => ?_, ?_, ?_⟩
        · rw [hO, if_pos (hov m)]; split <;> omega
        · rw [hO, if_pos (hov _)]; cases neg <;> exact if_pos rfl
        · rw [hO, if_pos (hov _), show I - 1 + 1 = I by omega]; cases neg <;> exact if_neg (by decide)
    · refine ⟨false, fun m => ?_, fun _ m => ?_, (fun h => by cases h)⟩
      · unfold outW
        rw [hk, if_neg (show ¬ g.Q e = 2 ^ b by omega), if_neg ho]
        rfl
      · unfold outW
        rw [hk, hk, if_neg (show ¬ g.Q e = 2 ^ b by omega), if_neg ho, if_neg ho]
  | false =>
    have hR' : ∀ m, rnR b L neg m g e = F ∨ rnR b L neg m g e = F + 1 := fun m => by rw [hR]; split; exact .inr rfl; exact .inl rfl
    have h3 : rnR b L neg (if neg = true then 3 else 4) g e = F := by rw [hR]; cases neg <;> exact if_neg (by simp [upW])
    have h4 : rnR b L neg (if neg = true then 4 else 3) g e = F + 1 := by rw [hR]; cases neg <;> exact if_pos (by simp [upW])
    have m3 : maxW (if neg = true then 3 else 4) neg = true := by cases neg <;> rfl
    have m4 : maxW (if neg = true then 4 else 3) neg = false := by cases neg <;> rfl
    refine ⟨true, fun m => ?_, (fun h => by cases h), fun _ => ?_⟩
    · unfold outW
      by_cases hc : T < (if kW neg m (g.Q e) (g.H e) false = 2 ^ b then e + 1 else e)
      · rw [if_pos hc]; cases maxW m neg <;> rfl
      · rw [if_neg hc]; rfl
    · by_cases hov : I ≤ F
      · refine ⟨I - 1, by omega, fun m => ?_, ?_, ?_⟩
        · have := hR' m
          rw [hO, if_pos (by omega)]; split <;> omega
        · rw [hO, h3, if_pos hov, if_pos m3]
        · rw [hO, h4, if_pos (by omega), if_neg (by rw [m4]; decide)]; omega
      · refine ⟨F, by omega, fun m => ?_, ?_, ?_⟩
        · have := hR' m
          rw [hO]
          split
          · split <;> omega
          · exact this
        · rw [hO, h3, if_neg hov]
        · rw [hO, h4, m4]
          split
          · rw [if_neg (by decide)]; omega
          · rfl
/-- The opposite way. -/
def oppM (m : Int) : Int := if m = 3 then 4 else if m = 4 then 3 else m
theorem up_opp (m : Int) (neg odd : Bool) (h : Int) : upW (oppM m) (!neg) odd h = upW m neg odd h := by
  unfold oppM
  by_cases h3 : m = 3
  · rw [if_pos h3, h3]; cases neg <;> rfl
  · rw [if_neg h3]
    by_cases h4 : m = 4
    · rw [if_pos h4, h4]; cases neg <;> rfl
    · rw [if_neg h4]; unfold upW; simp only [if_neg h3, if_neg h4]
theorem max_opp (m : Int) (neg : Bool) : maxW (oppM m) (!neg) = maxW m neg := by
  unfold oppM
  by_cases h3 : m = 3
  · rw [if_pos h3, h3]; cases neg <;> rfl
  · rw [if_neg h3]
    by_cases h4 : m = 4
    · rw [if_pos h4, h4]; cases neg <;> rfl
    · rw [if_neg h4]; unfold maxW; simp [h3, h4]
theorem out_opp (b : Nat) (L T : Int) (neg : Bool) (m : Int) (g : Mag) : outG b L T (!neg) (oppM m) g = outG b L T neg m g := by
  unfold outG outW kW
  simp only [up_opp, max_opp]
/-- A number's own magnitude is rounded to it. -/
theorem num_out {b m : Nat} {L T e : Int} {neg : Bool} {mode : Int} (hb : 1 ≤ b) (hm : m < 2 ^ b) (h1 : L ≤ e) (h2 : e ≤ T) (h3 : e = L ∨ 2 ^ (b - 1) ≤ m) : outG b L T neg mode (numG m e) = ⟨false, m, e, false, false, false⟩ := by
  obtain ⟨n1, n2⟩ := numG_at m e
  rw [exact_out hb (numG_ok m e) ⟨h1, by rw [n1]; exact hm, by rw [n1]; exact h3⟩ n2 h2, n1]
/-- What is rounded lies on the ladder. -/
theorem out_range {b : Nat} {L T : Int} {neg : Bool} {mode : Int} {g : Mag} (hb : 2 ≤ b) (hLT : L ≤ T) (hg : g.Ok) :
    (outG b L T neg mode g).inf = true ∨ ((outG b L T neg mode g).inf = false ∧ (outG b L T neg mode g).m < 2 ^ b ∧ L ≤ (outG b L T neg mode g).e ∧ (outG b L T neg mode g).e ≤ T ∧ ((outG b L T neg mode g).e = L ∨ 2 ^ (b - 1) ≤ (outG b L T neg mode g).m)) := by
  obtain ⟨h1, h2, h3⟩ := isE_of (b := b) (L := L) (by omega) hg
  have hk := kW_le (neg := neg) (mode := mode) (q := g.Q (eOf b L g)) (h := g.H (eOf b L g)) (z := g.Z (eOf b L g))
  have hB : 2 ^ b = 2 * 2 ^ (b - 1) := by rw [Nat.mul_comm, ← Nat.pow_succ]; congr 1; omega
  have hB0 : 0 < 2 ^ (b - 1) := Nat.two_pow_pos _
  unfold outG outW
  generalize kW neg mode (g.Q (eOf b L g)) (g.H (eOf b L g)) (g.Z (eOf b L g)) = K at *
  generalize g.Q (eOf b L g) = q at *
  generalize eOf b L g = e at *
  rw [hB] at h2 ⊢
  generalize 2 ^ (b - 1) = B at *
  by_cases ho : T < (if K = 2 * B then e + 1 else e)
  · rw [if_pos ho]
    by_cases hm : maxW mode neg = true
    · rw [if_pos hm]
      exact .inr ⟨rfl, by show 2 * B - 1 < 2 * B; omega, hLT, Int.le_refl _, .inr (by show B ≤ 2 * B - 1; omega)⟩
    · rw [if_neg hm]
      exact .inl rfl
  · rw [if_neg ho]
    right
    by_cases hK : K = 2 * B
    · rw [if_pos hK] at ho
      simp only [if_pos hK]
      exact ⟨trivial, by omega, by omega, by omega, .inr (Nat.le_refl _)⟩
    · rw [if_neg hK] at ho
      simp only [if_neg hK]
      refine ⟨trivial, by omega, h1, by omega, ?_⟩
      rcases h3 with h | h
      · exact .inl h
      · right; omega
end Go.Proofs.YtapahfoebpiajaaGreatDoor
