/- Parts Bw of the proof, in one text. -/
import Derived.Test.YtapahfoebpiajaaGreatDoorKBU

/- Plain: a number's decimal rounded to singles. -/
namespace Go.Proofs.YtapahfoebpiajaaGreatDoor
open Go Go.RowKit Go.Lib

theorem widen_conv (s : Bool) (R : Nat) (hR : R < 2139095040) : ∃ c, Go.floatToFloatBits .f32 (Ieee.single.word s R) .f64 = some c ∧ W64 c ∧ finB c = true ∧ sgnB c = s ∧ rv 52 (absB c) = rv 23 R * 2^LD := by
  obtain ⟨c, w1, w2, w3, w4, w5⟩ := widen s R hR
  have hsw : R < Ieee.single.signWeight := by rw [S_sw]; omega
  have hfin : fin Ieee.single (Ieee.single.word s R) := by unfold fin; rw [rg_word _ _ hsw, S_inf]; exact hR
  obtain ⟨m', k', h1', h2', _⟩ := read_num Ieee.single _ hfin
  obtain ⟨m'', k'', h1'', h2'', _⟩ := read_num Ieee.double c ((fin_D c).2 w3)
  rw [h1'] at w1
  refine ⟨c, ?_, w2, w3, w4, w5⟩
  unfold Go.floatToFloatBits
  rw [if_neg (by decide)]
  show (match Ieee.single.read (Ieee.single.word s R) with | .nan _ _ => none | .infinity s => some (Ieee.double.write (.infinity s)) | .number s m e => if (Ieee.double.read (Ieee.double.write (.number s m e))).isInfinity then none else some (Ieee.double.write (.number s m e))) = some c
  rw [h1']; dsimp only; rw [w1, h1'']; rfl
theorem num_same {m K : Nat} {e f : Int} (he : -1074 ≤ e) (hf : -1074 ≤ f) (h : m * 2 ^ (e + 1074).toNat = K * 2 ^ (f + 1074).toNat) (x : Int) : (numG m e).Q x = (numG K f).Q x ∧ (numG m e).H x = (numG K f).H x ∧ (numG m e).Z x = (numG K f).Z x := by
  refine rat_eq (Nat.two_pow_pos _) (Nat.two_pow_pos _) ?_ x
  obtain ⟨j, hj⟩ : ∃ j, j = 1074 := ⟨_, rfl⟩
  rw [show e + 1074 = e + (j : Nat) by omega, show f + 1074 = f + (j : Nat) by omega] at h
  refine Nat.eq_of_mul_eq_mul_right (Nat.two_pow_pos j) ?_
  have e1 : 2 ^ e.toNat * 2 ^ j = 2 ^ (e + (j : Nat)).toNat * 2 ^ (-e).toNat := by rw [← Nat.pow_add, ← Nat.pow_add]; congr 1; omega
  have e2 : 2 ^ f.toNat * 2 ^ j = 2 ^ (f + (j : Nat)).toNat * 2 ^ (-f).toNat := by rw [← Nat.pow_add, ← Nat.pow_add]; congr 1; omega
  calc m * 2 ^ e.toNat * 2 ^ (-f).toNat * 2 ^ j = m * (2 ^ e.toNat * 2 ^ j) * 2 ^ (-f).toNat := by ac_rfl
    _ = m * 2 ^ (e + (j : Nat)).toNat * 2 ^ (-e).toNat * 2 ^ (-f).toNat := by rw [e1]; ac_rfl
    _ = K * 2 ^ (f + (j : Nat)).toNat * 2 ^ (-e).toNat * 2 ^ (-f).toNat := by rw [h]
    _ = K * (2 ^ (f + (j : Nat)).toNat * 2 ^ (-f).toNat) * 2 ^ (-e).toNat := by ac_rfl
    _ = K * (2 ^ f.toNat * 2 ^ j) * 2 ^ (-e).toNat := by rw [e2]
    _ = K * 2 ^ f.toNat * 2 ^ (-e).toNat * 2 ^ j := by ac_rfl
theorem fin_form32 {r : Nat} (h : r < 2139095040) : ∃ (K : Nat) (f : Int), K < 2 ^ 24 ∧ -149 ≤ f ∧ f ≤ 104 ∧ (f = -149 ∨ 2 ^ 23 ≤ K) ∧ r = (f + 149).toNat * 8388608 + K ∧ rv 23 r = K * 2 ^ (f + 149).toNat := by
  by_cases h1 : r < 8388608
  · refine ⟨r, -149, by omega, by omega, by omega, .inl rfl, by rw [show ((-149 : Int) + 149).toNat = 0 by decide]; omega, ?_⟩
    rw [show ((-149 : Int) + 149).toNat = 0 by decide, rv_small h1]; simp
  · obtain ⟨q, hq⟩ : ∃ q, q = r / 8388608 := ⟨_, rfl⟩
    obtain ⟨K, hK⟩ : ∃ K, K = 8388608 + r % 8388608 := ⟨_, rfl⟩
    have hr : r = (q - 1) * 8388608 + K := by omega
    refine ⟨K, (q : Int) - 150, by omega, by omega, by omega, .inr (by omega), ?_, ?_⟩
    · rw [show ((q : Int) - 150 + 149).toNat = q - 1 by omega]; exact hr
    · rw [show ((q : Int) - 150 + 149).toNat = q - 1 by omega, hr]
      exact rv_qK 23 (q - 1) K (by omega) (fun _ => by omega)
theorem scale32 {K : Nat} {f : Int} (h : -149 ≤ f) : K * 2 ^ (f + 149).toNat * 2 ^ LD = K * 2 ^ (f + 1074).toNat := by
  have hd := LD_eq
  rw [Nat.mul_assoc, ← Nat.pow_add]
  congr 2; omega
theorem outW_ine {b : Nat} {T e hh : Int} {neg z : Bool} {mode : Int} {q : Nat} (h : (outW b T neg mode q hh z e).ine = false) : z = true ∧ ¬ T < (if kW neg mode q hh z = 2 ^ b then e + 1 else e) := by
  unfold outW at h
  by_cases ho : T < (if kW neg mode q hh z = 2 ^ b then e + 1 else e)
  · rw [if_pos ho] at h
    by_cases hx : maxW mode neg = true
    · rw [if_pos hx] at h; cases h
    · rw [if_neg hx] at h; cases h
  · rw [if_neg ho] at h
    refine ⟨?_, ho⟩
    cases z
    · cases h
    · rfl
theorem bits32_fin2 (neg : Bool) {K : Nat} {f : Int} {i o u : Bool} : bits32 neg ⟨false, K, f, i, o, u⟩ = (if neg = true then 2147483648 else 0) + ((f + 149).toNat * 8388608 + K) := by
  have hr : Out.rung 24 (-149) 104 ⟨false, K, f, i, o, u⟩ = (f + 149).toNat * 8388608 + K := by
    unfold Out.rung
    rw [if_neg (by decide : ¬ (false = true)), show f - -149 = f + 149 by omega]
  unfold bits32
  rw [hr]
theorem word32 (neg : Bool) (r : Nat) : Ieee.single.word neg r = (if neg = true then 2147483648 else 0) + r := by
  show (if neg = true then Ieee.single.signWeight + r else r) = _
  rw [S_sw]
  cases neg
  · rw [if_neg (by decide), if_neg (by decide), Nat.zero_add]
  · rw [if_pos rfl, if_pos rfl]
/-- What is told without rounding is a single. -/
theorem ine_single {m : Nat} {e : Int} {neg : Bool} {mode : Int} (he : -1074 ≤ e) (h : (outG 24 (-149) 104 neg mode (numG m e)).ine = false) : RepS (m * 2 ^ (e + 1074).toNat) := by
  have hE := isE_of (b := 24) (L := -149) (by decide) (numG_ok m e)
  unfold outG at h
  obtain ⟨f, hf⟩ : ∃ f, f = eOf 24 (-149) (numG m e) := ⟨_, rfl⟩
  rw [← hf] at h hE
  obtain ⟨K, hK⟩ : ∃ K, K = (numG m e).Q f := ⟨_, rfl⟩
  obtain ⟨z, hz⟩ : ∃ z, z = (numG m e).Z f := ⟨_, rfl⟩
  rw [← hK, ← hz] at h
  obtain ⟨h1, h2, h3⟩ := hE
  rw [← hK] at h2
  obtain ⟨hzt, hov⟩ := outW_ine h
  subst hzt
  have hk : kW neg mode K ((numG m e).H f) true = K := by unfold kW; simp
  rw [hk, if_neg (show ¬ K = 2 ^ 24 by omega)] at hov
  have hf4 : f ≤ 104 := by omega
  -- the value is K 2^f
  have hv : m * 2 ^ (e + 1074).toNat = K * 2 ^ (f + 1074).toNat := by
    have hq : toN (m * 2 ^ e.toNat) 0 f / toD (2 ^ (-e).toNat) 0 f = K := hK.symm
    have hr : decide (toN (m * 2 ^ e.toNat) 0 f % toD (2 ^ (-e).toNat) 0 f = 0) = true := hz.symm
    have h9 := Nat.div_add_mod (toN (m * 2 ^ e.toNat) 0 f) (toD (2 ^ (-e).toNat) 0 f)
    rw [hq, of_decide_eq_true hr, Nat.add_zero] at h9
    unfold toN toD at h9
    obtain ⟨j, hj⟩ : ∃ j, j = 1074 := ⟨_, rfl⟩
    rw [show e + 1074 = e + (j : Nat) by omega, show f + 1074 = f + (j : Nat) by omega]
    rw [show (0 - f).toNat = (-f).toNat by omega, show (f - 0).toNat = f.toNat by omega] at h9
    refine Nat.eq_of_mul_eq_mul_right (Nat.two_pow_pos ((-e).toNat + (-f).toNat)) ?_
    have e1 : 2 ^ (e + (j : Nat)).toNat * 2 ^ (-e).toNat = 2 ^ e.toNat * 2 ^ j := by rw [← Nat.pow_add, ← Nat.pow_add]; congr 1; omega
    have e2 : 2 ^ (f + (j : Nat)).toNat * 2 ^ (-f).toNat = 2 ^ f.toNat * 2 ^ j := by rw [← Nat.pow_add, ← Nat.pow_add]; congr 1; omega
    calc m * 2 ^ (e + (j : Nat)).toNat * 2 ^ ((-e).toNat + (-f).toNat) = m * (2 ^ (e + (j : Nat)).toNat * 2 ^ (-e).toNat) * 2 ^ (-f).toNat := by rw [Nat.pow_add]; ac_rfl
      _ = m * 2 ^ e.toNat * 2 ^ (-f).toNat * 2 ^ j := by rw [e1]; ac_rfl
      _ = 2 ^ (-e).toNat * 2 ^ f.toNat * K * 2 ^ j := by rw [h9]
      _ = K * (2 ^ f.toNat * 2 ^ j) * 2 ^ (-e).toNat := by ac_rfl
      _ = K * (2 ^ (f + (j : Nat)).toNat * 2 ^ (-f).toNat) * 2 ^ (-e).toNat := by rw [e2]
      _ = K * 2 ^ (f + (j : Nat)).toNat * 2 ^ ((-e).toNat + (-f).toNat) := by rw [Nat.pow_add]; ac_rfl
  obtain ⟨r, hr⟩ := rep 23 (f + 149).toNat K h2
  refine ⟨r, ?_, ?_⟩
  · refine (rv_lt_iff (p := 23)).1 ?_
    rw [hr, rv_inf23]
    have hi := LI_eq
    refine Nat.lt_of_lt_of_le (Nat.mul_lt_mul_of_pos_right h2 (Nat.two_pow_pos _)) ?_
    rw [← Nat.pow_add]
    exact Nat.pow_le_pow_right (by decide) (by omega)
  · rw [hr, scale32 h1, hv]
theorem back32 (neg : Bool) {m : Nat} {e : Int} (h : Canon m e) (h0 : m ≠ 0) {mode : Int} (hm : 1 ≤ mode ∧ mode ≤ 6) : (to32A (ofD (sgW neg + rungN m e)) mode).err = 0 ∧
    (singB (sgW neg + rungN m e) = true → ∃ B, to32A (ofD (sgW neg + rungN m e)) mode = ⟨B, false, false, false, 0⟩ ∧ Go.floatToFloatBits .f32 B .f64 = some (sgW neg + rungN m e)) ∧
    (singB (sgW neg + rungN m e) = false → (to32A (ofD (sgW neg + rungN m e)) mode).ine = true) := by
  obtain ⟨k1, k2, k3⟩ := of_some neg h h0
  obtain ⟨c1, c2, c3, c4⟩ := canon_bits neg h
  obtain ⟨O, hO⟩ : ∃ O, O = outG 24 (-149) 104 neg mode (numG m e) := ⟨_, rfl⟩
  have hr : to32A (ofD (sgW neg + rungN m e)) mode = ⟨bits32 neg O, O.ine, O.ov, O.un, 0⟩ := by
    rw [hO]
    unfold to32A
    rw [if_neg (fun h => h ⟨k1, hm⟩), if_neg k2, k3, out_same (of_mag neg h)]
  have hs := singB_rep _ c4
  rw [c2, h.rv] at hs
  refine ⟨by rw [hr], fun hsb => ?_, fun hsb => ?_⟩
  · obtain ⟨r, hr1, hr2⟩ := hs.1 hsb
    obtain ⟨K, f, f1, f2, f3, f4, f5, f6⟩ := fin_form32 hr1
    have hv : m * 2 ^ (e + 1074).toNat = K * 2 ^ (f + 1074).toNat := by rw [← hr2, f6, scale32 f2]
    have ho : O = ⟨false, K, f, false, false, false⟩ := by
      rw [hO, out_same (num_same h.2.1 (by omega) hv)]
      exact num_out (by decide) f1 f2 f3 f4
    rw [hr, ho]
    refine ⟨_, rfl, ?_⟩
    have hb : bits32 neg ⟨false, K, f, false, false, false⟩ = Ieee.single.word neg r := by rw [bits32_fin2, word32, ← f5]
    rw [hb]
    obtain ⟨c, w1, w2, w3, w4, w5⟩ := widen_conv neg r hr1
    rw [w1]
    congr 1
    rw [bits_join w2, w4]
    congr 1
    refine Nat.le_antisymm ((rv_le_iff (p := 52)).1 ?_) ((rv_le_iff (p := 52)).1 ?_)
    · rw [w5, hr2, h.rv]; exact Nat.le_refl _
    · rw [w5, hr2, h.rv]; exact Nat.le_refl _
  · have hi : O.ine = true := by
      rw [← Bool.not_eq_false]
      intro hi
      rw [hO] at hi
      have := hs.2 (ine_single h.2.1 hi)
      rw [hsb] at this
      cases this
    rw [hr]
    exact hi
end Go.Proofs.YtapahfoebpiajaaGreatDoor
