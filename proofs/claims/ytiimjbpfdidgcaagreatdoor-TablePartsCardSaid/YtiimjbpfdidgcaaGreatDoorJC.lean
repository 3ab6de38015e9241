/- Parts Zr, Rs, Rt of the proof, in one text. -/
import Derived.Test.YtiimjbpfdidgcaaGreatDoorHR
import Derived.Test.YtiimjbpfdidgcaaGreatDoorJB
import Derived.Test.YtiimjbpfdidgcaaGreatDoorHZ
import Derived.Test.YtiimjbpfdidgcaaGreatDoorIH

/- Walks: the reference's Rem. -/
namespace Go.Proofs.YtiimjbpfdidgcaaGreatDoor
open Go.RowKit

set_option maxRecDepth 100000 in
theorem nrem_any (s t : Value) (M N : Nat) (w : World) (h : Num .u32 4294967296 w s M) (h' : Num .u32 4294967296 w t N) {bb : Nat} (hM : M < 2 ^ bb) (hN : N < 2 ^ bb) (hbb : bb ≤ 4294967290) (hN0 : 0 < N) :
    Calls Tryz.prog 32 #[s, t] w (NatQ (M % N) w) := by
  have HM : Hid (M < 2 ^ bb) := hM
  have HN : Hid (N < 2 ^ bb) := hN
  have HN0 : Hid (0 < N) := hN0
  have hlM : blen M ≤ bb := blen_le hM
  have hlN : blen N ≤ bb := blen_le hN
  have hlN1 : 1 ≤ blen N := (blen_pos (by omega)).2.2
  obtain ⟨lM, eM⟩ : ∃ l, l = blen M := ⟨_, rfl⟩
  obtain ⟨lN, eN⟩ : ∃ l, l = blen N := ⟨_, rfl⟩
  rw [← eM] at hlM
  rw [← eN] at hlN hlN1
  have HEM : Hid (lM = blen M) := eM
  have HEN : Hid (lN = blen N) := eN
  obtain ⟨n0, hn0⟩ : ∃ n0 : Nat, max 0 ((lM : Int) - lN) = (n0 : Int) := ⟨(max 0 ((lM : Int) - lN)).toNat, by omega⟩
  have HN1 : Hid (lM ≤ lN + n0 ∧ n0 + lN ≤ bb ∧ n0 ≤ bb) := by show _ ∧ _; omega
  clear hM hN hN0 eM eN
  go_enter Tryz.func32, Tryz.ntmps32
  go_wp2_with fail
  refine (nlen_any _ M _ h HM.out (by omega)).mono ?_
  rw [← HEM.out]
  rintro e w1 ⟨rfl, hb1⟩
  have h1 := h.below (Nat.le_refl _) hb1
  have h1' := h'.below (Nat.le_refl _) hb1
  go_wp2_with fail
  refine (nlen_any _ N _ h1' HN.out (by omega)).mono ?_
  rw [← HEN.out]
  rintro e w2 ⟨rfl, hb2⟩
  have h2 := h1.below (Nat.le_refl _) hb2
  have h2' := h1'.below (Nat.le_refl _) hb2
  go_wp2_with fail
  refine (nleft_any _ N (n0 / 32) (n0 % 32) _ _ h2' (by omega) (Nat.mod_lt _ (by decide)) (by have := HN1.out; omega) HN.out (by omega)).mono ?_
  rw [Nat.div_add_mod]
  rintro e w3 ⟨v, rfl, hd, hb3⟩
  have h3 := h2.below (Nat.le_refl _) hb3
  have hb : Below w.heap.size w w3 := hb1.trans ((hb2.mono hb1.size).trans (hb3.mono (Nat.le_trans hb1.size hb2.size)))
  have H3 : Hid (Num .u32 4294967296 w3 s M) := h3
  have HD : Hid (Num .u32 4294967296 w3 v (N * 2 ^ n0)) := hd
  clear h1 h1' h2 h2' h3 hd hb1 hb2 hb3 h h'
  go_wp2
  go_loopw [0, 5, 6] (fun a n d wr => ∃ k : Nat, k ≤ n0 + 1 ∧ n = .int .i64 ((k : Int) - 1) ∧ Hid (Num .u32 4294967296 wr a (M % (N * 2 ^ k))) ∧ (0 < k → Hid (Num .u32 4294967296 wr d (N * 2 ^ (k - 1)))) ∧ Below w.heap.size w wr)
    (fun _ n _ _ => (intOf n + 1).toNat)
  case atStart =>
    have hlt := shift_enough (M := M) (k := n0 + 1) HN0.out (by have := HN1.out; rw [← HEM.out, ← HEN.out]; omega)
    refine ⟨n0 + 1, Nat.le_refl _, by go_num, ?_, fun _ => HD, hb⟩
    rw [Nat.mod_eq_of_lt hlt]; exact H3
  case round =>
    obtain ⟨k, hk, rfl, hA, hD, hbk⟩ := hrel
    clear H3 HD hb
    by_cases hk0 : k = 0
    · subst hk0
      rw [Nat.pow_zero, Nat.mul_one] at hA
      have hk0' : ¬ (0 : Int) ≤ (0 : Nat) - 1 := by omega
      clear hD
      go_wp2
      go_ret
      exact ⟨_, rfl, hA.out, hbk⟩
    · obtain ⟨j, rfl⟩ : ∃ j, k = j + 1 := ⟨k - 1, by omega⟩
      have hD := hD (by omega)
      rw [Nat.add_sub_cancel] at hD
      have hp : 0 < N * 2 ^ j := Nat.mul_pos HN0.out (Nat.two_pow_pos j)
      have hpow : N * 2 ^ (j + 1) = 2 * (N * 2 ^ j) := by rw [Nat.pow_succ]; ac_rfl
      rw [hpow] at hA
      obtain ⟨s1, s2⟩ := quo2 (M := M) hp
      have hDb : N * 2 ^ j < 2 ^ (bb + 1) := by
        have := HN1.out
        refine shift_bound ?_
        rw [← HEN.out]; omega
      have hAb : M % (2 * (N * 2 ^ j)) < 2 ^ (bb + 1) := Nat.lt_of_le_of_lt (Nat.mod_le _ _) (Nat.lt_of_lt_of_le HM.out (Nat.pow_le_pow_right (by decide) (by omega)))
      obtain ⟨D, eD⟩ : ∃ D, D = N * 2 ^ j := ⟨_, rfl⟩
      have HED : Hid (D = N * 2 ^ j) := eD
      rw [← eD] at hA hD s1 s2 hDb hAb hp
      obtain ⟨A, eA⟩ : ∃ A, A = M % (2 * D) := ⟨_, rfl⟩
      rw [← eA] at hA s1 s2 hAb
      have HDb : Hid (D < 2 ^ (bb + 1)) := hDb
      have HAb : Hid (A < 2 ^ (bb + 1)) := hAb
      have hj0 : (0 : Int) ≤ ((j + 1 : Nat) : Int) - 1 := by omega
      clear hDb hAb hpow eD eA
      by_cases hc : D ≤ A
      · obtain ⟨-, e2⟩ := s1 hc
        have hcm : 0 ≤ ncmp A D := (ncmp_ge A D).mpr hc
        have HC : Hid (D ≤ A) := hc
        have HE2 : Hid (M % D = A - D) := e2
        obtain ⟨c, ec⟩ : ∃ c, c = ncmp A D := ⟨_, rfl⟩
        have HEC : Hid (c = ncmp A D) := ec
        rw [← ec] at hcm
        clear s1 s2 e2 hc ec hp
        go_wp2_with fail
        refine (ncmp_any _ _ A D _ hA.out hD.out).mono ?_
        rintro e w4 ⟨he, hb4⟩
        rw [← HEC.out] at he
        subst he
        have hA4 : Hid (Num .u32 4294967296 w4 _ A) := Num.below hA.out (Nat.le_refl _) hb4
        have hD4 : Hid (Num .u32 4294967296 w4 _ D) := Num.below hD.out (Nat.le_refl _) hb4
        go_wp2_with fail
        refine (nsub_any _ _ A D _ hA4.out hD4.out HAb.out HC.out (by omega)).mono ?_
        rintro e w5 ⟨v5, rfl, hA5, hb5⟩
        have hA5 : Hid (Num .u32 4294967296 w5 _ (A - D)) := hA5
        have hD5 : Hid (Num .u32 4294967296 w5 _ D) := Num.below hD4.out (Nat.le_refl _) hb5
        go_wp2_with fail
        refine (nhalf_any _ D _ hD5.out HDb.out (by omega)).mono ?_
        rintro e w6 ⟨v6, rfl, hD6, hb6⟩
        have hA6 : Hid (Num .u32 4294967296 w6 _ (A - D)) := Num.below hA5.out (Nat.le_refl _) hb6
        have HD6 : Hid (Num .u32 4294967296 w6 _ (D / 2)) := hD6
        have hb' : Below w.heap.size w w6 := hbk.trans ((hb4.mono hbk.size).trans ((hb5.mono (Nat.le_trans hbk.size hb4.size)).trans (hb6.mono (Nat.le_trans hbk.size (Nat.le_trans hb4.size hb5.size)))))
        clear hD6 hb4 hb5 hb6 hbk
        go_wp2
        go_roundw
        case rel =>
          refine ⟨j, by omega, by go_num, ?_, ?_, hb'⟩
          · rw [← HED.out, HE2.out]; exact hA6
          · intro hj
            have e : N * 2 ^ (j - 1) = D / 2 := by
              obtain ⟨i, rfl⟩ : ∃ i, j = i + 1 := ⟨j - 1, by omega⟩
              rw [HED.out, Nat.pow_succ, ← Nat.mul_assoc, Nat.mul_div_cancel _ (by decide)]; rfl
            rw [e]; exact HD6
        case measure => simp [intOf]
      · obtain ⟨-, e2⟩ := s2 (by omega)
        have hcm : ¬ 0 ≤ ncmp A D := fun h => hc ((ncmp_ge A D).mp h)
        have HE2 : Hid (M % D = A) := e2
        obtain ⟨c, ec⟩ : ∃ c, c = ncmp A D := ⟨_, rfl⟩
        have HEC : Hid (c = ncmp A D) := ec
        rw [← ec] at hcm
        clear s1 s2 e2 hc ec hp
        go_wp2_with fail
        refine (ncmp_any _ _ A D _ hA.out hD.out).mono ?_
        rintro e w4 ⟨he, hb4⟩
        rw [← HEC.out] at he
        subst he
        have hA4 : Hid (Num .u32 4294967296 w4 _ A) := Num.below hA.out (Nat.le_refl _) hb4
        have hD4 : Hid (Num .u32 4294967296 w4 _ D) := Num.below hD.out (Nat.le_refl _) hb4
        go_wp2_with fail
        refine (nhalf_any _ D _ hD4.out HDb.out (by omega)).mono ?_
        rintro e w6 ⟨v6, rfl, hD6, hb6⟩
        have hA6 : Hid (Num .u32 4294967296 w6 _ A) := Num.below hA4.out (Nat.le_refl _) hb6
        have HD6 : Hid (Num .u32 4294967296 w6 _ (D / 2)) := hD6
        have hb' : Below w.heap.size w w6 := hbk.trans ((hb4.mono hbk.size).trans (hb6.mono (Nat.le_trans hbk.size hb4.size)))
        clear hD6 hb4 hb6 hbk
        go_wp2
        go_roundw
        case rel =>
          refine ⟨j, by omega, by go_num, ?_, ?_, hb'⟩
          · rw [← HED.out, HE2.out]; exact hA6
          · intro hj
            have e : N * 2 ^ (j - 1) = D / 2 := by
              obtain ⟨i, rfl⟩ : ∃ i, j = i + 1 := ⟨j - 1, by omega⟩
              rw [HED.out, Nat.pow_succ, ← Nat.mul_assoc, Nat.mul_div_cancel _ (by decide)]; rfl
            rw [e]; exact HD6
        case measure => simp [intOf]
end Go.Proofs.YtiimjbpfdidgcaaGreatDoor

/- Walks: the document's answer for layer 7: Div, Percent. -/
namespace Go.Proofs.YtiimjbpfdidgcaaGreatDoor
open Go.RowKit

theorem signed_of (b : Nat) (neg : Bool) (W : World) (hb : W64 b) : Calls Tryz.prog 24 #[.int .u64 b, .bool neg] W fun e w' => e = .returned (.int .u64 (sgW neg + absB b : Nat)) ∧ W = w' := by
  have h := r7_signed b neg W hb
  have e : (if neg then absB b + 9223372036854775808 else absB b) = sgW neg + absB b := by cases neg <;> simp [sgW] <;> omega
  rwa [e] at h

theorem div_near (a b R : Nat) (fa : finB a = true) (fb : finB b = true) (hM : 0 < spM b) (h : Near 52 (rv 52 (absB a) * 2^LP) (rv 52 (absB b)) R) :
    Near 52 (spM a * 2^(spE a - spE b + LP).toNat) (spM b * 2^(-(spE a - spE b + LP)).toNat) R := by
  have q1 := spE_range a
  have q2 := spE_range b
  have hl := LP_eq
  have hp : 0 < rv 52 (absB b) := by rw [rv_sp b fb]; exact Nat.mul_pos hM (Nat.two_pow_pos _)
  refine h.cross hp (Nat.mul_pos hM (Nat.two_pow_pos _)) ?_
  rw [rv_sp a fa, rv_sp b fb]
  have e1 : spM a * 2^(spE a + LP).toNat * 2^LP * (spM b * 2^(-(spE a - spE b + LP)).toNat) = spM a * spM b * 2^((spE a + LP).toNat + LP + (-(spE a - spE b + LP)).toNat) := by
    rw [Nat.mul_assoc (spM a), ← Nat.pow_add, Nat.mul_mul_mul_comm, ← Nat.pow_add]
  have e2 : spM a * 2^(spE a - spE b + LP).toNat * (spM b * 2^(spE b + LP).toNat) = spM a * spM b * 2^((spE a - spE b + LP).toNat + (spE b + LP).toNat) := by
    rw [Nat.mul_mul_mul_comm, ← Nat.pow_add]
  rw [e1, e2]
  congr 2
  omega

set_option maxHeartbeats 2000000 in
set_option maxRecDepth 100000 in
theorem r7_div (a b R : Nat) (w : World) (ha : W64 a) (hb : W64 b) (hR : finB a = true → finB b = true → zeroB b = false → Near 52 (rv 52 (absB a) * 2^LP) (rv 52 (absB b)) R) :
    Calls Tryz.prog 7 #[.int .u64 a, .int .u64 b] w fun e w' => e = .returned (.tuple #[.int .u64 (divB a b R : Nat), .int .i64 (divX a b R)]) ∧ Below w.heap.size w w' := by
  have HANY : Hid (∀ W g, W.cell? ⟨g, 0, none⟩ = some (.int .u64 (a : Nat)) → W.cell? ⟨g, 1, none⟩ = some (.int .u64 (b : Nat)) → Calls Tryz.prog 20 #[.slice (some ⟨g, 0, none⟩) 2 2] W fun e w' => e = .returned (.bool (nanB a || nanB b)) ∧ W = w') := fun W g h0 h1 => any2 a b ha hb W g h0 h1
  have HB1 : Hid (∀ F, Below w.heap.size w (w.alloc F)) := fun F => (Below.refl _ _).alloc (Nat.le_refl _) _
  have HZA : Hid (∀ W, Calls Tryz.prog 22 #[.int .u64 a] W fun e w' => e = .returned (.bool (zeroB a)) ∧ W = w') := fun W => ref_nought a W ha
  have HZB : Hid (∀ W, Calls Tryz.prog 22 #[.int .u64 b] W fun e w' => e = .returned (.bool (zeroB b)) ∧ W = w') := fun W => ref_nought b W hb
  have HIA : Hid (∀ W, Calls Tryz.prog 23 #[.int .u64 a] W fun e w' => e = .returned (.bool (infB a)) ∧ W = w') := fun W => r7_isinf a W ha
  have HIB : Hid (∀ W, Calls Tryz.prog 23 #[.int .u64 b] W fun e w' => e = .returned (.bool (infB b)) ∧ W = w') := fun W => r7_isinf b W hb
  have HUN : Hid (∀ W, Calls Tryz.prog 21 #[.int .u64 a, .int .u64 b] W fun e w' => e = .returned (.bool (sgnB a != sgnB b)) ∧ W = w') := fun W => r7_unlike a b W ha hb
  obtain ⟨u, hu⟩ : ∃ u, u = (sgnB a != sgnB b) := ⟨_, rfl⟩
  rw [← hu] at HUN
  obtain ⟨v1, hv1⟩ : ∃ v, v = sgW u + absB a := ⟨_, rfl⟩
  obtain ⟨v0, hv0⟩ : ∃ v, v = sgW u := ⟨_, rfl⟩
  have HSA : Hid (∀ W, Calls Tryz.prog 24 #[.int .u64 a, .bool u] W fun e w' => e = .returned (.int .u64 (v1 : Nat)) ∧ W = w') := fun W => by rw [hv1]; exact signed_of a u W ha
  have HSZ : Hid (∀ W, Calls Tryz.prog 24 #[.int .u64 0, .bool u] W fun e w' => e = .returned (.int .u64 (v0 : Nat)) ∧ W = w') := fun W => by rw [hv0]; exact signed_of 0 u W (by unfold W64; decide)
  obtain ⟨n, hn⟩ : ∃ n, n = (nanB a || nanB b) := ⟨_, rfl⟩
  rw [← hn] at HANY
  have HB : Hid (divB a b R = if n then theNaN else if zeroB b then 0 else if infB a && infB b then theNaN else if infB a then sgW u + 9218868437227405312 else if zeroB a || infB b then v0 else resB u R) := by
    show _ = _
    unfold divB
    rw [← hn, ← hu, hv0]
  have HX : Hid (divX a b R = if n then 0 else if zeroB b then 13 else if infB a || infB b || zeroB a then 0 else resX R) := by
    show _ = _
    unfold divX
    rw [← hn]
  have hiv : infB a = true → sgW u + 9218868437227405312 = v1 := fun h => by
    rw [hv1]
    unfold infB at h
    rw [show absB a = 9218868437227405312 by simpa using h]
  have hzv : zeroB a = true → v0 = v1 := fun h => by
    rw [hv1, hv0]
    unfold zeroB at h
    rw [show absB a = 0 by simpa using h, Nat.add_zero]
  clear hv1 hv0
  obtain ⟨r1, hr1⟩ : ∃ r, r = divB a b R := ⟨_, rfl⟩
  obtain ⟨r2, hr2⟩ : ∃ r, r = divX a b R := ⟨_, rfl⟩
  rw [← hr1, ← hr2]
  have hB := HB.out
  have hX := HX.out
  rw [← hr1] at hB
  rw [← hr2] at hX
  clear HB HX hr1 hr2
  cases n
  case true =>
    simp only [if_true] at hB hX
    subst hB hX
    clear hn hR ha hb hu hiv hzv
    go_enter Tryz.func7, Tryz.ntmps7
    go_wp2_with (first | (go_at_call 20; refine (HANY.out _ _ (by go_simp) (by go_simp)).mono ?_; rintro e w' ⟨rfl, rfl⟩) | (go_at_call 21; with_reducible refine (HUN.out _).mono ?_; rintro e w' ⟨rfl, rfl⟩) | (go_at_call 22; with_reducible refine (HZA.out _).mono ?_; rintro e w' ⟨rfl, rfl⟩) | (go_at_call 22; with_reducible refine (HZB.out _).mono ?_; rintro e w' ⟨rfl, rfl⟩))
    go_ret2
    exact ⟨rfl, HB1.out _⟩
  case false =>
  simp only [Bool.false_eq_true, if_false] at hB hX
  have HN2 : Hid (nanB a = false ∧ nanB b = false) := by show _ ∧ _; rw [← Bool.or_eq_false_iff]; exact hn.symm
  cases hz : zeroB b
  case true =>
    rw [hz] at hB hX HZB
    simp only [if_true] at hB hX
    subst hB hX
    clear hn hR ha hb hu hiv hzv hz
    go_enter Tryz.func7, Tryz.ntmps7
    go_wp2_with (first | (go_at_call 20; refine (HANY.out _ _ (by go_simp) (by go_simp)).mono ?_; rintro e w' ⟨rfl, rfl⟩) | (go_at_call 21; with_reducible refine (HUN.out _).mono ?_; rintro e w' ⟨rfl, rfl⟩) | (go_at_call 22; with_reducible refine (HZA.out _).mono ?_; rintro e w' ⟨rfl, rfl⟩) | (go_at_call 22; with_reducible refine (HZB.out _).mono ?_; rintro e w' ⟨rfl, rfl⟩))
    go_ret2
    exact ⟨rfl, HB1.out _⟩
  case false =>
  rw [hz] at hB hX HZB
  simp only [Bool.false_eq_true, if_false] at hB hX
  cases hia : infB a
  case true =>
    rw [hia] at HIA hB hX hiv
    cases hib : infB b
    · rw [hib] at HIB hB hX
      simp only [Bool.and_false, Bool.false_eq_true, if_false, if_true, Bool.true_or, hiv] at hB hX
      subst hB hX
      clear hn hR ha hb hu hiv hzv hz hia hib
      go_enter Tryz.func7, Tryz.ntmps7
      go_wp2_with (first | (go_at_call 20; refine (HANY.out _ _ (by go_simp) (by go_simp)).mono ?_; rintro e w' ⟨rfl, rfl⟩) | (go_at_call 21; with_reducible refine (HUN.out _).mono ?_; rintro e w' ⟨rfl, rfl⟩) | (go_at_call 22; with_reducible refine (HZA.out _).mono ?_; rintro e w' ⟨rfl, rfl⟩) | (go_at_call 22; with_reducible refine (HZB.out _).mono ?_; rintro e w' ⟨rfl, rfl⟩) | (go_at_call 23; with_reducible refine (HIA.out _).mono ?_; rintro e w' ⟨rfl, rfl⟩) | (go_at_call 23; with_reducible refine (HIB.out _).mono ?_; rintro e w' ⟨rfl, rfl⟩) | (go_at_call 24; with_reducible refine (HSA.out _).mono ?_; rintro e w' ⟨rfl, rfl⟩))
      go_ret2
      exact ⟨rfl, HB1.out _⟩
    · rw [hib] at HIB hB hX
      simp only [Bool.and_self, if_true, Bool.true_or] at hB hX
      subst hB hX
      clear hn hR ha hb hu hiv hzv hz hia hib
      go_enter Tryz.func7, Tryz.ntmps7
      go_wp2_with (first | (go_at_call 20; refine (HANY.out _ _ (by go_simp) (by go_simp)).mono ?_; rintro e w' ⟨rfl, rfl⟩) | (go_at_call 21; with_reducible refine (HUN.out _).mono ?_; rintro e w' ⟨rfl, rfl⟩) | (go_at_call 22; with_reducible refine (HZA.out _).mono ?_; rintro e w' ⟨rfl, rfl⟩) | (go_at_call 22; with_reducible refine (HZB.out _).mono ?_; rintro e w' ⟨rfl, rfl⟩) | (go_at_call 23; with_reducible refine (HIA.out _).mono ?_; rintro e w' ⟨rfl, rfl⟩) | (go_at_call 23; with_reducible refine (HIB.out _).mono ?_; rintro e w' ⟨rfl, rfl⟩))
      go_ret2
      exact ⟨rfl, HB1.out _⟩
  case false =>
  rw [hia] at HIA hB hX
  simp only [Bool.false_and, Bool.false_eq_true, if_false, Bool.false_or] at hB hX
  cases hza : zeroB a
  case true =>
    rw [hza] at HZA hB hX hzv
    simp only [Bool.true_or, Bool.or_true, if_true, hzv] at hB hX
    subst hB hX
    clear hn hR ha hb hu hiv hzv hz hia hza
    go_enter Tryz.func7, Tryz.ntmps7
    go_wp2_with (first | (go_at_call 20; refine (HANY.out _ _ (by go_simp) (by go_simp)).mono ?_; rintro e w' ⟨rfl, rfl⟩) | (go_at_call 21; with_reducible refine (HUN.out _).mono ?_; rintro e w' ⟨rfl, rfl⟩) | (go_at_call 22; with_reducible refine (HZA.out _).mono ?_; rintro e w' ⟨rfl, rfl⟩) | (go_at_call 22; with_reducible refine (HZB.out _).mono ?_; rintro e w' ⟨rfl, rfl⟩) | (go_at_call 23; with_reducible refine (HIA.out _).mono ?_; rintro e w' ⟨rfl, rfl⟩) | (go_at_call 24; with_reducible refine (HSA.out _).mono ?_; rintro e w' ⟨rfl, rfl⟩))
    go_ret2
    exact ⟨rfl, HB1.out _⟩
  case false =>
  rw [hza] at HZA hB hX
  simp only [Bool.false_or, Bool.or_false] at hB hX
  cases hib : infB b
  case true =>
    rw [hib] at HIB hB hX
    simp only [if_true] at hB hX
    subst hB hX
    clear hn hR ha hb hu hiv hzv hz hia hza hib
    go_enter Tryz.func7, Tryz.ntmps7
    go_wp2_with (first | (go_at_call 20; refine (HANY.out _ _ (by go_simp) (by go_simp)).mono ?_; rintro e w' ⟨rfl, rfl⟩) | (go_at_call 21; with_reducible refine (HUN.out _).mono ?_; rintro e w' ⟨rfl, rfl⟩) | (go_at_call 22; with_reducible refine (HZA.out _).mono ?_; rintro e w' ⟨rfl, rfl⟩) | (go_at_call 22; with_reducible refine (HZB.out _).mono ?_; rintro e w' ⟨rfl, rfl⟩) | (go_at_call 23; with_reducible refine (HIA.out _).mono ?_; rintro e w' ⟨rfl, rfl⟩) | (go_at_call 23; with_reducible refine (HIB.out _).mono ?_; rintro e w' ⟨rfl, rfl⟩) | (go_at_call 24; with_reducible refine (HSZ.out _).mono ?_; rintro e w' ⟨rfl, rfl⟩))
    go_ret2
    exact ⟨rfl, HB1.out _⟩
  case false =>
  rw [hib] at HIB hB hX
  simp only [Bool.false_eq_true, if_false] at hB hX
  have fa : finB a = true := by rw [finB_eq, HN2.out.1, hia]; rfl
  have fb : finB b = true := by rw [finB_eq, HN2.out.2, hib]; rfl
  have hMa : 0 < spM a := by
    rcases Nat.eq_zero_or_pos (spM a) with h | h
    · rw [(spM_nought a fa).1 h] at hza; cases hza
    · exact h
  have hMb : 0 < spM b := by
    rcases Nat.eq_zero_or_pos (spM b) with h | h
    · rw [(spM_nought b fb).1 h] at hz; cases hz
    · exact h
  have hnr := div_near a b R fa fb hMb (hR fa fb hz)
  have qa := spE_range a
  have qb := spE_range b
  have HOA : Hid (∀ W, Calls Tryz.prog 25 #[.int .u64 a] W (TermQ (spS a) (spM a) (spE a) W)) := fun W => r7_of a W ha
  have HOB : Hid (∀ W, Calls Tryz.prog 25 #[.int .u64 b] W (TermQ (spS b) (spM b) (spE b) W)) := fun W => r7_of b W hb
  have HNR : Hid (∀ W x y z x' y' z', Num .u32 4294967296 W (.slice x y z) (spM a) → Num .u32 4294967296 W (.slice x' y' z') (spM b) → Calls Tryz.prog 26 #[.agg #[.bool u, .slice x y z, .slice x' y' z', .int .i64 (spE a - spE b), .bool false]] W fun e w' => e = .returned (.tuple #[.int .u64 (r1 : Nat), .int .i64 r2]) ∧ Below W.heap.size W w') := fun W x y z x' y' z' h h' => by
    rw [hB, hX]
    exact nearest_any u _ (spM a) (spM b) (spE a - spE b) W ⟨_, _, rfl, h, h'⟩ (bb := 53) (spM_lt a) (spM_lt b) (by omega) (by omega) (by omega) hMa hMb hnr
  clear hn hR ha hb hu hiv hzv hz hia hza hib hB hX fa fb hMa hMb hnr HSA HSZ
  go_enter Tryz.func7, Tryz.ntmps7
  go_wp2_with (first | (go_at_call 20; refine (HANY.out _ _ (by go_simp) (by go_simp)).mono ?_; rintro e w' ⟨rfl, rfl⟩) | (go_at_call 21; with_reducible refine (HUN.out _).mono ?_; rintro e w' ⟨rfl, rfl⟩) | (go_at_call 22; with_reducible refine (HZA.out _).mono ?_; rintro e w' ⟨rfl, rfl⟩) | (go_at_call 22; with_reducible refine (HZB.out _).mono ?_; rintro e w' ⟨rfl, rfl⟩) | (go_at_call 23; with_reducible refine (HIA.out _).mono ?_; rintro e w' ⟨rfl, rfl⟩) | (go_at_call 23; with_reducible refine (HIB.out _).mono ?_; rintro e w' ⟨rfl, rfl⟩))
  refine (HOA.out _).mono ?_
  rintro e w2 ⟨vs, rfl, ⟨ts, rfl, htn⟩, hbs⟩
  obtain ⟨x, y, z, rfl⟩ := htn.shape
  have hb0 : Below w.heap.size w w2 := (HB1.out (.cells #[.int .u64 a, .int .u64 b] 22)).trans (hbs.mono (by simp))
  go_wp2_with fail
  refine (HOB.out _).mono ?_
  rintro e w3 ⟨vs', rfl, ⟨ts', rfl, htn'⟩, hbs'⟩
  obtain ⟨x', y', z', rfl⟩ := htn'.shape
  have q0 := hbs'.blk (heap_alloc_new w2 (.cells #[.bool (spS a), .slice x y z, .int .i64 (spE a)] 46)) (by simp)
  have s3 := hbs'.size
  rw [World.size_alloc] at s3
  have b3 : Below w.heap.size w w3 := (hb0.alloc hb0.size _).thru hbs'
  have t3 : Num .u32 4294967296 w3 (.slice x y z) (spM a) := (htn.below (Nat.le_refl _) ((Below.refl _ _).alloc (Nat.le_refl _) _)).below (Nat.le_refl _) hbs'
  have b4 : Below w.heap.size w (w3.alloc (.cells #[.bool (spS b), .slice x' y' z', .int .i64 (spE b)] 46)) := b3.alloc b3.size _
  have hal : Below w3.heap.size w3 (w3.alloc (.cells #[.bool (spS b), .slice x' y' z', .int .i64 (spE b)] 46)) := (Below.refl _ _).alloc (Nat.le_refl _) _
  have t4 := t3.below (Nat.le_refl _) hal
  have t4' := htn'.below (Nat.le_refl _) hal
  have q1 := hal.blk q0 (by omega)
  have q2 := heap_alloc_new w3 (.cells #[.bool (spS b), .slice x' y' z', .int .i64 (spE b)] 46)
  go_upto_region 17 with fail
  generalize w3.alloc (.cells #[.bool (spS b), .slice x' y' z', .int .i64 (spE b)] 46) = w4 at *
  have x1 := cell_of_row w4 _ 1 _ _ _ q1
  have x2 := cell_of_row w4 _ 2 _ _ _ q1
  have x3 := cell_of_row w4 _ 1 _ _ _ q2
  have x4 := cell_of_row w4 _ 2 _ _ _ q2
  have T4 : Hid _ := t4
  have T4' : Hid _ := t4'
  have B4 : Hid _ := b4
  clear hb0 q0 s3 b3 t3 b4 hal t4 t4' q1 q2 htn htn' hbs hbs'
  go_wp2_with fail
  refine (HNR.out _ _ _ _ _ _ _ T4.out T4'.out).mono ?_
  rintro e w5 ⟨rfl, hb5⟩
  go_wp2
  go_ret2
  exact ⟨rfl, B4.out.thru hb5⟩
end Go.Proofs.YtiimjbpfdidgcaaGreatDoor

/- Walks: the document's answer for layer 7: Mod. -/
namespace Go.Proofs.YtiimjbpfdidgcaaGreatDoor
open Go.RowKit

/-- Both over one power of two. -/
theorem mod_parts (a b r R : Nat) (e : Int) (fa : finB a = true) (fb : finB b = true) (hMb : 0 < spM b) (h : ModR a b r R) (he : e = min (spE a) (spE b)) :
    ∃ A B, A = spM a * 2^(spE a - e).toNat ∧ B = spM b * 2^(spE b - e).toNat ∧ 0 < B ∧ (A % B = 0 ↔ r = 0) ∧ Near 52 (A % B * 2^(e + LP).toNat) (1 * 2^(-(e + LP)).toNat) r ∧ Near 52 ((B - A % B) * 2^(e + LP).toNat) (1 * 2^(-(e + LP)).toNat) R := by
  have q1 := spE_range a
  have q2 := spE_range b
  have hl := LP_eq
  obtain ⟨h1, h2, h3⟩ := h
  have ea : rv 52 (absB a) = spM a * 2^(spE a - e).toNat * 2^(e + LP).toNat := by
    rw [rv_sp a fa, Nat.mul_assoc, ← Nat.pow_add]; congr 2; omega
  have eb : rv 52 (absB b) = spM b * 2^(spE b - e).toNat * 2^(e + LP).toNat := by
    rw [rv_sp b fb, Nat.mul_assoc, ← Nat.pow_add]; congr 2; omega
  have hB : 0 < spM b * 2^(spE b - e).toNat := Nat.mul_pos hMb (Nat.two_pow_pos _)
  refine ⟨_, _, rfl, rfl, hB, ?_⟩
  generalize spM a * 2^(spE a - e).toNat = A at *
  generalize spM b * 2^(spE b - e).toNat = B at *
  have hp := Nat.two_pow_pos (e + LP).toNat
  have er : rv 52 r = A % B * 2^(e + LP).toNat := by rw [h2, ea, eb, Nat.mul_mod_mul_right]
  have e0 : (-(e + LP)).toNat = 0 := by omega
  rw [e0, Nat.pow_zero, Nat.mul_one]
  refine ⟨⟨fun h0 => ?_, fun h0 => ?_⟩, ?_, ?_⟩
  · rw [h0, Nat.zero_mul] at er
    exact rv_inj (p := 52) (by rw [er, rv_zero])
  · rw [h0, rv_zero] at er
    rcases Nat.mul_eq_zero.1 er.symm with g | g
    · exact g
    · omega
  · have := Near.exact 52 r 1 (by decide)
    rw [Nat.mul_one, er] at this
    exact this
  · rw [Nat.sub_mul, ← er, ← eb]
    exact h3

set_option maxHeartbeats 2000000 in
set_option maxRecDepth 100000 in
theorem r7_mod (a b r R : Nat) (w : World) (ha : W64 a) (hb : W64 b) (hR : finB a = true → finB b = true → zeroB b = false → ModR a b r R) :
    Calls Tryz.prog 9 #[.int .u64 a, .int .u64 b] w fun e w' => e = .returned (.tuple #[.int .u64 (mdB a b r R : Nat), .int .i64 (mdX a b)]) ∧ Below w.heap.size w w' := by
  have HANY : Hid (∀ W g, W.cell? ⟨g, 0, none⟩ = some (.int .u64 (a : Nat)) → W.cell? ⟨g, 1, none⟩ = some (.int .u64 (b : Nat)) → Calls Tryz.prog 20 #[.slice (some ⟨g, 0, none⟩) 2 2] W fun e w' => e = .returned (.bool (nanB a || nanB b)) ∧ W = w') := fun W g h0 h1 => any2 a b ha hb W g h0 h1
  have HB1 : Hid (∀ F, Below w.heap.size w (w.alloc F)) := fun F => (Below.refl _ _).alloc (Nat.le_refl _) _
  have HZA : Hid (∀ W, Calls Tryz.prog 22 #[.int .u64 a] W fun e w' => e = .returned (.bool (zeroB a)) ∧ W = w') := fun W => ref_nought a W ha
  have HZB : Hid (∀ W, Calls Tryz.prog 22 #[.int .u64 b] W fun e w' => e = .returned (.bool (zeroB b)) ∧ W = w') := fun W => ref_nought b W hb
  have HIA : Hid (∀ W, Calls Tryz.prog 23 #[.int .u64 a] W fun e w' => e = .returned (.bool (infB a)) ∧ W = w') := fun W => r7_isinf a W ha
  have HIB : Hid (∀ W, Calls Tryz.prog 23 #[.int .u64 b] W fun e w' => e = .returned (.bool (infB b)) ∧ W = w') := fun W => r7_isinf b W hb
  have HUN : Hid (∀ W, Calls Tryz.prog 21 #[.int .u64 a, .int .u64 b] W fun e w' => e = .returned (.bool (sgnB a != sgnB b)) ∧ W = w') := fun W => r7_unlike a b W ha hb
  obtain ⟨s, hs⟩ : ∃ s, s = (sgnB a == sgnB b) := ⟨_, rfl⟩
  have hs2 : (sgnB a != sgnB b) = !s := by rw [hs]; rfl
  rw [hs2] at HUN
  obtain ⟨n, hn⟩ : ∃ n, n = (nanB a || nanB b) := ⟨_, rfl⟩
  rw [← hn] at HANY
  obtain ⟨r1, hB⟩ : ∃ x, x = mdB a b r R := ⟨_, rfl⟩
  obtain ⟨r2, hX⟩ : ∃ x, x = mdX a b := ⟨_, rfl⟩
  rw [← hB, ← hX]
  unfold mdB at hB
  unfold mdX at hX
  rw [← hn, ← hs] at hB
  rw [← hn] at hX
  cases n
  case true =>
    simp only [if_true] at hB hX
    subst hB hX
    clear hn hR ha hb hs hs2
    go_enter Tryz.func9, Tryz.ntmps9
    go_wp2_with (first | (go_at_call 20; refine (HANY.out _ _ (by go_simp) (by go_simp)).mono ?_; rintro e w' ⟨rfl, rfl⟩) | (go_at_call 22; with_reducible refine (HZA.out _).mono ?_; rintro e w' ⟨rfl, rfl⟩) | (go_at_call 22; with_reducible refine (HZB.out _).mono ?_; rintro e w' ⟨rfl, rfl⟩))
    go_ret2
    exact ⟨rfl, HB1.out _⟩
  case false =>
  simp only [Bool.false_eq_true, if_false] at hB hX
  have HN2 : Hid (nanB a = false ∧ nanB b = false) := by show _ ∧ _; rw [← Bool.or_eq_false_iff]; exact hn.symm
  cases hz : zeroB b
  case true =>
    rw [hz] at hB hX HZB
    simp only [if_true] at hB hX
    subst hB hX
    clear hn hR ha hb hs hs2 hz
    go_enter Tryz.func9, Tryz.ntmps9
    go_wp2_with (first | (go_at_call 20; refine (HANY.out _ _ (by go_simp) (by go_simp)).mono ?_; rintro e w' ⟨rfl, rfl⟩) | (go_at_call 22; with_reducible refine (HZA.out _).mono ?_; rintro e w' ⟨rfl, rfl⟩) | (go_at_call 22; with_reducible refine (HZB.out _).mono ?_; rintro e w' ⟨rfl, rfl⟩))
    go_ret2
    exact ⟨rfl, HB1.out _⟩
  case false =>
  rw [hz] at hB hX HZB
  simp only [Bool.false_eq_true, if_false] at hB hX
  cases hia : infB a
  case true =>
    rw [hia] at HIA hB
    simp only [if_true] at hB
    subst hB hX
    clear hn hR ha hb hs hs2 hz hia
    go_enter Tryz.func9, Tryz.ntmps9
    go_wp2_with (first | (go_at_call 20; refine (HANY.out _ _ (by go_simp) (by go_simp)).mono ?_; rintro e w' ⟨rfl, rfl⟩) | (go_at_call 22; with_reducible refine (HZA.out _).mono ?_; rintro e w' ⟨rfl, rfl⟩) | (go_at_call 22; with_reducible refine (HZB.out _).mono ?_; rintro e w' ⟨rfl, rfl⟩) | (go_at_call 23; with_reducible refine (HIA.out _).mono ?_; rintro e w' ⟨rfl, rfl⟩))
    go_ret2
    exact ⟨rfl, HB1.out _⟩
  case false =>
  rw [hia] at HIA hB
  simp only [Bool.false_eq_true, if_false] at hB
  cases hib : infB b
  case true =>
    rw [hib] at HIB hB
    simp only [if_true] at hB
    subst hX
    obtain ⟨za, hza⟩ : ∃ z, z = zeroB a := ⟨_, rfl⟩
    rw [← hza] at HZA hB
    clear hn hR ha hb hs hs2 hz hia hib hza
    cases za <;> cases s
    all_goals
      simp only [Bool.true_or, Bool.or_true, Bool.or_self, Bool.false_eq_true, if_true, if_false] at hB
      subst hB
      go_enter Tryz.func9, Tryz.ntmps9
      go_wp2_with (first | (go_at_call 20; refine (HANY.out _ _ (by go_simp) (by go_simp)).mono ?_; rintro e w' ⟨rfl, rfl⟩) | (go_at_call 22; with_reducible refine (HZA.out _).mono ?_; rintro e w' ⟨rfl, rfl⟩) | (go_at_call 22; with_reducible refine (HZB.out _).mono ?_; rintro e w' ⟨rfl, rfl⟩) | (go_at_call 23; with_reducible refine (HIA.out _).mono ?_; rintro e w' ⟨rfl, rfl⟩) | (go_at_call 23; with_reducible refine (HIB.out _).mono ?_; rintro e w' ⟨rfl, rfl⟩) | (go_at_call 21; with_reducible refine (HUN.out _).mono ?_; rintro e w' ⟨rfl, rfl⟩))
      go_ret2
      exact ⟨rfl, HB1.out _⟩
  case false =>
  rw [hib] at HIB hB
  simp only [Bool.false_eq_true, if_false] at hB
  have fa : finB a = true := by rw [finB_eq, HN2.out.1, hia]; rfl
  have fb : finB b = true := by rw [finB_eq, HN2.out.2, hib]; rfl
  have hMb : 0 < spM b := by
    rcases Nat.eq_zero_or_pos (spM b) with h | h
    · rw [(spM_nought b fb).1 h] at hz; cases hz
    · exact h
  have hmr := hR fa fb hz
  have hy0 : 0 < absB b := by unfold zeroB at hz; simp at hz; omega
  have hle := hmr.le hy0
  have hy1 := finB_lt' b fb
  obtain ⟨E, hE⟩ : ∃ E, E = min (spE a) (spE b) := ⟨_, rfl⟩
  obtain ⟨A, B, eA, eB, hB0, h0, n1, n2⟩ := mod_parts a b r R E fa fb hMb hmr hE
  have qa := spE_range a
  have qb := spE_range b
  obtain ⟨bb, hbb⟩ : ∃ bb, bb = 2100 := ⟨_, rfl⟩
  have hA2 : A < 2^bb := by
    rw [eA]
    refine Nat.lt_of_lt_of_le (Nat.mul_lt_mul_of_pos_right (spM_lt a) (Nat.two_pow_pos _)) ?_
    rw [show (9007199254740992 : Nat) = 2^53 by decide, ← Nat.pow_add]
    exact Nat.pow_le_pow_right (by decide) (by omega)
  have hB2 : B < 2^bb := by
    rw [eB]
    refine Nat.lt_of_lt_of_le (Nat.mul_lt_mul_of_pos_right (spM_lt b) (Nat.two_pow_pos _)) ?_
    rw [show (9007199254740992 : Nat) = 2^53 by decide, ← Nat.pow_add]
    exact Nat.pow_le_pow_right (by decide) (by omega)
  have hrem : A % B < B := Nat.mod_lt _ hB0
  have hsb : spS b = sgnB b := by unfold spS negB; rw [HN2.out.2, hib]; rfl
  have HOA : Hid (∀ W, Calls Tryz.prog 25 #[.int .u64 a] W (TermQ (spS a) (spM a) (spE a) W)) := fun W => r7_of a W ha
  have HOB : Hid (∀ W, Calls Tryz.prog 25 #[.int .u64 b] W (TermQ (sgnB b) (spM b) (spE b) W)) := fun W => by rw [← hsb]; exact r7_of b W hb
  have HLA : Hid (∀ W x y z, Num .u32 4294967296 W (.slice x y z) (spM a) → Calls Tryz.prog 31 #[.slice x y z, .int .i64 (spE a - E)] W (NatQ A W)) := fun W x y z h => by
    have g := nleft_any _ (spM a) ((spE a - E).toNat / 32) ((spE a - E).toNat % 32) (spE a - E) W h (by omega) (Nat.mod_lt _ (by decide)) (by omega) (bb := 53) (spM_lt a) (by decide)
    rw [Nat.div_add_mod, ← eA] at g
    exact g
  have HLB : Hid (∀ W x y z, Num .u32 4294967296 W (.slice x y z) (spM b) → Calls Tryz.prog 31 #[.slice x y z, .int .i64 (spE b - E)] W (NatQ B W)) := fun W x y z h => by
    have g := nleft_any _ (spM b) ((spE b - E).toNat / 32) ((spE b - E).toNat % 32) (spE b - E) W h (by omega) (Nat.mod_lt _ (by decide)) (by omega) (bb := 53) (spM_lt b) (by decide)
    rw [Nat.div_add_mod, ← eB] at g
    exact g
  have HRM : Hid (∀ W x y z x' y' z', Num .u32 4294967296 W (.slice x y z) A → Num .u32 4294967296 W (.slice x' y' z') B → Calls Tryz.prog 32 #[.slice x y z, .slice x' y' z'] W (NatQ (A % B) W)) := fun W x y z x' y' z' h h' => nrem_any _ _ A B W h h' hA2 hB2 (by omega) hB0
  have HSU : Hid (∀ W x y z x' y' z', Num .u32 4294967296 W (.slice x y z) B → Num .u32 4294967296 W (.slice x' y' z') (A % B) → Calls Tryz.prog 33 #[.slice x y z, .slice x' y' z'] W (NatQ (B - A % B) W)) := fun W x y z x' y' z' h h' => nsub_any _ _ B (A % B) W h h' hB2 (Nat.le_of_lt hrem) (by omega)
  obtain ⟨v0, hv0⟩ : ∃ v, v = sgW (sgnB b) := ⟨_, rfl⟩
  have HSZ : Hid (∀ W, Calls Tryz.prog 24 #[.int .u64 0, .bool (sgnB b)] W fun e w' => e = .returned (.int .u64 (v0 : Nat)) ∧ W = w') := fun W => by rw [hv0]; exact signed_of 0 (sgnB b) W (by unfold W64; decide)
  -- what is told
  obtain ⟨m, hm⟩ : ∃ m, m = (if A % B = 0 then 0 else if s then A % B else B - A % B) := ⟨_, rfl⟩
  have HTO : Hid (∀ W x y z, Num .u32 4294967296 W (.slice x y z) m → Calls Tryz.prog 34 #[.agg #[.bool (sgnB b), .slice x y z, .int .i64 E], .int .u64 (v0 : Nat)] W fun e w' => e = .returned (.tuple #[.int .u64 (r1 : Nat), .int .i64 r2]) ∧ Below W.heap.size W w') := fun W x y z h => by
    have hmb : m < 2^bb := by
      rw [hm]
      split
      · exact Nat.two_pow_pos _
      · split <;> omega
    have key : ∀ R', R' < 9218868437227405312 → Near 52 (m * 2^(E + LP).toNat) (1 * 2^(-(E + LP)).toNat) R' → r1 = (if m = 0 then v0 else sgW (sgnB b) + R') → Calls Tryz.prog 34 #[.agg #[.bool (sgnB b), .slice x y z, .int .i64 E], .int .u64 (v0 : Nat)] W fun e w' => e = .returned (.tuple #[.int .u64 (r1 : Nat), .int .i64 r2]) ∧ Below W.heap.size W w' := by
      intro R' hR' hn' hr1
      have g := told_any (sgnB b) _ m v0 E W ⟨_, rfl, h⟩ hmb (by omega) (by omega) (by omega) (by omega) hn'
      unfold ToldQ at g
      have e1 : (if m = 0 then v0 else resB (sgnB b) R') = r1 := by
        rw [hr1]
        unfold resB
        rw [if_pos hR']
      have e2 : (if m = 0 then 0 else resX R') = r2 := by
        rw [hX]
        unfold resX
        rw [if_pos hR']
        split <;> rfl
      rw [e1, e2] at g
      exact g
    by_cases c0 : A % B = 0
    · rw [if_pos c0] at hm
      refine key 0 (by decide) ?_ ?_
      · rw [hm, Nat.zero_mul]; exact near_zero 52 _ (by rw [Nat.one_mul]; exact Nat.two_pow_pos _)
      · rw [hm, if_pos rfl, hB, if_pos (h0.1 c0), hv0]
    · rw [if_neg c0] at hm
      have hr0 : ¬ r = 0 := fun h => c0 (h0.2 h)
      rw [if_neg hr0] at hB
      cases s
      · rw [if_neg (by decide)] at hm hB
        refine key R (by omega) (by rw [hm]; exact n2) ?_
        rw [if_neg (by omega)]; exact hB
      · rw [if_pos rfl] at hm hB
        refine key r (by omega) (by rw [hm]; exact n1) ?_
        rw [if_neg (by omega)]; exact hB
  have HE : Hid (min (spE a) (spE b) = E) := hE.symm
  have hmin : min (spE a) (spE b) = E := hE.symm
  have hEr : -1074 ≤ E ∧ E ≤ 972 ∧ E ≤ spE a ∧ E ≤ spE b := by omega
  have HM0 : Hid (A % B = 0 → m = 0) := fun h => by rw [hm, if_pos h]
  have HM1 : Hid (¬ A % B = 0 → s = true → m = A % B) := fun h h' => by rw [hm, if_neg h, if_pos h']
  have HM2 : Hid (¬ A % B = 0 → s = false → m = B - A % B) := fun h h' => by rw [hm, if_neg h, if_neg (by rw [h']; decide)]
  obtain ⟨C, hC⟩ : ∃ C, C = A % B := ⟨_, rfl⟩
  rw [← hC] at HRM HSU HM0 HM1 HM2
  clear hn hR ha hb hs hs2 hz hia hib hB hX fa fb hMb hmr hle hy0 hy1 hE eA eB hB0 h0 n1 n2 hA2 hB2 hrem hsb hv0 hm hbb hC
  go_enter Tryz.func9, Tryz.ntmps9
  go_wp2_with (first | (go_at_call 20; refine (HANY.out _ _ (by go_simp) (by go_simp)).mono ?_; rintro e w' ⟨rfl, rfl⟩) | (go_at_call 22; with_reducible refine (HZA.out _).mono ?_; rintro e w' ⟨rfl, rfl⟩) | (go_at_call 22; with_reducible refine (HZB.out _).mono ?_; rintro e w' ⟨rfl, rfl⟩) | (go_at_call 23; with_reducible refine (HIA.out _).mono ?_; rintro e w' ⟨rfl, rfl⟩) | (go_at_call 23; with_reducible refine (HIB.out _).mono ?_; rintro e w' ⟨rfl, rfl⟩))
  refine (HOA.out _).mono ?_
  rintro e w2 ⟨vs, rfl, ⟨ts, rfl, htn⟩, hbs⟩
  obtain ⟨x, y, z, rfl⟩ := htn.shape
  have hb0 : Below w.heap.size w w2 := (HB1.out (.cells #[.int .u64 a, .int .u64 b] 22)).trans (hbs.mono (by simp))
  go_wp2_with fail
  refine (HOB.out _).mono ?_
  rintro e w3 ⟨vs', rfl, ⟨ts', rfl, htn'⟩, hbs'⟩
  obtain ⟨x', y', z', rfl⟩ := htn'.shape
  have q0 := hbs'.blk (heap_alloc_new w2 (.cells #[.bool (spS a), .slice x y z, .int .i64 (spE a)] 46)) (by simp)
  have s3 := hbs'.size
  rw [World.size_alloc] at s3
  have b3 : Below w.heap.size w w3 := (hb0.alloc hb0.size _).thru hbs'
  have t3 : Num .u32 4294967296 w3 (.slice x y z) (spM a) := (htn.below (Nat.le_refl _) ((Below.refl _ _).alloc (Nat.le_refl _) _)).below (Nat.le_refl _) hbs'
  have b4 : Below w.heap.size w (w3.alloc (.cells #[.bool (sgnB b), .slice x' y' z', .int .i64 (spE b)] 46)) := b3.alloc b3.size _
  have hal : Below w3.heap.size w3 (w3.alloc (.cells #[.bool (sgnB b), .slice x' y' z', .int .i64 (spE b)] 46)) := (Below.refl _ _).alloc (Nat.le_refl _) _
  have t4 := t3.below (Nat.le_refl _) hal
  have t4' := htn'.below (Nat.le_refl _) hal
  have q1 := hal.blk q0 (by omega)
  have q2 := heap_alloc_new w3 (.cells #[.bool (sgnB b), .slice x' y' z', .int .i64 (spE b)] 46)
  have hs4 : (w3.alloc (.cells #[.bool (sgnB b), .slice x' y' z', .int .i64 (spE b)] 46)).heap.size = w3.heap.size + 1 := by simp
  go_upto_region 16 with fail
  generalize w3.alloc (.cells #[.bool (sgnB b), .slice x' y' z', .int .i64 (spE b)] 46) = w4 at *
  have HQ1 : Hid (∀ W, Below w4.heap.size w4 W → W.heap[w2.heap.size]? = some (.cells #[.bool (spS a), .slice x y z, .int .i64 (spE a)] 46)) := fun W hW => hW.blk q1 (by omega)
  have HQ2 : Hid (∀ W, Below w4.heap.size w4 W → W.heap[w3.heap.size]? = some (.cells #[.bool (sgnB b), .slice x' y' z', .int .i64 (spE b)] 46)) := fun W hW => hW.blk q2 (by omega)
  have T4 : Hid _ := t4
  have T4' : Hid (∀ W, Below w4.heap.size w4 W → Num .u32 4294967296 W (.slice x' y' z') (spM b)) := fun W hW => t4'.below (Nat.le_refl _) hW
  have B4 : Hid _ := b4
  have x2 := cell_of_row w4 _ 2 _ _ _ q1
  have x4 := cell_of_row w4 _ 2 _ _ _ q2
  have x1 := cell_of_row w4 _ 1 _ _ _ q1
  clear hb0 q0 s3 b3 t3 b4 hal t4 t4' q1 q2 htn htn' hbs hbs' hs4
  go_wp2_with fail
  refine (HLA.out _ _ _ _ T4.out).mono ?_
  rintro e w5 ⟨v5, rfl, hn5, hb5⟩
  obtain ⟨a5, b5, c5, rfl⟩ := hn5.shape
  have B5 : Hid (Below w4.heap.size w4 w5) := hb5
  have y1 := cell_of_row w5 _ 1 _ _ _ (HQ2.out w5 hb5)
  have y2 := cell_of_row w5 _ 2 _ _ _ (HQ2.out w5 hb5)
  have N5 : Hid (Num .u32 4294967296 w5 (.slice a5 b5 c5) A) := hn5
  clear x1 x2 x4 hn5 hb5 T4
  go_wp2_with fail
  refine (HLB.out _ _ _ _ (T4'.out _ B5.out)).mono ?_
  rintro e w6 ⟨v6, rfl, hn6, hb6⟩
  obtain ⟨a6, b6, c6, rfl⟩ := hn6.shape
  have B6 : Hid (Below w4.heap.size w4 w6) := B5.out.thru hb6
  have N6 : Hid (Num .u32 4294967296 w6 (.slice a5 b5 c5) A) := N5.out.below (Nat.le_refl _) hb6
  have N6' : Hid (Num .u32 4294967296 w6 (.slice a6 b6 c6) B) := hn6
  clear y1 y2 hn6 hb6 N5 B5
  go_wp2_with fail
  refine (HRM.out _ _ _ _ _ _ _ N6.out N6'.out).mono ?_
  rintro e w7 ⟨v7, rfl, hn7, hb7⟩
  obtain ⟨a7, b7, c7, rfl⟩ := hn7.shape
  have B7 : Hid (Below w4.heap.size w4 w7) := B6.out.thru hb7
  have N7 : Hid (Num .u32 4294967296 w7 (.slice a7 b7 c7) C) := hn7
  have N7' : Hid (Num .u32 4294967296 w7 (.slice a6 b6 c6) B) := N6'.out.below (Nat.le_refl _) hb7
  have hlen := hn7.len (by decide)
  clear hn7 hb7 N6 N6' B6
  by_cases hc : C = 0
  · obtain rfl := hlen.1 hc
    have hm0 := HM0.out hc
    have N8 : Hid (Num .u32 4294967296 w7 (.slice a7 0 c7) m) := by have h := N7.out; rw [hc] at h; rw [hm0]; exact h
    clear hc hm0 hlen HM0 HM1 HM2 HSU HRM HLA HLB HOA HOB
    go_upto_region 22 with fail
    have HNM : Hid (∀ W, Below w7.heap.size w7 W → Num .u32 4294967296 W (.slice a7 0 c7) m) := fun W hW => Num.below N8.out (Nat.le_refl _) hW
    have BW : Hid (Below w4.heap.size w4 w7) := B7.out
    have HC : Hid (∀ W, Below w7.heap.size w7 W → Below w7.heap.size w7 W ∧ W.cell? ⟨w3.heap.size, 0, none⟩ = some (.bool (sgnB b))) := fun W hW => ⟨hW, cell_of_row W _ 0 _ _ _ (HQ2.out W (BW.out.thru hW))⟩
    obtain ⟨hbs1, x1⟩ := HC.out w7 (Below.refl _ _)
    clear x1
    go_region_held3 (fun W => Below w7.heap.size w7 W ∧ W.cell? ⟨w3.heap.size, 0, none⟩ = some (.bool (sgnB b)))
      (first | exact HC.out _ ‹Below w7.heap.size w7 _› | exact HC.out _ (‹Below w7.heap.size w7 _›).drew)
      (first | (go_at_call 24; with_reducible refine (HSZ.out _).mono ?_; rintro e w' ⟨rfl, rfl⟩) | (go_at_call 34; (with_reducible refine (HTO.out _ _ _ _ (HNM.out _ (by first | assumption | exact Below.drew (by assumption)))).mono ?_); rintro e w9 ⟨rfl, hb⟩; have hB3 : Below w7.heap.size w7 w9 := Below.thru (by first | assumption | exact Below.drew (by assumption)) hb; have HB3 : Hid _ := hB3; clear hb))
    go_wp2
    go_ret2
    exact ⟨rfl, B4.out.trans ((BW.out.thru HB3.out).mono B4.out.size)⟩
  · have hpos : 0 < b7 := Nat.pos_of_ne_zero fun h => hc (hlen.2 h)
    have hlt : (0 : Int) < (b7 : Int) := by omega
    cases s
    · have hm2 := HM2.out hc rfl
      clear hc hlen HM0 HM1 HM2 HRM HLA HLB HOA HOB hpos
      go_wp2_with (go_at_call 21; with_reducible refine (HUN.out _).mono ?_; rintro e w' ⟨rfl, rfl⟩)
      refine (HSU.out _ _ _ _ _ _ _ N7'.out N7.out).mono ?_
      rintro e w8 ⟨v8, rfl, hn8, hb8⟩
      obtain ⟨a8, b8, c8, rfl⟩ := hn8.shape
      have B8 : Hid (Below w4.heap.size w4 w8) := B7.out.thru hb8
      have N8 : Hid (Num .u32 4294967296 w8 (.slice a8 b8 c8) m) := by rw [hm2]; exact hn8
      clear hn8 hb8 hm2 HSU N7 N7' B7
      go_upto_region 22 with fail
      have HNM : Hid (∀ W, Below w8.heap.size w8 W → Num .u32 4294967296 W (.slice a8 b8 c8) m) := fun W hW => Num.below N8.out (Nat.le_refl _) hW
      have BW : Hid (Below w4.heap.size w4 w8) := B8.out
      have HC : Hid (∀ W, Below w8.heap.size w8 W → Below w8.heap.size w8 W ∧ W.cell? ⟨w3.heap.size, 0, none⟩ = some (.bool (sgnB b))) := fun W hW => ⟨hW, cell_of_row W _ 0 _ _ _ (HQ2.out W (BW.out.thru hW))⟩
      obtain ⟨hbs1, x1⟩ := HC.out w8 (Below.refl _ _)
      clear x1
      go_region_held3 (fun W => Below w8.heap.size w8 W ∧ W.cell? ⟨w3.heap.size, 0, none⟩ = some (.bool (sgnB b)))
        (first | exact HC.out _ ‹Below w8.heap.size w8 _› | exact HC.out _ (‹Below w8.heap.size w8 _›).drew)
        (first | (go_at_call 24; with_reducible refine (HSZ.out _).mono ?_; rintro e w' ⟨rfl, rfl⟩) | (go_at_call 34; (with_reducible refine (HTO.out _ _ _ _ (HNM.out _ (by first | assumption | exact Below.drew (by assumption)))).mono ?_); rintro e w9 ⟨rfl, hb⟩; have hB3 : Below w8.heap.size w8 w9 := Below.thru (by first | assumption | exact Below.drew (by assumption)) hb; have HB3 : Hid _ := hB3; clear hb))
      go_wp2
      go_ret2
      exact ⟨rfl, B4.out.trans ((BW.out.thru HB3.out).mono B4.out.size)⟩
    · have hm1 := HM1.out hc rfl
      have N8 : Hid (Num .u32 4294967296 w7 (.slice a7 b7 c7) m) := by rw [hm1]; exact N7
      clear hc hlen HM0 HM1 HM2 HRM HLA HLB HOA HOB hpos hm1 HSU N7'
      go_upto_region 22 with (go_at_call 21; with_reducible refine (HUN.out _).mono ?_; rintro e w' ⟨rfl, rfl⟩)
      have HNM : Hid (∀ W, Below w7.heap.size w7 W → Num .u32 4294967296 W (.slice a7 b7 c7) m) := fun W hW => Num.below N8.out (Nat.le_refl _) hW
      have BW : Hid (Below w4.heap.size w4 w7) := B7.out
      have HC : Hid (∀ W, Below w7.heap.size w7 W → Below w7.heap.size w7 W ∧ W.cell? ⟨w3.heap.size, 0, none⟩ = some (.bool (sgnB b))) := fun W hW => ⟨hW, cell_of_row W _ 0 _ _ _ (HQ2.out W (BW.out.thru hW))⟩
      obtain ⟨hbs1, x1⟩ := HC.out w7 (Below.refl _ _)
      clear x1
      go_region_held3 (fun W => Below w7.heap.size w7 W ∧ W.cell? ⟨w3.heap.size, 0, none⟩ = some (.bool (sgnB b)))
        (first | exact HC.out _ ‹Below w7.heap.size w7 _› | exact HC.out _ (‹Below w7.heap.size w7 _›).drew)
        (first | (go_at_call 24; with_reducible refine (HSZ.out _).mono ?_; rintro e w' ⟨rfl, rfl⟩) | (go_at_call 34; (with_reducible refine (HTO.out _ _ _ _ (HNM.out _ (by first | assumption | exact Below.drew (by assumption)))).mono ?_); rintro e w9 ⟨rfl, hb⟩; have hB3 : Below w7.heap.size w7 w9 := Below.thru (by first | assumption | exact Below.drew (by assumption)) hb; have HB3 : Hid _ := hB3; clear hb))
      go_wp2
      go_ret2
      exact ⟨rfl, B4.out.trans ((BW.out.thru HB3.out).mono B4.out.size)⟩
end Go.Proofs.YtiimjbpfdidgcaaGreatDoor
