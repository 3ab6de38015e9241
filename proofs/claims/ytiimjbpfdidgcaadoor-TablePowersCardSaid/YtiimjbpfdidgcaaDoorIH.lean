/- Parts Ud, Ue of the proof, in one text. -/
import Derived.Test.YtiimjbpfdidgcaaDoorIG

/- Walks: the document's answer for layer 7: Fused, Less, Equal. -/
namespace Go.Proofs.YtiimjbpfdidgcaaDoor
open Go.RowKit

theorem any2 (a b : Nat) (ha : W64 a) (hb : W64 b) (W : World) (g : Nat) (h0 : W.cell? ⟨g, 0, none⟩ = some (.int .u64 (a : Nat))) (h1 : W.cell? ⟨g, 1, none⟩ = some (.int .u64 (b : Nat))) :
    Calls Tryd.prog 48 #[.slice (some ⟨g, 0, none⟩) 2 2] W fun e w' => e = .returned (.bool (nanB a || nanB b)) ∧ W = w' := by
  refine (r7_anynan [a, b] g 2 2 W rfl ?_ ?_ (Nat.le_refl _) (by decide)).mono ?_
  · intro i hi
    match i, hi with
    | 0, _ => exact h0
    | 1, _ => exact h1
  · intro x hx
    simp at hx
    rcases hx with rfl | rfl
    · exact ha
    · exact hb
  · rintro e w' ⟨rfl, rfl⟩
    exact ⟨by simp, rfl⟩
theorem any3 (a b c : Nat) (ha : W64 a) (hb : W64 b) (hc : W64 c) (W : World) (g : Nat) (h0 : W.cell? ⟨g, 0, none⟩ = some (.int .u64 (a : Nat))) (h1 : W.cell? ⟨g, 1, none⟩ = some (.int .u64 (b : Nat))) (h2 : W.cell? ⟨g, 2, none⟩ = some (.int .u64 (c : Nat))) :
    Calls Tryd.prog 48 #[.slice (some ⟨g, 0, none⟩) 3 3] W fun e w' => e = .returned (.bool (nanB a || nanB b || nanB c)) ∧ W = w' := by
  refine (r7_anynan [a, b, c] g 3 3 W rfl ?_ ?_ (Nat.le_refl _) (by decide)).mono ?_
  · intro i hi
    match i, hi with
    | 0, _ => exact h0
    | 1, _ => exact h1
    | 2, _ => exact h2
  · intro x hx
    simp at hx
    rcases hx with rfl | rfl | rfl
    · exact ha
    · exact hb
    · exact hc
  · rintro e w' ⟨rfl, rfl⟩
    exact ⟨by simp [Bool.or_assoc], rfl⟩

set_option maxHeartbeats 1000000 in
set_option maxRecDepth 100000 in
theorem r7_less (a b : Nat) (w : World) (ha : W64 a) (hb : W64 b) : Calls Tryd.prog 16 #[.int .u64 a, .int .u64 b] w fun e w' => e = .returned (.bool (lessB a b)) ∧ Below w.heap.size w w' := by
  have HANY : Hid (∀ W g, W.cell? ⟨g, 0, none⟩ = some (.int .u64 (a : Nat)) → W.cell? ⟨g, 1, none⟩ = some (.int .u64 (b : Nat)) → Calls Tryd.prog 48 #[.slice (some ⟨g, 0, none⟩) 2 2] W fun e w' => e = .returned (.bool (nanB a || nanB b)) ∧ W = w') := fun W g h0 h1 => any2 a b ha hb W g h0 h1
  have HB1 : Hid (∀ F, Below w.heap.size w (w.alloc F)) := fun F => (Below.refl _ _).alloc (Nat.le_refl _) _
  have HZA : Hid (∀ W, Calls Tryd.prog 49 #[.int .u64 a] W fun e w' => e = .returned (.bool (zeroB a)) ∧ W = w') := fun W => ref_nought a W ha
  have HZB : Hid (∀ W, Calls Tryd.prog 49 #[.int .u64 b] W fun e w' => e = .returned (.bool (zeroB b)) ∧ W = w') := fun W => ref_nought b W hb
  have HOR : Hid (∀ W, Calls Tryd.prog 65 #[.int .u64 a, .int .u64 b] W fun e w' => e = .returned (.int .i64 (orderB a b)) ∧ W = w') := fun W => ref_order a b W ha hb
  unfold lessB
  obtain ⟨n, hn⟩ : ∃ n, n = (nanB a || nanB b) := ⟨_, rfl⟩
  rw [← hn] at HANY ⊢
  generalize zeroB a = za at *
  generalize zeroB b = zb at *
  generalize orderB a b = o at *
  clear ha hb hn
  cases n <;> cases za <;> cases zb
  all_goals
    go_enter Tryd.func16, Tryd.ntmps16
    go_wp2_with (first | (go_at_call 48; refine (HANY.out _ _ (by go_simp) (by go_simp)).mono ?_; rintro e w' ⟨rfl, rfl⟩) | (go_at_call 49; with_reducible refine (HZA.out _).mono ?_; rintro e w' ⟨rfl, rfl⟩) | (go_at_call 49; with_reducible refine (HZB.out _).mono ?_; rintro e w' ⟨rfl, rfl⟩) | (go_at_call 65; with_reducible refine (HOR.out _).mono ?_; rintro e w' ⟨rfl, rfl⟩))
    go_ret
    exact ⟨rfl, HB1.out _⟩

set_option maxHeartbeats 1000000 in
set_option maxRecDepth 100000 in
theorem r7_equal (a b : Nat) (w : World) (ha : W64 a) (hb : W64 b) : Calls Tryd.prog 18 #[.int .u64 a, .int .u64 b] w fun e w' => e = .returned (.bool (equalB a b)) ∧ Below w.heap.size w w' := by
  have HANY : Hid (∀ W g, W.cell? ⟨g, 0, none⟩ = some (.int .u64 (a : Nat)) → W.cell? ⟨g, 1, none⟩ = some (.int .u64 (b : Nat)) → Calls Tryd.prog 48 #[.slice (some ⟨g, 0, none⟩) 2 2] W fun e w' => e = .returned (.bool (nanB a || nanB b)) ∧ W = w') := fun W g h0 h1 => any2 a b ha hb W g h0 h1
  have HB1 : Hid (∀ F, Below w.heap.size w (w.alloc F)) := fun F => (Below.refl _ _).alloc (Nat.le_refl _) _
  have HZA : Hid (∀ W, Calls Tryd.prog 49 #[.int .u64 a] W fun e w' => e = .returned (.bool (zeroB a)) ∧ W = w') := fun W => ref_nought a W ha
  have HZB : Hid (∀ W, Calls Tryd.prog 49 #[.int .u64 b] W fun e w' => e = .returned (.bool (zeroB b)) ∧ W = w') := fun W => ref_nought b W hb
  have heq : ((a : Int) == (b : Int)) = decide (a = b) := by rw [Bool.eq_iff_iff]; simp; omega
  unfold equalB
  obtain ⟨n, hn⟩ : ∃ n, n = (nanB a || nanB b) := ⟨_, rfl⟩
  rw [← hn] at HANY ⊢
  generalize zeroB a = za at *
  generalize zeroB b = zb at *
  generalize decide (a = b) = q at *
  clear ha hb hn
  cases n <;> cases za <;> cases zb
  all_goals
    go_enter Tryd.func18, Tryd.ntmps18
    go_wp2_with (first | (go_at_call 48; refine (HANY.out _ _ (by go_simp) (by go_simp)).mono ?_; rintro e w' ⟨rfl, rfl⟩) | (go_at_call 49; with_reducible refine (HZA.out _).mono ?_; rintro e w' ⟨rfl, rfl⟩) | (go_at_call 49; with_reducible refine (HZB.out _).mono ?_; rintro e w' ⟨rfl, rfl⟩))
    go_ret
    exact ⟨rfl, HB1.out _⟩
end Go.Proofs.YtiimjbpfdidgcaaDoor

/- Walks: the document's answer for layer 7: Fused. -/
namespace Go.Proofs.YtiimjbpfdidgcaaDoor
open Go.RowKit

theorem term_small2 {M K : Nat} {e : Int} (h : M < 2^106) (he : e ≤ K) : M * 2^e.toNat < 2^(106 + K) := by
  rw [Nat.pow_add]
  exact Nat.mul_lt_mul_of_lt_of_le h (Nat.pow_le_pow_right (by decide) (by omega)) (Nat.two_pow_pos _)

set_option maxHeartbeats 4000000 in
set_option maxRecDepth 100000 in
theorem r7_fused (a b c R : Nat) (w : World) (ha : W64 a) (hb : W64 b) (hc : W64 c) (hR : fusFin a b c = true → Near 52 (fusT a b c).natAbs (2^LP) R) :
    Calls Tryd.prog 14 #[.int .u64 a, .int .u64 b, .int .u64 c] w fun e w' => e = .returned (.tuple #[.int .u64 (fusB a b c R : Nat), .int .i64 (fusX a b c R)]) ∧ Below w.heap.size w w' := by
  have HW : Hid (W64 a ∧ W64 b ∧ W64 c) := ⟨ha, hb, hc⟩
  have HANY : Hid (∀ W g, W.cell? ⟨g, 0, none⟩ = some (.int .u64 (a : Nat)) → W.cell? ⟨g, 1, none⟩ = some (.int .u64 (b : Nat)) → W.cell? ⟨g, 2, none⟩ = some (.int .u64 (c : Nat)) → Calls Tryd.prog 48 #[.slice (some ⟨g, 0, none⟩) 3 3] W fun e w' => e = .returned (.bool (nanB a || nanB b || nanB c)) ∧ W = w') := fun W g h0 h1 h2 => any3 a b c ha hb hc W g h0 h1 h2
  have HB1 : Hid (∀ F, Below w.heap.size w (w.alloc F)) := fun F => (Below.refl _ _).alloc (Nat.le_refl _) _
  have HIA : Hid (∀ W, Calls Tryd.prog 52 #[.int .u64 a] W fun e w' => e = .returned (.bool (infB a)) ∧ W = w') := fun W => r7_isinf a W HW.out.1
  have HIB : Hid (∀ W, Calls Tryd.prog 52 #[.int .u64 b] W fun e w' => e = .returned (.bool (infB b)) ∧ W = w') := fun W => r7_isinf b W HW.out.2.1
  have HIC : Hid (∀ W, Calls Tryd.prog 52 #[.int .u64 c] W fun e w' => e = .returned (.bool (infB c)) ∧ W = w') := fun W => r7_isinf c W HW.out.2.2
  have HZA : Hid (∀ W, Calls Tryd.prog 49 #[.int .u64 a] W fun e w' => e = .returned (.bool (zeroB a)) ∧ W = w') := fun W => ref_nought a W HW.out.1
  have HZB : Hid (∀ W, Calls Tryd.prog 49 #[.int .u64 b] W fun e w' => e = .returned (.bool (zeroB b)) ∧ W = w') := fun W => ref_nought b W HW.out.2.1
  have HUN : Hid (∀ W, Calls Tryd.prog 61 #[.int .u64 a, .int .u64 b] W fun e w' => e = .returned (.bool (sgnB a != sgnB b)) ∧ W = w') := fun W => r7_unlike a b W HW.out.1 HW.out.2.1
  have HSI : Hid (∀ W s, Calls Tryd.prog 53 #[.int .u64 9218868437227405312, .bool s] W fun e w' => e = .returned (.int .u64 (sgW s + 9218868437227405312 : Nat)) ∧ W = w') := fun W s => by
    have h := r7_signed 9218868437227405312 s W (by unfold W64; decide)
    cases s <;> exact h
  have hsc : (((sgnW c : Nat) : Int) != 0) = sgnB c := w_sgn c
  obtain ⟨u, hu⟩ : ∃ u, u = (sgnB a != sgnB b) := ⟨_, rfl⟩
  rw [← hu] at HUN
  obtain ⟨n, hn⟩ : ∃ n, n = (nanB a || nanB b || nanB c) := ⟨_, rfl⟩
  rw [← hn] at HANY
  cases n
  case true =>
    have hbad : fusBad a b c = true := by unfold fusBad; rw [← hn]; rfl
    have hf : fusFin a b c = false := by
      unfold fusFin
      rw [finB_eq, finB_eq, finB_eq]
      revert hn
      cases nanB a <;> cases nanB b <;> cases nanB c <;> simp
    have HE1 : Hid (fusB a b c R = theNaN) := by show _ = _; unfold fusB; rw [hbad]; rfl
    have HE2 : Hid (fusX a b c R = 0) := by show _ = _; unfold fusX; rw [hf]; rfl
    obtain ⟨ia, hia⟩ : ∃ z, z = infB a := ⟨_, rfl⟩
    rw [← hia] at HIA
    clear hn hR hu hbad hf hia ha hb hc hsc
    cases ia
    all_goals
      go_enter Tryd.func14, Tryd.ntmps14
      go_wp2_with (first | (go_at_call 48; refine (HANY.out _ _ (by go_simp) (by go_simp) (by go_simp)).mono ?_; rintro e w' ⟨rfl, rfl⟩) | (go_at_call 61; with_reducible refine (HUN.out _).mono ?_; rintro e w' ⟨rfl, rfl⟩) | (go_at_call 49; with_reducible refine (HZA.out _).mono ?_; rintro e w' ⟨rfl, rfl⟩) | (go_at_call 49; with_reducible refine (HZB.out _).mono ?_; rintro e w' ⟨rfl, rfl⟩) | (go_at_call 52; with_reducible refine (HIA.out _).mono ?_; rintro e w' ⟨rfl, rfl⟩) | (go_at_call 52; with_reducible refine (HIB.out _).mono ?_; rintro e w' ⟨rfl, rfl⟩))
      go_ret2
      exact ⟨by rw [HE1.out, HE2.out]; rfl, HB1.out _⟩
  case false =>
    have HN2 : Hid ((nanB a = false ∧ nanB b = false) ∧ nanB c = false) := by show _ ∧ _; rw [← Bool.or_eq_false_iff, ← Bool.or_eq_false_iff]; exact hn.symm
    cases hinf : infB a || infB b
    · obtain ⟨hia, hib⟩ : infB a = false ∧ infB b = false := by rw [← Bool.or_eq_false_iff]; exact hinf
      rw [hia] at HIA
      rw [hib] at HIB
      have hbad : fusBad a b c = false := by unfold fusBad; rw [← hn, hia, hib]; cases zeroB a <;> rfl
      cases hic : infB c
      · rw [hic] at HIC
        have fa : finB a = true := by rw [finB_eq, HN2.out.1.1, hia]; rfl
        have fb : finB b = true := by rw [finB_eq, HN2.out.1.2, hib]; rfl
        have fc : finB c = true := by rw [finB_eq, HN2.out.2, hic]; rfl
        have hf : fusFin a b c = true := by unfold fusFin; rw [fa, fb, fc]; rfl
        obtain ⟨k, hk⟩ : ∃ k, k = ((zeroB a || zeroB b) && u && decide (c = 9223372036854775808)) := ⟨_, rfl⟩
        obtain ⟨G, hG⟩ : ∃ G, min (spE a + spE b) (spE c) = G := ⟨_, rfl⟩
        have q1 := spE_range a
        have q2 := spE_range b
        have q3 := spE_range c
        obtain ⟨X, hX⟩ : ∃ X, X = spM a * spM b * 2^(spE a + spE b - G).toNat := ⟨_, rfl⟩
        obtain ⟨Y, hY⟩ : ∃ Y, Y = spM c * 2^(spE c - G).toNat := ⟨_, rfl⟩
        have hs0 : sumM (spS a != spS b) (spS c) X Y = 0 ↔ fusT a b c = 0 := fused_zero a b c fa fb fc hG hX hY
        have hs1 : fusT a b c ≠ 0 → sumS (spS a != spS b) (spS c) X Y = decide (fusT a b c < 0) := fused_sign a b c fa fb fc hG hX hY
        have hs2 := fused_near a b c R fa fb fc hG hX hY (hR hf)
        obtain ⟨K, hK⟩ : ∃ K : Nat, K = 5000 := ⟨_, rfl⟩
        have hMN : spM a * spM b < 2^106 := Nat.lt_of_lt_of_le (Nat.mul_lt_mul_of_lt_of_le (spM_lt a) (Nat.le_of_lt (spM_lt b)) (by decide)) (by decide)
        have hXs : X < 2^(106 + K) := by rw [hX]; exact term_small2 hMN (by omega)
        have hYs : Y < 2^(106 + K) := by rw [hY]; exact term_small2 (Nat.lt_trans (spM_lt c) (by decide)) (by omega)
        have hSUM : ∀ W v v', Term W v (spS a != spS b) (spM a * spM b) (spE a + spE b) → Term W v' (spS c) (spM c) (spE c) → Calls Tryd.prog 63 #[v, v'] W (TermQ (sumS (spS a != spS b) (spS c) X Y) (sumM (spS a != spS b) (spS c) X Y) G W) := fun W v v' h h' => by
          have := r7_sum v v' _ _ _ _ _ _ _ W h h' (bb := 106) hMN (Nat.lt_trans (spM_lt c) (by decide)) (by decide) (by omega) (by omega) hG
          rw [← hX, ← hY] at this
          exact this
        have hS := sumM_small (spS a != spS b) (spS c) hXs hYs
        obtain ⟨s, hs⟩ : ∃ s, s = sumS (spS a != spS b) (spS c) X Y := ⟨_, rfl⟩
        obtain ⟨m, hm⟩ : ∃ m, m = sumM (spS a != spS b) (spS c) X Y := ⟨_, rfl⟩
        rw [← hs] at hs1 hSUM
        rw [← hm] at hs0 hs2 hSUM hS
        have HPR : Hid (∀ W v v', Term W v (spS a) (spM a) (spE a) → Term W v' (spS b) (spM b) (spE b) → Calls Tryd.prog 64 #[v, v'] W (TermQ (spS a != spS b) (spM a * spM b) (spE a + spE b) W)) := fun W v v' h h' =>
          r7_product v v' _ _ _ _ _ _ W h h' (bb := 53) (spM_lt a) (spM_lt b) (by decide) (by omega) (by omega)
        have HSUM : Hid (∀ W v v', Term W v (spS a != spS b) (spM a * spM b) (spE a + spE b) → Term W v' (spS c) (spM c) (spE c) → Calls Tryd.prog 63 #[v, v'] W (TermQ s m G W)) := hSUM
        have HOA : Hid (∀ W, Calls Tryd.prog 54 #[.int .u64 a] W (TermQ (spS a) (spM a) (spE a) W)) := fun W => r7_of a W HW.out.1
        have HOB : Hid (∀ W, Calls Tryd.prog 54 #[.int .u64 b] W (TermQ (spS b) (spM b) (spE b) W)) := fun W => r7_of b W HW.out.2.1
        have HOC : Hid (∀ W, Calls Tryd.prog 54 #[.int .u64 c] W (TermQ (spS c) (spM c) (spE c) W)) := fun W => r7_of c W HW.out.2.2
        have HE1 : Hid (fusB a b c R = if k then 9223372036854775808 else if m = 0 then 0 else resB s R) := by
          show _ = _; unfold fusB; simp only [hbad, hia, hib, hic, Bool.or_self, Bool.false_eq_true, if_false, ← hu, ← hk]
          cases k
          · simp only [Bool.false_eq_true, if_false]
            by_cases h0 : m = 0
            · rw [if_pos h0, if_pos (hs0.1 h0)]
            · rw [if_neg h0, if_neg (mt hs0.2 h0), hs1 (mt hs0.2 h0)]
          · rfl
        have HE2 : Hid (fusX a b c R = if m = 0 then 0 else resX R) := by
          show _ = _; unfold fusX; rw [hf]; simp only [Bool.not_true, Bool.false_eq_true, if_false]
          by_cases h0 : m = 0
          · rw [if_pos h0, if_pos (hs0.1 h0)]
          · rw [if_neg h0, if_neg (mt hs0.2 h0)]
        have HK2 : Hid (k = true → m = 0) := fun hk2 => hs0.2 (by
          rw [hk] at hk2
          have hz2 : ((zeroB a || zeroB b) = true ∧ u = true) ∧ c = 9223372036854775808 := by simpa [Bool.and_eq_true] using hk2
          unfold fusT
          have v0 : ∀ x, zeroB x = true → valB x = 0 := fun x h => by
            unfold zeroB at h
            have : absB x = 0 := by simpa using h
            unfold valB; rw [this, rv_zero]; simp
          rw [hz2.2, v0 9223372036854775808 (by decide), Int.zero_mul, Int.add_zero, Int.mul_eq_zero]
          have h9 := hz2.1.1
          rw [Bool.or_eq_true] at h9
          rcases h9 with h | h
          · exact .inl (v0 a h)
          · exact .inr (v0 b h))
        have HTOLD : Hid (k = false → ∀ W v, Term W v s m G → Calls Tryd.prog 62 #[v, .int .u64 0] W fun e w' => e = .returned (.tuple #[.int .u64 (fusB a b c R : Nat), .int .i64 (fusX a b c R)]) ∧ Below W.heap.size W w') := fun hk2 W v h => by
          have := told_any s v m 0 G W h hS (by omega) (by omega) (by omega) (by omega) hs2
          unfold ToldQ at this
          have e1 := HE1.out
          rw [hk2] at e1
          simp only [Bool.false_eq_true, if_false] at e1
          rw [← e1, ← HE2.out] at this
          exact this
        have heq : ((c : Int) == 9223372036854775808) = decide (c = 9223372036854775808) := by rw [Bool.eq_iff_iff]; simp; omega
        obtain ⟨q, hq⟩ : ∃ q, q = decide (c = 9223372036854775808) := ⟨_, rfl⟩
        rw [← hq] at hk heq
        obtain ⟨za, hza⟩ : ∃ z, z = zeroB a := ⟨_, rfl⟩
        obtain ⟨zb, hzb⟩ : ∃ z, z = zeroB b := ⟨_, rfl⟩
        rw [← hza] at hk HZA
        rw [← hzb] at hk HZB
        have HKK : Hid (k = ((za || zb) && u && q)) := hk
        clear hu hR hia hib hic fa fb fc hf hbad hG q1 q2 q3 hs0 hs1 hs2 hSUM hX hY hXs hYs hMN hS hs hm hK hinf hn hq hza hzb hk hsc ha hb hc
        cases za
        all_goals
          go_enter Tryd.func14, Tryd.ntmps14
          go_upto_region 14 with (first | (go_at_call 48; refine (HANY.out _ _ (by go_simp) (by go_simp) (by go_simp)).mono ?_; rintro e w' ⟨rfl, rfl⟩) | (go_at_call 61; with_reducible refine (HUN.out _).mono ?_; rintro e w' ⟨rfl, rfl⟩) | (go_at_call 49; with_reducible refine (HZA.out _).mono ?_; rintro e w' ⟨rfl, rfl⟩) | (go_at_call 49; with_reducible refine (HZB.out _).mono ?_; rintro e w' ⟨rfl, rfl⟩) | (go_at_call 52; with_reducible refine (HIA.out _).mono ?_; rintro e w' ⟨rfl, rfl⟩) | (go_at_call 52; with_reducible refine (HIB.out _).mono ?_; rintro e w' ⟨rfl, rfl⟩) | (go_at_call 52; with_reducible refine (HIC.out _).mono ?_; rintro e w' ⟨rfl, rfl⟩))
          have hb0 := HB1.out (.cells #[.int .u64 a, .int .u64 b, .int .u64 c] 22)
          generalize w.alloc (.cells #[.int .u64 a, .int .u64 b, .int .u64 c] 22) = w1 at *
          go_cut [68] (fun v wx => v = .bool k ∧ wx = w1)
          case first => as_aux_lemma =>
            have hkk := HKK.out
            cases zb <;> cases u <;> cases q <;> subst hkk
            all_goals
              go_wp2
              go_meet
              exact ⟨rfl, rfl⟩
          case rest =>
          obtain ⟨rfl, rfl⟩ := hcut
          cases k
          · have HT := HTOLD.out rfl
            have HTT : Hid _ := HT
            clear HT
            go_wp2_with fail
            refine (HOA.out _).mono ?_
            rintro e w1 ⟨va, rfl, hta, hba⟩
            go_wp2_with fail
            refine (HOB.out _).mono ?_
            rintro e w2 ⟨vb, rfl, htb, hbb⟩
            go_wp2_with fail
            refine (HPR.out _ _ _ (hta.below (Nat.le_refl _) hbb) htb).mono ?_
            rintro e w3 ⟨vp, rfl, htp, hbp⟩
            go_wp2_with fail
            refine (HOC.out _).mono ?_
            rintro e w4 ⟨vc, rfl, htc, hbc⟩
            go_wp2_with fail
            refine (HSUM.out _ _ _ (htp.below (Nat.le_refl _) hbc) htc).mono ?_
            rintro e w5 ⟨vs, rfl, hts, hbs⟩
            go_wp2_with fail
            refine (HTT.out _ _ hts).mono ?_
            rintro e w6 ⟨rfl, hb6⟩
            go_wp2
            go_ret2
            exact ⟨rfl, (((((hb0.thru hba).thru hbb).thru hbp).thru hbc).thru hbs).thru hb6⟩
          · go_wp2
            go_ret2
            exact ⟨by rw [HE1.out, HE2.out, HK2.out (by simp)]; rfl, hb0⟩
      · rw [hic] at HIC
        have HE1 : Hid (fusB a b c R = c) := by show _ = _; unfold fusB; simp only [hbad, hia, hib, hic, Bool.or_self, Bool.false_eq_true, if_false, if_true]
        have HE2 : Hid (fusX a b c R = 0) := by
          have hf : fusFin a b c = false := by unfold fusFin; rw [finB_eq c, hic, HN2.out.2]; simp
          show _ = _; unfold fusX; rw [hf]; rfl
        obtain ⟨za, hza⟩ : ∃ z, z = zeroB a := ⟨_, rfl⟩
        rw [← hza] at HZA
        clear hu hR hia hib hic hbad hinf hn hza hsc ha hb hc
        cases za
        all_goals
          go_enter Tryd.func14, Tryd.ntmps14
          go_wp2_with (first | (go_at_call 48; refine (HANY.out _ _ (by go_simp) (by go_simp) (by go_simp)).mono ?_; rintro e w' ⟨rfl, rfl⟩) | (go_at_call 61; with_reducible refine (HUN.out _).mono ?_; rintro e w' ⟨rfl, rfl⟩) | (go_at_call 49; with_reducible refine (HZA.out _).mono ?_; rintro e w' ⟨rfl, rfl⟩) | (go_at_call 49; with_reducible refine (HZB.out _).mono ?_; rintro e w' ⟨rfl, rfl⟩) | (go_at_call 52; with_reducible refine (HIA.out _).mono ?_; rintro e w' ⟨rfl, rfl⟩) | (go_at_call 52; with_reducible refine (HIB.out _).mono ?_; rintro e w' ⟨rfl, rfl⟩) | (go_at_call 52; with_reducible refine (HIC.out _).mono ?_; rintro e w' ⟨rfl, rfl⟩))
          go_ret2
          exact ⟨by rw [HE1.out, HE2.out]; rfl, HB1.out _⟩
    · have hf : fusFin a b c = false := by
        unfold fusFin
        rw [finB_eq a, finB_eq b, HN2.out.1.1, HN2.out.1.2]
        revert hinf
        cases infB a <;> cases infB b <;> simp
      have HE2 : Hid (fusX a b c R = 0) := by show _ = _; unfold fusX; rw [hf]; rfl
      have HE1 : Hid (fusB a b c R = if (infB a && zeroB b || zeroB a && infB b) || (infB c && (u != sgnB c)) then theNaN else sgW u + 9218868437227405312) := by
        show _ = _; unfold fusB fusBad; rw [← hn, hinf, ← hu]
        simp only [Bool.false_or, Bool.true_and, if_true]
      clear hR hu hn HN2 HW hf ha hb
      obtain ⟨ia, hia⟩ : ∃ z, z = infB a := ⟨_, rfl⟩
      obtain ⟨ib, hib⟩ : ∃ z, z = infB b := ⟨_, rfl⟩
      obtain ⟨ic, hic⟩ : ∃ z, z = infB c := ⟨_, rfl⟩
      obtain ⟨za, hza⟩ : ∃ z, z = zeroB a := ⟨_, rfl⟩
      obtain ⟨zb, hzb⟩ : ∃ z, z = zeroB b := ⟨_, rfl⟩
      obtain ⟨sc, hscc⟩ : ∃ z, sgnB c = z := ⟨_, rfl⟩
      rw [← hia] at HIA HE1 hinf
      rw [← hib] at HIB HE1 hinf
      rw [← hic] at HIC HE1
      rw [← hza] at HZA HE1
      rw [← hzb] at HZB HE1
      rw [hscc] at HE1
      clear hia hib hic hza hzb hsc
      cases ia <;> cases ib
      case false.false => cases hinf
      all_goals
        clear hinf
        cases za <;> cases zb <;> cases ic
      all_goals cases u <;> cases sc
      all_goals
        go_enter Tryd.func14, Tryd.ntmps14
        go_wp2_with (first | (go_at_call 48; refine (HANY.out _ _ (by go_simp) (by go_simp) (by go_simp)).mono ?_; rintro e w' ⟨rfl, rfl⟩) | (go_at_call 61; with_reducible refine (HUN.out _).mono ?_; rintro e w' ⟨rfl, rfl⟩) | (go_at_call 49; with_reducible refine (HZA.out _).mono ?_; rintro e w' ⟨rfl, rfl⟩) | (go_at_call 49; with_reducible refine (HZB.out _).mono ?_; rintro e w' ⟨rfl, rfl⟩) | (go_at_call 52; with_reducible refine (HIA.out _).mono ?_; rintro e w' ⟨rfl, rfl⟩) | (go_at_call 52; with_reducible refine (HIB.out _).mono ?_; rintro e w' ⟨rfl, rfl⟩) | (go_at_call 52; with_reducible refine (HIC.out _).mono ?_; rintro e w' ⟨rfl, rfl⟩) | (go_at_call 53; with_reducible refine (HSI.out _ _).mono ?_; rintro e w' ⟨rfl, rfl⟩))
        go_ret2
        exact ⟨by rw [HE1.out, HE2.out]; rfl, HB1.out _⟩
end Go.Proofs.YtiimjbpfdidgcaaDoor
