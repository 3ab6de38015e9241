/- Parts Rh, Ri of the proof, in one text. -/
import Derived.Test.YtiimjbpfdidgcaaDoorHZ
import Derived.Test.YtiimjbpfdidgcaaDoorHY

/- Walks: the document's answer for layer 7: anyNaN, Neg, Add, Sub, Mul. -/
namespace Go.Proofs.YtiimjbpfdidgcaaDoor
open Go.RowKit

def flipB (b : Nat) : Nat := if sgnB b then absB b else b + 9223372036854775808
theorem flip_D (b : Nat) (h : W64 b) : Go.Op.negFloat .f64 b = flipB b := negFloat_D b h
theorem flip_W (b : Nat) (h : W64 b) : W64 (flipB b) := by
  unfold flipB; split
  · exact absB_W b
  · rename_i hs; unfold sgnB at hs; unfold W64 at *; simp at hs; omega
theorem flip_abs (b : Nat) : absB (flipB b) = absB b := by
  unfold flipB; split
  · exact absB_abs b
  · unfold absB; omega
theorem flip_sgn (b : Nat) : sgnB (flipB b) = !sgnB b := by
  unfold flipB
  cases hs : sgnB b
  · unfold sgnB at *; simp at hs ⊢
  · simp [sgnB_abs]
theorem flip_nan (b : Nat) : nanB (flipB b) = nanB b := by unfold nanB; rw [flip_abs b]
theorem w_xor_sign (b : Nat) (h : W64 b) : Go.bits .xor .u64 (b : Int) 9223372036854775808 = ((flipB b : Nat) : Int) := by
  rw [show (9223372036854775808 : Int) = ((9223372036854775808 : Nat) : Int) from rfl, Go.u64_xor_nat b _ h (by decide), ← flip_D b h]
  rfl

set_option maxRecDepth 100000 in
theorem r7_anynan (xs : List Nat) (b n c : Nat) (w : World) (hl : xs.length = n) (hc : ∀ i, i < n → w.cell? ⟨b, i, none⟩ = some (.int .u64 (xs.getD i 0 : Nat))) (hx : ∀ x ∈ xs, W64 x) (hn : n ≤ c) (hcc : c ≤ 9223372036854775807) :
    Calls Tryd.prog 48 #[.slice (some ⟨b, 0, none⟩) n c] w fun e w' => e = .returned (.bool (xs.any nanB)) ∧ w = w' := by
  have HX : Hid (∀ i, i < n → W64 (xs.getD i 0)) := fun i hi => hx _ (by rw [List.getD_eq_getElem?_getD, List.getElem?_eq_getElem (by omega)]; exact List.getElem_mem _)
  have HC : Hid (∀ i, i < n → w.cell? ⟨b, i, none⟩ = some (.int .u64 (xs.getD i 0 : Nat))) := hc
  clear hx hc
  go_enter Tryd.func48, Tryd.ntmps48
  go_wp2
  go_loop [3] (fun v => ∃ k : Nat, k ≤ n ∧ v = .int .i64 (k : Nat) ∧ (xs.take k).any nanB = false) (fun v => n - (intOf v).toNat)
  case atStart => exact ⟨0, by omega, rfl, by simp⟩
  case round =>
    obtain ⟨k, hk, rfl, hd⟩ := hrel
    rcases Nat.lt_or_ge k n with hlt | hge
    · have hcl := HC.out k hlt
      obtain ⟨x, hxe⟩ : ∃ x, x = xs.getD k 0 := ⟨_, rfl⟩
      have hw := HX.out k hlt
      rw [← hxe] at hcl hw
      have htk : xs.take (k + 1) = xs.take k ++ [x] := by
        rw [List.take_succ_eq_append_getElem (by omega), hxe, List.getD_eq_getElem?_getD, List.getElem?_eq_getElem (by omega)]; rfl
      clear hxe
      cases hnx : nanB x
      · go_wp2_with (go_at_call 67; refine (ref_isnan x _ hw).mono ?_; rintro e w' ⟨rfl, rfl⟩)
        go_round
        case rel => exact ⟨k + 1, by omega, by simp, by rw [htk, List.any_append, hd]; simp [hnx]⟩
        case measure => simp [intOf]; omega
      · go_wp2_with (go_at_call 67; refine (ref_isnan x _ hw).mono ?_; rintro e w' ⟨rfl, rfl⟩)
        go_ret
        refine ⟨?_, rfl⟩
        have : xs.any nanB = true := by
          rw [← List.take_append_drop (k + 1) xs, List.any_append, htk, List.any_append]; simp [hnx]
        rw [this]; rfl
    · obtain rfl : k = n := by omega
      rw [List.take_of_length_le (by omega)] at hd
      go_wp2
      go_ret
      exact ⟨rfl, rfl⟩

def negR (b : Nat) : Nat := if nanB b then theNaN else flipB b
theorem negR_W (b : Nat) (h : W64 b) : W64 (negR b) := by
  unfold negR
  split
  · unfold W64 theNaN; decide
  · exact flip_W b h

theorem r7_neg (b : Nat) (w : World) (hb : W64 b) :
    Calls Tryd.prog 26 #[.int .u64 b] w fun e w' => e = .returned (.int .u64 (negR b : Nat)) ∧ w = w' := by
  have hx := w_xor_sign b hb
  unfold negR
  cases h : nanB b
  all_goals
    go_enter Tryd.func26, Tryd.ntmps26
    go_wp2_with (go_at_call 67; refine (ref_isnan b _ hb).mono ?_; rintro e w' ⟨rfl, rfl⟩)
    go_ret
    exact ⟨rfl, rfl⟩

theorem Term.below {w w' : World} {v : Value} {neg : Bool} {M : Nat} {E : Int} (h : Term w v neg M E) {B : Nat} (hB : w.heap.size ≤ B) (hb : Below B w w') : Term w' v neg M E := by
  obtain ⟨s, rfl, h1⟩ := h
  exact ⟨s, rfl, h1.below hB hb⟩

theorem term_small {M K : Nat} {e : Int} (h : M < 2^53) (he : e ≤ K) : M * 2^e.toNat < 2^(53 + K) := by
  rw [Nat.pow_add]
  exact Nat.mul_lt_mul_of_lt_of_le h (Nat.pow_le_pow_right (by decide) (by omega)) (Nat.two_pow_pos _)
theorem sumM_small (na nb : Bool) {X Y B : Nat} (hX : X < 2^B) (hY : Y < 2^B) : sumM na nb X Y < 2^(B + 1) := by
  have : sumM na nb X Y ≤ X + Y := by unfold sumM; split; omega; split <;> omega
  rw [Nat.pow_succ]
  generalize 2^B = K at *
  omega

/-- Two numbers of which a sum is no number. -/
def addBad (a b : Nat) : Bool := nanB a || nanB b || (infB a && infB b && (sgnB a != sgnB b))
def addB (a b R : Nat) : Nat := if addBad a b then theNaN else if infB a then a else if infB b then b else if a = 9223372036854775808 ∧ b = 9223372036854775808 then 9223372036854775808 else if valB a + valB b = 0 then 0 else resB (decide (valB a + valB b < 0)) R
def addX (a b R : Nat) : Int := if addBad a b || infB a || infB b then 0 else if valB a + valB b = 0 then 0 else resX R

set_option maxHeartbeats 1000000 in
set_option maxRecDepth 100000 in
theorem r7_add (a b R : Nat) (w : World) (ha : W64 a) (hb : W64 b) (hR : finB a = true → finB b = true → Near 52 (valB a + valB b).natAbs 1 R) :
    Calls Tryd.prog 20 #[.int .u64 a, .int .u64 b] w fun e w' => e = .returned (.tuple #[.int .u64 (addB a b R : Nat), .int .i64 (addX a b R)]) ∧ Below w.heap.size w w' := by
  have HW : Hid (W64 a ∧ W64 b) := ⟨ha, hb⟩
  have HANY : Hid (∀ W g, W.cell? ⟨g, 0, none⟩ = some (.int .u64 (a : Nat)) → W.cell? ⟨g, 1, none⟩ = some (.int .u64 (b : Nat)) → Calls Tryd.prog 48 #[.slice (some ⟨g, 0, none⟩) 2 2] W fun e w' => e = .returned (.bool (nanB a || nanB b)) ∧ W = w') := fun W g h0 h1 => by
    refine (r7_anynan [a, b] g 2 2 W rfl ?_ ?_ (Nat.le_refl _) (by decide)).mono ?_
    · intro i hi
      match i, hi with
      | 0, _ => exact h0
      | 1, _ => exact h1
    · intro x hx
      simp at hx
      rcases hx with rfl | rfl
      · exact ha
      · exact hb
    · rintro e w' ⟨rfl, rfl⟩
      exact ⟨by simp, rfl⟩
  have HB1 : Hid (∀ F, Below w.heap.size w (w.alloc F)) := fun F => (Below.refl _ _).alloc (Nat.le_refl _) _
  clear ha hb
  obtain ⟨n, hn⟩ : ∃ n, n = (nanB a || nanB b) := ⟨_, rfl⟩
  rw [← hn] at HANY
  cases n
  case true =>
    have HE1 : Hid (addB a b R = theNaN) := by show _ = _; unfold addB addBad; rw [← hn]; rfl
    have HE2 : Hid (addX a b R = 0) := by show _ = _; unfold addX addBad; rw [← hn]; rfl
    clear hn hR
    go_enter Tryd.func20, Tryd.ntmps20
    go_wp2_with (go_at_call 48; refine (HANY.out _ _ (by go_simp) (by go_simp)).mono ?_; rintro e w' ⟨rfl, rfl⟩)
    go_ret2
    exact ⟨by rw [HE1.out, HE2.out]; rfl, HB1.out _⟩
  case false =>
    have hna : nanB a = false ∧ nanB b = false := by rw [← Bool.or_eq_false_iff]; exact hn.symm
    have HIA : Hid (∀ W, Calls Tryd.prog 52 #[.int .u64 a] W fun e w' => e = .returned (.bool (infB a)) ∧ W = w') := fun W => r7_isinf a W HW.out.1
    have HIB : Hid (∀ W, Calls Tryd.prog 52 #[.int .u64 b] W fun e w' => e = .returned (.bool (infB b)) ∧ W = w') := fun W => r7_isinf b W HW.out.2
    have HUN : Hid (∀ W, Calls Tryd.prog 61 #[.int .u64 a, .int .u64 b] W fun e w' => e = .returned (.bool (sgnB a != sgnB b)) ∧ W = w') := fun W => r7_unlike a b W HW.out.1 HW.out.2
    have HN2 : Hid (nanB a = false ∧ nanB b = false) := hna
    clear hn hna
    obtain ⟨u, hu⟩ : ∃ u, u = (sgnB a != sgnB b) := ⟨_, rfl⟩
    rw [← hu] at HUN
    cases hia : infB a
    · rw [hia] at HIA
      cases hib : infB b
      · rw [hib] at HIB
        have fa : finB a = true := by rw [finB_eq, HN2.out.1, hia]; rfl
        have fb : finB b = true := by rw [finB_eq, HN2.out.2, hib]; rfl
        have hbad : addBad a b = false := by unfold addBad; rw [HN2.out.1, HN2.out.2, hia]; rfl
        by_cases hz : a = 9223372036854775808 ∧ b = 9223372036854775808
        · have HE1 : Hid (addB a b R = 9223372036854775808) := by show _ = _; unfold addB; simp only [hbad, hia, hib, Bool.false_eq_true, if_false]; exact if_pos hz
          have HE2 : Hid (addX a b R = 0) := by
            have h0 : spM a = 0 := (spM_nought _ fa).2 (by rw [hz.1]; decide)
            have h1 : spM b = 0 := (spM_nought _ fb).2 (by rw [hz.2]; decide)
            have h2 : valB a + valB b = 0 := by rw [valB_sp _ fa, h0, valB_sp _ fb, h1, Nat.zero_mul, Nat.zero_mul]; cases spS a <;> cases spS b <;> rfl
            show _ = _; unfold addX; simp only [hbad, hia, hib, h2, if_true, ite_self]
          have e1 : ((a : Int) == 9223372036854775808) = true := by rw [hz.1]; rfl
          have e2 : ((b : Int) == 9223372036854775808) = true := by rw [hz.2]; rfl
          clear hu hR hia hib fa fb hbad hz
          go_enter Tryd.func20, Tryd.ntmps20
          go_wp2_with (first | (go_at_call 48; refine (HANY.out _ _ (by go_simp) (by go_simp)).mono ?_; rintro e w' ⟨rfl, rfl⟩) | (go_at_call 52; with_reducible refine (HIA.out _).mono ?_; rintro e w' ⟨rfl, rfl⟩) | (go_at_call 52; with_reducible refine (HIB.out _).mono ?_; rintro e w' ⟨rfl, rfl⟩))
          go_ret2
          exact ⟨by rw [HE1.out, HE2.out]; rfl, HB1.out _⟩
        · obtain ⟨G, hG⟩ : ∃ G, min (spE a) (spE b) = G := ⟨_, rfl⟩
          have q1 := spE_range a
          have q2 := spE_range b
          have hs0 := sum_zero a b fa fb hG
          have hs1 := sum_sign a b fa fb hG
          have hs2 := sum_near a b R fa fb hG (hR fa fb)
          have hSUM : ∀ W v v', Term W v (spS a) (spM a) (spE a) → Term W v' (spS b) (spM b) (spE b) → Calls Tryd.prog 63 #[v, v'] W (TermQ (sumS (spS a) (spS b) (spM a * 2 ^ (spE a - G).toNat) (spM b * 2 ^ (spE b - G).toNat)) (sumM (spS a) (spS b) (spM a * 2 ^ (spE a - G).toNat) (spM b * 2 ^ (spE b - G).toNat)) G W) := fun W v v' h h' =>
            r7_sum v v' _ _ _ _ _ _ _ W h h' (bb := 53) (spM_lt a) (spM_lt b) (by decide) (by omega) (by omega) hG
          obtain ⟨K, hK⟩ : ∃ K : Nat, K = 2046 := ⟨_, rfl⟩
          have hX := term_small (K := K) (spM_lt a) (show spE a - G ≤ K by omega)
          have hY := term_small (K := K) (spM_lt b) (show spE b - G ≤ K by omega)
          generalize spM a * 2 ^ (spE a - G).toNat = X at *
          generalize spM b * 2 ^ (spE b - G).toNat = Y at *
          have hS := sumM_small (spS a) (spS b) hX hY
          obtain ⟨s, hs⟩ : ∃ s, s = sumS (spS a) (spS b) X Y := ⟨_, rfl⟩
          obtain ⟨m, hm⟩ : ∃ m, m = sumM (spS a) (spS b) X Y := ⟨_, rfl⟩
          rw [← hs] at hs1 hSUM
          rw [← hm] at hs0 hs2 hSUM hS
          have HSUM : Hid (∀ W v v', Term W v (spS a) (spM a) (spE a) → Term W v' (spS b) (spM b) (spE b) → Calls Tryd.prog 63 #[v, v'] W (TermQ s m G W)) := hSUM
          have HOA : Hid (∀ W, Calls Tryd.prog 54 #[.int .u64 a] W (TermQ (spS a) (spM a) (spE a) W)) := fun W => r7_of a W HW.out.1
          have HOB : Hid (∀ W, Calls Tryd.prog 54 #[.int .u64 b] W (TermQ (spS b) (spM b) (spE b) W)) := fun W => r7_of b W HW.out.2
          have HE1 : Hid ((if m = 0 then 0 else resB s R) = addB a b R) := by
            show _ = _; unfold addB; simp only [hbad, hia, hib, hz, Bool.false_eq_true, if_false]
            by_cases h0 : m = 0
            · rw [if_pos h0, if_pos (hs0.1 h0)]
            · rw [if_neg h0, if_neg (mt hs0.2 h0), hs1 (mt hs0.2 h0)]
          have HE2 : Hid ((if m = 0 then 0 else resX R) = addX a b R) := by
            show _ = _; unfold addX; simp only [hbad, hia, hib, Bool.or_self, Bool.false_eq_true, if_false]
            by_cases h0 : m = 0
            · rw [if_pos h0, if_pos (hs0.1 h0)]
            · rw [if_neg h0, if_neg (mt hs0.2 h0)]
          have HTOLD : Hid (∀ W v, Term W v s m G → Calls Tryd.prog 62 #[v, .int .u64 0] W fun e w' => e = .returned (.tuple #[.int .u64 (addB a b R : Nat), .int .i64 (addX a b R)]) ∧ Below W.heap.size W w') := fun W v h => by
            have := told_any s v m 0 G W h hS (by omega) (by omega) (by omega) (by omega) hs2
            unfold ToldQ at this
            rw [HE1.out, HE2.out] at this
            exact this
          have hz2 : (((a : Int) == 9223372036854775808) = false) ∨ (((a : Int) == 9223372036854775808) = true ∧ ((b : Int) == 9223372036854775808) = false) := by
            rw [beq_eq_false_iff_ne, beq_eq_false_iff_ne, beq_iff_eq]; omega
          clear hu hR hia hib fa fb hbad hz hG q1 q2 hs0 hs1 hs2 hSUM hX hY hS hs hm HE1 HE2 hK HN2 HW HUN
          rcases hz2 with e1 | ⟨e1, e2⟩
          all_goals
            go_enter Tryd.func20, Tryd.ntmps20
            go_wp2_with (first | (go_at_call 48; refine (HANY.out _ _ (by go_simp) (by go_simp)).mono ?_; rintro e w' ⟨rfl, rfl⟩) | (go_at_call 52; with_reducible refine (HIA.out _).mono ?_; rintro e w' ⟨rfl, rfl⟩) | (go_at_call 52; with_reducible refine (HIB.out _).mono ?_; rintro e w' ⟨rfl, rfl⟩))
            refine (HOA.out _).mono ?_
            rintro e w1 ⟨va, rfl, hta, hba⟩
            go_wp2_with fail
            refine (HOB.out _).mono ?_
            rintro e w2 ⟨vb, rfl, htb, hbb⟩
            go_wp2_with fail
            refine (HSUM.out _ _ _ (hta.below (Nat.le_refl _) hbb) htb).mono ?_
            rintro e w3 ⟨vs, rfl, hts, hbs⟩
            go_wp2_with fail
            refine (HTOLD.out _ _ hts).mono ?_
            rintro e w4 ⟨rfl, hb4⟩
            go_wp2
            go_ret2
            exact ⟨rfl, ((((HB1.out _).thru hba).thru hbb).thru hbs).thru hb4⟩
      · rw [hib] at HIB
        have hbad : addBad a b = false := by unfold addBad; rw [HN2.out.1, HN2.out.2, hia]; rfl
        have HE1 : Hid (addB a b R = b) := by show _ = _; unfold addB; simp only [hbad, hia, hib, Bool.false_eq_true, if_false, if_true]
        have HE2 : Hid (addX a b R = 0) := by show _ = _; unfold addX; simp only [hbad, hia, hib, Bool.or_true, if_true]
        clear hu hR hia hib hbad
        go_enter Tryd.func20, Tryd.ntmps20
        go_wp2_with (first | (go_at_call 48; refine (HANY.out _ _ (by go_simp) (by go_simp)).mono ?_; rintro e w' ⟨rfl, rfl⟩) | (go_at_call 52; with_reducible refine (HIA.out _).mono ?_; rintro e w' ⟨rfl, rfl⟩) | (go_at_call 52; with_reducible refine (HIB.out _).mono ?_; rintro e w' ⟨rfl, rfl⟩))
        go_ret2
        exact ⟨by rw [HE1.out, HE2.out]; rfl, HB1.out _⟩
    · rw [hia] at HIA
      cases hib : infB b
      · rw [hib] at HIB
        have hbad : addBad a b = false := by unfold addBad; rw [HN2.out.1, HN2.out.2, hia, hib]; rfl
        have HE1 : Hid (addB a b R = a) := by show _ = _; unfold addB; simp only [hbad, hia, Bool.false_eq_true, if_false, if_true]
        have HE2 : Hid (addX a b R = 0) := by show _ = _; unfold addX; simp only [hbad, hia, Bool.or_true, Bool.true_or, if_true]
        clear hu hR hia hib hbad
        go_enter Tryd.func20, Tryd.ntmps20
        go_wp2_with (first | (go_at_call 48; refine (HANY.out _ _ (by go_simp) (by go_simp)).mono ?_; rintro e w' ⟨rfl, rfl⟩) | (go_at_call 52; with_reducible refine (HIA.out _).mono ?_; rintro e w' ⟨rfl, rfl⟩) | (go_at_call 52; with_reducible refine (HIB.out _).mono ?_; rintro e w' ⟨rfl, rfl⟩))
        go_ret2
        exact ⟨by rw [HE1.out, HE2.out]; rfl, HB1.out _⟩
      · rw [hib] at HIB
        cases u
        · have hbad : addBad a b = false := by unfold addBad; rw [HN2.out.1, HN2.out.2, hia, hib, ← hu]; rfl
          have HE1 : Hid (addB a b R = a) := by show _ = _; unfold addB; simp only [hbad, hia, Bool.false_eq_true, if_false, if_true]
          have HE2 : Hid (addX a b R = 0) := by show _ = _; unfold addX; simp only [hbad, hia, Bool.or_true, Bool.true_or, if_true]
          clear hu hR hia hib hbad
          go_enter Tryd.func20, Tryd.ntmps20
          go_wp2_with (first | (go_at_call 48; refine (HANY.out _ _ (by go_simp) (by go_simp)).mono ?_; rintro e w' ⟨rfl, rfl⟩) | (go_at_call 52; with_reducible refine (HIA.out _).mono ?_; rintro e w' ⟨rfl, rfl⟩) | (go_at_call 52; with_reducible refine (HIB.out _).mono ?_; rintro e w' ⟨rfl, rfl⟩) | (go_at_call 61; with_reducible refine (HUN.out _).mono ?_; rintro e w' ⟨rfl, rfl⟩))
          go_ret2
          exact ⟨by rw [HE1.out, HE2.out]; rfl, HB1.out _⟩
        · have hbad : addBad a b = true := by unfold addBad; rw [HN2.out.1, HN2.out.2, hia, hib, ← hu]; rfl
          have HE1 : Hid (addB a b R = theNaN) := by show _ = _; unfold addB; simp only [hbad, if_true]
          have HE2 : Hid (addX a b R = 0) := by show _ = _; unfold addX; simp only [hbad, Bool.true_or, if_true]
          clear hu hR hia hib hbad
          go_enter Tryd.func20, Tryd.ntmps20
          go_wp2_with (first | (go_at_call 48; refine (HANY.out _ _ (by go_simp) (by go_simp)).mono ?_; rintro e w' ⟨rfl, rfl⟩) | (go_at_call 52; with_reducible refine (HIA.out _).mono ?_; rintro e w' ⟨rfl, rfl⟩) | (go_at_call 52; with_reducible refine (HIB.out _).mono ?_; rintro e w' ⟨rfl, rfl⟩) | (go_at_call 61; with_reducible refine (HUN.out _).mono ?_; rintro e w' ⟨rfl, rfl⟩))
          go_ret2
          exact ⟨by rw [HE1.out, HE2.out]; rfl, HB1.out _⟩

theorem r7_sub (a b R : Nat) (w : World) (ha : W64 a) (hb : W64 b) (hR : finB a = true → finB (negR b) = true → Near 52 (valB a + valB (negR b)).natAbs 1 R) :
    Calls Tryd.prog 22 #[.int .u64 a, .int .u64 b] w fun e w' => e = .returned (.tuple #[.int .u64 (addB a (negR b) R : Nat), .int .i64 (addX a (negR b) R)]) ∧ Below w.heap.size w w' := by
  have HADD : Hid (∀ W, Calls Tryd.prog 20 #[.int .u64 a, .int .u64 (negR b : Nat)] W fun e w' => e = .returned (.tuple #[.int .u64 (addB a (negR b) R : Nat), .int .i64 (addX a (negR b) R)]) ∧ Below W.heap.size W w') := fun W => r7_add a (negR b) R W ha (negR_W b hb) hR
  go_enter Tryd.func22, Tryd.ntmps22
  go_wp2_with (go_at_call 26; refine (r7_neg b _ hb).mono ?_; rintro e w' ⟨rfl, rfl⟩)
  refine (HADD.out _).mono ?_
  rintro e w' ⟨rfl, hb'⟩
  go_wp2
  go_ret2
  exact ⟨rfl, hb'⟩
end Go.Proofs.YtiimjbpfdidgcaaDoor

/- Walks: the document's answer for layer 7: Mul. -/
namespace Go.Proofs.YtiimjbpfdidgcaaDoor
open Go.RowKit

def mulB (a b R : Nat) : Nat := if nanB a || nanB b then theNaN else if infB a || infB b then (if infB a && zeroB b || zeroB a && infB b then theNaN else sgW (sgnB a != sgnB b) + 9218868437227405312) else if zeroB a || zeroB b then sgW (sgnB a != sgnB b) else resB (sgnB a != sgnB b) R
def mulX (a b R : Nat) : Int := if nanB a || nanB b then 0 else if infB a || infB b then 0 else if zeroB a || zeroB b then 0 else resX R

set_option maxHeartbeats 2000000 in
set_option maxRecDepth 100000 in
theorem r7_mul (a b R : Nat) (w : World) (ha : W64 a) (hb : W64 b) (hR : finB a = true → finB b = true → Near 52 (rv 52 (absB a) * rv 52 (absB b)) (2^LP) R) :
    Calls Tryd.prog 24 #[.int .u64 a, .int .u64 b] w fun e w' => e = .returned (.tuple #[.int .u64 (mulB a b R : Nat), .int .i64 (mulX a b R)]) ∧ Below w.heap.size w w' := by
  have HW : Hid (W64 a ∧ W64 b) := ⟨ha, hb⟩
  have HANY : Hid (∀ W g, W.cell? ⟨g, 0, none⟩ = some (.int .u64 (a : Nat)) → W.cell? ⟨g, 1, none⟩ = some (.int .u64 (b : Nat)) → Calls Tryd.prog 48 #[.slice (some ⟨g, 0, none⟩) 2 2] W fun e w' => e = .returned (.bool (nanB a || nanB b)) ∧ W = w') := fun W g h0 h1 => by
    refine (r7_anynan [a, b] g 2 2 W rfl ?_ ?_ (Nat.le_refl _) (by decide)).mono ?_
    · intro i hi
      match i, hi with
      | 0, _ => exact h0
      | 1, _ => exact h1
    · intro x hx
      simp at hx
      rcases hx with rfl | rfl
      · exact ha
      · exact hb
    · rintro e w' ⟨rfl, rfl⟩
      exact ⟨by simp, rfl⟩
  have HB1 : Hid (∀ F, Below w.heap.size w (w.alloc F)) := fun F => (Below.refl _ _).alloc (Nat.le_refl _) _
  have HIA : Hid (∀ W, Calls Tryd.prog 52 #[.int .u64 a] W fun e w' => e = .returned (.bool (infB a)) ∧ W = w') := fun W => r7_isinf a W HW.out.1
  have HIB : Hid (∀ W, Calls Tryd.prog 52 #[.int .u64 b] W fun e w' => e = .returned (.bool (infB b)) ∧ W = w') := fun W => r7_isinf b W HW.out.2
  have HZA : Hid (∀ W, Calls Tryd.prog 49 #[.int .u64 a] W fun e w' => e = .returned (.bool (zeroB a)) ∧ W = w') := fun W => ref_nought a W HW.out.1
  have HZB : Hid (∀ W, Calls Tryd.prog 49 #[.int .u64 b] W fun e w' => e = .returned (.bool (zeroB b)) ∧ W = w') := fun W => ref_nought b W HW.out.2
  have HUN : Hid (∀ W, Calls Tryd.prog 61 #[.int .u64 a, .int .u64 b] W fun e w' => e = .returned (.bool (sgnB a != sgnB b)) ∧ W = w') := fun W => r7_unlike a b W HW.out.1 HW.out.2
  have HSI : Hid (∀ W s, Calls Tryd.prog 53 #[.int .u64 9218868437227405312, .bool s] W fun e w' => e = .returned (.int .u64 (sgW s + 9218868437227405312 : Nat)) ∧ W = w') := fun W s => by
    have h := r7_signed 9218868437227405312 s W (by unfold W64; decide)
    cases s <;> exact h
  have HSZ : Hid (∀ W s, Calls Tryd.prog 53 #[.int .u64 0, .bool s] W fun e w' => e = .returned (.int .u64 (sgW s : Nat)) ∧ W = w') := fun W s => by
    have h := r7_signed 0 s W (by unfold W64; decide)
    cases s <;> exact h
  clear ha hb
  obtain ⟨u, hu⟩ : ∃ u, u = (sgnB a != sgnB b) := ⟨_, rfl⟩
  rw [← hu] at HUN
  obtain ⟨n, hn⟩ : ∃ n, n = (nanB a || nanB b) := ⟨_, rfl⟩
  rw [← hn] at HANY
  cases n
  case true =>
    have HE1 : Hid (mulB a b R = theNaN) := by show _ = _; unfold mulB; simp only [← hn, if_true]
    have HE2 : Hid (mulX a b R = 0) := by show _ = _; unfold mulX; simp only [← hn, if_true]
    clear hn hR hu
    go_enter Tryd.func24, Tryd.ntmps24
    go_wp2_with (first | (go_at_call 48; refine (HANY.out _ _ (by go_simp) (by go_simp)).mono ?_; rintro e w' ⟨rfl, rfl⟩) | (go_at_call 61; with_reducible refine (HUN.out _).mono ?_; rintro e w' ⟨rfl, rfl⟩) | (go_at_call 49; with_reducible refine (HZA.out _).mono ?_; rintro e w' ⟨rfl, rfl⟩) | (go_at_call 49; with_reducible refine (HZB.out _).mono ?_; rintro e w' ⟨rfl, rfl⟩))
    go_ret2
    exact ⟨by rw [HE1.out, HE2.out]; rfl, HB1.out _⟩
  case false =>
    have HN2 : Hid (nanB a = false ∧ nanB b = false) := by show _ ∧ _; rw [← Bool.or_eq_false_iff]; exact hn.symm
    cases hinf : infB a || infB b
    · obtain ⟨hia, hib⟩ : infB a = false ∧ infB b = false := by rw [← Bool.or_eq_false_iff]; exact hinf
      rw [hia] at HIA
      rw [hib] at HIB
      have fa : finB a = true := by rw [finB_eq, HN2.out.1, hia]; rfl
      have fb : finB b = true := by rw [finB_eq, HN2.out.2, hib]; rfl
      have q1 := spE_range a
      have q2 := spE_range b
      have hs2 := mul_near a b R fa fb (hR fa fb)
      have hPR : ∀ W v v', Term W v (spS a) (spM a) (spE a) → Term W v' (spS b) (spM b) (spE b) → Calls Tryd.prog 64 #[v, v'] W (TermQ (spS a != spS b) (spM a * spM b) (spE a + spE b) W) := fun W v v' h h' =>
        r7_product v v' _ _ _ _ _ _ W h h' (bb := 53) (spM_lt a) (spM_lt b) (by decide) (by omega) (by omega)
      have hX : spM a * spM b < 2^106 := by
        have h1 := spM_lt a
        have h2 := spM_lt b
        exact Nat.lt_of_lt_of_le (Nat.mul_lt_mul_of_lt_of_le h1 (Nat.le_of_lt h2) (by decide)) (by decide)
      have hz : spM a * spM b = 0 ↔ (zeroB a || zeroB b) = true := by
        rw [Nat.mul_eq_zero, spM_nought a fa, spM_nought b fb, Bool.or_eq_true]
      have hsg : (spS a != spS b) = u := by
        rw [hu]
        have e : ∀ b, finB b = true → spS b = sgnB b := fun b h => by
          obtain ⟨h1, h2⟩ := fin_not b h
          unfold spS; rw [h1]; exact h2
        rw [e a fa, e b fb]
      rw [hsg] at hPR
      generalize spM a * spM b = P at *
      generalize hG : spE a + spE b = G at *
      have HPR : Hid (∀ W v v', Term W v (spS a) (spM a) (spE a) → Term W v' (spS b) (spM b) (spE b) → Calls Tryd.prog 64 #[v, v'] W (TermQ u P G W)) := hPR
      have HOA : Hid (∀ W, Calls Tryd.prog 54 #[.int .u64 a] W (TermQ (spS a) (spM a) (spE a) W)) := fun W => r7_of a W HW.out.1
      have HOB : Hid (∀ W, Calls Tryd.prog 54 #[.int .u64 b] W (TermQ (spS b) (spM b) (spE b) W)) := fun W => r7_of b W HW.out.2
      have HE1 : Hid ((if P = 0 then sgW u else resB u R) = mulB a b R) := by
        show _ = _; unfold mulB; simp only [← hn, hinf, Bool.false_eq_true, if_false, ← hu]
        by_cases h0 : P = 0
        · rw [if_pos h0, if_pos (hz.1 h0)]
        · rw [if_neg h0, if_neg (mt hz.2 h0)]
      have HE2 : Hid ((if P = 0 then 0 else resX R) = mulX a b R) := by
        show _ = _; unfold mulX; simp only [← hn, hinf, Bool.false_eq_true, if_false]
        by_cases h0 : P = 0
        · rw [if_pos h0, if_pos (hz.1 h0)]
        · rw [if_neg h0, if_neg (mt hz.2 h0)]
      have HTOLD : Hid (∀ W v, Term W v u P G → Calls Tryd.prog 62 #[v, .int .u64 (sgW u : Nat)] W fun e w' => e = .returned (.tuple #[.int .u64 (mulB a b R : Nat), .int .i64 (mulX a b R)]) ∧ Below W.heap.size W w') := fun W v h => by
        have := told_any u v P (sgW u) G W h hX (by decide) (by decide) (by omega) (by omega) hs2
        unfold ToldQ at this
        rw [HE1.out, HE2.out] at this
        exact this
      clear hu hR hia hib fa fb hsg q1 q2 hs2 hPR hX hz hG HE1 HE2 HN2 HW hn hinf
      obtain ⟨za, hza⟩ : ∃ z, z = zeroB a := ⟨_, rfl⟩
      rw [← hza] at HZA
      clear hza
      cases za
      all_goals
        go_enter Tryd.func24, Tryd.ntmps24
        go_wp2_with (first | (go_at_call 48; refine (HANY.out _ _ (by go_simp) (by go_simp)).mono ?_; rintro e w' ⟨rfl, rfl⟩) | (go_at_call 61; with_reducible refine (HUN.out _).mono ?_; rintro e w' ⟨rfl, rfl⟩) | (go_at_call 49; with_reducible refine (HZA.out _).mono ?_; rintro e w' ⟨rfl, rfl⟩) | (go_at_call 49; with_reducible refine (HZB.out _).mono ?_; rintro e w' ⟨rfl, rfl⟩) | (go_at_call 52; with_reducible refine (HIA.out _).mono ?_; rintro e w' ⟨rfl, rfl⟩) | (go_at_call 52; with_reducible refine (HIB.out _).mono ?_; rintro e w' ⟨rfl, rfl⟩))
        refine (HOA.out _).mono ?_
        rintro e w1 ⟨va, rfl, hta, hba⟩
        go_wp2_with fail
        refine (HOB.out _).mono ?_
        rintro e w2 ⟨vb, rfl, htb, hbb⟩
        go_wp2_with fail
        refine (HPR.out _ _ _ (hta.below (Nat.le_refl _) hbb) htb).mono ?_
        rintro e w3 ⟨vs, rfl, hts, hbs⟩
        go_wp2_with (go_at_call 53; with_reducible refine (HSZ.out _ _).mono ?_; rintro e w' ⟨rfl, rfl⟩)
        refine (HTOLD.out _ _ hts).mono ?_
        rintro e w4 ⟨rfl, hb4⟩
        go_wp2
        go_ret2
        exact ⟨rfl, ((((HB1.out _).thru hba).thru hbb).thru hbs).thru hb4⟩
    · have HE1 : Hid (mulB a b R = if infB a && zeroB b || zeroB a && infB b then theNaN else sgW u + 9218868437227405312) := by
        show _ = _; unfold mulB; simp only [← hn, hinf, Bool.false_eq_true, if_false, if_true, ← hu]
      have HE2 : Hid (mulX a b R = 0) := by show _ = _; unfold mulX; simp only [← hn, hinf, Bool.false_eq_true, if_false, if_true]
      clear hR hu hn HN2 HW
      obtain ⟨ia, hia⟩ : ∃ z, z = infB a := ⟨_, rfl⟩
      obtain ⟨ib, hib⟩ : ∃ z, z = infB b := ⟨_, rfl⟩
      obtain ⟨za, hza⟩ : ∃ z, z = zeroB a := ⟨_, rfl⟩
      obtain ⟨zb, hzb⟩ : ∃ z, z = zeroB b := ⟨_, rfl⟩
      rw [← hia] at HIA HE1 hinf
      rw [← hib] at HIB HE1 hinf
      rw [← hza] at HZA HE1
      rw [← hzb] at HZB HE1
      clear hia hib hza hzb
      cases ia <;> cases ib
      case false.false => cases hinf
      all_goals
        clear hinf
        cases za <;> cases zb
      all_goals
        go_enter Tryd.func24, Tryd.ntmps24
        go_wp2_with (first | (go_at_call 48; refine (HANY.out _ _ (by go_simp) (by go_simp)).mono ?_; rintro e w' ⟨rfl, rfl⟩) | (go_at_call 61; with_reducible refine (HUN.out _).mono ?_; rintro e w' ⟨rfl, rfl⟩) | (go_at_call 49; with_reducible refine (HZA.out _).mono ?_; rintro e w' ⟨rfl, rfl⟩) | (go_at_call 49; with_reducible refine (HZB.out _).mono ?_; rintro e w' ⟨rfl, rfl⟩) | (go_at_call 52; with_reducible refine (HIA.out _).mono ?_; rintro e w' ⟨rfl, rfl⟩) | (go_at_call 52; with_reducible refine (HIB.out _).mono ?_; rintro e w' ⟨rfl, rfl⟩) | (go_at_call 53; with_reducible refine (HSI.out _ _).mono ?_; rintro e w' ⟨rfl, rfl⟩))
        go_ret2
        exact ⟨by rw [HE1.out, HE2.out]; rfl, HB1.out _⟩
end Go.Proofs.YtiimjbpfdidgcaaDoor
