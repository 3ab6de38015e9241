/- Parts Ka, Kb, Kc, Kd of the proof, in one text. -/
import Derived.Test.YtgfbcncjboenbaaGreatDoorUCQ

/- Walks: the document's away and whole of layer 4. -/
namespace Go.Proofs.YtgfbcncjboenbaaGreatDoor
open Go.RowKit
open Go.Lib hiding intOf

set_option maxRecDepth 100000 in
theorem d_away (m : Int) (neg odd : Bool) (h : Int) (w : World) : Calls Tryz.prog 160 #[.int .i64 m, .bool neg, .bool odd, .int .i64 h] w fun e w' => e = .returned (.bool (upW m neg odd h)) ∧ w = w' := by
  have hu : upW m neg odd h = if m = 1 then (if 0 < h then true else if h = 0 then odd else false) else if m = 2 then decide (0 ≤ h) else if m = 3 then !neg else if m = 4 then neg else if m = 6 then !odd else false := by
    unfold upW
    by_cases h1 : m = 1
    · rw [if_pos h1, if_pos h1]
      by_cases h2 : 0 < h
      · rw [if_pos h2, decide_eq_true h2]; rfl
      · rw [if_neg h2, decide_eq_false h2, Bool.false_or]
        by_cases h3 : h = 0
        · rw [if_pos h3, decide_eq_true h3, Bool.true_and]
        · rw [if_neg h3, decide_eq_false h3, Bool.false_and]
    · rw [if_neg h1, if_neg h1]
  rw [hu]
  clear hu
  by_cases h1 : m = 1
  · subst h1
    rw [if_pos rfl]
    by_cases h2 : 0 < h
    · rw [if_pos h2]
      go_enter Tryz.func160, Tryz.ntmps160
      go_wp2
      go_ret
      exact ⟨rfl, rfl⟩
    · rw [if_neg h2]
      by_cases h3 : h = 0
      · rw [if_pos h3]
        subst h3
        clear h2
        go_enter Tryz.func160, Tryz.ntmps160
        go_wp2
        go_ret
        exact ⟨rfl, rfl⟩
      · rw [if_neg h3]
        have h4 : (h == 0) = false := by rw [Bool.eq_false_iff, Ne, beq_iff_eq]; exact h3
        clear h3
        go_enter Tryz.func160, Tryz.ntmps160
        go_wp2
        go_ret
        exact ⟨rfl, rfl⟩
  · rw [if_neg h1]
    have q1 : (m == 1) = false := by rw [Bool.eq_false_iff, Ne, beq_iff_eq]; exact h1
    clear h1
    by_cases h1 : m = 2
    · subst h1
      rw [if_pos rfl]
      go_enter Tryz.func160, Tryz.ntmps160
      go_wp2
      go_ret
      exact ⟨rfl, rfl⟩
    · rw [if_neg h1]
      have q2 : (m == 2) = false := by rw [Bool.eq_false_iff, Ne, beq_iff_eq]; exact h1
      clear h1
      by_cases h1 : m = 3
      · subst h1
        rw [if_pos rfl]
        go_enter Tryz.func160, Tryz.ntmps160
        go_wp2
        go_ret
        exact ⟨rfl, rfl⟩
      · rw [if_neg h1]
        have q3 : (m == 3) = false := by rw [Bool.eq_false_iff, Ne, beq_iff_eq]; exact h1
        clear h1
        by_cases h1 : m = 4
        · subst h1
          rw [if_pos rfl]
          go_enter Tryz.func160, Tryz.ntmps160
          go_wp2
          go_ret
          exact ⟨rfl, rfl⟩
        · rw [if_neg h1]
          have q4 : (m == 4) = false := by rw [Bool.eq_false_iff, Ne, beq_iff_eq]; exact h1
          clear h1
          by_cases h1 : m = 6
          · subst h1
            rw [if_pos rfl]
            go_enter Tryz.func160, Tryz.ntmps160
            go_wp2
            go_ret
            exact ⟨rfl, rfl⟩
          · rw [if_neg h1]
            have q6 : (m == 6) = false := by rw [Bool.eq_false_iff, Ne, beq_iff_eq]; exact h1
            clear h1
            go_enter Tryz.func160, Tryz.ntmps160
            go_wp2
            go_ret
            exact ⟨rfl, rfl⟩
set_option maxHeartbeats 4000000 in
set_option maxRecDepth 100000 in
theorem d_who_low {M k : Nat} {E : Int} (neg : Bool) (m : Int) (w : World) (hM : M < 9007199254740992) (hE : E = -(k : Int)) (hk1 : 1 ≤ k) (hk : k ≤ 1074) : Calls Tryz.prog 116 #[.bool neg, .int .u64 (M : Nat), .int .i64 E, .int .i64 m] w fun e w' => e = .returned (.tuple #[.int .u64 (whoN neg m M E : Nat), .int .i64 0]) ∧ Below w.heap.size w w' := by
  have e0 : ¬ 0 ≤ E := by omega
  have e1 : IntKind.i64.wrap (-E) = (k : Int) := by rw [hE, Int.neg_neg]; exact IntWalk.i64_in _ (by omega)
  obtain ⟨q, hq⟩ : ∃ q, q = M / 2 ^ k := ⟨_, rfl⟩
  obtain ⟨R, hR⟩ : ∃ R, R = M % 2 ^ k := ⟨_, rfl⟩
  obtain ⟨h, hh⟩ : ∃ h, h = ncmp (R * 2) (2 ^ k) := ⟨_, rfl⟩
  obtain ⟨d, hd⟩ : ∃ d, d = decide (q % 2 = 1) := ⟨_, rfl⟩
  obtain ⟨u, hu⟩ : ∃ u, u = upW m neg d h := ⟨_, rfl⟩
  have hqs : q ≤ M := by rw [hq]; exact Nat.div_le_self _ _
  have hres : whoN neg m M E = if R = 0 then q else if u = true then q + 1 else q := by
    unfold whoN whoQ whoR
    rw [hE, show (-(k : Int)).toNat = 0 by omega, show (- -(k : Int)).toNat = k by omega, Nat.pow_zero, Nat.mul_one, ← hq, ← hR, ← hh]
    unfold kW
    rw [← hd, ← hu]
    by_cases h0 : R = 0
    · rw [decide_eq_true h0, if_pos h0]; rfl
    · rw [decide_eq_false h0, if_neg h0]; rfl
  have HAW : Hid (∀ W, Calls Tryz.prog 160 #[.int .i64 m, .bool neg, .bool d, .int .i64 h] W fun e w' => e = .returned (.bool u) ∧ W = w') := fun W => by rw [hu]; exact d_away m neg d h W
  have g4 : ((q : Int).tmod 2 == 1) = d := by
    rw [hd, Bool.eq_iff_iff, beq_iff_eq, decide_eq_true_eq, show (q : Int).tmod 2 = ((q % 2 : Nat) : Int) from rfl]; omega
  have g4' : ((q : Int) % 2 == 1) = d := by
    rw [hd, Bool.eq_iff_iff, beq_iff_eq, decide_eq_true_eq]; omega
  have g5 : IntKind.u64.wrap ((q : Int) + 1) = ((q + 1 : Nat) : Int) := by rw [IntWalk.u64_in _ (by omega)]; omega
  rw [hres]
  by_cases hk64 : k < 64
  · obtain ⟨P, hP⟩ : ∃ P, P = q * 2 ^ k := ⟨_, rfl⟩
    obtain ⟨H, hH⟩ : ∃ H, H = 2 ^ (k - 1) := ⟨_, rfl⟩
    have hdm := Nat.div_add_mod M (2 ^ k)
    rw [← hq, ← hR, Nat.mul_comm, ← hP] at hdm
    have hHk : 2 ^ k = H * 2 := by rw [hH, ← Nat.pow_succ]; congr 1; omega
    have hHl : H < 9223372036854775809 := by
      rw [hH]
      have := Nat.pow_le_pow_right (show 0 < 2 by decide) (show k - 1 ≤ 63 by omega)
      exact Nat.lt_succ_of_le this
    have k1 : ((k : Int) < 64) := by omega
    have k2 : ((k : Int) ≤ 63) := by omega
    have k3 : min k 64 = k := by omega
    have k4 : min (k - 1) 64 = k - 1 := by omega
    have g0 : (M : Int) / 2 ^ k = (q : Int) := by rw [hq]; push_cast; rfl
    have g1 : IntKind.u64.wrap ((q : Int) * 2 ^ k) = (P : Int) := by
      have : (q : Int) * 2 ^ k = (P : Int) := by rw [hP]; push_cast; rfl
      rw [this]; exact IntWalk.u64_in _ (by omega)
    have g2 : IntKind.u64.wrap ((M : Int) - (P : Int)) = (R : Int) := by rw [IntWalk.u64_in _ (by omega)]; omega
    have g3 : IntKind.u64.wrap ((2 : Int) ^ (k - 1)) = (H : Int) := by
      have : (2 : Int) ^ (k - 1) = (H : Int) := by rw [hH]; push_cast; rfl
      rw [this]; exact IntWalk.u64_in _ (by omega)
    have hoo : (R < H ∧ h = -1) ∨ (H < R ∧ h = 1) ∨ (R = H ∧ h = 0) := by
      rw [hh]
      unfold ncmp
      rcases Nat.lt_trichotomy R H with h | h | h
      · exact .inl ⟨h, by rw [if_pos (by omega)]⟩
      · exact .inr (.inr ⟨h, by rw [if_neg (by omega), if_neg (by omega)]⟩)
      · exact .inr (.inl ⟨h, by rw [if_neg (by omega), if_pos (by omega)]⟩)
    have hH0 : 0 < H := by omega
    have k5 : 1 ≤ k := hk1
    have k6 : k ≤ 64 := by omega
    clear hres hu hd hqs hHk hHl hdm hP hR hq hH hh hk1 hk hE hM
    rcases hoo with ⟨hc, rfl⟩ | ⟨hc, rfl⟩ | ⟨hc, rfl⟩
    · have o1 : ¬ (H : Int) < R := by omega
      have o2 : ((R : Int) == H) = false := by rw [Bool.eq_false_iff, Ne, beq_iff_eq]; omega
      by_cases h0 : R = 0
      · rw [if_pos h0]
        have o3 : ¬ (0 : Int) < R := by omega
        clear hc h0 hH0
        go_enter Tryz.func116, Tryz.ntmps116
        go_wp2_with (go_at_call 160; with_reducible refine (HAW.out _).mono ?_; rintro e w' ⟨rfl, rfl⟩)
        go_ret2
        exact ⟨rfl, Below.refl _ _⟩
      · rw [if_neg h0]
        have o3 : (0 : Int) < R := by omega
        clear hc h0 hH0
        cases u
        all_goals
          simp only [Bool.false_eq_true, if_false, ite_true]
          go_enter Tryz.func116, Tryz.ntmps116
          go_wp2_with (go_at_call 160; with_reducible refine (HAW.out _).mono ?_; rintro e w' ⟨rfl, rfl⟩)
          go_ret2
          exact ⟨rfl, Below.refl _ _⟩
    · have o1 : (H : Int) < R := by omega
      have o3 : (0 : Int) < R := by omega
      rw [if_neg (by omega)]
      clear hc hH0
      cases u
      all_goals
        simp only [Bool.false_eq_true, if_false, ite_true]
        go_enter Tryz.func116, Tryz.ntmps116
        go_wp2_with (go_at_call 160; with_reducible refine (HAW.out _).mono ?_; rintro e w' ⟨rfl, rfl⟩)
        go_ret2
        exact ⟨rfl, Below.refl _ _⟩
    · have o1 : ¬ (H : Int) < R := by omega
      have o2 : ((R : Int) == H) = true := by rw [beq_iff_eq]; omega
      have o3 : (0 : Int) < R := by omega
      rw [if_neg (by omega)]
      clear hc hH0
      cases u
      all_goals
        simp only [Bool.false_eq_true, if_false, ite_true]
        go_enter Tryz.func116, Tryz.ntmps116
        go_wp2_with (go_at_call 160; with_reducible refine (HAW.out _).mono ?_; rintro e w' ⟨rfl, rfl⟩)
        go_ret2
        exact ⟨rfl, Below.refl _ _⟩
  · have hbig : 9007199254740992 * 2 < 2 ^ k := Nat.lt_of_lt_of_le (show 9007199254740992 * 2 < 2 ^ 64 by decide) (Nat.pow_le_pow_right (by decide) (by omega))
    have hq0 : q = 0 := by rw [hq]; exact Nat.div_eq_of_lt (by omega)
    have hR0 : R = M := by rw [hR]; exact Nat.mod_eq_of_lt (by omega)
    have hh0 : h = -1 := by rw [hh, hR0]; unfold ncmp; rw [if_pos (by omega)]
    have hd0 : d = false := by rw [hd, hq0]; rfl
    have k1 : ¬ ((k : Int) < 64) := by omega
    have k2 : ¬ ((k : Int) ≤ 63) := by omega
    subst hq0 hR0 hh0
    rw [hd0] at HAW
    clear hres hu hd hqs hq hR hh hd0 g4 g4' g5 hbig hk1 hk hE hM hk64
    by_cases h0 : R = 0
    · rw [if_pos h0]
      have o3 : ¬ (0 : Int) < R := by omega
      clear h0
      go_enter Tryz.func116, Tryz.ntmps116
      go_wp2_with (go_at_call 160; with_reducible refine (HAW.out _).mono ?_; rintro e w' ⟨rfl, rfl⟩)
      go_ret2
      exact ⟨rfl, Below.refl _ _⟩
    · rw [if_neg h0]
      have o3 : (0 : Int) < R := by omega
      clear h0
      cases u
      all_goals
        simp only [Bool.false_eq_true, if_false, ite_true]
        go_enter Tryz.func116, Tryz.ntmps116
        go_wp2_with (go_at_call 160; with_reducible refine (HAW.out _).mono ?_; rintro e w' ⟨rfl, rfl⟩)
        go_ret2
        exact ⟨rfl, Below.refl _ _⟩
set_option maxRecDepth 100000 in
theorem d_who_up {M : Nat} {E : Int} (neg : Bool) (m : Int) (w : World) (hE : 0 ≤ E) : Calls Tryz.prog 116 #[.bool neg, .int .u64 (M : Nat), .int .i64 E, .int .i64 m] w fun e w' => e = .returned (.tuple #[.int .u64 (M : Nat), .int .i64 E]) ∧ Below w.heap.size w w' := by
  go_enter Tryz.func116, Tryz.ntmps116
  go_wp2
  go_ret2
  exact ⟨rfl, Below.refl _ _⟩
end Go.Proofs.YtgfbcncjboenbaaGreatDoor

/- Walks: the document's Whole, magnitude, ToInt, ToUint. -/
namespace Go.Proofs.YtgfbcncjboenbaaGreatDoor
open Go.RowKit
open Go.Lib hiding intOf

set_option maxRecDepth 100000 in
theorem d_Whole {a : Nat} (ha : W64 a) (m : Int) (w : World) : Calls Tryz.prog 48 #[.int .u64 (a : Nat), .int .i64 m] w fun e w' => e = .returned (.tuple #[.int .u64 (whoA a m : Nat), .int .i64 (whoX a m)]) ∧ Below w.heap.size w w' := by
  have hW : W64 a := ha
  have HMO : Hid (∀ W, Calls Tryz.prog 107 #[.int .i64 m] W fun e w' => e = .returned (.bool (decide (1 ≤ m ∧ m ≤ 6))) ∧ W = w') := fun W => d_mode m W
  have HNN : Hid (∀ W, Calls Tryz.prog 58 #[.int .u64 (a : Nat)] W fun e w' => e = .returned (.bool (nanB a)) ∧ W = w') := fun W => ref_isnan a W ha
  have hai : (((absB a : Nat) : Int) == 9218868437227405312) = infB a := by unfold infB; rw [Bool.eq_iff_iff, beq_iff_eq, decide_eq_true_eq]; omega
  by_cases hm : 1 ≤ m ∧ m ≤ 6
  · rw [decide_eq_true hm] at HMO
    cases n : nanB a
    · rw [n] at HNN
      cases i : infB a
      · rw [i] at hai
        have fa : finB a = true := by rw [finB_eq, n, i]; rfl
        rw [(who_fin hm n i).1, (who_fin hm n i).2]
        obtain ⟨k1, k2, k3⟩ := sp_bd a
        obtain ⟨j1, j2⟩ := who_join (mode := m) ha fa
        have HSP : Hid (∀ W, Calls Tryz.prog 115 #[.int .u64 (a : Nat)] W fun e w' => e = .returned (.tuple #[.bool (sgnB a), .int .u64 (spM a : Nat), .int .i64 (spE a), .int .i64 (spX a)]) ∧ W = w') := fun W => by
          have := ref_split a W ha; rw [fin_sgn fa] at this; exact this
        by_cases hE : 0 ≤ spE a
        · have HWH : Hid (∀ W, Calls Tryz.prog 116 #[.bool (sgnB a), .int .u64 (spM a : Nat), .int .i64 (spE a), .int .i64 m] W fun e w' => e = .returned (.tuple #[.int .u64 (spM a : Nat), .int .i64 (spE a)]) ∧ Below W.heap.size W w') := fun W => d_who_up _ m W hE
          have HJO : Hid (∀ W, Calls Tryz.prog 117 #[.bool (sgnB a), .int .u64 (spM a : Nat), .int .i64 (spE a)] W fun e w' => e = .returned (.tuple #[.int .u64 (whoB a m : Nat), .int .i64 (joinX (spM a) (spE a))]) ∧ W = w') := fun W => by
            have := rjoin_any (sgnB a) (spM a) (spE a) W (by unfold W64; omega)
            rw [j1 hE] at this; exact this
          generalize sgnB a = S at *
          generalize joinX (spM a) (spE a) = X at *
          generalize spM a = M at *
          generalize spE a = E at *
          clear j1 j2 k1 k2 k3 hE
          go_enter Tryz.func48, Tryz.ntmps48
          go_wp2_with (first | (go_at_call 107; refine (HMO.out _).mono ?_; rintro e w' ⟨rfl, rfl⟩) | (go_at_call 58; refine (HNN.out _).mono ?_; rintro e w' ⟨rfl, rfl⟩) | (go_at_call 115; refine (HSP.out _).mono ?_; rintro e w' ⟨rfl, rfl⟩))
          refine (HWH.out _).mono ?_
          rintro e w1 ⟨rfl, hb⟩
          go_wp2_with (go_at_call 117; refine (HJO.out _).mono ?_; rintro e w' ⟨rfl, rfl⟩)
          go_ret2
          exact ⟨rfl, hb⟩
        · obtain ⟨k, hk⟩ : ∃ k : Nat, spE a = -(k : Int) := ⟨(-spE a).toNat, by omega⟩
          have hbd := who_bd (neg := sgnB a) (mode := m) (show spE a < 0 by omega) k3
          have j3 := j2 (by omega)
          obtain ⟨K, hK⟩ : ∃ K, K = whoN (sgnB a) m (spM a) (spE a) := ⟨_, rfl⟩
          rw [← hK] at hbd j3
          have HWH : Hid (∀ W, Calls Tryz.prog 116 #[.bool (sgnB a), .int .u64 (spM a : Nat), .int .i64 (spE a), .int .i64 m] W fun e w' => e = .returned (.tuple #[.int .u64 (K : Nat), .int .i64 0]) ∧ Below W.heap.size W w') := fun W => by
            rw [hK]; exact d_who_low _ m W k3 hk (by omega) (by omega)
          have HJO : Hid (∀ W, Calls Tryz.prog 117 #[.bool (sgnB a), .int .u64 (K : Nat), .int .i64 0] W fun e w' => e = .returned (.tuple #[.int .u64 (whoB a m : Nat), .int .i64 (joinX K 0)]) ∧ W = w') := fun W => by
            have := rjoin_any (sgnB a) K 0 W (by unfold W64; omega)
            rw [j3] at this; exact this
          generalize joinX K 0 = X at *
          generalize sgnB a = S at *
          generalize spM a = M at *
          generalize spE a = E at *
          clear j1 j2 j3 k1 k2 k3 hE hk hbd hK
          go_enter Tryz.func48, Tryz.ntmps48
          go_wp2_with (first | (go_at_call 107; refine (HMO.out _).mono ?_; rintro e w' ⟨rfl, rfl⟩) | (go_at_call 58; refine (HNN.out _).mono ?_; rintro e w' ⟨rfl, rfl⟩) | (go_at_call 115; refine (HSP.out _).mono ?_; rintro e w' ⟨rfl, rfl⟩))
          refine (HWH.out _).mono ?_
          rintro e w1 ⟨rfl, hb⟩
          go_wp2_with (go_at_call 117; refine (HJO.out _).mono ?_; rintro e w' ⟨rfl, rfl⟩)
          go_ret2
          exact ⟨rfl, hb⟩
      · rw [i] at hai
        rw [(who_inf hm n i).1, (who_inf hm n i).2]
        go_enter Tryz.func48, Tryz.ntmps48
        go_wp2_with (first | (go_at_call 107; refine (HMO.out _).mono ?_; rintro e w' ⟨rfl, rfl⟩) | (go_at_call 58; refine (HNN.out _).mono ?_; rintro e w' ⟨rfl, rfl⟩))
        go_ret2
        exact ⟨rfl, Below.refl _ _⟩
    · rw [n] at HNN
      rw [(who_nan hm n).1, (who_nan hm n).2]
      go_enter Tryz.func48, Tryz.ntmps48
      go_wp2_with (first | (go_at_call 107; refine (HMO.out _).mono ?_; rintro e w' ⟨rfl, rfl⟩) | (go_at_call 58; refine (HNN.out _).mono ?_; rintro e w' ⟨rfl, rfl⟩))
      go_ret2
      exact ⟨rfl, Below.refl _ _⟩
  · rw [decide_eq_false hm] at HMO
    rw [(who_bad hm).1, (who_bad hm).2]
    go_enter Tryz.func48, Tryz.ntmps48
    go_wp2_with (first | (go_at_call 107; refine (HMO.out _).mono ?_; rintro e w' ⟨rfl, rfl⟩) | (go_at_call 58; refine (HNN.out _).mono ?_; rintro e w' ⟨rfl, rfl⟩))
    go_ret2
    exact ⟨rfl, Below.refl _ _⟩
/-- A number's magnitude made whole. -/
def magK (a : Nat) (m : Int) : Nat := whoN (sgnB a) m (spM a) (spE a)
def magOk (a : Nat) (m : Int) : Bool := decide (whoX a m = 0) && !infB a && decide (magK a m < 18446744073709551616)
def magX (a : Nat) (m : Int) : Int := if whoX a m ≠ 0 then whoX a m else if magOk a m = true then 0 else 11
def magN (a : Nat) (m : Int) : Bool := magOk a m && sgnB a
def magV (a : Nat) (m : Int) : Nat := if magOk a m = true then magK a m else 0
theorem sp_high {a : Nat} (h : 0 ≤ spE a) : spM a = 0 ∨ 4503599627370496 ≤ spM a := by
  unfold spM
  by_cases n : (nanB a || infB a) = true
  · rw [if_pos n]; exact .inl rfl
  · rw [if_neg n]
    by_cases z : zeroB a = true
    · rw [if_pos z]; exact .inl rfl
    · rw [if_neg z]
      by_cases l : lowB a = true
      · unfold spE at h; rw [if_neg n, if_neg z, if_pos l] at h; omega
      · rw [if_neg l]; right; unfold mantB; omega
set_option maxHeartbeats 1000000 in
set_option maxRecDepth 100000 in
theorem d_magnitude {a : Nat} (ha : W64 a) (m : Int) (w : World) : Calls Tryz.prog 118 #[.int .u64 (a : Nat), .int .i64 m] w fun e w' => e = .returned (.tuple #[.bool (magN a m), .int .u64 (magV a m : Nat), .int .i64 (magX a m)]) ∧ Below w.heap.size w w' := by
  have hW : W64 a := ha
  have HMO : Hid (∀ W, Calls Tryz.prog 107 #[.int .i64 m] W fun e w' => e = .returned (.bool (decide (1 ≤ m ∧ m ≤ 6))) ∧ W = w') := fun W => d_mode m W
  have HNN : Hid (∀ W, Calls Tryz.prog 58 #[.int .u64 (a : Nat)] W fun e w' => e = .returned (.bool (nanB a)) ∧ W = w') := fun W => ref_isnan a W ha
  have hai : (((absB a : Nat) : Int) == 9218868437227405312) = infB a := by unfold infB; rw [Bool.eq_iff_iff, beq_iff_eq, decide_eq_true_eq]; omega
  have hx : ∀ x, whoX a m = x → x ≠ 0 → magN a m = false ∧ magV a m = 0 ∧ magX a m = x := by
    intro x h h0
    have hk : magOk a m = false := by unfold magOk; rw [h, decide_eq_false h0]; rfl
    refine ⟨by unfold magN; rw [hk]; rfl, by unfold magV; rw [hk]; rfl, by unfold magX; rw [h, if_pos h0]⟩
  by_cases hm : 1 ≤ m ∧ m ≤ 6
  · rw [decide_eq_true hm] at HMO
    cases n : nanB a
    · rw [n] at HNN
      cases i : infB a
      · rw [i] at hai
        have fa : finB a = true := by rw [finB_eq, n, i]; rfl
        have h0 := (who_fin hm n i).2
        obtain ⟨k1, k2, k3⟩ := sp_bd a
        have HSP : Hid (∀ W, Calls Tryz.prog 115 #[.int .u64 (a : Nat)] W fun e w' => e = .returned (.tuple #[.bool (sgnB a), .int .u64 (spM a : Nat), .int .i64 (spE a), .int .i64 (spX a)]) ∧ W = w') := fun W => by
          have := ref_split a W ha; rw [fin_sgn fa] at this; exact this
        have hgood : magK a m < 18446744073709551616 → magN a m = sgnB a ∧ magV a m = magK a m ∧ magX a m = 0 := by
          intro h
          have hk : magOk a m = true := by unfold magOk; rw [h0, i, decide_eq_true h]; rfl
          exact ⟨by unfold magN; rw [hk]; rfl, by unfold magV; rw [hk]; rfl, by unfold magX; rw [h0, hk]; rfl⟩
        have hbadk : ¬ magK a m < 18446744073709551616 → magN a m = false ∧ magV a m = 0 ∧ magX a m = 11 := by
          intro h
          have hk : magOk a m = false := by unfold magOk; rw [h0, i, decide_eq_false h]; rfl
          exact ⟨by unfold magN; rw [hk]; rfl, by unfold magV; rw [hk]; rfl, by unfold magX; rw [h0, hk]; rfl⟩
        by_cases hE : 0 ≤ spE a
        · have hK : magK a m = spM a * 2 ^ (spE a).toNat := by unfold magK; exact who_up hE
          have hhigh := sp_high hE
          have HWH : Hid (∀ W, Calls Tryz.prog 116 #[.bool (sgnB a), .int .u64 (spM a : Nat), .int .i64 (spE a), .int .i64 m] W fun e w' => e = .returned (.tuple #[.int .u64 (spM a : Nat), .int .i64 (spE a)]) ∧ Below W.heap.size W w') := fun W => d_who_up _ m W hE
          by_cases hz : spM a = 0
          · rw [hz, Nat.zero_mul] at hK
            obtain ⟨t1, t2, t3⟩ := hgood (by omega)
            rw [t1, t2, t3, hK]
            rw [hz] at HWH HSP
            generalize sgnB a = S at *
            generalize spE a = E at *
            clear hx hgood hbadk hhigh hz hK t1 t2 t3 k1 k2 k3 hE h0
            by_cases h11 : 11 < E
            all_goals
             go_enter Tryz.func118, Tryz.ntmps118
             go_wp2_with (first | (go_at_call 107; refine (HMO.out _).mono ?_; rintro e w' ⟨rfl, rfl⟩) | (go_at_call 58; refine (HNN.out _).mono ?_; rintro e w' ⟨rfl, rfl⟩) | (go_at_call 115; refine (HSP.out _).mono ?_; rintro e w' ⟨rfl, rfl⟩))
             refine (HWH.out _).mono ?_
             rintro e w1 ⟨rfl, hb⟩
             go_wp2
             exact bodyPost_ret (results_tmp3r rfl _ _ _) rfl ⟨rfl, hb⟩
          · by_cases h11 : 11 < spE a
            · have hbig : ¬ magK a m < 18446744073709551616 := by
                rw [hK]
                have h12 : 2 ^ 12 ≤ 2 ^ (spE a).toNat := Nat.pow_le_pow_right (by decide) (by omega)
                have := Nat.mul_le_mul (show 4503599627370496 ≤ spM a by omega) h12
                omega
              obtain ⟨t1, t2, t3⟩ := hbadk hbig
              rw [t1, t2, t3]
              have o1 : (0 : Int) < spM a := by omega
              generalize sgnB a = S at *
              generalize spM a = M at *
              generalize spE a = E at *
              clear hx hgood hbadk hhigh hz hK t1 t2 t3 k1 k2 k3 hE h0 hbig
              go_enter Tryz.func118, Tryz.ntmps118
              go_wp2_with (first | (go_at_call 107; refine (HMO.out _).mono ?_; rintro e w' ⟨rfl, rfl⟩) | (go_at_call 58; refine (HNN.out _).mono ?_; rintro e w' ⟨rfl, rfl⟩) | (go_at_call 115; refine (HSP.out _).mono ?_; rintro e w' ⟨rfl, rfl⟩))
              refine (HWH.out _).mono ?_
              rintro e w1 ⟨rfl, hb⟩
              go_wp2
              exact bodyPost_ret (results_tmp3r rfl _ _ _) rfl ⟨rfl, hb⟩
            · obtain ⟨k, hk⟩ : ∃ k : Nat, spE a = (k : Int) := ⟨(spE a).toNat, by omega⟩
              have hsm : magK a m < 18446744073709551616 := by
                rw [hK]
                have h12 : 2 ^ (spE a).toNat ≤ 2 ^ 11 := Nat.pow_le_pow_right (by decide) (by omega)
                have := Nat.mul_lt_mul_of_lt_of_le k3 h12 (Nat.two_pow_pos _)
                omega
              obtain ⟨t1, t2, t3⟩ := hgood hsm
              rw [t1, t2, t3]
              obtain ⟨K, hKK⟩ : ∃ K, K = magK a m := ⟨_, rfl⟩
              rw [← hKK] at hK hsm ⊢
              have o1 : ((spM a : Int) == 0) = false := by rw [Bool.eq_false_iff, Ne, beq_iff_eq]; omega
              rw [hk] at HWH HSP h11 hK
              rw [Int.toNat_natCast] at hK
              have o2 : IntKind.u64.wrap ((spM a : Int) * 2 ^ k) = (K : Int) := by
                have : (spM a : Int) * 2 ^ k = (K : Int) := by rw [hK]; push_cast; rfl
                rw [this]; exact IntWalk.u64_in _ (by omega)
              have o3 : k ≤ 64 := by omega
              have o4 : min k 64 = k := by omega
              generalize sgnB a = S at *
              generalize spM a = M at *
              clear hx hgood hbadk hhigh hz hK t1 t2 t3 k1 k2 k3 hE h0 hsm hKK hk
              go_enter Tryz.func118, Tryz.ntmps118
              go_wp2_with (first | (go_at_call 107; refine (HMO.out _).mono ?_; rintro e w' ⟨rfl, rfl⟩) | (go_at_call 58; refine (HNN.out _).mono ?_; rintro e w' ⟨rfl, rfl⟩) | (go_at_call 115; refine (HSP.out _).mono ?_; rintro e w' ⟨rfl, rfl⟩))
              refine (HWH.out _).mono ?_
              rintro e w1 ⟨rfl, hb⟩
              have HB : Hid (Below w.heap.size w w1) := hb
              clear hb
              go_upto_region 15 with fail
              go_region
              go_wp2
              exact bodyPost_ret (results_tmp3r rfl _ _ _) rfl ⟨rfl, HB.out.drew⟩
        · obtain ⟨k, hk⟩ : ∃ k : Nat, spE a = -(k : Int) := ⟨(-spE a).toNat, by omega⟩
          have hbd := who_bd (neg := sgnB a) (mode := m) (show spE a < 0 by omega) k3
          obtain ⟨K, hK⟩ : ∃ K, K = magK a m := ⟨_, rfl⟩
          have hbd : K ≤ 4503599627370496 := by rw [hK]; exact hbd
          have HWH : Hid (∀ W, Calls Tryz.prog 116 #[.bool (sgnB a), .int .u64 (spM a : Nat), .int .i64 (spE a), .int .i64 m] W fun e w' => e = .returned (.tuple #[.int .u64 (K : Nat), .int .i64 0]) ∧ Below W.heap.size W w') := fun W => by
            rw [hK]; exact d_who_low _ m W k3 hk (by omega) (by omega)
          obtain ⟨t1, t2, t3⟩ := hgood (by omega)
          rw [t1, t2, t3, ← hK]
          have o2 : IntKind.u64.wrap (K : Int) = (K : Int) := IntWalk.u64_in _ (by omega)
          generalize sgnB a = S at *
          generalize spM a = M at *
          generalize spE a = E at *
          clear hx hgood hbadk t1 t2 t3 k1 k2 k3 hE h0 hk hK
          by_cases hz : K = 0
          · subst hz
            go_enter Tryz.func118, Tryz.ntmps118
            go_wp2_with (first | (go_at_call 107; refine (HMO.out _).mono ?_; rintro e w' ⟨rfl, rfl⟩) | (go_at_call 58; refine (HNN.out _).mono ?_; rintro e w' ⟨rfl, rfl⟩) | (go_at_call 115; refine (HSP.out _).mono ?_; rintro e w' ⟨rfl, rfl⟩))
            refine (HWH.out _).mono ?_
            rintro e w1 ⟨rfl, hb⟩
            go_wp2
            exact bodyPost_ret (results_tmp3r rfl _ _ _) rfl ⟨rfl, hb⟩
          · have o1 : ((K : Int) == 0) = false := by rw [Bool.eq_false_iff, Ne, beq_iff_eq]; omega
            clear hz hbd
            go_enter Tryz.func118, Tryz.ntmps118
            go_wp2_with (first | (go_at_call 107; refine (HMO.out _).mono ?_; rintro e w' ⟨rfl, rfl⟩) | (go_at_call 58; refine (HNN.out _).mono ?_; rintro e w' ⟨rfl, rfl⟩) | (go_at_call 115; refine (HSP.out _).mono ?_; rintro e w' ⟨rfl, rfl⟩))
            refine (HWH.out _).mono ?_
            rintro e w1 ⟨rfl, hb⟩
            have HB : Hid (Below w.heap.size w w1) := hb
            clear hb
            go_upto_region 15 with fail
            go_region
            go_wp2
            exact bodyPost_ret (results_tmp3r rfl _ _ _) rfl ⟨rfl, HB.out.drew⟩
      · rw [i] at hai
        have hk : magOk a m = false := by unfold magOk; rw [i]; simp
        have h0 := (who_inf hm n i).2
        have t : magN a m = false ∧ magV a m = 0 ∧ magX a m = 11 := ⟨by unfold magN; rw [hk]; rfl, by unfold magV; rw [hk]; rfl, by unfold magX; rw [h0, hk]; rfl⟩
        rw [t.1, t.2.1, t.2.2]
        clear hx t h0 hk
        go_enter Tryz.func118, Tryz.ntmps118
        go_wp2_with (first | (go_at_call 107; refine (HMO.out _).mono ?_; rintro e w' ⟨rfl, rfl⟩) | (go_at_call 58; refine (HNN.out _).mono ?_; rintro e w' ⟨rfl, rfl⟩))
        exact bodyPost_ret (results_tmp3r rfl _ _ _) rfl ⟨rfl, Below.refl _ _⟩
    · rw [n] at HNN
      obtain ⟨t1, t2, t3⟩ := hx 10 (who_nan hm n).2 (by decide)
      rw [t1, t2, t3]
      clear hx t1 t2 t3
      go_enter Tryz.func118, Tryz.ntmps118
      go_wp2_with (first | (go_at_call 107; refine (HMO.out _).mono ?_; rintro e w' ⟨rfl, rfl⟩) | (go_at_call 58; refine (HNN.out _).mono ?_; rintro e w' ⟨rfl, rfl⟩))
      exact bodyPost_ret (results_tmp3r rfl _ _ _) rfl ⟨rfl, Below.refl _ _⟩
  · rw [decide_eq_false hm] at HMO
    obtain ⟨t1, t2, t3⟩ := hx 1 (who_bad hm).2 (by decide)
    rw [t1, t2, t3]
    clear hx t1 t2 t3
    go_enter Tryz.func118, Tryz.ntmps118
    go_wp2_with (first | (go_at_call 107; refine (HMO.out _).mono ?_; rintro e w' ⟨rfl, rfl⟩) | (go_at_call 58; refine (HNN.out _).mono ?_; rintro e w' ⟨rfl, rfl⟩))
    exact bodyPost_ret (results_tmp3r rfl _ _ _) rfl ⟨rfl, Below.refl _ _⟩
end Go.Proofs.YtgfbcncjboenbaaGreatDoor

/- Walks: the document's ToInt, ToUint; single's ToUint; the law SingleWhole. -/
namespace Go.Proofs.YtgfbcncjboenbaaGreatDoor
open Go.RowKit
open Go.Lib hiding intOf

theorem mag_cases {a : Nat} {m : Int} : (magX a m ≠ 0 ∧ magV a m = 0 ∧ toiA a m = 0 ∧ toiX a m = magX a m ∧ touA a m = 0 ∧ touX a m = magX a m) ∨
    (magX a m = 0 ∧ magV a m < 18446744073709551616 ∧ whoX a m = 0 ∧ infB a = false ∧ magN a m = sgnB a ∧ toiN a m = sg (magN a m) (magV a m)) := by
  by_cases h0 : whoX a m = 0
  · cases hk : magOk a m
    · left
      have hX : magX a m = 11 := by unfold magX; rw [hk, if_neg (fun g => g h0), if_neg (by decide)]
      have hV : magV a m = 0 := by unfold magV; rw [hk]; rfl
      have hno : ¬ (infB a = false ∧ (magK a m : Int) < 18446744073709551616) := by
        intro ⟨g1, g2⟩
        unfold magOk at hk
        rw [h0, g1, decide_eq_true (show magK a m < 18446744073709551616 by omega)] at hk
        simp at hk
      have hb1 : ¬ (infB a = false ∧ -9223372036854775808 ≤ toiN a m ∧ toiN a m < 9223372036854775808) := by
        intro ⟨g1, g2, g3⟩
        apply hno
        refine ⟨g1, ?_⟩
        have : toiN a m = sg (sgnB a) (magK a m) := rfl
        rcases (show sg (sgnB a) (magK a m) = (magK a m : Int) ∨ sg (sgnB a) (magK a m) = -(magK a m : Int) by cases sgnB a; exact .inl rfl; exact .inr rfl) with e | e <;> rw [this, e] at g2 g3 <;> omega
      have hb2 : ¬ (infB a = false ∧ 0 ≤ toiN a m ∧ toiN a m < 18446744073709551616) := by
        intro ⟨g1, g2, g3⟩
        apply hno
        refine ⟨g1, ?_⟩
        have : toiN a m = sg (sgnB a) (magK a m) := rfl
        rcases (show sg (sgnB a) (magK a m) = (magK a m : Int) ∨ sg (sgnB a) (magK a m) = -(magK a m : Int) by cases sgnB a; exact .inl rfl; exact .inr rfl) with e | e <;> rw [this, e] at g2 g3 <;> omega
      rw [hX]
      refine ⟨by decide, hV, ?_, ?_, ?_, ?_⟩
      · unfold toiA; rw [if_neg (fun g => hb1 g.2)]
      · unfold toiX; rw [if_neg (fun g => g h0), if_neg hb1]
      · unfold touA; rw [if_neg (fun g => hb2 g.2)]
      · unfold touX; rw [if_neg (fun g => g h0), if_neg hb2]
    · right
      have hV : magV a m = magK a m := by unfold magV; rw [hk]; rfl
      have hN : magN a m = sgnB a := by unfold magN; rw [hk]; rfl
      have hp : infB a = false ∧ magK a m < 18446744073709551616 := by
        unfold magOk at hk
        rw [h0] at hk
        cases hi : infB a
        · rw [hi] at hk; simp at hk; exact ⟨rfl, hk⟩
        · rw [hi] at hk; simp at hk
      refine ⟨by unfold magX; rw [hk, if_neg (fun g => g h0), if_pos rfl], by rw [hV]; exact hp.2, h0, hp.1, hN, ?_⟩
      rw [hN, hV]; rfl
  · left
    have hX : magX a m = whoX a m := by unfold magX; rw [if_pos h0]
    have hk : magOk a m = false := by unfold magOk; rw [decide_eq_false h0]; rfl
    rw [hX]
    refine ⟨h0, by unfold magV; rw [hk]; rfl, ?_, ?_, ?_, ?_⟩
    · unfold toiA; rw [if_neg (fun g => h0 g.1)]
    · unfold toiX; rw [if_pos h0]
    · unfold touA; rw [if_neg (fun g => h0 g.1)]
    · unfold touX; rw [if_pos h0]
theorem toi_in {a : Nat} {m : Int} (h0 : whoX a m = 0) (hi : infB a = false) (h : -9223372036854775808 ≤ toiN a m ∧ toiN a m < 9223372036854775808) : toiA a m = toiN a m ∧ toiX a m = 0 :=
  ⟨if_pos ⟨h0, hi, h⟩, (if_neg (fun g => g h0)).trans (if_pos ⟨hi, h⟩)⟩
theorem toi_out {a : Nat} {m : Int} (h0 : whoX a m = 0) (h : ¬ (-9223372036854775808 ≤ toiN a m ∧ toiN a m < 9223372036854775808)) : toiA a m = 0 ∧ toiX a m = 11 :=
  ⟨if_neg (fun g => h g.2.2), (if_neg (fun g => g h0)).trans (if_neg (fun g => h g.2))⟩
theorem tou_in {a : Nat} {m : Int} (h0 : whoX a m = 0) (hi : infB a = false) (h : 0 ≤ toiN a m ∧ toiN a m < 18446744073709551616) : touA a m = toiN a m ∧ touX a m = 0 :=
  ⟨if_pos ⟨h0, hi, h⟩, (if_neg (fun g => g h0)).trans (if_pos ⟨hi, h⟩)⟩
theorem tou_out {a : Nat} {m : Int} (h0 : whoX a m = 0) (h : ¬ (0 ≤ toiN a m ∧ toiN a m < 18446744073709551616)) : touA a m = 0 ∧ touX a m = 11 :=
  ⟨if_neg (fun g => h g.2.2), (if_neg (fun g => g h0)).trans (if_neg (fun g => h g.2))⟩
set_option maxHeartbeats 1000000 in
set_option maxRecDepth 100000 in
theorem d_toint {a : Nat} (ha : W64 a) (m : Int) (w : World) : Calls Tryz.prog 49 #[.int .u64 (a : Nat), .int .i64 m] w fun e w' => e = .returned (.tuple #[.int .i64 (toiA a m), .int .i64 (toiX a m)]) ∧ Below w.heap.size w w' := by
  have HM : Hid (Calls Tryz.prog 118 #[.int .u64 (a : Nat), .int .i64 m] w fun e w' => e = .returned (.tuple #[.bool (magN a m), .int .u64 (magV a m : Nat), .int .i64 (magX a m)]) ∧ Below w.heap.size w w') := d_magnitude ha m w
  have hc := mag_cases (a := a) (m := m)
  have hti := fun h0 hi h => toi_in (a := a) (m := m) h0 hi h
  have hto := fun h0 h => toi_out (a := a) (m := m) h0 h
  generalize magN a m = N at *
  generalize magV a m = V at *
  generalize magX a m = X at *
  rcases hc with ⟨x0, rfl, t1, t2, -, -⟩ | ⟨rfl, hv, h0, hi, -, hn⟩
  · rw [t1, t2]
    have q1 : (X != 0) = true := by rw [bne_iff_ne]; exact x0
    clear x0 t1 t2 hti hto
    go_enter Tryz.func49, Tryz.ntmps49
    go_wp2_with fail
    refine HM.out.mono ?_
    rintro e w1 ⟨rfl, hb⟩
    go_wp2
    go_ret2
    exact ⟨rfl, hb⟩
  · cases N
    · have hn : toiN a m = (V : Int) := hn.trans (if_neg (by decide))
      by_cases h : V < 9223372036854775808
      · obtain ⟨t1, t2⟩ := hti h0 hi (by omega)
        rw [t1, t2, hn]
        obtain ⟨v, hvv⟩ : ∃ v : Int, v = (V : Int) := ⟨_, rfl⟩
        have o0 : 0 ≤ v := by omega
        have o1 : ¬ (9223372036854775808 : Int) ≤ v := by omega
        have o2 : IntKind.i64.wrap v = v := IntWalk.i64_in _ (by omega)
        rw [← hvv] at HM ⊢
        clear hti hto t1 t2 h hv hn h0 hi hvv
        go_enter Tryz.func49, Tryz.ntmps49
        go_wp2_with fail
        refine HM.out.mono ?_
        rintro e w1 ⟨rfl, hb⟩
        go_wp2
        go_ret2
        exact ⟨rfl, hb⟩
      · obtain ⟨t1, t2⟩ := hto h0 (by omega)
        rw [t1, t2]
        have o1 : (9223372036854775808 : Int) ≤ V := by omega
        clear hti hto t1 t2 h hv hn h0 hi
        go_enter Tryz.func49, Tryz.ntmps49
        go_wp2_with fail
        refine HM.out.mono ?_
        rintro e w1 ⟨rfl, hb⟩
        go_wp2
        go_ret2
        exact ⟨rfl, hb⟩
    · have hn : toiN a m = -(V : Int) := hn.trans (if_pos rfl)
      by_cases h : V ≤ 9223372036854775808
      · obtain ⟨t1, t2⟩ := hti h0 hi (by omega)
        rw [t1, t2, hn]
        have o1 : (V : Int) ≤ 9223372036854775808 := by omega
        obtain ⟨Z, hZ⟩ : ∃ Z, Z = IntKind.u64.wrap (-(V : Int)) := ⟨_, rfl⟩
        have o2 : IntKind.u64.wrap (-(V : Int)) = Z := hZ.symm
        have o3 : IntKind.i64.wrap Z = -(V : Int) := by
          have e1 := IntKind.wrap_u64 (-(V : Int))
          have e2 := IntKind.wrap_i64 Z
          rw [← hZ] at e1
          omega
        clear hti hto t1 t2 h hv hn h0 hi hZ
        go_enter Tryz.func49, Tryz.ntmps49
        go_wp2_with fail
        refine HM.out.mono ?_
        rintro e w1 ⟨rfl, hb⟩
        go_wp2
        go_ret2
        exact ⟨rfl, hb⟩
      · obtain ⟨t1, t2⟩ := hto h0 (by omega)
        rw [t1, t2]
        have o1 : ¬ (V : Int) ≤ 9223372036854775808 := by omega
        clear hti hto t1 t2 h hv hn h0 hi
        go_enter Tryz.func49, Tryz.ntmps49
        go_wp2_with fail
        refine HM.out.mono ?_
        rintro e w1 ⟨rfl, hb⟩
        go_wp2
        go_ret2
        exact ⟨rfl, hb⟩
set_option maxHeartbeats 1000000 in
set_option maxRecDepth 100000 in
theorem d_touint {a : Nat} (ha : W64 a) (m : Int) (w : World) : Calls Tryz.prog 51 #[.int .u64 (a : Nat), .int .i64 m] w fun e w' => e = .returned (.tuple #[.int .u64 (touA a m), .int .i64 (touX a m)]) ∧ Below w.heap.size w w' := by
  have HM : Hid (Calls Tryz.prog 118 #[.int .u64 (a : Nat), .int .i64 m] w fun e w' => e = .returned (.tuple #[.bool (magN a m), .int .u64 (magV a m : Nat), .int .i64 (magX a m)]) ∧ Below w.heap.size w w') := d_magnitude ha m w
  have hc := mag_cases (a := a) (m := m)
  have hti := fun h0 hi h => tou_in (a := a) (m := m) h0 hi h
  have hto := fun h0 h => tou_out (a := a) (m := m) h0 h
  generalize magN a m = N at *
  generalize magV a m = V at *
  generalize magX a m = X at *
  rcases hc with ⟨x0, rfl, -, -, t1, t2⟩ | ⟨rfl, hv, h0, hi, -, hn⟩
  · rw [t1, t2]
    have q1 : (X == 0) = false := by rw [Bool.eq_false_iff, Ne, beq_iff_eq]; exact x0
    clear x0 t1 t2 hti hto
    go_enter Tryz.func51, Tryz.ntmps51
    go_wp2_with fail
    refine HM.out.mono ?_
    rintro e w1 ⟨rfl, hb⟩
    go_wp2
    go_ret2
    exact ⟨rfl, hb⟩
  · cases N
    · have hn : toiN a m = (V : Int) := hn.trans (if_neg (by decide))
      obtain ⟨t1, t2⟩ := hti h0 hi (by omega)
      rw [t1, t2, hn]
      clear hti hto t1 t2 hv hn h0 hi
      go_enter Tryz.func51, Tryz.ntmps51
      go_wp2_with fail
      refine HM.out.mono ?_
      rintro e w1 ⟨rfl, hb⟩
      go_wp2
      go_ret2
      exact ⟨rfl, hb⟩
    · have hn : toiN a m = -(V : Int) := hn.trans (if_pos rfl)
      by_cases h : V = 0
      · obtain ⟨t1, t2⟩ := hti h0 hi (by omega)
        rw [t1, t2, hn]
        subst h
        clear hti hto t1 t2 hv hn h0 hi
        go_enter Tryz.func51, Tryz.ntmps51
        go_wp2_with fail
        refine HM.out.mono ?_
        rintro e w1 ⟨rfl, hb⟩
        go_wp2
        go_ret2
        exact ⟨rfl, hb⟩
      · obtain ⟨t1, t2⟩ := hto h0 (by omega)
        rw [t1, t2]
        have o1 : (0 : Int) < V := by omega
        clear hti hto t1 t2 h hv hn h0 hi
        go_enter Tryz.func51, Tryz.ntmps51
        go_wp2_with fail
        refine HM.out.mono ?_
        rintro e w1 ⟨rfl, hb⟩
        go_wp2
        go_ret2
        exact ⟨rfl, hb⟩
end Go.Proofs.YtgfbcncjboenbaaGreatDoor

/- Walks: single's ToUint; the law SingleWhole. -/
namespace Go.Proofs.YtgfbcncjboenbaaGreatDoor
open Go.RowKit
open Go.Lib hiding intOf

set_option maxHeartbeats 1000000 in
set_option maxRecDepth 100000 in
theorem s_touint {a : Nat} (ha : W64 a) (m : Int) (w : World) : Calls Tryz.prog 50 #[.float .f64 a, .int .i64 m] w fun e w' => e = .returned (.tuple #[.int .u64 (touA a m), .int .i64 (touX a m)]) ∧ Below w.heap.size w w' := by
  have HW : Hid (Calls Tryz.prog 39 #[.float .f64 a, .int .i64 m] w fun e w' => e = .returned (.tuple #[.float .f64 (whoA a m), .int .i64 (whoX a m)]) ∧ Below w.heap.size w w') := s_whole ha m w
  obtain ⟨W0, hW0⟩ : ∃ W0, W0 = whoA a m := ⟨_, rfl⟩
  obtain ⟨X, hX⟩ : ∃ X, X = whoX a m := ⟨_, rfl⟩
  rw [← hW0, ← hX] at HW
  by_cases h0 : X = 0
  · have q1 : (X != 0) = false := by rw [h0]; rfl
    have hw0 : whoX a m = 0 := by rw [← hX, h0]
    have hm : (1 ≤ m ∧ m ≤ 6) ∧ nanB a = false := by
      by_cases hm : 1 ≤ m ∧ m ≤ 6
      · refine ⟨hm, ?_⟩
        cases n : nanB a
        · rfl
        · rw [hX, (who_nan hm n).2] at h0; cases h0
      · rw [hX, (who_bad hm).2] at h0; cases h0
    cases i : infB a
    · have fa : finB a = true := by rw [finB_eq, hm.2, i]; rfl
      obtain ⟨v1, v2, v3, v4, v5, v6, v7, v8, v9⟩ := who_word fa m rfl rfl
      have hB : W0 = sgW (sgnB a) + natR (whoN (sgnB a) m (spM a) (spE a)) := by rw [hW0, (who_fin hm.1 hm.2 i).1, v1]
      rw [← hB] at v4 v5 v6 v7 v8 v9
      obtain ⟨c1, -⟩ := ord_whole (X := toiN a m) (Y := 0) v4 (by unfold W64; decide : W64 0) v5 (by decide) v9 (by
        show sg (sgnB 0) (rv 52 (absB 0)) = _
        rw [show sgnB 0 = false by decide, show absB 0 = 0 by decide, rv_zero]; simp [sg])
      obtain ⟨-, c2⟩ := ord_whole (X := toiN a m) (Y := 18446744073709551616) v4 (by unfold W64; decide : W64 4895412794951729152) v5 (by decide) v9 (by
        have h := (val_63 rfl).2
        show sg (sgnB 4895412794951729152) (rv 52 (absB 4895412794951729152)) = _
        rw [show sgnB 4895412794951729152 = false by decide, show absB 4895412794951729152 = 4895412794951729152 by decide, h, sg_mul, Int.natCast_pow]; rfl)
      obtain ⟨-, c3⟩ := ord_whole (X := toiN a m) (Y := 9223372036854775808) v4 (by unfold W64; decide : W64 4890909195324358656) v5 (by decide) v9 (by
        have h := (val_63 rfl).1
        show sg (sgnB 4890909195324358656) (rv 52 (absB 4890909195324358656)) = _
        rw [show sgnB 4890909195324358656 = false by decide, show absB 4890909195324358656 = 4890909195324358656 by decide, h, sg_mul, Int.natCast_pow]; rfl)
      by_cases hr : 0 ≤ toiN a m ∧ toiN a m < 18446744073709551616
      · rw [decide_eq_false (by omega)] at c1
        rw [decide_eq_false (by omega)] at c2
        obtain ⟨t1, t2⟩ := tou_in hw0 i hr
        rw [t1, t2]
        obtain ⟨T, hT⟩ : ∃ T, T = toiN a m := ⟨_, rfl⟩
        by_cases h63 : 9223372036854775808 ≤ toiN a m
        · rw [decide_eq_true h63] at c3
          obtain ⟨K, hK⟩ : ∃ K, K = whoN (sgnB a) m (spM a) (spE a) := ⟨_, rfl⟩
          have hTK : toiN a m = sg (sgnB a) K := by rw [hK]; rfl
          have hs : sgnB a = false := by
            cases hs : sgnB a
            · rfl
            · rw [hTK, hs] at h63
              have : sg true K = -(K : Int) := rfl
              omega
          rw [hs] at hTK
          have hTK : toiN a m = (K : Int) := hTK.trans (if_neg (by decide))
          rw [← hK] at hB v2 v3 v7 v9
          rw [hs] at hB v8
          have hB2 : W0 = natR K := by rw [hB]; exact Nat.zero_add _
          rw [← hB2] at v2 v3
          obtain ⟨r, hr1, hr2⟩ := mod_ex 4890909195324358656 (by decide) (by decide) W0 W0 (Nat.le_refl _) v2
          obtain ⟨kk, hkk⟩ : ∃ kk, kk = LP := ⟨_, rfl⟩
          have hv63 := (val_63 hkk).1
          rw [← hkk] at v3
          rw [v3, hv63, Nat.mul_mod_mul_right] at hr2
          have hKb : 9223372036854775808 ≤ K ∧ K < 18446744073709551616 := by omega
          obtain ⟨J, hJ⟩ : ∃ J, K = J + 9223372036854775808 := ⟨K - 9223372036854775808, by omega⟩
          have hKm : K % 9223372036854775808 = J := by omega
          rw [hKm] at hr2
          have hsub : Go.floatBits .sub .f64 W0 4890909195324358656 = some r := by
            refine sub_pos W0 _ r v2 (by decide) ?_
            rw [hr2, hv63, v3, ← Nat.add_mul, hJ]
          have kf := fun W => run_float_arith (P := Tryz.prog) W .sub 23 .f64 W0 4890909195324358656 _ hsub
          have fr : finB r = true := by unfold finB absB; exact decide_eq_true (by omega)
          have hcv : Go.floatToIntVal .f64 r .u64 = some (T - 9223372036854775808) := by
            have := to_int_val (x := r) (s := false) (K := J) (by unfold W64; omega) fr (by unfold sgnB; exact decide_eq_false (by omega)) (by rw [show absB r = r by unfold absB; omega, ← hkk]; exact hr2) .u64 (by show (0 : Int) ≤ (J : Int); omega) (by show (J : Int) ≤ 18446744073709551615; omega)
            have hTJ : T - 9223372036854775808 = (J : Int) := by omega
            rw [hTJ, this]
            rfl
          have kc := fun W => run_convert_float_int (P := Tryz.prog) W 23 22 .f64 .u64 r _ (by kernel_rfl) (by kernel_rfl) hcv
          obtain ⟨Z, hZ⟩ : ∃ Z, Z = T - 9223372036854775808 := ⟨_, rfl⟩
          rw [← hZ] at kc
          have hwr : IntKind.u64.wrap (Z + 9223372036854775808) = T := by rw [IntWalk.u64_in _ (by omega)]; omega
          rw [← hT]
          clear hW0 hX h0 hm i fa v1 v2 v3 v4 v5 v6 v7 v8 v9 hB hr t1 t2 hT hcv hw0 h63 hK hTK hs hB2 hr1 hr2 hkk hv63 hKb hKm hsub fr hZ hJ
          go_enter Tryz.func50, Tryz.ntmps50
          go_wp2_with fail
          refine HW.out.mono ?_
          rintro e w1 ⟨rfl, hb1⟩
          go_wp2
          go_ret2
          exact ⟨rfl, hb1⟩
        · rw [decide_eq_false h63] at c3
          have hcv : Go.floatToIntVal .f64 W0 .u64 = some T := by
            rw [hT]
            exact to_int_val v4 v6 v8 (by rw [v7]; exact v3) .u64 (by show (0 : Int) ≤ _; exact hr.1) (by show _ ≤ (18446744073709551615 : Int); have := hr.2; unfold toiN at this; omega)
          have kc := fun W => run_convert_float_int (P := Tryz.prog) W 23 22 .f64 .u64 W0 T (by kernel_rfl) (by kernel_rfl) hcv
          rw [← hT]
          clear hW0 hX h0 hm i fa v1 v2 v3 v4 v5 v6 v7 v8 v9 hB hr t1 t2 hT hcv hw0 h63
          go_enter Tryz.func50, Tryz.ntmps50
          go_wp2_with fail
          refine HW.out.mono ?_
          rintro e w1 ⟨rfl, hb1⟩
          go_wp2
          go_ret2
          exact ⟨rfl, hb1⟩
      · obtain ⟨t1, t2⟩ := tou_out hw0 hr
        rw [t1, t2]
        obtain ⟨T, hT⟩ : ∃ T, T = toiN a m := ⟨_, rfl⟩
        rw [← hT] at c1 c2 c3 hr
        clear hW0 hX h0 hm i fa v1 v2 v3 v4 v5 v6 v7 v8 v9 hB t1 t2 hT hw0 c3
        by_cases hr2 : T < 0
        · rw [decide_eq_true hr2] at c1
          clear hr c2 hr2
          go_enter Tryz.func50, Tryz.ntmps50
          go_wp2_with fail
          refine HW.out.mono ?_
          rintro e w1 ⟨rfl, hb1⟩
          go_wp2
          go_ret2
          exact ⟨rfl, hb1⟩
        · rw [decide_eq_false hr2] at c1
          rw [decide_eq_true (by omega)] at c2
          clear hr hr2
          go_enter Tryz.func50, Tryz.ntmps50
          go_wp2_with fail
          refine HW.out.mono ?_
          rintro e w1 ⟨rfl, hb1⟩
          go_wp2
          go_ret2
          exact ⟨rfl, hb1⟩
    · have hA : touA a m = 0 ∧ touX a m = 11 := by
        unfold touA touX
        exact ⟨if_neg (fun g => by rw [i] at g; cases g.2.1), (if_neg (by rw [← hX]; exact fun g => g h0)).trans (if_neg (fun g => by rw [i] at g; cases g.1))⟩
      rw [hA.1, hA.2]
      have hW : W0 = a := by rw [hW0, (who_inf hm.1 hm.2 i).1]
      have hcs : a = 9218868437227405312 ∨ a = 18442240474082181120 := by
        have := of_decide_eq_true i
        have h2 := split_B a ha
        unfold sgnW at h2; split at h2 <;> omega
      rw [hW] at HW
      clear hW0 hX h0 hm i hA hW hw0
      rcases hcs with rfl | rfl
      · have c1 : (Go.FloatKind.f64.format.order 9218868437227405312 0 == some .lt) = false := by kernel_rfl
        have c2 : (Go.FloatKind.f64.format.order 9218868437227405312 4895412794951729152 == some .gt || Go.FloatKind.f64.format.order 9218868437227405312 4895412794951729152 == some .eq) = true := by kernel_rfl
        go_enter Tryz.func50, Tryz.ntmps50
        go_wp2_with fail
        refine HW.out.mono ?_
        rintro e w1 ⟨rfl, hb1⟩
        go_wp2
        go_ret2
        exact ⟨rfl, hb1⟩
      · have c1 : (Go.FloatKind.f64.format.order 18442240474082181120 0 == some .lt) = true := by kernel_rfl
        go_enter Tryz.func50, Tryz.ntmps50
        go_wp2_with fail
        refine HW.out.mono ?_
        rintro e w1 ⟨rfl, hb1⟩
        go_wp2
        go_ret2
        exact ⟨rfl, hb1⟩
  · have q1 : (X != 0) = true := by rw [bne_iff_ne]; exact h0
    have hA : touA a m = 0 ∧ touX a m = X := by
      unfold touA touX
      rw [← hX]
      exact ⟨if_neg (fun g => h0 g.1), if_pos h0⟩
    rw [hA.1, hA.2]
    clear hW0 hX h0 hA
    go_enter Tryz.func50, Tryz.ntmps50
    go_wp2_with fail
    refine HW.out.mono ?_
    rintro e w1 ⟨rfl, hb1⟩
    go_wp2
    go_ret2
    exact ⟨rfl, hb1⟩
set_option maxHeartbeats 4000000 in
set_option maxRecDepth 100000 in
theorem singleWhole_walk (a : Nat) (m : Int) (w : World) (ha : W64 a) (_ : -9223372036854775808 ≤ m) (_ : m ≤ 9223372036854775807) (htab : Tab w) : Calls Tryz.prog 10 #[.int .u64 (a : Nat), .int .i64 m] w fun e w' => e = .returned (.bool true) ∧ Below w.heap.size w w' := by
  have HW : Hid (Calls Tryz.prog 28 #[] w fun e w' => e = .returned (.bool true) ∧ Below w.heap.size w w') := awake4_v w htab
  obtain ⟨V, hV⟩ : ∃ x, x = whoA a m := ⟨_, rfl⟩
  obtain ⟨E, hE⟩ : ∃ x, x = whoX a m := ⟨_, rfl⟩
  obtain ⟨P, hP⟩ : ∃ x, x = toiA a m := ⟨_, rfl⟩
  obtain ⟨F, hF⟩ : ∃ x, x = toiX a m := ⟨_, rfl⟩
  obtain ⟨Q, hQ⟩ : ∃ x, x = touA a m := ⟨_, rfl⟩
  obtain ⟨G, hG⟩ : ∃ x, x = touX a m := ⟨_, rfl⟩
  have H1 : Hid (∀ W, Calls Tryz.prog 39 #[.float .f64 a, .int .i64 m] W fun e w' => e = .returned (.tuple #[.float .f64 V, .int .i64 E]) ∧ Below W.heap.size W w') := fun W => by rw [hV, hE]; exact s_whole ha m W
  have H2 : Hid (∀ W, Calls Tryz.prog 48 #[.int .u64 (a : Nat), .int .i64 m] W fun e w' => e = .returned (.tuple #[.int .u64 (V : Nat), .int .i64 E]) ∧ Below W.heap.size W w') := fun W => by rw [hV, hE]; exact d_Whole ha m W
  have H3 : Hid (∀ W, Calls Tryz.prog 38 #[.float .f64 a, .int .i64 m] W fun e w' => e = .returned (.tuple #[.int .i64 P, .int .i64 F]) ∧ Below W.heap.size W w') := fun W => by rw [hP, hF]; exact s_toint ha m W
  have H4 : Hid (∀ W, Calls Tryz.prog 49 #[.int .u64 (a : Nat), .int .i64 m] W fun e w' => e = .returned (.tuple #[.int .i64 P, .int .i64 F]) ∧ Below W.heap.size W w') := fun W => by rw [hP, hF]; exact d_toint ha m W
  have H5 : Hid (∀ W, Calls Tryz.prog 50 #[.float .f64 a, .int .i64 m] W fun e w' => e = .returned (.tuple #[.int .u64 Q, .int .i64 G]) ∧ Below W.heap.size W w') := fun W => by rw [hQ, hG]; exact s_touint ha m W
  have H6 : Hid (∀ W, Calls Tryz.prog 51 #[.int .u64 (a : Nat), .int .i64 m] W fun e w' => e = .returned (.tuple #[.int .u64 Q, .int .i64 G]) ∧ Below W.heap.size W w') := fun W => by rw [hQ, hG]; exact d_touint ha m W
  have HI : Hid (∀ W x, Calls Tryz.prog 41 #[.float .f64 x, .int .u64 (x : Nat)] W fun e w' => e = .returned (.bool true) ∧ Below W.heap.size W w') := fun W x => by
    have := is4_v x x W; rw [decide_eq_true rfl] at this; exact this
  have e1 : (E == E) = true := by simp
  have e2 : (P == P) = true := by simp
  have e3 : (F == F) = true := by simp
  have e4 : (Q == Q) = true := by simp
  have e5 : (G == G) = true := by simp
  clear htab hV hE hP hF hQ hG ha
  have HBW : Hid (Below w.heap.size w w) := Below.refl _ _
  go_enter Tryz.func10, Tryz.ntmps10
  go_wp2_with (first
    | (go_at_call 28; refine HW.out.mono ?_; rintro e w' ⟨rfl, hb⟩; have HBW : Hid (Below w.heap.size w w') := hb; clear hb)
    | (go_at_call 39; ((with_reducible refine (H1.out _).mono ?_); rintro e w' ⟨rfl, hb⟩; have HBW : Hid (Below w.heap.size w w') := HBW.out.thru hb; clear hb))
    | (go_at_call 48; ((with_reducible refine (H2.out _).mono ?_); rintro e w' ⟨rfl, hb⟩; have HBW : Hid (Below w.heap.size w w') := HBW.out.thru hb; clear hb))
    | (go_at_call 38; ((with_reducible refine (H3.out _).mono ?_); rintro e w' ⟨rfl, hb⟩; have HBW : Hid (Below w.heap.size w w') := HBW.out.thru hb; clear hb))
    | (go_at_call 49; ((with_reducible refine (H4.out _).mono ?_); rintro e w' ⟨rfl, hb⟩; have HBW : Hid (Below w.heap.size w w') := HBW.out.thru hb; clear hb))
    | (go_at_call 50; ((with_reducible refine (H5.out _).mono ?_); rintro e w' ⟨rfl, hb⟩; have HBW : Hid (Below w.heap.size w w') := HBW.out.thru hb; clear hb))
    | (go_at_call 51; ((with_reducible refine (H6.out _).mono ?_); rintro e w' ⟨rfl, hb⟩; have HBW : Hid (Below w.heap.size w w') := HBW.out.thru hb; clear hb))
    | (go_at_call 41; ((with_reducible refine (HI.out _ _).mono ?_); rintro e w' ⟨rfl, hb⟩; have HBW : Hid (Below w.heap.size w w') := HBW.out.thru hb; clear hb)))
  go_ret
  exact ⟨rfl, HBW.out⟩
end Go.Proofs.YtgfbcncjboenbaaGreatDoor
