/- Walks: the references of layer 1 (quadrilleref01) that only look at the bits. -/
import Derived.Test.YtlmbpjppkcdcnaaDoorPa
namespace Go.Proofs.YtlmbpjppkcdcnaaDoor
open Go.RowKit

@[go_sem] theorem w_nan (b : Nat) : decide ((9218868437227405312 : Int) < ((absB b : Nat) : Int)) = nanB b := by unfold nanB; rw [decide_eq_decide]; omega
@[go_sem] theorem w_fin (b : Nat) : decide (((absB b : Nat) : Int) < (9218868437227405312 : Int)) = finB b := by unfold finB; rw [decide_eq_decide]; omega
@[go_sem] theorem w_inf (b : Nat) : (((absB b : Nat) : Int) == (9218868437227405312 : Int)) = infB b := by unfold infB; rw [Bool.eq_iff_iff]; simp; omega
@[go_sem] theorem w_zero (b : Nat) : (((absB b : Nat) : Int) == (0 : Int)) = zeroB b := by unfold zeroB; rw [Bool.eq_iff_iff]; simp
@[go_sem] theorem w_low (b : Nat) : decide (((absB b : Nat) : Int) ≤ (4503599627370495 : Int)) = lowB b := by unfold lowB; rw [decide_eq_decide]; omega
@[go_sem] theorem w_sgn (b : Nat) : (((sgnW b : Nat) : Int) != (0 : Int)) = sgnB b := by unfold sgnW; cases sgnB b <;> rfl

@[go_sem] theorem w_pinf (b : Nat) : ((b : Int) == (9218868437227405312 : Int)) = pinfB b := by unfold pinfB; rw [Bool.eq_iff_iff]; simp; omega
@[go_sem] theorem pinf_abs (b : Nat) : pinfB (absB b) = infB b := rfl
@[go_sem] theorem w_ninf (b : Nat) : ((b : Int) == (18442240474082181120 : Int)) = ninfB b := by unfold ninfB; rw [Bool.eq_iff_iff]; simp; omega
theorem ref_isnan (b : Nat) (w : World) (hb : W64 b) :
    Calls Tryd.prog 42 #[.int .u64 b] w fun e w' => e = .returned (.bool (nanB b)) ∧ w = w' := by
  go_enter Tryd.func42, Tryd.ntmps42
  go_wp2
  go_ret
  exact ⟨rfl, rfl⟩
theorem ref_finite (b : Nat) (w : World) (hb : W64 b) :
    Calls Tryd.prog 45 #[.int .u64 b] w fun e w' => e = .returned (.bool (finB b)) ∧ w = w' := by
  go_enter Tryd.func45, Tryd.ntmps45
  go_wp2
  go_ret
  exact ⟨rfl, rfl⟩
theorem ref_one (b : Nat) (w : World) (hb : W64 b) :
    Calls Tryd.prog 14 #[.int .u64 b] w fun e w' => e = .returned (.int .u64 (oneB b : Nat)) ∧ w = w' := by
  unfold oneB
  cases h : nanB b
  all_goals
    go_enter Tryd.func14, Tryd.ntmps14
    go_wp2_with (go_at_call 42; refine (ref_isnan _ _ (by assumption)).mono ?_; rintro e w' ⟨rfl, rfl⟩)
    go_ret
    exact ⟨rfl, rfl⟩
theorem ref_class (b : Nat) (w : World) (hb : W64 b) :
    Calls Tryd.prog 17 #[.int .u64 b] w fun e w' => e = .returned (.int .i64 (clsB b)) ∧ w = w' := by
  unfold clsB
  cases h : nanB b <;> cases hi : infB b <;> cases hz : zeroB b <;> cases hl : lowB b
  all_goals
    go_enter Tryd.func17, Tryd.ntmps17
    go_wp2
    go_ret
    exact ⟨rfl, rfl⟩
theorem ref_negative (b : Nat) (w : World) (hb : W64 b) :
    Calls Tryd.prog 19 #[.int .u64 b] w fun e w' => e = .returned (.bool (negB b)) ∧ w = w' := by
  unfold negB
  cases h : nanB b
  all_goals
    go_enter Tryd.func19, Tryd.ntmps19
    go_wp2_with (go_at_call 42; refine (ref_isnan _ _ (by assumption)).mono ?_; rintro e w' ⟨rfl, rfl⟩)
    go_ret
    exact ⟨rfl, rfl⟩
theorem ref_split (b : Nat) (w : World) (hb : W64 b) :
    Calls Tryd.prog 21 #[.int .u64 b] w fun e w' => e = .returned (.tuple #[.bool (spS b), .int .u64 (spM b), .int .i64 (spE b), .int .i64 (spX b)]) ∧ w = w' := by
  have he := expB_le b
  cases hf : finB b
  · obtain ⟨e1, e2, e3, e4⟩ := sp_not b hf
    rw [e1, e2, e3, e4]; clear e1 e2 e3 e4
    go_enter Tryd.func21, Tryd.ntmps21
    go_wp2_with (go_at_call 45; refine (ref_finite _ _ (by assumption)).mono ?_; rintro e w' ⟨rfl, rfl⟩)
    (try simp only [Exit.inBlock, Exit.then])
    exact bodyPost_ret (results_tmp4 rfl _ _ _) rfl ⟨rfl, rfl⟩
  cases hl : lowB b
  · obtain ⟨e1, e2, e3, e4, hx⟩ := sp_norm b hf hl
    rw [e1, e2, e3, e4]; clear e1 e2 e3 e4
    go_enter Tryd.func21, Tryd.ntmps21
    go_wp2_with (go_at_call 45; refine (ref_finite _ _ (by assumption)).mono ?_; rintro e w' ⟨rfl, rfl⟩)
    (try simp only [Exit.inBlock, Exit.then])
    exact bodyPost_ret (results_tmp4 rfl _ _ _) rfl ⟨rfl, rfl⟩
  cases hz : zeroB b
  · obtain ⟨e1, e2, e3, e4, hx, hy⟩ := sp_sub b hf hl hz
    rw [e1, e2, e3, e4]; clear e1 e2 e3 e4
    go_enter Tryd.func21, Tryd.ntmps21
    go_wp2_with (go_at_call 45; refine (ref_finite _ _ (by assumption)).mono ?_; rintro e w' ⟨rfl, rfl⟩)
    (try simp only [Exit.inBlock, Exit.then])
    exact bodyPost_ret (results_tmp4 rfl _ _ _) rfl ⟨rfl, rfl⟩
  · obtain ⟨e1, e2, e3, e4, hx, hy⟩ := sp_nought b hf hl hz
    rw [e1, e2, e3, e4]; clear e1 e2 e3 e4
    go_enter Tryd.func21, Tryd.ntmps21
    go_wp2_with (go_at_call 45; refine (ref_finite _ _ (by assumption)).mono ?_; rintro e w' ⟨rfl, rfl⟩)
    (try simp only [Exit.inBlock, Exit.then])
    exact bodyPost_ret (results_tmp4 rfl _ _ _) rfl ⟨rfl, rfl⟩
theorem ref_key (b : Nat) (w : World) (hb : W64 b) :
    Calls Tryd.prog 48 #[.int .u64 b] w fun e w' => e = .returned (.int .i64 (keyB b)) ∧ w = w' := by
  unfold keyB
  have ha : (absB b : Int) ≤ 9223372036854775807 := by have := absB_lt b; omega
  cases h : nanB b <;> cases hs : sgnB b
  all_goals
    go_enter Tryd.func48, Tryd.ntmps48
    go_wp2_with (go_at_call 42; refine (ref_isnan _ _ (by assumption)).mono ?_; rintro e w' ⟨rfl, rfl⟩)
    go_ret
    exact ⟨rfl, rfl⟩
theorem ref_at (k : Int) (w : World) (h : -9223372036854775807 ≤ k) (h2 : k ≤ 9223372036854775807) :
    Calls Tryd.prog 49 #[.int .i64 k] w fun e w' => e = .returned (.int .u64 (atB k : Nat)) ∧ w = w' := by
  by_cases c : k < 0
  · go_enter Tryd.func49, Tryd.ntmps49
    go_wp2
    go_ret
    exact ⟨ret_int (at_or k c h), rfl⟩
  · have c' : 0 ≤ k := by omega
    go_enter Tryd.func49, Tryd.ntmps49
    go_wp2
    go_ret
    exact ⟨ret_int (by rw [atB_pos k c']; omega), rfl⟩
theorem ref_order (a b : Nat) (w : World) (ha : W64 a) (hb : W64 b) :
    Calls Tryd.prog 30 #[.int .u64 a, .int .u64 b] w fun e w' => e = .returned (.int .i64 (orderB a b)) ∧ w = w' := by
  unfold orderB
  rcases Int.lt_trichotomy (keyB a) (keyB b) with h | h | h
  · rw [if_pos h]
    go_enter Tryd.func30, Tryd.ntmps30
    go_wp2_with (go_at_call 48; refine (ref_key _ _ (by assumption)).mono ?_; rintro e w' ⟨rfl, rfl⟩)
    go_ret
    exact ⟨rfl, rfl⟩
  · rw [if_neg (by omega), if_neg (by omega)]
    have h1 : ¬ keyB a < keyB b := by omega
    have h2 : ¬ keyB b < keyB a := by omega
    clear h
    go_enter Tryd.func30, Tryd.ntmps30
    go_wp2_with (go_at_call 48; refine (ref_key _ _ (by assumption)).mono ?_; rintro e w' ⟨rfl, rfl⟩)
    go_ret
    exact ⟨rfl, rfl⟩
  · rw [if_neg (by omega), if_pos h]
    have h1 : ¬ keyB a < keyB b := by omega
    go_enter Tryd.func30, Tryd.ntmps30
    go_wp2_with (go_at_call 48; refine (ref_key _ _ (by assumption)).mono ?_; rintro e w' ⟨rfl, rfl⟩)
    go_ret
    exact ⟨rfl, rfl⟩
theorem ref_same (a b : Nat) (w : World) (ha : W64 a) (hb : W64 b) :
    Calls Tryd.prog 31 #[.int .u64 a, .int .u64 b] w fun e w' => e = .returned (.bool (keyB a == keyB b)) ∧ w = w' := by
  rw [← orderB_zero]
  go_enter Tryd.func31, Tryd.ntmps31
  go_wp2_with (go_at_call 30; refine (ref_order _ _ _ (by assumption) (by assumption)).mono ?_; rintro e w' ⟨rfl, rfl⟩)
  go_ret
  exact ⟨rfl, rfl⟩
theorem ref_next (b : Nat) (w : World) (hb : W64 b) :
    Calls Tryd.prog 32 #[.int .u64 b] w fun e w' => e = .returned (.int .u64 (nextB b : Nat)) ∧ w = w' := by
  unfold nextB
  cases h : nanB b
  · cases h2 : pinfB b
    · obtain ⟨hk, hk'⟩ := keyB_next b h h2
      go_enter Tryd.func32, Tryd.ntmps32
      go_wp2_with (first | (go_at_call 42; refine (ref_isnan _ _ hb).mono ?_; rintro e w' ⟨rfl, rfl⟩) | (go_at_call 48; refine (ref_key _ _ hb).mono ?_; rintro e w' ⟨rfl, rfl⟩) | (go_at_call 49; refine (ref_at _ _ (by omega) (by omega)).mono ?_; rintro e w' ⟨rfl, rfl⟩))
      go_ret
      exact ⟨rfl, rfl⟩
    · go_enter Tryd.func32, Tryd.ntmps32
      go_wp2_with (first | (go_at_call 42; refine (ref_isnan _ _ hb).mono ?_; rintro e w' ⟨rfl, rfl⟩) | (go_at_call 14; refine (ref_one _ _ hb).mono ?_; rintro e w' ⟨rfl, rfl⟩))
      go_ret
      exact ⟨rfl, rfl⟩
  · go_enter Tryd.func32, Tryd.ntmps32
    go_wp2_with (first | (go_at_call 42; refine (ref_isnan _ _ hb).mono ?_; rintro e w' ⟨rfl, rfl⟩) | (go_at_call 14; refine (ref_one _ _ hb).mono ?_; rintro e w' ⟨rfl, rfl⟩))
    go_ret
    exact ⟨rfl, rfl⟩
theorem ref_prev (b : Nat) (w : World) (hb : W64 b) :
    Calls Tryd.prog 33 #[.int .u64 b] w fun e w' => e = .returned (.int .u64 (prevB b : Nat)) ∧ w = w' := by
  unfold prevB
  cases h : nanB b
  · cases h2 : ninfB b
    · obtain ⟨hk, hk'⟩ := keyB_prev b h h2 hb
      go_enter Tryd.func33, Tryd.ntmps33
      go_wp2_with (first | (go_at_call 42; refine (ref_isnan _ _ hb).mono ?_; rintro e w' ⟨rfl, rfl⟩) | (go_at_call 48; refine (ref_key _ _ hb).mono ?_; rintro e w' ⟨rfl, rfl⟩) | (go_at_call 49; refine (ref_at _ _ (by omega) (by omega)).mono ?_; rintro e w' ⟨rfl, rfl⟩))
      go_ret
      exact ⟨rfl, rfl⟩
    · go_enter Tryd.func33, Tryd.ntmps33
      go_wp2_with (first | (go_at_call 42; refine (ref_isnan _ _ hb).mono ?_; rintro e w' ⟨rfl, rfl⟩) | (go_at_call 14; refine (ref_one _ _ hb).mono ?_; rintro e w' ⟨rfl, rfl⟩))
      go_ret
      exact ⟨rfl, rfl⟩
  · go_enter Tryd.func33, Tryd.ntmps33
    go_wp2_with (first | (go_at_call 42; refine (ref_isnan _ _ hb).mono ?_; rintro e w' ⟨rfl, rfl⟩) | (go_at_call 14; refine (ref_one _ _ hb).mono ?_; rintro e w' ⟨rfl, rfl⟩))
    go_ret
    exact ⟨rfl, rfl⟩
theorem ref_steps (a b : Nat) (w : World) (ha : W64 a) (hb : W64 b) :
    Calls Tryd.prog 34 #[.int .u64 a, .int .u64 b] w fun e w' => e = .returned (.tuple #[.int .i64 (stepsN a b), .int .i64 (stepsX a b)]) ∧ w = w' := by
  cases h1 : nanB a <;> cases h2 : nanB b
  · go_enter Tryd.func34, Tryd.ntmps34
    go_wp2_with (first | (go_at_call 42; refine (ref_isnan _ _ (by assumption)).mono ?_; rintro e w' ⟨rfl, rfl⟩) | (go_at_call 48; refine (ref_key _ _ (by assumption)).mono ?_; rintro e w' ⟨rfl, rfl⟩))
    all_goals go_ret2
    all_goals (refine ⟨ret_two ?_ ?_, rfl⟩; all_goals go_tidy)
    · exact (rst_a a b h1 h2 (by assumption) (by assumption)).1
    · exact (rst_a a b h1 h2 (by assumption) (by assumption)).2
    · exact (rst_b a b h1 h2 (by assumption) (by assumption)).1
    · exact (rst_b a b h1 h2 (by assumption) (by assumption)).2
    · exact (rst_c a b h1 h2 (by assumption) (by assumption)).1
    · exact (rst_c a b h1 h2 (by assumption) (by assumption)).2
    · exact (rst_d a b h1 h2 (by assumption) (by assumption)).1
    · exact (rst_d a b h1 h2 (by assumption) (by assumption)).2
  all_goals
    obtain ⟨e1, e2⟩ := steps_nan a b (by rw [h1, h2]; rfl)
    rw [e1, e2]; clear e1 e2
    go_enter Tryd.func34, Tryd.ntmps34
    go_wp2_with (go_at_call 42; refine (ref_isnan _ _ (by assumption)).mono ?_; rintro e w' ⟨rfl, rfl⟩)
    go_ret2
    exact ⟨rfl, rfl⟩
end Go.Proofs.YtlmbpjppkcdcnaaDoor
