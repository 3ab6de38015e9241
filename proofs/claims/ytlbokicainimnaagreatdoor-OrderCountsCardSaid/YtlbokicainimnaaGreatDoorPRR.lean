import Derived.Test.YtlbokicainimnaaGreatDoorPQC
namespace Go.Proofs.YtlbokicainimnaaGreatDoor
open Go.RowKit
@[go_sem] theorem w_nan (b : Nat) : decide ((9218868437227405312 : Int) < ((absB b : Nat) : Int)) = nanB b := by unfold nanB; rw [decide_eq_decide]; omega
@[go_sem] theorem w_fin (b : Nat) : decide (((absB b : Nat) : Int) < (9218868437227405312 : Int)) = finB b := by unfold finB; rw [decide_eq_decide]; omega
@[go_sem] theorem w_inf (b : Nat) : (((absB b : Nat) : Int) == (9218868437227405312 : Int)) = infB b := by unfold infB; rw [Bool.eq_iff_iff]; simp; omega
@[go_sem] theorem w_zero (b : Nat) : (((absB b : Nat) : Int) == (0 : Int)) = zeroB b := by unfold zeroB; rw [Bool.eq_iff_iff]; simp
@[go_sem] theorem w_low (b : Nat) : decide (((absB b : Nat) : Int) ≤ (4503599627370495 : Int)) = lowB b := by unfold lowB; rw [decide_eq_decide]; omega
@[go_sem] theorem w_sgn (b : Nat) : (((sgnW b : Nat) : Int) != (0 : Int)) = sgnB b := by unfold sgnW; cases sgnB b <;> rfl
@[go_sem] theorem w_pinf (b : Nat) : ((b : Int) == (9218868437227405312 : Int)) = pinfB b := by unfold pinfB; rw [Bool.eq_iff_iff]; simp; omega
@[go_sem] theorem pinf_abs (b : Nat) : pinfB (absB b) = infB b := rfl
@[go_sem] theorem w_ninf (b : Nat) : ((b : Int) == (18442240474082181120 : Int)) = ninfB b := by unfold ninfB; rw [Bool.eq_iff_iff]; simp; omega
theorem ref_isnan (b : Nat) (w : World) (hb : W64 b) :
  Calls Tryz.prog 34 #[.int .u64 b] w fun e w' => e = .returned (.bool (nanB b)) ∧ w = w' := by
 go_enter Tryz.func34, Tryz.ntmps34
 go_wp2
 go_ret
 exact ⟨rfl, rfl⟩
theorem ref_finite (b : Nat) (w : World) (hb : W64 b) :
  Calls Tryz.prog 16 #[.int .u64 b] w fun e w' => e = .returned (.bool (finB b)) ∧ w = w' := by
 go_enter Tryz.func16, Tryz.ntmps16
 go_wp2
 go_ret
 exact ⟨rfl, rfl⟩
theorem ref_nought (b : Nat) (w : World) (hb : W64 b) :
  Calls Tryz.prog 64 #[.int .u64 b] w fun e w' => e = .returned (.bool (zeroB b)) ∧ w = w' := by
 go_enter Tryz.func64, Tryz.ntmps64
 go_wp2
 go_ret
 exact ⟨rfl, rfl⟩
theorem ref_one (b : Nat) (w : World) (hb : W64 b) :
  Calls Tryz.prog 85 #[.int .u64 b] w fun e w' => e = .returned (.int .u64 (oneB b : Nat)) ∧ w = w' := by
 unfold oneB
 cases h : nanB b
 all_goals
  go_enter Tryz.func85, Tryz.ntmps85
  go_wp2_with (go_at_call 34; refine (ref_isnan _ _ (by assumption)).mono ?_; rintro e w' ⟨rfl, rfl⟩)
  go_ret
  exact ⟨rfl, rfl⟩
theorem ref_key (b : Nat) (w : World) (hb : W64 b) :
  Calls Tryz.prog 137 #[.int .u64 b] w fun e w' => e = .returned (.int .i64 (keyB b)) ∧ w = w' := by
 unfold keyB
 have ha : (absB b : Int) ≤ 9223372036854775807 := by have := absB_lt b; omega
 cases h : nanB b <;> cases hs : sgnB b
 all_goals
  go_enter Tryz.func137, Tryz.ntmps137
  go_wp2_with (go_at_call 34; refine (ref_isnan _ _ (by assumption)).mono ?_; rintro e w' ⟨rfl, rfl⟩)
  go_ret
  exact ⟨rfl, rfl⟩
theorem ref_order (a b : Nat) (w : World) (ha : W64 a) (hb : W64 b) :
  Calls Tryz.prog 86 #[.int .u64 a, .int .u64 b] w fun e w' => e = .returned (.int .i64 (orderB a b)) ∧ w = w' := by
 unfold orderB
 rcases Int.lt_trichotomy (keyB a) (keyB b) with h | h | h
 ·rw [if_pos h]
  go_enter Tryz.func86, Tryz.ntmps86
  go_wp2_with (go_at_call 137; refine (ref_key _ _ (by assumption)).mono ?_; rintro e w' ⟨rfl, rfl⟩)
  go_ret
  exact ⟨rfl, rfl⟩
 ·rw [if_neg (by omega), if_neg (by omega)]
  have h1 : ¬ keyB a < keyB b := by omega
  have h2 : ¬ keyB b < keyB a := by omega
  clear h
  go_enter Tryz.func86, Tryz.ntmps86
  go_wp2_with (go_at_call 137; refine (ref_key _ _ (by assumption)).mono ?_; rintro e w' ⟨rfl, rfl⟩)
  go_ret
  exact ⟨rfl, rfl⟩
 ·rw [if_neg (by omega), if_pos h]
  have h1 : ¬ keyB a < keyB b := by omega
  go_enter Tryz.func86, Tryz.ntmps86
  go_wp2_with (go_at_call 137; refine (ref_key _ _ (by assumption)).mono ?_; rintro e w' ⟨rfl, rfl⟩)
  go_ret
  exact ⟨rfl, rfl⟩
theorem ref_same (a b : Nat) (w : World) (ha : W64 a) (hb : W64 b) :
  Calls Tryz.prog 89 #[.int .u64 a, .int .u64 b] w fun e w' => e = .returned (.bool (keyB a == keyB b)) ∧ w = w' := by
 rw [← orderB_zero]
 go_enter Tryz.func89, Tryz.ntmps89
 go_wp2_with (go_at_call 86; refine (ref_order _ _ _ (by assumption) (by assumption)).mono ?_; rintro e w' ⟨rfl, rfl⟩)
 go_ret
 exact ⟨rfl, rfl⟩
end Go.Proofs.YtlbokicainimnaaGreatDoor
