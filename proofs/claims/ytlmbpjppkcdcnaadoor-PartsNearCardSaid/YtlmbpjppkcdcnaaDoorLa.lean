/- Walks: the laws PartsJoins, PartsKinds, PartsStands. -/
import Derived.Test.YtlmbpjppkcdcnaaDoorUn
namespace Go.Proofs.YtlmbpjppkcdcnaaDoor
open Go.RowKit

theorem wf_u64_bd {n : Int} (h : (Lit.int .u64 n).wf = true) : 0 ≤ n ∧ n ≤ 18446744073709551615 := by
  simp [Lit.wf, IntKind.min, IntKind.max, IntKind.signed, IntKind.bits] at h; omega
theorem wf_i64_bd {n : Int} (h : (Lit.int .i64 n).wf = true) : -9223372036854775808 ≤ n ∧ n ≤ 9223372036854775807 := by
  simp [Lit.wf, IntKind.min, IntKind.max, IntKind.signed, IntKind.bits] at h; omega
theorem is_same (n : Nat) (w : World) :
    Calls Tryd.prog 11 #[.float .f64 n, .int .u64 n] w fun e w' => e = .returned (.bool true) ∧ w = w' := by
  go_enter Tryd.func11, Tryd.ntmps11
  go_wp2
  go_ret
  exact ⟨rfl, rfl⟩
theorem aw_1 : W64 4591870180066957722 := by unfold W64; decide
theorem aw_2 : spS 4591870180066957722 = false ∧ spM 4591870180066957722 = 7205759403792794 ∧ spE 4591870180066957722 = -56 ∧ spX 4591870180066957722 = 0 := by decide +kernel
theorem aw_3 : W64 18014398509481984 := by unfold W64; decide
theorem aw_4 : joinB false 18014398509481984 (-54) = 4607182418800017408 ∧ joinX 18014398509481984 (-54) = 0 := by decide +kernel
theorem aw_5 : W64 4607182418800017408 := by unfold W64; decide
theorem aw_6 : W64 4611686018427387904 := by unfold W64; decide
theorem aw_7 : clsB 4607182418800017408 = 5 ∧ orderB 4607182418800017408 4611686018427387904 = -1 ∧ nanB 4607182418800017408 = false := by decide +kernel
theorem awake_any (w : World) (hT : TabW w) :
    Calls Tryd.prog 8 #[] w fun e w' => e = .returned (.bool true) ∧ w = w' := by
  obtain ⟨s1, s2, s3, s4⟩ := aw_2
  obtain ⟨j1, j2⟩ := aw_4
  obtain ⟨c1, c2, c3⟩ := aw_7
  go_enter Tryd.func8, Tryd.ntmps8
  go_wp2_with (first | (go_at_call 20; refine (split_any 4591870180066957722 _ aw_1).mono ?_; rintro e w' ⟨rfl, rfl⟩) | (go_at_call 9; refine (join_any false 18014398509481984 (-54) _ aw_3 hT (by decide) (by decide)).mono ?_; rintro e w' ⟨rfl, rfl⟩) | (go_at_call 16; refine (class_any 4607182418800017408 _ aw_5).mono ?_; rintro e w' ⟨rfl, rfl⟩) | (go_at_call 29; refine (order_any 4607182418800017408 4611686018427387904 _ aw_5 aw_6).mono ?_; rintro e w' ⟨rfl, rfl⟩))
  go_ret
  exact ⟨rfl, rfl⟩
theorem law_joins (neg : Bool) (m : Nat) (e : Int) (w : World) (hm : W64 m) (he1 : -9223372036854775808 ≤ e) (he2 : e ≤ 9223372036854775807) (hT : TabW w) :
    Calls Tryd.prog 3 #[.bool neg, .int .u64 m, .int .i64 e] w fun e w' => e = .returned (.bool true) ∧ w = w' := by
  go_enter Tryd.func3, Tryd.ntmps3
  go_wp2_with (first | (go_at_call 8; refine (awake_any _ hT).mono ?_; rintro e w' ⟨rfl, rfl⟩) | (go_at_call 9; refine (join_any neg m e _ hm hT he1 he2).mono ?_; rintro e w' ⟨rfl, rfl⟩) | (go_at_call 10; refine (rjoin_any neg m e _ hm).mono ?_; rintro e w' ⟨rfl, rfl⟩) | (go_at_call 11; refine (is_same _ _).mono ?_; rintro e w' ⟨rfl, rfl⟩))
  go_ret
  exact ⟨rfl, rfl⟩
theorem one_nan : oneB 9218868437227405313 = theNaN := by decide +kernel
theorem W64_nan : W64 9218868437227405313 := by unfold W64; decide
theorem law_kinds (b : Nat) (w : World) (hb : W64 b) (hT : TabW w) :
    Calls Tryd.prog 4 #[.int .u64 b] w fun e w' => e = .returned (.bool true) ∧ w = w' := by
  have h1 := one_nan
  go_enter Tryd.func4, Tryd.ntmps4
  go_wp2_with fail
  refine (awake_any _ hT).mono ?_; rintro e w' ⟨rfl, rfl⟩
  go_wp2_with fail
  refine (nan_any _).mono ?_; rintro e w' ⟨rfl, rfl⟩
  go_wp2_with fail
  refine (ref_one 9218868437227405313 _ W64_nan).mono ?_; rintro e w' ⟨rfl, rfl⟩
  go_wp2_with fail
  refine (is_same _ _).mono ?_; rintro e w' ⟨rfl, rfl⟩
  go_wp2_with fail
  refine (one_any _ _).mono ?_; rintro e w' ⟨rfl, rfl⟩
  go_wp2_with fail
  refine (ref_one _ _ hb).mono ?_; rintro e w' ⟨rfl, rfl⟩
  go_wp2_with fail
  refine (is_same _ _).mono ?_; rintro e w' ⟨rfl, rfl⟩
  go_wp2_with fail
  refine (class_any _ _ hb).mono ?_; rintro e w' ⟨rfl, rfl⟩
  go_wp2_with fail
  refine (ref_class _ _ hb).mono ?_; rintro e w' ⟨rfl, rfl⟩
  go_wp2_with fail
  refine (negative_any _ _ hb).mono ?_; rintro e w' ⟨rfl, rfl⟩
  go_wp2_with fail
  refine (ref_negative _ _ hb).mono ?_; rintro e w' ⟨rfl, rfl⟩
  go_wp2_with fail
  refine (split_any _ _ hb).mono ?_; rintro e w' ⟨rfl, rfl⟩
  go_wp2_with fail
  refine (ref_split _ _ hb).mono ?_; rintro e w' ⟨rfl, rfl⟩
  go_wp2_with fail
  go_ret
  exact ⟨rfl, rfl⟩
theorem law_stands (a b : Nat) (w : World) (ha : W64 a) (hb : W64 b) (hT : TabW w) :
    Calls Tryd.prog 7 #[.int .u64 a, .int .u64 b] w fun e w' => e = .returned (.bool true) ∧ w = w' := by
  go_enter Tryd.func7, Tryd.ntmps7
  go_wp2_with fail
  refine (awake_any _ hT).mono ?_; rintro e w' ⟨rfl, rfl⟩
  go_wp2_with fail
  refine (order_any _ _ _ ha hb).mono ?_; rintro e w' ⟨rfl, rfl⟩
  go_wp2_with fail
  refine (ref_order _ _ _ ha hb).mono ?_; rintro e w' ⟨rfl, rfl⟩
  go_wp2_with fail
  refine (same_any _ _ _ ha hb).mono ?_; rintro e w' ⟨rfl, rfl⟩
  go_wp2_with fail
  refine (ref_same _ _ _ ha hb).mono ?_; rintro e w' ⟨rfl, rfl⟩
  go_wp2_with fail
  refine (next_any _ _ ha).mono ?_; rintro e w' ⟨rfl, rfl⟩
  go_wp2_with fail
  refine (ref_next _ _ ha).mono ?_; rintro e w' ⟨rfl, rfl⟩
  go_wp2_with fail
  refine (is_same _ _).mono ?_; rintro e w' ⟨rfl, rfl⟩
  go_wp2_with fail
  refine (prev_any _ _ ha).mono ?_; rintro e w' ⟨rfl, rfl⟩
  go_wp2_with fail
  refine (ref_prev _ _ ha).mono ?_; rintro e w' ⟨rfl, rfl⟩
  go_wp2_with fail
  refine (is_same _ _).mono ?_; rintro e w' ⟨rfl, rfl⟩
  go_wp2_with fail
  refine (steps_any _ _ _ ha hb).mono ?_; rintro e w' ⟨rfl, rfl⟩
  go_wp2_with fail
  refine (ref_steps _ _ _ ha hb).mono ?_; rintro e w' ⟨rfl, rfl⟩
  go_wp2_with fail
  refine (unit_any _ _ ha hT).mono ?_; rintro e w' ⟨rfl, rfl⟩
  go_wp2_with fail
  refine (runit_any _ _ ha).mono ?_; rintro e w' ⟨rfl, rfl⟩
  go_wp2_with fail
  refine (single_any _ _ ha).mono ?_; rintro e w' ⟨rfl, rfl⟩
  go_wp2_with fail
  refine (rsingle_any _ _ ha).mono ?_; rintro e w' ⟨rfl, rfl⟩
  go_wp2_with fail
  refine (is_same _ _).mono ?_; rintro e w' ⟨rfl, rfl⟩
  go_wp2_with fail
  go_ret
  exact ⟨rfl, rfl⟩
end Go.Proofs.YtlmbpjppkcdcnaaDoor
