/- Parts Pa, Pb, Ra of the proof, in one text. -/
import Derived.Test.YtiimjbpfdidgcaaDoorRows
import Derived.Test.YtiimjbpfdidgcaaDoorHA

/- Walks: what the functions of math and parts that only look at a number's bits return. -/
namespace Go.Proofs.YtiimjbpfdidgcaaDoor
open Go.RowKit

@[go_sem] theorem run_fbits (b : Nat) (w : World) : (callFunc 30 #[.float .f64 b]).run Tryd.prog w = .ok (.value (.int .u64 b)) w := by kernel_rfl
@[go_sem] theorem run_ffrom (n : Int) (w : World) : (callFunc 10 #[.int .u64 n]).run Tryd.prog w = .ok (.value (.float .f64 n.toNat)) w := by kernel_rfl
theorem results_tmp4 {fn : Func} {t u v x : Tmp} (h : fn.results = #[.tmp t, .tmp u, .tmp v, .tmp x]) (tmps : Array Value) (P : Program) (w : World) :
    (results fn tmps).run P w = .ok (.tuple #[tmps.getD t undef, tmps.getD u undef, tmps.getD v undef, tmps.getD x undef]) w := by
  simp [results, h]
theorem ret_float {a b : Nat} (h : a = b) : Ending.returned (.float .f64 a) = .returned (.float .f64 b) := by rw [h]
theorem ret_int {k : IntKind} {a b : Int} (h : a = b) : Ending.returned (.int k a) = .returned (.int k b) := by rw [h]
theorem ret_two {k l : IntKind} {a b c d : Int} (h : a = b) (h' : c = d) : Ending.returned (.tuple #[.int k a, .int l c]) = .returned (.tuple #[.int k b, .int l d]) := by rw [h, h']
theorem ret_bool {a b : Bool} (h : a = b) : Ending.returned (.bool a) = .returned (.bool b) := by rw [h]

theorem abs_any (b : Nat) (w : World) (hb : W64 b) :
    Calls Tryd.prog 36 #[.float .f64 b] w fun e w' => e = .returned (.float .f64 (absB b)) ∧ w = w' := by
  go_enter Tryd.func36, Tryd.ntmps36
  go_wp2
  go_ret
  exact ⟨rfl, rfl⟩

theorem signbit_any (b : Nat) (w : World) (hb : W64 b) :
    Calls Tryd.prog 35 #[.float .f64 b] w fun e w' => e = .returned (.bool (sgnB b)) ∧ w = w' := by
  go_enter Tryd.func35, Tryd.ntmps35
  go_wp2
  go_ret
  exact ⟨rfl, rfl⟩

theorem copysign_any (b s : Nat) (w : World) (hb : W64 b) (hs : W64 s) :
    Calls Tryd.prog 31 #[.float .f64 b, .float .f64 s] w fun e w' => e = .returned (.float .f64 (sgnW s + absB b)) ∧ w = w' := by
  go_enter Tryd.func31, Tryd.ntmps31
  go_wp2
  go_ret
  exact ⟨rfl, rfl⟩

theorem nan_any (w : World) :
    Calls Tryd.prog 42 #[] w fun e w' => e = .returned (.float .f64 theNaN) ∧ w = w' := by
  go_enter Tryd.func42, Tryd.ntmps42
  go_wp2
  go_ret
  exact ⟨rfl, rfl⟩

theorem one_any (b : Nat) (w : World) :
    Calls Tryd.prog 60 #[.float .f64 b] w fun e w' => e = .returned (.float .f64 (oneB b)) ∧ w = w' := by
  unfold oneB
  cases h : nanB b
  all_goals
    go_enter Tryd.func60, Tryd.ntmps60
    go_wp2_with (go_at_call 42; refine (nan_any _).mono ?_; rintro e w' ⟨rfl, rfl⟩)
    go_ret
    exact ⟨rfl, rfl⟩

theorem negative_any (b : Nat) (w : World) (hb : W64 b) :
    Calls Tryd.prog 72 #[.float .f64 b] w fun e w' => e = .returned (.bool (negB b)) ∧ w = w' := by
  unfold negB
  cases h : nanB b
  all_goals
    go_enter Tryd.func72, Tryd.ntmps72
    go_wp2_with (go_at_call 35; refine (signbit_any _ _ hb).mono ?_; rintro e w' ⟨rfl, rfl⟩)
    go_ret
    exact ⟨rfl, rfl⟩

end Go.Proofs.YtiimjbpfdidgcaaDoor

/- Walks: parts.power, Class, Split, at, Order, Same, Next, Prev, Steps. -/
namespace Go.Proofs.YtiimjbpfdidgcaaDoor
open Go.RowKit

/-- The bits of 2^-k. -/
def pwB (k : Nat) : Nat := (1023 - k) * 4503599627370496
theorem pw_div : ∀ k, k < 1022 → floatBits .quo .f64 (pwB k) 4611686018427387904 = some (pwB (k + 1)) := by
  show ∀ k, k < 1022 → Ieee.double.div (pwB k) 4611686018427387904 = some (pwB (k + 1))
  decide +kernel
theorem pwB_0 : pwB 0 = 4607182418800017408 := by decide
theorem pwB_1022 : pwB 1022 = 4503599627370496 := by decide
attribute [irreducible] pwB

set_option maxRecDepth 100000 in
theorem power_any (w : World) :
    Calls Tryd.prog 83 #[.int .i64 (-1022)] w fun e w' => e = .returned (.float .f64 4503599627370496) ∧ w = w' := by
  go_enter Tryd.func83, Tryd.ntmps83
  go_wp2
  go_loop [3, 8] (fun x i => ∃ k : Nat, k ≤ 1022 ∧ i = .int .i64 k ∧ x = .float .f64 (pwB k)) (fun _ i => 1022 - (intOf i).toNat)
  case atStart => exact ⟨0, by omega, rfl, by rw [pwB_0]⟩
  case round =>
    obtain ⟨k, hk, rfl, rfl⟩ := hrel
    by_cases hlt : k < 1022
    · have hq := fun (w : World) => run_float_arith (P := Tryd.prog) w .quo 24 .f64 _ _ _ (pw_div k hlt)
      go_wp2
      go_round
      case rel => exact ⟨k + 1, by omega, by go_num, rfl⟩
      case measure => simp [intOf]; omega
    · obtain rfl : k = 1022 := by omega
      go_wp2
      go_ret
      exact ⟨ret_float pwB_1022, rfl⟩

theorem class_any (b : Nat) (w : World) (hb : W64 b) :
    Calls Tryd.prog 59 #[.float .f64 b] w fun e w' => e = .returned (.int .i64 (clsB b)) ∧ w = w' := by
  unfold clsB
  cases h : nanB b <;> cases hi : infB b <;> cases hz : zeroB b <;> cases hl : lowB b
  all_goals
    go_enter Tryd.func59, Tryd.ntmps59
    go_wp2_with (first | (go_at_call 83; refine (power_any _).mono ?_; rintro e w' ⟨rfl, rfl⟩) | (go_at_call 36; refine (abs_any _ _ hb).mono ?_; rintro e w' ⟨rfl, rfl⟩))
    go_ret
    exact ⟨rfl, rfl⟩
theorem split_any (b : Nat) (w : World) (hb : W64 b) :
    Calls Tryd.prog 44 #[.float .f64 b] w fun e w' => e = .returned (.tuple #[.bool (spS b), .int .u64 (spM b), .int .i64 (spE b), .int .i64 (spX b)]) ∧ w = w' := by
  have he := expB_le b
  have hc : clsB b = if nanB b then 1 else if infB b then 2 else if zeroB b then 3 else if lowB b then 4 else 5 := rfl
  unfold spS spM spE spX
  cases h : nanB b <;> cases hi : infB b <;> cases hz : zeroB b <;> cases hl : lowB b <;> simp only [h, hi, hz, hl, if_true, if_false, Bool.or_true, Bool.or_false, Bool.false_eq_true] at hc ⊢
  all_goals
    go_enter Tryd.func44, Tryd.ntmps44
    go_wp2_with (first | (go_at_call 59; refine (class_any _ _ hb).mono ?_; rintro e w' ⟨rfl, rfl⟩) | (go_at_call 72; refine (negative_any _ _ hb).mono ?_; rintro e w' ⟨rfl, rfl⟩))
    (try simp only [Exit.inBlock, Exit.then])
    exact bodyPost_ret (results_tmp4 rfl _ _ _) rfl ⟨rfl, rfl⟩
end Go.Proofs.YtiimjbpfdidgcaaDoor

/- Walks: the references of layer 1 (quadrilleref01) that only look at the bits. -/
namespace Go.Proofs.YtiimjbpfdidgcaaDoor
open Go.RowKit

@[go_sem] theorem w_nan (b : Nat) : decide ((9218868437227405312 : Int) < ((absB b : Nat) : Int)) = nanB b := by unfold nanB; rw [decide_eq_decide]; omega
@[go_sem] theorem w_fin (b : Nat) : decide (((absB b : Nat) : Int) < (9218868437227405312 : Int)) = finB b := by unfold finB; rw [decide_eq_decide]; omega
@[go_sem] theorem w_inf (b : Nat) : (((absB b : Nat) : Int) == (9218868437227405312 : Int)) = infB b := by unfold infB; rw [Bool.eq_iff_iff]; simp; omega
@[go_sem] theorem w_zero (b : Nat) : (((absB b : Nat) : Int) == (0 : Int)) = zeroB b := by unfold zeroB; rw [Bool.eq_iff_iff]; simp
@[go_sem] theorem w_low (b : Nat) : decide (((absB b : Nat) : Int) ≤ (4503599627370495 : Int)) = lowB b := by unfold lowB; rw [decide_eq_decide]; omega
@[go_sem] theorem w_sgn (b : Nat) : (((sgnW b : Nat) : Int) != (0 : Int)) = sgnB b := by unfold sgnW; cases sgnB b <;> rfl

@[go_sem] theorem w_pinf (b : Nat) : ((b : Int) == (9218868437227405312 : Int)) = pinfB b := by unfold pinfB; rw [Bool.eq_iff_iff]; simp; omega
@[go_sem] theorem pinf_abs (b : Nat) : pinfB (absB b) = infB b := rfl
@[go_sem] theorem w_ninf (b : Nat) : ((b : Int) == (18442240474082181120 : Int)) = ninfB b := by unfold ninfB; rw [Bool.eq_iff_iff]; simp; omega
theorem ref_isnan (b : Nat) (w : World) (hb : W64 b) :
    Calls Tryd.prog 67 #[.int .u64 b] w fun e w' => e = .returned (.bool (nanB b)) ∧ w = w' := by
  go_enter Tryd.func67, Tryd.ntmps67
  go_wp2
  go_ret
  exact ⟨rfl, rfl⟩
theorem ref_finite (b : Nat) (w : World) (hb : W64 b) :
    Calls Tryd.prog 68 #[.int .u64 b] w fun e w' => e = .returned (.bool (finB b)) ∧ w = w' := by
  go_enter Tryd.func68, Tryd.ntmps68
  go_wp2
  go_ret
  exact ⟨rfl, rfl⟩
theorem ref_nought (b : Nat) (w : World) (hb : W64 b) :
    Calls Tryd.prog 49 #[.int .u64 b] w fun e w' => e = .returned (.bool (zeroB b)) ∧ w = w' := by
  go_enter Tryd.func49, Tryd.ntmps49
  go_wp2
  go_ret
  exact ⟨rfl, rfl⟩
theorem ref_one (b : Nat) (w : World) (hb : W64 b) :
    Calls Tryd.prog 29 #[.int .u64 b] w fun e w' => e = .returned (.int .u64 (oneB b : Nat)) ∧ w = w' := by
  unfold oneB
  cases h : nanB b
  all_goals
    go_enter Tryd.func29, Tryd.ntmps29
    go_wp2_with (go_at_call 67; refine (ref_isnan _ _ (by assumption)).mono ?_; rintro e w' ⟨rfl, rfl⟩)
    go_ret
    exact ⟨rfl, rfl⟩
theorem ref_split (b : Nat) (w : World) (hb : W64 b) :
    Calls Tryd.prog 77 #[.int .u64 b] w fun e w' => e = .returned (.tuple #[.bool (spS b), .int .u64 (spM b), .int .i64 (spE b), .int .i64 (spX b)]) ∧ w = w' := by
  have he := expB_le b
  cases hf : finB b
  · obtain ⟨e1, e2, e3, e4⟩ := sp_not b hf
    rw [e1, e2, e3, e4]; clear e1 e2 e3 e4
    go_enter Tryd.func77, Tryd.ntmps77
    go_wp2_with (go_at_call 68; refine (ref_finite _ _ (by assumption)).mono ?_; rintro e w' ⟨rfl, rfl⟩)
    (try simp only [Exit.inBlock, Exit.then])
    exact bodyPost_ret (results_tmp4 rfl _ _ _) rfl ⟨rfl, rfl⟩
  cases hl : lowB b
  · obtain ⟨e1, e2, e3, e4, hx⟩ := sp_norm b hf hl
    rw [e1, e2, e3, e4]; clear e1 e2 e3 e4
    go_enter Tryd.func77, Tryd.ntmps77
    go_wp2_with (go_at_call 68; refine (ref_finite _ _ (by assumption)).mono ?_; rintro e w' ⟨rfl, rfl⟩)
    (try simp only [Exit.inBlock, Exit.then])
    exact bodyPost_ret (results_tmp4 rfl _ _ _) rfl ⟨rfl, rfl⟩
  cases hz : zeroB b
  · obtain ⟨e1, e2, e3, e4, hx, hy⟩ := sp_sub b hf hl hz
    rw [e1, e2, e3, e4]; clear e1 e2 e3 e4
    go_enter Tryd.func77, Tryd.ntmps77
    go_wp2_with (go_at_call 68; refine (ref_finite _ _ (by assumption)).mono ?_; rintro e w' ⟨rfl, rfl⟩)
    (try simp only [Exit.inBlock, Exit.then])
    exact bodyPost_ret (results_tmp4 rfl _ _ _) rfl ⟨rfl, rfl⟩
  · obtain ⟨e1, e2, e3, e4, hx, hy⟩ := sp_nought b hf hl hz
    rw [e1, e2, e3, e4]; clear e1 e2 e3 e4
    go_enter Tryd.func77, Tryd.ntmps77
    go_wp2_with (go_at_call 68; refine (ref_finite _ _ (by assumption)).mono ?_; rintro e w' ⟨rfl, rfl⟩)
    (try simp only [Exit.inBlock, Exit.then])
    exact bodyPost_ret (results_tmp4 rfl _ _ _) rfl ⟨rfl, rfl⟩
theorem ref_key (b : Nat) (w : World) (hb : W64 b) :
    Calls Tryd.prog 88 #[.int .u64 b] w fun e w' => e = .returned (.int .i64 (keyB b)) ∧ w = w' := by
  unfold keyB
  have ha : (absB b : Int) ≤ 9223372036854775807 := by have := absB_lt b; omega
  cases h : nanB b <;> cases hs : sgnB b
  all_goals
    go_enter Tryd.func88, Tryd.ntmps88
    go_wp2_with (go_at_call 67; refine (ref_isnan _ _ (by assumption)).mono ?_; rintro e w' ⟨rfl, rfl⟩)
    go_ret
    exact ⟨rfl, rfl⟩
theorem ref_order (a b : Nat) (w : World) (ha : W64 a) (hb : W64 b) :
    Calls Tryd.prog 65 #[.int .u64 a, .int .u64 b] w fun e w' => e = .returned (.int .i64 (orderB a b)) ∧ w = w' := by
  unfold orderB
  rcases Int.lt_trichotomy (keyB a) (keyB b) with h | h | h
  · rw [if_pos h]
    go_enter Tryd.func65, Tryd.ntmps65
    go_wp2_with (go_at_call 88; refine (ref_key _ _ (by assumption)).mono ?_; rintro e w' ⟨rfl, rfl⟩)
    go_ret
    exact ⟨rfl, rfl⟩
  · rw [if_neg (by omega), if_neg (by omega)]
    have h1 : ¬ keyB a < keyB b := by omega
    have h2 : ¬ keyB b < keyB a := by omega
    clear h
    go_enter Tryd.func65, Tryd.ntmps65
    go_wp2_with (go_at_call 88; refine (ref_key _ _ (by assumption)).mono ?_; rintro e w' ⟨rfl, rfl⟩)
    go_ret
    exact ⟨rfl, rfl⟩
  · rw [if_neg (by omega), if_pos h]
    have h1 : ¬ keyB a < keyB b := by omega
    go_enter Tryd.func65, Tryd.ntmps65
    go_wp2_with (go_at_call 88; refine (ref_key _ _ (by assumption)).mono ?_; rintro e w' ⟨rfl, rfl⟩)
    go_ret
    exact ⟨rfl, rfl⟩
end Go.Proofs.YtiimjbpfdidgcaaDoor
