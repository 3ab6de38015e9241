/- Parts Pa, Pb, Ra of the proof, in one text. -/
import Derived.Test.YtiimjbpfdidgcaaGreatDoorRows
import Derived.Test.YtiimjbpfdidgcaaGreatDoorHA

/- Walks: what the functions of math and parts that only look at a number's bits return. -/
namespace Go.Proofs.YtiimjbpfdidgcaaGreatDoor
open Go.RowKit

@[go_sem] theorem run_fbits (b : Nat) (w : World) : (callFunc 38 #[.float .f64 b]).run Tryz.prog w = .ok (.value (.int .u64 b)) w := by kernel_rfl
@[go_sem] theorem run_ffrom (n : Int) (w : World) : (callFunc 5 #[.int .u64 n]).run Tryz.prog w = .ok (.value (.float .f64 n.toNat)) w := by kernel_rfl
theorem results_tmp4 {fn : Func} {t u v x : Tmp} (h : fn.results = #[.tmp t, .tmp u, .tmp v, .tmp x]) (tmps : Array Value) (P : Program) (w : World) :
    (results fn tmps).run P w = .ok (.tuple #[tmps.getD t undef, tmps.getD u undef, tmps.getD v undef, tmps.getD x undef]) w := by
  simp [results, h]
theorem ret_float {a b : Nat} (h : a = b) : Ending.returned (.float .f64 a) = .returned (.float .f64 b) := by rw [h]
theorem ret_int {k : IntKind} {a b : Int} (h : a = b) : Ending.returned (.int k a) = .returned (.int k b) := by rw [h]
theorem ret_two {k l : IntKind} {a b c d : Int} (h : a = b) (h' : c = d) : Ending.returned (.tuple #[.int k a, .int l c]) = .returned (.tuple #[.int k b, .int l d]) := by rw [h, h']
theorem ret_bool {a b : Bool} (h : a = b) : Ending.returned (.bool a) = .returned (.bool b) := by rw [h]

theorem abs_any (b : Nat) (w : World) (hb : W64 b) :
    Calls Tryz.prog 54 #[.float .f64 b] w fun e w' => e = .returned (.float .f64 (absB b)) ∧ w = w' := by
  go_enter Tryz.func54, Tryz.ntmps54
  go_wp2
  go_ret
  exact ⟨rfl, rfl⟩

theorem signbit_any (b : Nat) (w : World) (hb : W64 b) :
    Calls Tryz.prog 27 #[.float .f64 b] w fun e w' => e = .returned (.bool (sgnB b)) ∧ w = w' := by
  go_enter Tryz.func27, Tryz.ntmps27
  go_wp2
  go_ret
  exact ⟨rfl, rfl⟩

theorem copysign_any (b s : Nat) (w : World) (hb : W64 b) (hs : W64 s) :
    Calls Tryz.prog 30 #[.float .f64 b, .float .f64 s] w fun e w' => e = .returned (.float .f64 (sgnW s + absB b)) ∧ w = w' := by
  go_enter Tryz.func30, Tryz.ntmps30
  go_wp2
  go_ret
  exact ⟨rfl, rfl⟩

theorem nan_any (w : World) :
    Calls Tryz.prog 39 #[] w fun e w' => e = .returned (.float .f64 theNaN) ∧ w = w' := by
  go_enter Tryz.func39, Tryz.ntmps39
  go_wp2
  go_ret
  exact ⟨rfl, rfl⟩

theorem one_any (b : Nat) (w : World) :
    Calls Tryz.prog 35 #[.float .f64 b] w fun e w' => e = .returned (.float .f64 (oneB b)) ∧ w = w' := by
  unfold oneB
  cases h : nanB b
  all_goals
    go_enter Tryz.func35, Tryz.ntmps35
    go_wp2_with (go_at_call 39; refine (nan_any _).mono ?_; rintro e w' ⟨rfl, rfl⟩)
    go_ret
    exact ⟨rfl, rfl⟩

theorem negative_any (b : Nat) (w : World) (hb : W64 b) :
    Calls Tryz.prog 63 #[.float .f64 b] w fun e w' => e = .returned (.bool (negB b)) ∧ w = w' := by
  unfold negB
  cases h : nanB b
  all_goals
    go_enter Tryz.func63, Tryz.ntmps63
    go_wp2_with (go_at_call 27; refine (signbit_any _ _ hb).mono ?_; rintro e w' ⟨rfl, rfl⟩)
    go_ret
    exact ⟨rfl, rfl⟩

end Go.Proofs.YtiimjbpfdidgcaaGreatDoor

/- Walks: parts.power, Class, Split, at, Order, Same, Next, Prev, Steps. -/
namespace Go.Proofs.YtiimjbpfdidgcaaGreatDoor
open Go.RowKit

/-- The bits of 2^-k. -/
def pwB (k : Nat) : Nat := (1023 - k) * 4503599627370496
theorem pw_div : ∀ k, k < 1022 → floatBits .quo .f64 (pwB k) 4611686018427387904 = some (pwB (k + 1)) := by
  show ∀ k, k < 1022 → Ieee.double.div (pwB k) 4611686018427387904 = some (pwB (k + 1))
  decide +kernel
theorem pwB_0 : pwB 0 = 4607182418800017408 := by decide
theorem pwB_1022 : pwB 1022 = 4503599627370496 := by decide
attribute [irreducible] pwB

set_option maxRecDepth 100000 in
theorem power_any (w : World) :
    Calls Tryz.prog 68 #[.int .i64 (-1022)] w fun e w' => e = .returned (.float .f64 4503599627370496) ∧ w = w' := by
  go_enter Tryz.func68, Tryz.ntmps68
  go_wp2
  go_loop [3, 8] (fun x i => ∃ k : Nat, k ≤ 1022 ∧ i = .int .i64 k ∧ x = .float .f64 (pwB k)) (fun _ i => 1022 - (intOf i).toNat)
  case atStart => exact ⟨0, by omega, rfl, by rw [pwB_0]⟩
  case round =>
    obtain ⟨k, hk, rfl, rfl⟩ := hrel
    by_cases hlt : k < 1022
    · have hq := fun (w : World) => run_float_arith (P := Tryz.prog) w .quo 24 .f64 _ _ _ (pw_div k hlt)
      go_wp2
      go_round
      case rel => exact ⟨k + 1, by omega, by go_num, rfl⟩
      case measure => simp [intOf]; omega
    · obtain rfl : k = 1022 := by omega
      go_wp2
      go_ret
      exact ⟨ret_float pwB_1022, rfl⟩

theorem class_any (b : Nat) (w : World) (hb : W64 b) :
    Calls Tryz.prog 46 #[.float .f64 b] w fun e w' => e = .returned (.int .i64 (clsB b)) ∧ w = w' := by
  unfold clsB
  cases h : nanB b <;> cases hi : infB b <;> cases hz : zeroB b <;> cases hl : lowB b
  all_goals
    go_enter Tryz.func46, Tryz.ntmps46
    go_wp2_with (first | (go_at_call 68; refine (power_any _).mono ?_; rintro e w' ⟨rfl, rfl⟩) | (go_at_call 54; refine (abs_any _ _ hb).mono ?_; rintro e w' ⟨rfl, rfl⟩))
    go_ret
    exact ⟨rfl, rfl⟩
theorem split_any (b : Nat) (w : World) (hb : W64 b) :
    Calls Tryz.prog 42 #[.float .f64 b] w fun e w' => e = .returned (.tuple #[.bool (spS b), .int .u64 (spM b), .int .i64 (spE b), .int .i64 (spX b)]) ∧ w = w' := by
  have he := expB_le b
  have hc : clsB b = if nanB b then 1 else if infB b then 2 else if zeroB b then 3 else if lowB b then 4 else 5 := rfl
  unfold spS spM spE spX
  cases h : nanB b <;> cases hi : infB b <;> cases hz : zeroB b <;> cases hl : lowB b <;> simp only [h, hi, hz, hl, if_true, if_false, Bool.or_true, Bool.or_false, Bool.false_eq_true] at hc ⊢
  all_goals
    go_enter Tryz.func42, Tryz.ntmps42
    go_wp2_with (first | (go_at_call 46; refine (class_any _ _ hb).mono ?_; rintro e w' ⟨rfl, rfl⟩) | (go_at_call 63; refine (negative_any _ _ hb).mono ?_; rintro e w' ⟨rfl, rfl⟩))
    (try simp only [Exit.inBlock, Exit.then])
    exact bodyPost_ret (results_tmp4 rfl _ _ _) rfl ⟨rfl, rfl⟩
end Go.Proofs.YtiimjbpfdidgcaaGreatDoor

/- Walks: the references of layer 1 (quadrilleref01) that only look at the bits. -/
namespace Go.Proofs.YtiimjbpfdidgcaaGreatDoor
open Go.RowKit

@[go_sem] theorem w_nan (b : Nat) : decide ((9218868437227405312 : Int) < ((absB b : Nat) : Int)) = nanB b := by unfold nanB; rw [decide_eq_decide]; omega
@[go_sem] theorem w_fin (b : Nat) : decide (((absB b : Nat) : Int) < (9218868437227405312 : Int)) = finB b := by unfold finB; rw [decide_eq_decide]; omega
@[go_sem] theorem w_inf (b : Nat) : (((absB b : Nat) : Int) == (9218868437227405312 : Int)) = infB b := by unfold infB; rw [Bool.eq_iff_iff]; simp; omega
@[go_sem] theorem w_zero (b : Nat) : (((absB b : Nat) : Int) == (0 : Int)) = zeroB b := by unfold zeroB; rw [Bool.eq_iff_iff]; simp
@[go_sem] theorem w_low (b : Nat) : decide (((absB b : Nat) : Int) ≤ (4503599627370495 : Int)) = lowB b := by unfold lowB; rw [decide_eq_decide]; omega
@[go_sem] theorem w_sgn (b : Nat) : (((sgnW b : Nat) : Int) != (0 : Int)) = sgnB b := by unfold sgnW; cases sgnB b <;> rfl

@[go_sem] theorem w_pinf (b : Nat) : ((b : Int) == (9218868437227405312 : Int)) = pinfB b := by unfold pinfB; rw [Bool.eq_iff_iff]; simp; omega
@[go_sem] theorem pinf_abs (b : Nat) : pinfB (absB b) = infB b := rfl
@[go_sem] theorem w_ninf (b : Nat) : ((b : Int) == (18442240474082181120 : Int)) = ninfB b := by unfold ninfB; rw [Bool.eq_iff_iff]; simp; omega
theorem ref_isnan (b : Nat) (w : World) (hb : W64 b) :
    Calls Tryz.prog 49 #[.int .u64 b] w fun e w' => e = .returned (.bool (nanB b)) ∧ w = w' := by
  go_enter Tryz.func49, Tryz.ntmps49
  go_wp2
  go_ret
  exact ⟨rfl, rfl⟩
theorem ref_finite (b : Nat) (w : World) (hb : W64 b) :
    Calls Tryz.prog 69 #[.int .u64 b] w fun e w' => e = .returned (.bool (finB b)) ∧ w = w' := by
  go_enter Tryz.func69, Tryz.ntmps69
  go_wp2
  go_ret
  exact ⟨rfl, rfl⟩
theorem ref_nought (b : Nat) (w : World) (hb : W64 b) :
    Calls Tryz.prog 22 #[.int .u64 b] w fun e w' => e = .returned (.bool (zeroB b)) ∧ w = w' := by
  go_enter Tryz.func22, Tryz.ntmps22
  go_wp2
  go_ret
  exact ⟨rfl, rfl⟩
theorem ref_split (b : Nat) (w : World) (hb : W64 b) :
    Calls Tryz.prog 50 #[.int .u64 b] w fun e w' => e = .returned (.tuple #[.bool (spS b), .int .u64 (spM b), .int .i64 (spE b), .int .i64 (spX b)]) ∧ w = w' := by
  have he := expB_le b
  cases hf : finB b
  · obtain ⟨e1, e2, e3, e4⟩ := sp_not b hf
    rw [e1, e2, e3, e4]; clear e1 e2 e3 e4
    go_enter Tryz.func50, Tryz.ntmps50
    go_wp2_with (go_at_call 69; refine (ref_finite _ _ (by assumption)).mono ?_; rintro e w' ⟨rfl, rfl⟩)
    (try simp only [Exit.inBlock, Exit.then])
    exact bodyPost_ret (results_tmp4 rfl _ _ _) rfl ⟨rfl, rfl⟩
  cases hl : lowB b
  · obtain ⟨e1, e2, e3, e4, hx⟩ := sp_norm b hf hl
    rw [e1, e2, e3, e4]; clear e1 e2 e3 e4
    go_enter Tryz.func50, Tryz.ntmps50
    go_wp2_with (go_at_call 69; refine (ref_finite _ _ (by assumption)).mono ?_; rintro e w' ⟨rfl, rfl⟩)
    (try simp only [Exit.inBlock, Exit.then])
    exact bodyPost_ret (results_tmp4 rfl _ _ _) rfl ⟨rfl, rfl⟩
  cases hz : zeroB b
  · obtain ⟨e1, e2, e3, e4, hx, hy⟩ := sp_sub b hf hl hz
    rw [e1, e2, e3, e4]; clear e1 e2 e3 e4
    go_enter Tryz.func50, Tryz.ntmps50
    go_wp2_with (go_at_call 69; refine (ref_finite _ _ (by assumption)).mono ?_; rintro e w' ⟨rfl, rfl⟩)
    (try simp only [Exit.inBlock, Exit.then])
    exact bodyPost_ret (results_tmp4 rfl _ _ _) rfl ⟨rfl, rfl⟩
  · obtain ⟨e1, e2, e3, e4, hx, hy⟩ := sp_nought b hf hl hz
    rw [e1, e2, e3, e4]; clear e1 e2 e3 e4
    go_enter Tryz.func50, Tryz.ntmps50
    go_wp2_with (go_at_call 69; refine (ref_finite _ _ (by assumption)).mono ?_; rintro e w' ⟨rfl, rfl⟩)
    (try simp only [Exit.inBlock, Exit.then])
    exact bodyPost_ret (results_tmp4 rfl _ _ _) rfl ⟨rfl, rfl⟩
end Go.Proofs.YtiimjbpfdidgcaaGreatDoor
