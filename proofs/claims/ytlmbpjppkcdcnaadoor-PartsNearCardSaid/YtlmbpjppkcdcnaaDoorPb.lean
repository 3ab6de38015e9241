/- Walks: parts.power, Class, Split, at, Order, Same, Next, Prev, Steps. -/
import Derived.Test.YtlmbpjppkcdcnaaDoorPa
namespace Go.Proofs.YtlmbpjppkcdcnaaDoor
open Go.RowKit

/-- The bits of 2^-k. -/
def pwB (k : Nat) : Nat := (1023 - k) * 4503599627370496
theorem pw_div : ∀ k, k < 1022 → floatBits .quo .f64 (pwB k) 4611686018427387904 = some (pwB (k + 1)) := by
  show ∀ k, k < 1022 → Ieee.double.div (pwB k) 4611686018427387904 = some (pwB (k + 1))
  decide +kernel
theorem pwB_0 : pwB 0 = 4607182418800017408 := by decide
theorem pwB_1022 : pwB 1022 = 4503599627370496 := by decide
attribute [irreducible] pwB

set_option maxRecDepth 100000 in
theorem power_any (w : World) :
    Calls Tryd.prog 43 #[.int .i64 (-1022)] w fun e w' => e = .returned (.float .f64 4503599627370496) ∧ w = w' := by
  go_enter Tryd.func43, Tryd.ntmps43
  go_wp2
  go_loop [3, 8] (fun x i => ∃ k : Nat, k ≤ 1022 ∧ i = .int .i64 k ∧ x = .float .f64 (pwB k)) (fun _ i => 1022 - (intOf i).toNat)
  case atStart => exact ⟨0, by omega, rfl, by rw [pwB_0]⟩
  case round =>
    obtain ⟨k, hk, rfl, rfl⟩ := hrel
    by_cases hlt : k < 1022
    · have hq := fun (w : World) => run_float_arith (P := Tryd.prog) w .quo 24 .f64 _ _ _ (pw_div k hlt)
      go_wp2
      go_round
      case rel => exact ⟨k + 1, by omega, by go_num, rfl⟩
      case measure => simp [intOf]; omega
    · obtain rfl : k = 1022 := by omega
      go_wp2
      go_ret
      exact ⟨ret_float pwB_1022, rfl⟩

theorem class_any (b : Nat) (w : World) (hb : W64 b) :
    Calls Tryd.prog 16 #[.float .f64 b] w fun e w' => e = .returned (.int .i64 (clsB b)) ∧ w = w' := by
  unfold clsB
  cases h : nanB b <;> cases hi : infB b <;> cases hz : zeroB b <;> cases hl : lowB b
  all_goals
    go_enter Tryd.func16, Tryd.ntmps16
    go_wp2_with (first | (go_at_call 43; refine (power_any _).mono ?_; rintro e w' ⟨rfl, rfl⟩) | (go_at_call 23; refine (abs_any _ _ hb).mono ?_; rintro e w' ⟨rfl, rfl⟩))
    go_ret
    exact ⟨rfl, rfl⟩
theorem split_any (b : Nat) (w : World) (hb : W64 b) :
    Calls Tryd.prog 20 #[.float .f64 b] w fun e w' => e = .returned (.tuple #[.bool (spS b), .int .u64 (spM b), .int .i64 (spE b), .int .i64 (spX b)]) ∧ w = w' := by
  have he := expB_le b
  have hc : clsB b = if nanB b then 1 else if infB b then 2 else if zeroB b then 3 else if lowB b then 4 else 5 := rfl
  unfold spS spM spE spX
  cases h : nanB b <;> cases hi : infB b <;> cases hz : zeroB b <;> cases hl : lowB b <;> simp only [h, hi, hz, hl, if_true, if_false, Bool.or_true, Bool.or_false, Bool.false_eq_true] at hc ⊢
  all_goals
    go_enter Tryd.func20, Tryd.ntmps20
    go_wp2_with (first | (go_at_call 16; refine (class_any _ _ hb).mono ?_; rintro e w' ⟨rfl, rfl⟩) | (go_at_call 18; refine (negative_any _ _ hb).mono ?_; rintro e w' ⟨rfl, rfl⟩))
    (try simp only [Exit.inBlock, Exit.then])
    exact bodyPost_ret (results_tmp4 rfl _ _ _) rfl ⟨rfl, rfl⟩
theorem at_neg (k : Int) (w : World) (h : k < 0) (h2 : -9223372036854775807 ≤ k) :
    Calls Tryd.prog 46 #[.int .i64 k] w fun e w' => e = .returned (.float .f64 (atB k)) ∧ w = w' := by
  go_enter Tryd.func46, Tryd.ntmps46
  go_wp2
  go_ret
  exact ⟨ret_float (by rw [atB_neg k h h2]; congr 1; omega), rfl⟩
theorem at_pos (k : Int) (w : World) (h : 0 ≤ k) (h2 : k ≤ 9223372036854775807) :
    Calls Tryd.prog 46 #[.int .i64 k] w fun e w' => e = .returned (.float .f64 (atB k)) ∧ w = w' := by
  go_enter Tryd.func46, Tryd.ntmps46
  go_wp2
  go_ret
  exact ⟨ret_float (atB_pos k h).symm, rfl⟩
theorem at_any (k : Int) (w : World) (h : -9223372036854775807 ≤ k) (h2 : k ≤ 9223372036854775807) :
    Calls Tryd.prog 46 #[.int .i64 k] w fun e w' => e = .returned (.float .f64 (atB k)) ∧ w = w' := by
  by_cases c : k < 0
  · exact at_neg k w c h
  · exact at_pos k w (by omega) h2
theorem order_any (a b : Nat) (w : World) (ha : W64 a) (hb : W64 b) :
    Calls Tryd.prog 29 #[.float .f64 a, .float .f64 b] w fun e w' => e = .returned (.int .i64 (orderB a b)) ∧ w = w' := by
  unfold orderB
  rcases Int.lt_trichotomy (keyB a) (keyB b) with h | h | h
  · rw [if_pos h]
    go_enter Tryd.func29, Tryd.ntmps29
    go_wp2_with (go_at_call 47; refine (place_any _ _ (by assumption)).mono ?_; rintro e w' ⟨rfl, rfl⟩)
    go_ret
    exact ⟨rfl, rfl⟩
  · rw [if_neg (by omega), if_neg (by omega)]
    have h1 : ¬ keyB a < keyB b := by omega
    have h2 : ¬ keyB b < keyB a := by omega
    clear h
    go_enter Tryd.func29, Tryd.ntmps29
    go_wp2_with (go_at_call 47; refine (place_any _ _ (by assumption)).mono ?_; rintro e w' ⟨rfl, rfl⟩)
    go_ret
    exact ⟨rfl, rfl⟩
  · rw [if_neg (by omega), if_pos h]
    have h1 : ¬ keyB a < keyB b := by omega
    go_enter Tryd.func29, Tryd.ntmps29
    go_wp2_with (go_at_call 47; refine (place_any _ _ (by assumption)).mono ?_; rintro e w' ⟨rfl, rfl⟩)
    go_ret
    exact ⟨rfl, rfl⟩
theorem same_any (a b : Nat) (w : World) (ha : W64 a) (hb : W64 b) :
    Calls Tryd.prog 26 #[.float .f64 a, .float .f64 b] w fun e w' => e = .returned (.bool (keyB a == keyB b)) ∧ w = w' := by
  go_enter Tryd.func26, Tryd.ntmps26
  go_wp2_with (go_at_call 47; refine (place_any _ _ (by assumption)).mono ?_; rintro e w' ⟨rfl, rfl⟩)
  go_ret
  exact ⟨rfl, rfl⟩
theorem next_any (b : Nat) (w : World) (hb : W64 b) :
    Calls Tryd.prog 22 #[.float .f64 b] w fun e w' => e = .returned (.float .f64 (nextB b)) ∧ w = w' := by
  unfold nextB
  cases h : nanB b
  · cases h2 : pinfB b
    · obtain ⟨hk, hk'⟩ := keyB_next b h h2
      go_enter Tryd.func22, Tryd.ntmps22
      go_wp2_with (first | (go_at_call 47; refine (place_any _ _ hb).mono ?_; rintro e w' ⟨rfl, rfl⟩) | (go_at_call 46; refine (at_any _ _ (by omega) (by omega)).mono ?_; rintro e w' ⟨rfl, rfl⟩))
      go_ret
      exact ⟨rfl, rfl⟩
    · go_enter Tryd.func22, Tryd.ntmps22
      go_wp2_with (go_at_call 15; refine (one_any _ _).mono ?_; rintro e w' ⟨rfl, rfl⟩)
      go_ret
      exact ⟨rfl, rfl⟩
  · go_enter Tryd.func22, Tryd.ntmps22
    go_wp2_with (go_at_call 15; refine (one_any _ _).mono ?_; rintro e w' ⟨rfl, rfl⟩)
    go_ret
    exact ⟨rfl, rfl⟩
theorem prev_any (b : Nat) (w : World) (hb : W64 b) :
    Calls Tryd.prog 27 #[.float .f64 b] w fun e w' => e = .returned (.float .f64 (prevB b)) ∧ w = w' := by
  unfold prevB
  cases h : nanB b
  · cases h2 : ninfB b
    · obtain ⟨hk, hk'⟩ := keyB_prev b h h2 hb
      go_enter Tryd.func27, Tryd.ntmps27
      go_wp2_with (first | (go_at_call 47; refine (place_any _ _ hb).mono ?_; rintro e w' ⟨rfl, rfl⟩) | (go_at_call 46; refine (at_any _ _ (by omega) (by omega)).mono ?_; rintro e w' ⟨rfl, rfl⟩))
      go_ret
      exact ⟨rfl, rfl⟩
    · go_enter Tryd.func27, Tryd.ntmps27
      go_wp2_with (go_at_call 15; refine (one_any _ _).mono ?_; rintro e w' ⟨rfl, rfl⟩)
      go_ret
      exact ⟨rfl, rfl⟩
  · go_enter Tryd.func27, Tryd.ntmps27
    go_wp2_with (go_at_call 15; refine (one_any _ _).mono ?_; rintro e w' ⟨rfl, rfl⟩)
    go_ret
    exact ⟨rfl, rfl⟩
theorem steps_any (a b : Nat) (w : World) (ha : W64 a) (hb : W64 b) :
    Calls Tryd.prog 28 #[.float .f64 a, .float .f64 b] w fun e w' => e = .returned (.tuple #[.int .i64 (stepsN a b), .int .i64 (stepsX a b)]) ∧ w = w' := by
  cases h : nanB a <;> cases h2 : nanB b
  · cases c1 : decide (keyB a ≤ keyB b) <;> cases c2 : decide (0 ≤ wrap64 (keyB b - keyB a))
    · obtain ⟨e1, e2⟩ := steps_same a b h h2 (iff_of_false (of_decide_eq_false c1) (of_decide_eq_false c2))
      rw [e1, e2]; clear e1 e2
      go_enter Tryd.func28, Tryd.ntmps28
      go_wp2_with (go_at_call 47; refine (place_any _ _ (by assumption)).mono ?_; rintro e w' ⟨rfl, rfl⟩)
      go_ret2
      exact ⟨rfl, rfl⟩
    · obtain ⟨e1, e2⟩ := steps_other a b h h2 (fun h => of_decide_eq_false c1 (h.2 (of_decide_eq_true c2)))
      rw [e1, e2]; clear e1 e2
      go_enter Tryd.func28, Tryd.ntmps28
      go_wp2_with (go_at_call 47; refine (place_any _ _ (by assumption)).mono ?_; rintro e w' ⟨rfl, rfl⟩)
      go_ret2
      exact ⟨rfl, rfl⟩
    · obtain ⟨e1, e2⟩ := steps_other a b h h2 (fun h => of_decide_eq_false c2 (h.1 (of_decide_eq_true c1)))
      rw [e1, e2]; clear e1 e2
      go_enter Tryd.func28, Tryd.ntmps28
      go_wp2_with (go_at_call 47; refine (place_any _ _ (by assumption)).mono ?_; rintro e w' ⟨rfl, rfl⟩)
      go_ret2
      exact ⟨rfl, rfl⟩
    · obtain ⟨e1, e2⟩ := steps_same a b h h2 (iff_of_true (of_decide_eq_true c1) (of_decide_eq_true c2))
      rw [e1, e2]; clear e1 e2
      go_enter Tryd.func28, Tryd.ntmps28
      go_wp2_with (go_at_call 47; refine (place_any _ _ (by assumption)).mono ?_; rintro e w' ⟨rfl, rfl⟩)
      go_ret2
      exact ⟨rfl, rfl⟩
  all_goals
    obtain ⟨e1, e2⟩ := steps_nan a b (by rw [h, h2]; rfl)
    rw [e1, e2]; clear e1 e2
    go_enter Tryd.func28, Tryd.ntmps28
    go_wp2
    go_ret2
    exact ⟨rfl, rfl⟩
end Go.Proofs.YtlmbpjppkcdcnaaDoor
