/- Parts Pa, Pb of the proof, in one text. -/
import Derived.Test.YtapahfoebpiajaaGreatDoorRows
import Derived.Test.YtapahfoebpiajaaGreatDoorBQA

/- Walks: what the functions of math and parts that only look at a number's bits return. -/
namespace Go.Proofs.YtapahfoebpiajaaGreatDoor
open Go.RowKit

@[go_sem] theorem run_fbits (b : Nat) (w : World) : (callFunc 24 #[.float .f64 b]).run Tryz.prog w = .ok (.value (.int .u64 b)) w := by kernel_rfl
@[go_sem] theorem run_ffrom (n : Int) (w : World) : (callFunc 29 #[.int .u64 n]).run Tryz.prog w = .ok (.value (.float .f64 n.toNat)) w := by kernel_rfl
theorem ret_float {a b : Nat} (h : a = b) : Ending.returned (.float .f64 a) = .returned (.float .f64 b) := by rw [h]
theorem ret_int {k : IntKind} {a b : Int} (h : a = b) : Ending.returned (.int k a) = .returned (.int k b) := by rw [h]
theorem abs_any (b : Nat) (w : World) (hb : W64 b) :
    Calls Tryz.prog 33 #[.float .f64 b] w fun e w' => e = .returned (.float .f64 (absB b)) ∧ w = w' := by
  go_enter Tryz.func33, Tryz.ntmps33
  go_wp2
  go_ret
  exact ⟨rfl, rfl⟩

theorem signbit_any (b : Nat) (w : World) (hb : W64 b) :
    Calls Tryz.prog 58 #[.float .f64 b] w fun e w' => e = .returned (.bool (sgnB b)) ∧ w = w' := by
  go_enter Tryz.func58, Tryz.ntmps58
  go_wp2
  go_ret
  exact ⟨rfl, rfl⟩

theorem copysign_any (b s : Nat) (w : World) (hb : W64 b) (hs : W64 s) :
    Calls Tryz.prog 159 #[.float .f64 b, .float .f64 s] w fun e w' => e = .returned (.float .f64 (sgnW s + absB b)) ∧ w = w' := by
  go_enter Tryz.func159, Tryz.ntmps159
  go_wp2
  go_ret
  exact ⟨rfl, rfl⟩

theorem nan_any (w : World) :
    Calls Tryz.prog 88 #[] w fun e w' => e = .returned (.float .f64 theNaN) ∧ w = w' := by
  go_enter Tryz.func88, Tryz.ntmps88
  go_wp2
  go_ret
  exact ⟨rfl, rfl⟩

theorem one_any (b : Nat) (w : World) :
    Calls Tryz.prog 55 #[.float .f64 b] w fun e w' => e = .returned (.float .f64 (oneB b)) ∧ w = w' := by
  unfold oneB
  cases h : nanB b
  all_goals
    go_enter Tryz.func55, Tryz.ntmps55
    go_wp2_with (go_at_call 88; refine (nan_any _).mono ?_; rintro e w' ⟨rfl, rfl⟩)
    go_ret
    exact ⟨rfl, rfl⟩

theorem negative_any (b : Nat) (w : World) (hb : W64 b) :
    Calls Tryz.prog 23 #[.float .f64 b] w fun e w' => e = .returned (.bool (negB b)) ∧ w = w' := by
  unfold negB
  cases h : nanB b
  all_goals
    go_enter Tryz.func23, Tryz.ntmps23
    go_wp2_with (go_at_call 58; refine (signbit_any _ _ hb).mono ?_; rintro e w' ⟨rfl, rfl⟩)
    go_ret
    exact ⟨rfl, rfl⟩

theorem place_any (b : Nat) (w : World) (hb : W64 b) :
    Calls Tryz.prog 57 #[.float .f64 b] w fun e w' => e = .returned (.int .i64 (keyB b)) ∧ w = w' := by
  unfold keyB
  have ha : (absB b : Int) ≤ 9223372036854775807 := by have := absB_lt b; omega
  cases h : nanB b
  · cases hs : sgnB b
    all_goals
      go_enter Tryz.func57, Tryz.ntmps57
      go_wp2_with (first | (go_at_call 58; refine (signbit_any _ _ hb).mono ?_; rintro e w' ⟨rfl, rfl⟩) | (go_at_call 33; refine (abs_any _ _ hb).mono ?_; rintro e w' ⟨rfl, rfl⟩))
      go_ret
      exact ⟨rfl, rfl⟩
  · go_enter Tryz.func57, Tryz.ntmps57
    go_wp2_with (first | (go_at_call 58; refine (signbit_any _ _ hb).mono ?_; rintro e w' ⟨rfl, rfl⟩) | (go_at_call 33; refine (abs_any _ _ hb).mono ?_; rintro e w' ⟨rfl, rfl⟩))
    go_ret
    exact ⟨rfl, rfl⟩
end Go.Proofs.YtapahfoebpiajaaGreatDoor

/- Walks: parts.power, Class, Split, at, Order, Same, Next, Prev, Steps. -/
namespace Go.Proofs.YtapahfoebpiajaaGreatDoor
open Go.RowKit

/-- The bits of 2^-k. -/
def pwB (k : Nat) : Nat := (1023 - k) * 4503599627370496
attribute [irreducible] pwB

theorem at_neg (k : Int) (w : World) (h : k < 0) (h2 : -9223372036854775807 ≤ k) :
    Calls Tryz.prog 56 #[.int .i64 k] w fun e w' => e = .returned (.float .f64 (atB k)) ∧ w = w' := by
  go_enter Tryz.func56, Tryz.ntmps56
  go_wp2
  go_ret
  exact ⟨ret_float (by rw [atB_neg k h h2]; congr 1; omega), rfl⟩
theorem at_pos (k : Int) (w : World) (h : 0 ≤ k) (h2 : k ≤ 9223372036854775807) :
    Calls Tryz.prog 56 #[.int .i64 k] w fun e w' => e = .returned (.float .f64 (atB k)) ∧ w = w' := by
  go_enter Tryz.func56, Tryz.ntmps56
  go_wp2
  go_ret
  exact ⟨ret_float (atB_pos k h).symm, rfl⟩
theorem at_any (k : Int) (w : World) (h : -9223372036854775807 ≤ k) (h2 : k ≤ 9223372036854775807) :
    Calls Tryz.prog 56 #[.int .i64 k] w fun e w' => e = .returned (.float .f64 (atB k)) ∧ w = w' := by
  by_cases c : k < 0
  · exact at_neg k w c h
  · exact at_pos k w (by omega) h2
theorem next_any (b : Nat) (w : World) (hb : W64 b) :
    Calls Tryz.prog 22 #[.float .f64 b] w fun e w' => e = .returned (.float .f64 (nextB b)) ∧ w = w' := by
  unfold nextB
  cases h : nanB b
  · cases h2 : pinfB b
    · obtain ⟨hk, hk'⟩ := keyB_next b h h2
      go_enter Tryz.func22, Tryz.ntmps22
      go_wp2_with (first | (go_at_call 57; refine (place_any _ _ hb).mono ?_; rintro e w' ⟨rfl, rfl⟩) | (go_at_call 56; refine (at_any _ _ (by omega) (by omega)).mono ?_; rintro e w' ⟨rfl, rfl⟩))
      go_ret
      exact ⟨rfl, rfl⟩
    · go_enter Tryz.func22, Tryz.ntmps22
      go_wp2_with (go_at_call 55; refine (one_any _ _).mono ?_; rintro e w' ⟨rfl, rfl⟩)
      go_ret
      exact ⟨rfl, rfl⟩
  · go_enter Tryz.func22, Tryz.ntmps22
    go_wp2_with (go_at_call 55; refine (one_any _ _).mono ?_; rintro e w' ⟨rfl, rfl⟩)
    go_ret
    exact ⟨rfl, rfl⟩
end Go.Proofs.YtapahfoebpiajaaGreatDoor
