/- Walks: what the functions of math and parts that only look at a number's bits return. -/
import Derived.Test.YtlmbpjppkcdcnaaDoorRows
import Derived.Test.YtlmbpjppkcdcnaaDoorFd
namespace Go.Proofs.YtlmbpjppkcdcnaaDoor
open Go.RowKit

@[go_sem] theorem run_fbits (b : Nat) (w : World) : (callFunc 25 #[.float .f64 b]).run Tryd.prog w = .ok (.value (.int .u64 b)) w := by kernel_rfl
@[go_sem] theorem run_ffrom (n : Int) (w : World) : (callFunc 12 #[.int .u64 n]).run Tryd.prog w = .ok (.value (.float .f64 n.toNat)) w := by kernel_rfl
theorem results_tmp4 {fn : Func} {t u v x : Tmp} (h : fn.results = #[.tmp t, .tmp u, .tmp v, .tmp x]) (tmps : Array Value) (P : Program) (w : World) :
    (results fn tmps).run P w = .ok (.tuple #[tmps.getD t undef, tmps.getD u undef, tmps.getD v undef, tmps.getD x undef]) w := by
  simp [results, h]
theorem ret_float {a b : Nat} (h : a = b) : Ending.returned (.float .f64 a) = .returned (.float .f64 b) := by rw [h]
theorem ret_int {k : IntKind} {a b : Int} (h : a = b) : Ending.returned (.int k a) = .returned (.int k b) := by rw [h]
theorem ret_two {k l : IntKind} {a b c d : Int} (h : a = b) (h' : c = d) : Ending.returned (.tuple #[.int k a, .int l c]) = .returned (.tuple #[.int k b, .int l d]) := by rw [h, h']
theorem ret_bool {a b : Bool} (h : a = b) : Ending.returned (.bool a) = .returned (.bool b) := by rw [h]

theorem abs_any (b : Nat) (w : World) (hb : W64 b) :
    Calls Tryd.prog 23 #[.float .f64 b] w fun e w' => e = .returned (.float .f64 (absB b)) ∧ w = w' := by
  go_enter Tryd.func23, Tryd.ntmps23
  go_wp2
  go_ret
  exact ⟨rfl, rfl⟩

theorem signbit_any (b : Nat) (w : World) (hb : W64 b) :
    Calls Tryd.prog 44 #[.float .f64 b] w fun e w' => e = .returned (.bool (sgnB b)) ∧ w = w' := by
  go_enter Tryd.func44, Tryd.ntmps44
  go_wp2
  go_ret
  exact ⟨rfl, rfl⟩

theorem copysign_any (b s : Nat) (w : World) (hb : W64 b) (hs : W64 s) :
    Calls Tryd.prog 38 #[.float .f64 b, .float .f64 s] w fun e w' => e = .returned (.float .f64 (sgnW s + absB b)) ∧ w = w' := by
  go_enter Tryd.func38, Tryd.ntmps38
  go_wp2
  go_ret
  exact ⟨rfl, rfl⟩

theorem nan_any (w : World) :
    Calls Tryd.prog 13 #[] w fun e w' => e = .returned (.float .f64 theNaN) ∧ w = w' := by
  go_enter Tryd.func13, Tryd.ntmps13
  go_wp2
  go_ret
  exact ⟨rfl, rfl⟩

theorem one_any (b : Nat) (w : World) :
    Calls Tryd.prog 15 #[.float .f64 b] w fun e w' => e = .returned (.float .f64 (oneB b)) ∧ w = w' := by
  unfold oneB
  cases h : nanB b
  all_goals
    go_enter Tryd.func15, Tryd.ntmps15
    go_wp2_with (go_at_call 13; refine (nan_any _).mono ?_; rintro e w' ⟨rfl, rfl⟩)
    go_ret
    exact ⟨rfl, rfl⟩

theorem negative_any (b : Nat) (w : World) (hb : W64 b) :
    Calls Tryd.prog 18 #[.float .f64 b] w fun e w' => e = .returned (.bool (negB b)) ∧ w = w' := by
  unfold negB
  cases h : nanB b
  all_goals
    go_enter Tryd.func18, Tryd.ntmps18
    go_wp2_with (go_at_call 44; refine (signbit_any _ _ hb).mono ?_; rintro e w' ⟨rfl, rfl⟩)
    go_ret
    exact ⟨rfl, rfl⟩

theorem place_any (b : Nat) (w : World) (hb : W64 b) :
    Calls Tryd.prog 47 #[.float .f64 b] w fun e w' => e = .returned (.int .i64 (keyB b)) ∧ w = w' := by
  unfold keyB
  have ha : (absB b : Int) ≤ 9223372036854775807 := by have := absB_lt b; omega
  cases h : nanB b
  · cases hs : sgnB b
    all_goals
      go_enter Tryd.func47, Tryd.ntmps47
      go_wp2_with (first | (go_at_call 44; refine (signbit_any _ _ hb).mono ?_; rintro e w' ⟨rfl, rfl⟩) | (go_at_call 23; refine (abs_any _ _ hb).mono ?_; rintro e w' ⟨rfl, rfl⟩))
      go_ret
      exact ⟨rfl, rfl⟩
  · go_enter Tryd.func47, Tryd.ntmps47
    go_wp2_with (first | (go_at_call 44; refine (signbit_any _ _ hb).mono ?_; rintro e w' ⟨rfl, rfl⟩) | (go_at_call 23; refine (abs_any _ _ hb).mono ?_; rintro e w' ⟨rfl, rfl⟩))
    go_ret
    exact ⟨rfl, rfl⟩
end Go.Proofs.YtlmbpjppkcdcnaaDoor
