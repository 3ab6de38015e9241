import Derived.Test.YtlbokicainimnaaGreatDoorQQA
import Derived.Test.YtlbokicainimnaaGreatDoorRows
namespace Go.Proofs.YtlbokicainimnaaGreatDoor
open Go.RowKit
@[go_sem] theorem run_fbits (b : Nat) (w : World) : (callFunc 28 #[.float .f64 b]).run Tryz.prog w = .ok (.value (.int .u64 b)) w:=by kernel_rfl
@[go_sem] theorem run_ffrom (n : Int) (w : World) : (callFunc 13 #[.int .u64 n]).run Tryz.prog w = .ok (.value (.float .f64 n.toNat)) w:=by kernel_rfl
theorem results_tmp4 {fn : Func} {t u v x : Tmp} (h : fn.results = #[.tmp t, .tmp u, .tmp v, .tmp x]) (tmps : Array Value) (P : Program) (w : World) :
  (results fn tmps).run P w = .ok (.tuple #[tmps.getD t undef,tmps.getD u undef,tmps.getD v undef,tmps.getD x undef]) w:=by
 simp [results,h]
theorem ret_float {a b : Nat} (h : a = b) : Ending.returned (.float .f64 a) = .returned (.float .f64 b):=by rw [h]
theorem ret_int {k : IntKind} {a b : Int} (h : a = b) : Ending.returned (.int k a) = .returned (.int k b):=by rw [h]
theorem ret_two {k l : IntKind} {a b c d : Int} (h : a = b) (h' : c = d) : Ending.returned (.tuple #[.int k a,.int l c]) = .returned (.tuple #[.int k b,.int l d]):=by rw [h,h']
theorem abs_any (b : Nat) (w : World) (hb : W64 b) :
  Calls Tryz.prog 82 #[.float .f64 b] w fun e w'=>e = .returned (.float .f64 (absB b)) ∧ w = w':=by
 go_enter Tryz.func82,Tryz.ntmps82
 go_wp2
 go_ret
 exact ⟨rfl,rfl⟩
theorem signbit_any (b : Nat) (w : World) (hb : W64 b) :
  Calls Tryz.prog 97 #[.float .f64 b] w fun e w'=>e = .returned (.bool (sgnB b)) ∧ w = w':=by
 go_enter Tryz.func97,Tryz.ntmps97
 go_wp2
 go_ret
 exact ⟨rfl,rfl⟩
theorem copysign_any (b s : Nat) (w : World) (hb : W64 b) (hs : W64 s) :
  Calls Tryz.prog 50 #[.float .f64 b,.float .f64 s] w fun e w'=>e = .returned (.float .f64 (sgnW s + absB b)) ∧ w = w':=by
 go_enter Tryz.func50,Tryz.ntmps50
 go_wp2
 go_ret
 exact ⟨rfl,rfl⟩
theorem nan_any (w : World) :
  Calls Tryz.prog 91 #[] w fun e w'=>e = .returned (.float .f64 theNaN) ∧ w = w':=by
 go_enter Tryz.func91,Tryz.ntmps91
 go_wp2
 go_ret
 exact ⟨rfl,rfl⟩
theorem one_any (b : Nat) (w : World) :
  Calls Tryz.prog 77 #[.float .f64 b] w fun e w'=>e = .returned (.float .f64 (oneB b)) ∧ w = w':=by
 unfold oneB
 cases h : nanB b
 all_goals
  go_enter Tryz.func77,Tryz.ntmps77
  go_wp2_with (go_at_call 91; refine (nan_any _).mono ?_; rintro e w' ⟨rfl,rfl⟩)
  go_ret
  exact ⟨rfl,rfl⟩
theorem negative_any (b : Nat) (w : World) (hb : W64 b) :
  Calls Tryz.prog 144 #[.float .f64 b] w fun e w'=>e = .returned (.bool (negB b)) ∧ w = w':=by
 unfold negB
 cases h : nanB b
 all_goals
  go_enter Tryz.func144,Tryz.ntmps144
  go_wp2_with (go_at_call 97; refine (signbit_any _ _ hb).mono ?_; rintro e w' ⟨rfl,rfl⟩)
  go_ret
  exact ⟨rfl,rfl⟩
theorem place_any (b : Nat) (w : World) (hb : W64 b) :
  Calls Tryz.prog 70 #[.float .f64 b] w fun e w'=>e = .returned (.int .i64 (keyB b)) ∧ w = w':=by
 unfold keyB
 have ha : (absB b : Int) ≤ 9223372036854775807:=by have:=absB_lt b; omega
 cases h : nanB b
 ·cases hs : sgnB b
  all_goals
   go_enter Tryz.func70,Tryz.ntmps70
   go_wp2_with (first | (go_at_call 97; refine (signbit_any _ _ hb).mono ?_; rintro e w' ⟨rfl,rfl⟩) | (go_at_call 82; refine (abs_any _ _ hb).mono ?_; rintro e w' ⟨rfl,rfl⟩))
   go_ret
   exact ⟨rfl,rfl⟩
 ·go_enter Tryz.func70,Tryz.ntmps70
  go_wp2_with (first | (go_at_call 97; refine (signbit_any _ _ hb).mono ?_; rintro e w' ⟨rfl,rfl⟩) | (go_at_call 82; refine (abs_any _ _ hb).mono ?_; rintro e w' ⟨rfl,rfl⟩))
  go_ret
  exact ⟨rfl,rfl⟩
end Go.Proofs.YtlbokicainimnaaGreatDoor
set_option maxRecDepth 100000
namespace Go.Proofs.YtlbokicainimnaaGreatDoor
open Go.RowKit
def pwB (k : Nat) : Nat:=(1023 - k) * 4503599627370496
theorem pw_div : ∀ k,k < 1022 → floatBits .quo .f64 (pwB k) 4611686018427387904 = some (pwB (k + 1)):=by
 show ∀ k,k < 1022 → Ieee.double.div (pwB k) 4611686018427387904 = some (pwB (k + 1))
 decide +kernel
theorem pwB_0 : pwB 0 = 4607182418800017408:=by decide
theorem pwB_1022 : pwB 1022 = 4503599627370496:=by decide
attribute [irreducible] pwB
theorem power_any (w : World) :
  Calls Tryz.prog 83 #[.int .i64 (-1022)] w fun e w'=>e = .returned (.float .f64 4503599627370496) ∧ w = w':=by
 go_enter Tryz.func83,Tryz.ntmps83
 go_wp2
 go_loop [3,8] (fun x i=>∃ k : Nat,k ≤ 1022 ∧ i = .int .i64 k ∧ x = .float .f64 (pwB k)) (fun _ i=>1022 - (intOf i).toNat)
 case atStart=>exact ⟨0,by omega,rfl,by rw [pwB_0]⟩
 case round=>
  obtain ⟨k,hk,rfl,rfl⟩:=hrel
  by_cases hlt : k < 1022
  ·have hq:=fun (w : World)=>run_float_arith (P:=Tryz.prog) w .quo 24 .f64 _ _ _ (pw_div k hlt)
   go_wp2
   go_round
   case rel=>exact ⟨k + 1,by omega,by go_num,rfl⟩
   case measure=>simp [intOf]; omega
  ·obtain rfl : k = 1022:=by omega
   go_wp2
   go_ret
   exact ⟨ret_float pwB_1022,rfl⟩
theorem class_any (b : Nat) (w : World) (hb : W64 b) :
  Calls Tryz.prog 33 #[.float .f64 b] w fun e w'=>e = .returned (.int .i64 (clsB b)) ∧ w = w':=by
 unfold clsB
 cases h : nanB b <;> cases hi : infB b <;> cases hz : zeroB b <;> cases hl : lowB b
 all_goals
  go_enter Tryz.func33,Tryz.ntmps33
  go_wp2_with (first | (go_at_call 83; refine (power_any _).mono ?_; rintro e w' ⟨rfl,rfl⟩) | (go_at_call 82; refine (abs_any _ _ hb).mono ?_; rintro e w' ⟨rfl,rfl⟩))
  go_ret
  exact ⟨rfl,rfl⟩
theorem split_any (b : Nat) (w : World) (hb : W64 b) :
  Calls Tryz.prog 98 #[.float .f64 b] w fun e w'=>e = .returned (.tuple #[.bool (spS b),.int .u64 (spM b),.int .i64 (spE b),.int .i64 (spX b)]) ∧ w = w':=by
 have he:=expB_le b
 have hc : clsB b = if nanB b then 1 else if infB b then 2 else if zeroB b then 3 else if lowB b then 4 else 5:=rfl
 unfold spS spM spE spX
 cases h : nanB b <;> cases hi : infB b <;> cases hz : zeroB b <;> cases hl : lowB b <;> simp only [h,hi,hz,hl,if_true,if_false,Bool.or_true,Bool.or_false,Bool.false_eq_true] at hc ⊢
 all_goals
  go_enter Tryz.func98,Tryz.ntmps98
  go_wp2_with (first | (go_at_call 33; refine (class_any _ _ hb).mono ?_; rintro e w' ⟨rfl,rfl⟩) | (go_at_call 144; refine (negative_any _ _ hb).mono ?_; rintro e w' ⟨rfl,rfl⟩))
  (try simp only [Exit.inBlock,Exit.then])
  exact bodyPost_ret (results_tmp4 rfl _ _ _) rfl ⟨rfl,rfl⟩
theorem order_any (a b : Nat) (w : World) (ha : W64 a) (hb : W64 b) :
  Calls Tryz.prog 29 #[.float .f64 a,.float .f64 b] w fun e w'=>e = .returned (.int .i64 (orderB a b)) ∧ w = w':=by
 unfold orderB
 rcases Int.lt_trichotomy (keyB a) (keyB b) with h | h | h
 ·rw [if_pos h]
  go_enter Tryz.func29,Tryz.ntmps29
  go_wp2_with (go_at_call 70; refine (place_any _ _ (by assumption)).mono ?_; rintro e w' ⟨rfl,rfl⟩)
  go_ret
  exact ⟨rfl,rfl⟩
 ·rw [if_neg (by omega),if_neg (by omega)]
  have h1 : ¬ keyB a < keyB b:=by omega
  have h2 : ¬ keyB b < keyB a:=by omega
  clear h
  go_enter Tryz.func29,Tryz.ntmps29
  go_wp2_with (go_at_call 70; refine (place_any _ _ (by assumption)).mono ?_; rintro e w' ⟨rfl,rfl⟩)
  go_ret
  exact ⟨rfl,rfl⟩
 ·rw [if_neg (by omega),if_pos h]
  have h1 : ¬ keyB a < keyB b:=by omega
  go_enter Tryz.func29,Tryz.ntmps29
  go_wp2_with (go_at_call 70; refine (place_any _ _ (by assumption)).mono ?_; rintro e w' ⟨rfl,rfl⟩)
  go_ret
  exact ⟨rfl,rfl⟩
theorem same_any (a b : Nat) (w : World) (ha : W64 a) (hb : W64 b) :
  Calls Tryz.prog 125 #[.float .f64 a,.float .f64 b] w fun e w'=>e = .returned (.bool (keyB a == keyB b)) ∧ w = w':=by
 go_enter Tryz.func125,Tryz.ntmps125
 go_wp2_with (go_at_call 70; refine (place_any _ _ (by assumption)).mono ?_; rintro e w' ⟨rfl,rfl⟩)
 go_ret
 exact ⟨rfl,rfl⟩
end Go.Proofs.YtlbokicainimnaaGreatDoor
