import Derived.BigQuiet
import Derived.Deep.CutBlock
import Derived.Deep.DeepCutAuto
import Derived.Deep.RegionHeld3
import Derived.Laws.CopyOwn
import Derived.Lib.BitFns
import Derived.Lib.Hide
import Derived.Lib.Mul64
import Derived.Lib.Slices
import Derived.Lib.Small
import Derived.Lib.Strings
import Derived.Lib.Walk
import Derived.Shelf.Spec.BitsCarry
import Derived.Test.YtlbokicainimnaaGreatDoorRows
import Derived.Test.YtlbokicainimnaaGreatDoorQQA
namespace Go.Proofs.YtlbokicainimnaaGreatDoor
open Go.RowKit
@[go_sem] theorem conv_one (w : World) : (convert 24 3 (.float .f64 4607182418800017408)).run Tryz.prog w = .ok (.int .i64 1) w:=by kernel_rfl
@[go_sem] theorem conv_minus (w : World) : (convert 24 3 (.float .f64 13830554455654793216)).run Tryz.prog w = .ok (.int .i64 (-1)) w:=by kernel_rfl
def whV (b : Nat) : Nat:=rv 52 (absB b) / 2^LP
theorem cut_zero (s : Bool) (n d : Nat) : Ieee.Toward.zero.cut s n d = n / 2^d:=by
 show n / (1 <<< min d (n.log2 + 2)) + 0 = _
 rw [Nat.add_zero,Nat.shiftLeft_eq,Nat.one_mul]
 rcases Nat.le_total d (n.log2 + 2) with h | h
 ·rw [Nat.min_eq_left h]
 ·rw [Nat.min_eq_right h]
  have h1 : n < 2^(n.log2 + 2):=Nat.lt_of_lt_of_le Nat.lt_log2_self (Nat.pow_le_pow_right (by decide) (by omega))
  rw [Nat.div_eq_of_lt h1,Nat.div_eq_of_lt (Nat.lt_of_lt_of_le h1 (Nat.pow_le_pow_right (by decide) h))]
theorem cut_read (b : Nat) (hb : W64 b) (fb : finB b = true) : (Ieee.double.read b).integral .zero = .number (sgnB b) (whV b) 0:=by
 have hl:=LP_eq
 have hf : fin Ieee.double b:=by unfold fin; rw [rg_D,D_inf]; unfold finB at fb; simpa using fb
 obtain ⟨m,k,h1,h2,-⟩:=read_num Ieee.double b hf
 rw [sgn_D b hb,D_lp'] at h1
 rw [rg_D] at h2
 have h2 : m * 2^k = rv 52 (absB b):=h2
 rw [h1]
 show Ieee.Datum.number _ (Ieee.Toward.zero.cut _ (m <<< (-(LP : Int) + k).toNat) (-(-(LP : Int) + k)).toNat) 0 = _
 rw [cut_zero,Nat.shiftLeft_eq]
 unfold whV
 rw [← h2]
 congr 1
 rcases Nat.le_total k LP with h | h
 ·rw [show (-(LP : Int) + k).toNat = 0 by omega,show (-(-(LP : Int) + k)).toNat = LP - k by omega,Nat.pow_zero,Nat.mul_one]
  have e : 2^LP = 2^(LP - k) * 2^k:=by rw [← Nat.pow_add]; congr 1; omega
  rw [e,Nat.mul_div_mul_right _ _ (Nat.two_pow_pos _)]
 ·rw [show (-(-(LP : Int) + k)).toNat = 0 by omega,show (-(LP : Int) + k).toNat = k - LP by omega,Nat.pow_zero,Nat.div_one]
  have e : 2^k = 2^(k - LP) * 2^LP:=by rw [← Nat.pow_add]; congr 1; omega
  rw [e,← Nat.mul_assoc,Nat.mul_div_cancel _ (Nat.two_pow_pos _)]
end Go.Proofs.YtlbokicainimnaaGreatDoor
namespace Go.Proofs.YtlbokicainimnaaGreatDoor
open Ieee
theorem cmpI_lt (x y : Int) : (some (compare x y) == some Ordering.lt) = decide (x < y):=by
 rcases Int.lt_trichotomy x y with h | h | h
 ·have : compare x y = .lt:=by show compareOfLessAndEq x y = _; unfold compareOfLessAndEq; rw [if_pos h]
  rw [this]; simp [h]
 ·have : compare x y = .eq:=by show compareOfLessAndEq x y = _; unfold compareOfLessAndEq; rw [if_neg (by omega),if_pos h]
  rw [this]; simp; omega
 ·have : compare x y = .gt:=by show compareOfLessAndEq x y = _; unfold compareOfLessAndEq; rw [if_neg (by omega),if_neg (by omega)]
  rw [this]; simp; omega
theorem cmpI_eq' (x y : Int) : (some (compare x y) == some Ordering.eq) = decide (x = y):=by
 rcases Int.lt_trichotomy x y with h | h | h
 ·have : compare x y = .lt:=by show compareOfLessAndEq x y = _; unfold compareOfLessAndEq; rw [if_pos h]
  rw [this]; simp; omega
 ·have : compare x y = .eq:=by show compareOfLessAndEq x y = _; unfold compareOfLessAndEq; rw [if_neg (by omega),if_pos h]
  rw [this]; simp [h]
 ·have : compare x y = .gt:=by show compareOfLessAndEq x y = _; unfold compareOfLessAndEq; rw [if_neg (by omega),if_neg (by omega)]
  rw [this]; simp; omega
def lessB (a b : Nat) : Bool:=!(nanB a || nanB b || (zeroB a && zeroB b)) && decide (orderB a b < 0)
def equalB (a b : Nat) : Bool:=!(nanB a || nanB b) && ((zeroB a && zeroB b) || decide (a = b))
theorem less_key (a b : Nat) (na : nanB a = false) (nb : nanB b = false) : valB a < valB b ↔ (¬ (absB a = 0 ∧ absB b = 0) ∧ keyB a < keyB b):=by
 unfold valB keyB
 rw [na,nb]
 have h1 : rv 52 (absB a) < rv 52 (absB b) ↔ absB a < absB b:=rv_lt_iff
 have h2 : rv 52 (absB b) < rv 52 (absB a) ↔ absB b < absB a:=rv_lt_iff
 have z1 : rv 52 (absB a) = 0 ↔ absB a = 0:=⟨fun h=>rv_inj (p:=52) (by rw [h,rv_zero]),fun h=>by rw [h,rv_zero]⟩
 have z2 : rv 52 (absB b) = 0 ↔ absB b = 0:=⟨fun h=>rv_inj (p:=52) (by rw [h,rv_zero]),fun h=>by rw [h,rv_zero]⟩
 generalize rv 52 (absB a) = x at *
 generalize rv 52 (absB b) = y at *
 cases sgnB a <;> cases sgnB b <;> simp <;> omega
theorem equal_key (a b : Nat) (ha : W64 a) (hb : W64 b) : valB a = valB b ↔ ((absB a = 0 ∧ absB b = 0) ∨ a = b):=by
 have s1:=split_B a ha
 have s2:=split_B b hb
 have h1 : rv 52 (absB a) = rv 52 (absB b) ↔ absB a = absB b:=⟨rv_inj,fun h=>by rw [h]⟩
 have z1 : rv 52 (absB a) = 0 ↔ absB a = 0:=⟨fun h=>rv_inj (p:=52) (by rw [h,rv_zero]),fun h=>by rw [h,rv_zero]⟩
 have z2 : rv 52 (absB b) = 0 ↔ absB b = 0:=⟨fun h=>rv_inj (p:=52) (by rw [h,rv_zero]),fun h=>by rw [h,rv_zero]⟩
 have l1:=absB_lt a
 have l2:=absB_lt b
 unfold sgnW at s1 s2
 unfold valB
 generalize rv 52 (absB a) = x at *
 generalize rv 52 (absB b) = y at *
 cases ea : sgnB a <;> cases eb : sgnB b <;> rw [ea] at s1 <;> rw [eb] at s2 <;> simp only [Bool.false_eq_true,if_false,if_true,Nat.zero_add] at s1 s2 ⊢ <;> omega
theorem less_D (a b : Nat) (ha : W64 a) (hb : W64 b) : (Go.FloatKind.f64.format.order a b == some Ordering.lt) = lessB a b:=by
 show (Ieee.double.order a b == some Ordering.lt) = lessB a b
 unfold lessB
 cases na : nanB a
 ·cases nb : nanB b
  ·rw [ord_D a b ha hb na nb,cmpI_lt,Bool.eq_iff_iff]
   simp only [decide_eq_true_eq,Bool.or_self,Bool.false_or,Bool.and_eq_true,Bool.not_eq_true']
   rw [less_key a b na nb]
   have h : orderB a b < 0 ↔ keyB a < keyB b:=by
    unfold orderB
    split
    ·simp; assumption
    ·split <;> simp <;> omega
   rw [h]
   unfold zeroB
   simp
  ·rw [ord_D_nan_right a b nb]; rfl
 ·rw [ord_D_nan_left a b na]; rfl
theorem equal_D (a b : Nat) (ha : W64 a) (hb : W64 b) : (Go.FloatKind.f64.format.order a b == some Ordering.eq) = equalB a b:=by
 show (Ieee.double.order a b == some Ordering.eq) = equalB a b
 unfold equalB
 cases na : nanB a
 ·cases nb : nanB b
  ·rw [ord_D a b ha hb na nb,cmpI_eq',Bool.eq_iff_iff]
   simp only [decide_eq_true_eq,Bool.or_self,Bool.not_false,Bool.true_and,Bool.or_eq_true,Bool.and_eq_true]
   rw [equal_key a b ha hb]
   unfold zeroB
   simp
  ·rw [ord_D_nan_right a b nb]; rfl
 ·rw [ord_D_nan_left a b na]; rfl
end Go.Proofs.YtlbokicainimnaaGreatDoor
