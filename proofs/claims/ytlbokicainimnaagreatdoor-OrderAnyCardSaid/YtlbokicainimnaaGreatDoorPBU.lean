import Derived.Test.YtlbokicainimnaaGreatDoorPQT
import Derived.Test.YtlbokicainimnaaGreatDoorPRE
import Derived.BigQuiet
import Derived.Deep.QuietTactic
import Derived.Lib.Hide
import Derived.Test.YtlbokicainimnaaGreatDoorPAA
import Derived.Ground.MpProg
import Derived.Ground.SlsfProg
import Derived.Lib.AppendIntMem
import Derived.Lib.ItoaNum
import Derived.Lib.ParseIntB
import Derived.Lib.Repeat
import Derived.Lib.TrimByte
import Derived.RegionTactic
import Derived.Shelf.Bits.Mul64
import Derived.Shelf.LaysM
import Derived.Shelf.Pu.ParseUintPublic10
import Derived.Shelf.SlSortCmp.HeapSort1
import Derived.Shelf.SlSortCmp.Insertion
import Derived.Shelf.SlSortCmp.Insertion1
import Derived.Shelf.SlSortCmp.Median1
import Derived.Shelf.SlSortCmp.NoneTotal
import Derived.Shelf.SlSortCmp.PartialInsertion1
import Derived.Shelf.SlSortCmp.Partition1
import Derived.Shelf.SlSortCmp.PartitionEqual1
import Derived.Shelf.SlSortCmp.Pdq1
import Derived.Shelf.SlSortCmp.Pivot1
import Derived.Shelf.SlSortCmp.ReverseRange1
import Derived.Shelf.SlSortCmp.SiftDown1
import Derived.Shelf.SlSortCmp.Whole1
import Derived.Shelf.Small.Bits
import Derived.Shelf.Small.Strs
import Derived.Shelf.Small.Utf8
import Derived.Shelf.Strconv.Clone
import Derived.Shelf.Strconv.Itoa0
import Derived.Shelf.Strconv.Itoa1
import Derived.Shelf.Strconv.Itoa2
import Derived.Shelf.Strconv.Itoa3
import Derived.Shelf.Strconv.Lower
import Derived.Shelf.Strconv.ParseUint10
import Derived.Shelf.Strconv.ParseUint10At
import Derived.Shelf.Strconv.ParseUint10Empty
import Derived.Shelf.Strconv.ParseUint10b16
import Derived.Shelf.Strconv.ParseUint10b32
import Derived.Shelf.Strconv.ParseUint10b64
import Derived.Shelf.Strconv.ParseUint10b8
import Derived.Shelf.Strconv.ParseUintEmpty
import Derived.Shelf.Strconv.RangeError
import Derived.Shelf.Strconv.SyntaxError
import Derived.Shelf.Strings.AsciiSet
import Derived.Shelf.Strings.Builder1
import Derived.Shelf.Strings.Builder2
import Derived.Shelf.Strings.Builder2Cap
import Derived.Shelf.Strings.BuilderF
import Derived.Shelf.Strings.BuilderK
import Derived.Shelf.Strings.Prefix
import Derived.Shelf.Strings.Repeat
import Derived.Shelf.Strings.Runes
import Derived.Shelf.Strings.Search1
import Derived.Shelf.Strings.Trim
import Derived.Shelf.Unicode.Decode
import Derived.Shelf.Unicode.DecodeAny
import Derived.Shelf.Unicode.DecodeSlow
import Derived.Test.YtlbokicainimnaaGreatDoorProg
namespace Go.Proofs.YtlbokicainimnaaGreatDoor
open Go Go.RowKit Go.Lib
theorem val_sgn (b : Nat) : valB b = sg (sgnB b) (rv 52 (absB b)) := rfl
def rungN (m : Nat) (e : Int) : Nat := (e + 1074).toNat * 4503599627370496 + m
def Canon (m : Nat) (e : Int) : Prop := m < 9007199254740992 ∧ -1074 ≤ e ∧ e ≤ 971 ∧ (e = -1074 ∨ 4503599627370496 ≤ m)
theorem fin_form {R : Nat} (h : R < 9218868437227405312) : ∃ m e, Canon m e ∧ R = rungN m e := by
 by_cases h1 : R < 4503599627370496
 ·exact ⟨R, -1074, ⟨by omega, by omega, by omega, .inl rfl⟩, by unfold rungN; rw [show ((-1074 : Int) + 1074).toNat = 0 by decide]; omega⟩
 ·refine ⟨4503599627370496 + R % 4503599627370496, (R / 4503599627370496 : Nat) - 1075, ⟨by omega, by omega, by omega, .inr (by omega)⟩, ?_⟩
  unfold rungN
  rw [show (((R / 4503599627370496 : Nat) : Int) - 1075 + 1074).toNat = R / 4503599627370496 - 1 by omega]
  omega
theorem Canon.lt {m : Nat} {e : Int} (h : Canon m e) : rungN m e < 9218868437227405312 := by
 obtain ⟨h1, h2, h3, h4⟩ := h
 unfold rungN
 omega
theorem Canon.rv {m : Nat} {e : Int} (h : Canon m e) : rv 52 (rungN m e) = m * 2 ^ (e + 1074).toNat := by
 obtain ⟨h1, h2, h3, h4⟩ := h
 exact rv_qK 52 _ m (by omega) (by omega)
theorem of_room {b : Nat} (h : finB b = true) : ofX b = 0 := by
 have hx : spX b = 0 := by
  have := finB_eq b
  rw [h] at this
  unfold spX
  cases hn : nanB b <;> cases hi : infB b <;> rw [hn, hi] at this <;> simp at this ⊢
 rw [(of_mk hx).2]
 obtain ⟨r1, r2, r3⟩ := sp_bd b
 obtain ⟨k, hk⟩ : ∃ k, k = 1200 := ⟨_, rfl⟩
 have le10 : ∀ i j : Nat, i ≤ 10 → i ^ j ≤ 10 ^ j := fun i j h => Nat.pow_le_pow_left h j
 have hM : spM b < 10 ^ 53 := Nat.lt_of_lt_of_le r3 (by decide)
 have key : ∀ i j : Nat, i ≤ 10 → 53 + j ≤ k → spM b * i ^ j < 10 ^ k := fun i j hi hj => by
  refine Nat.lt_of_lt_of_le (Nat.lt_of_le_of_lt (Nat.mul_le_mul_left _ (le10 i j hi)) (Nat.mul_lt_mul_of_pos_right hM (Nat.pow_pos (by decide)))) ?_
  rw [← Nat.pow_add]
  exact Nat.pow_le_pow_right (by decide) hj
 refine mk_room (m := k) ?_ (by omega) ?_ ?_
 ·rw [sg_natAbs]
  unfold ofN
  split
  ·exact key 2 _ (by decide) (by omega)
  ·exact key 5 _ (by decide) (by omega)
 ·unfold ofE; split <;> omega
 ·unfold ofE; split <;> omega
theorem rep_zero {d : Dc} {e : Int} (h : Rep d 0 e) : d = Dc.none := h.uniq (rep_none e)
def abs3 (b : Nat) : Nat := b % 2147483648
def m3 (b : Nat) : Nat := if abs3 b < 8388608 then abs3 b else abs3 b % 8388608 + 8388608
def e3 (b : Nat) : Int := if abs3 b < 8388608 then -149 else ((abs3 b / 8388608 : Nat) : Int) - 150
theorem kW_toK {M D : Nat} {E e : Int} (neg : Bool) (hD : 0 < D) : kW neg 1 ((ratMag M D E).Q e) ((ratMag M D E).H e) ((ratMag M D E).Z e) = toK M D E e := by
 show kW neg 1 (toQ M D E e) (ncmp (toN M E e % toD D E e * 2) (toD D E e)) (decide (toN M E e % toD D E e = 0)) = _
 have hd := toD_pos hD E e
 unfold toK kW upW ncmp
 generalize toQ M D E e = q
 generalize toN M E e % toD D E e = r
 generalize toD D E e = d at *
 rw [if_pos rfl]
 by_cases a : r * 2 < d
 ·rw [if_pos a, if_neg (by omega : ¬ (d < r * 2 ∨ r * 2 = d ∧ q % 2 = 1))]; simp
 ·rw [if_neg a]
  by_cases c : d < r * 2
  ·have hr : r ≠ 0 := by omega
   rw [if_pos c, if_pos (show d < r * 2 ∨ r * 2 = d ∧ q % 2 = 1 from .inl c), if_pos]; simp [hr]
  ·rw [if_neg c]
   have h1 : r * 2 = d := by omega
   have h2 : r ≠ 0 := by omega
   by_cases o : q % 2 = 1
   ·rw [if_pos (show d < r * 2 ∨ r * 2 = d ∧ q % 2 = 1 from .inr ⟨h1, o⟩), if_pos]; simp [h2, o]
   ·rw [if_neg (by omega : ¬ (d < r * 2 ∨ r * 2 = d ∧ q % 2 = 1)), if_neg]; simp [o]
end Go.Proofs.YtlbokicainimnaaGreatDoor
