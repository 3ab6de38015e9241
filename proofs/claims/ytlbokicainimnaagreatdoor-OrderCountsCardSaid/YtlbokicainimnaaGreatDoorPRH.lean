import Derived.Test.YtlbokicainimnaaGreatDoorPQG
import Derived.Test.YtlbokicainimnaaGreatDoorPRR
import Derived.BigRegion
import Derived.Lib.TrailingZeros
import Derived.Test.YtlbokicainimnaaGreatDoorPQA
import Derived.BigQuiet
import Derived.Deep.CutBlock
import Derived.Deep.DeepCutAuto
import Derived.Deep.QuietTactic
import Derived.Deep.RegionHeld3
import Derived.Laws.Bits64b
import Derived.Laws.CopyOwn
import Derived.Laws.Externs
import Derived.Laws.ResultCell
import Derived.Lib.Hide
import Derived.Lib.Mul64
import Derived.RegionTactic
import Derived.Shelf.Spec.BitsCarry
import Derived.Test.YtlbokicainimnaaGreatDoorPQI
namespace Go.Proofs.YtlbokicainimnaaGreatDoor
open Go.RowKit
def Term (w : World) (v : Value) (neg : Bool) (M : Nat) (E : Int) : Prop := ∃ s, v = .agg #[.bool neg, s, .int .i64 E] ∧ Num .u32 4294967296 w s M
end Go.Proofs.YtlbokicainimnaaGreatDoor
set_option maxRecDepth 100000
namespace Go.Proofs.YtlbokicainimnaaGreatDoor
open Go.RowKit
theorem r7_anynan (xs : List Nat) (b n c : Nat) (w : World) (hl : xs.length = n) (hc : ∀ i, i < n → w.cell? ⟨b, i, none⟩ = some (.int .u64 (xs.getD i 0 : Nat))) (hx : ∀ x ∈ xs, W64 x) (hn : n ≤ c) (hcc : c ≤ 9223372036854775807) :
  Calls Tryz.prog 139 #[.slice (some ⟨b, 0, none⟩) n c] w fun e w' => e = .returned (.bool (xs.any nanB)) ∧ w = w' := by
 have HX : Hid (∀ i, i < n → W64 (xs.getD i 0)) := fun i hi => hx _ (by rw [List.getD_eq_getElem?_getD, List.getElem?_eq_getElem (by omega)]; exact List.getElem_mem _)
 have HC : Hid (∀ i, i < n → w.cell? ⟨b, i, none⟩ = some (.int .u64 (xs.getD i 0 : Nat))) := hc
 clear hx hc
 go_enter Tryz.func139, Tryz.ntmps139
 go_wp2
 go_loop [3] (fun v => ∃ k : Nat, k ≤ n ∧ v = .int .i64 (k : Nat) ∧ (xs.take k).any nanB = false) (fun v => n - (intOf v).toNat)
 case atStart => exact ⟨0, by omega, rfl, by simp⟩
 case round =>
  obtain ⟨k, hk, rfl, hd⟩ := hrel
  rcases Nat.lt_or_ge k n with hlt | hge
  ·have hcl := HC.out k hlt
   obtain ⟨x, hxe⟩ : ∃ x, x = xs.getD k 0 := ⟨_, rfl⟩
   have hw := HX.out k hlt
   rw [← hxe] at hcl hw
   have htk : xs.take (k + 1) = xs.take k ++ [x] := by
    rw [List.take_succ_eq_append_getElem (by omega), hxe, List.getD_eq_getElem?_getD, List.getElem?_eq_getElem (by omega)]; rfl
   clear hxe
   cases hnx : nanB x
   ·go_wp2_with (go_at_call 34; refine (ref_isnan x _ hw).mono ?_; rintro e w' ⟨rfl, rfl⟩)
    go_round
    case rel => exact ⟨k + 1, by omega, by simp, by rw [htk, List.any_append, hd]; simp [hnx]⟩
    case measure => simp [intOf]; omega
   ·go_wp2_with (go_at_call 34; refine (ref_isnan x _ hw).mono ?_; rintro e w' ⟨rfl, rfl⟩)
    go_ret
    refine ⟨?_, rfl⟩
    have : xs.any nanB = true := by
     rw [← List.take_append_drop (k + 1) xs, List.any_append, htk, List.any_append]; simp [hnx]
    rw [this]; rfl
  ·obtain rfl : k = n := by omega
   rw [List.take_of_length_le (by omega)] at hd
   go_wp2
   go_ret
   exact ⟨rfl, rfl⟩
theorem Term.below {w w' : World} {v : Value} {neg : Bool} {M : Nat} {E : Int} (h : Term w v neg M E) {B : Nat} (hB : w.heap.size ≤ B) (hb : Below B w w') : Term w' v neg M E := by
 obtain ⟨s, rfl, h1⟩ := h
 exact ⟨s, rfl, h1.below hB hb⟩
theorem Num.len {k : IntKind} {B : Nat} {w : World} {a : Option Addr} {n c M : Nat} (h : Num k B w (.slice a n c) M) (hB : 0 < B) : M = 0 ↔ n = 0 := by
 obtain ⟨xs, ⟨a', n', c', he, h1, -⟩, rfl, h3⟩ := h
 cases he
 rw [norm_zero h3 hB, h1]
end Go.Proofs.YtlbokicainimnaaGreatDoor
