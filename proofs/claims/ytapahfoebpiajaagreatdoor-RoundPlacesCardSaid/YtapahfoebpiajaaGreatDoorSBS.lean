/- Parts Bs, Bt of the proof, in one text. -/
import Derived.Test.YtapahfoebpiajaaGreatDoorSBM
import Derived.Test.YtapahfoebpiajaaGreatDoorSBQ

/- Walks: awake, is. -/
namespace Go.Proofs.YtapahfoebpiajaaGreatDoor
open Go.RowKit

def tenth : Dc := ⟨false, [49], -1⟩
def threeD : Dc := ⟨false, [51], 0⟩
theorem tenth_ok : tenth.ok := (okB_iff _).1 (by decide)
theorem three_ok : threeD.ok := (okB_iff _).1 (by decide)
theorem tenth_s : tenth.s ≠ [] := by decide
theorem three_s : threeD.s ≠ [] := by decide
theorem tenth_g : quoG tenth oneD = ratMag 1 10 0 := by
  unfold quoG
  rw [show qM tenth oneD = 1 by decide, show qD tenth oneD = 10 by decide]
theorem third_g : quoG oneD threeD = ratMag 1 3 0 := by
  unfold quoG
  rw [show qM oneD threeD = 1 by decide, show qD oneD threeD = 3 by decide]
theorem tenth64 : to64A tenth 1 = ⟨4591870180066957722, true, false, false, 0⟩ := by
  unfold to64A ratioA
  rw [if_neg (fun h => h ⟨tenth_ok, oneD_ok, by decide, by decide⟩), if_neg oneD_s, if_neg tenth_s, tenth_g]
  have h : outG 53 (-1074) 971 (tenth.neg != oneD.neg) 1 (ratMag 1 10 0) = _ := outG_eq (e := -56) (by decide) (ratMag_ok (by decide)) ⟨by decide, by decide, .inr (by decide)⟩
  rw [h]
  rfl
theorem tenth32 : to32A tenth 1 = ⟨1036831949, true, false, false, 0⟩ := by
  unfold to32A
  rw [if_neg (fun h => h ⟨tenth_ok, by decide, by decide⟩), if_neg tenth_s, tenth_g]
  have h : outG 24 (-149) 104 tenth.neg 1 (ratMag 1 10 0) = _ := outG_eq (e := -27) (by decide) (ratMag_ok (by decide)) ⟨by decide, by decide, .inr (by decide)⟩
  rw [h]
  rfl
theorem third64 : ratioA oneD threeD 1 = ⟨4599676419421066581, true, false, false, 0⟩ := by
  unfold ratioA
  rw [if_neg (fun h => h ⟨oneD_ok, three_ok, by decide, by decide⟩), if_neg three_s, if_neg oneD_s, third_g]
  have h : outG 53 (-1074) 971 (oneD.neg != threeD.neg) 1 (ratMag 1 3 0) = _ := outG_eq (e := -54) (by decide) (ratMag_ok (by decide)) ⟨by decide, by decide, .inr (by decide)⟩
  rw [h]
  rfl
theorem flag_cells {w : World} {g : Nat} {a b c : Bool} (h : w.heap[g]? = some (.cells #[.bool a, .bool b, .bool c] 27 (0, 0))) : w.cell? ⟨g, 0, none⟩ = some (.bool a) ∧ w.cell? ⟨g, 1, none⟩ = some (.bool b) ∧ w.cell? ⟨g, 2, none⟩ = some (.bool c) :=
  ⟨cell_of_row w g 0 _ _ _ h, cell_of_row w g 1 _ _ _ h, cell_of_row w g 2 _ _ _ h⟩
set_option maxRecDepth 100000 in
theorem is_v (x : Nat) (b : Nat) (w : World) : Calls Tryz.prog 15 #[.float .f64 x, .int .u64 (b : Nat)] w fun e w' => e = .returned (.bool (decide (x = b))) ∧ Below w.heap.size w w' := by
  have h : ((x : Int) == (b : Int)) = decide (x = b) := by
    rw [Bool.eq_iff_iff, beq_iff_eq, decide_eq_true_eq]; omega
  go_enter Tryz.func15, Tryz.ntmps15
  go_wp2
  go_ret
  exact ⟨rfl, Below.refl _ _⟩
set_option maxHeartbeats 4000000 in
set_option maxRecDepth 100000 in
theorem awake_v (w : World) (htab : Tab w) : Calls Tryz.prog 10 #[] w fun e w' => e = .returned (.bool true) ∧ Below w.heap.size w w' := by
  have H64 : Hid (∀ W, Below w.heap.size w W → Calls Tryz.prog 11 #[.agg #[.bool false, .string ⟨#[49]⟩, .int .i64 (-1)], .int .i64 1] W (RatioQ ⟨4591870180066957722, true, false, false, 0⟩ W)) := fun W hW => by
    rw [← tenth64]; exact to64_v tenth 1 W (htab.below hW) (by decide)
  have H32 : Hid (∀ W, Below w.heap.size w W → Calls Tryz.prog 13 #[.agg #[.bool false, .string ⟨#[49]⟩, .int .i64 (-1)], .int .i64 1] W (Ratio32Q ⟨1036831949, true, false, false, 0⟩ W)) := fun W hW => by
    rw [← tenth32]; exact to32_v tenth 1 W (htab.below hW) (by decide)
  have HRT : Hid (∀ W, Calls Tryz.prog 17 #[.agg #[.bool false, .string ⟨#[49]⟩, .int .i64 0], .agg #[.bool false, .string ⟨#[51]⟩, .int .i64 0], .int .i64 1] W (RatioQ ⟨4599676419421066581, true, false, false, 0⟩ W)) := fun W => by
    rw [← third64]; exact ratio_v oneD threeD 1 W (by decide) (by decide)
  have HB0 : Hid (Below w.heap.size w (w.alloc (.cells #[.bool false, .string ⟨#[49]⟩, .int .i64 (-1)] 23))) := (Below.refl _ _).alloc (Nat.le_refl _) _
  have HK0 : Hid (Kept _ (w.alloc (.cells #[.bool false, .string ⟨#[49]⟩, .int .i64 (-1)] 23))) := (Kept.nil w).push (.cells #[.bool false, .string ⟨#[49]⟩, .int .i64 (-1)] 23 (0, 0))
  have o1 : (Go.FloatKind.f64.format.order 4591870180066957722 4591870180066957722 == some Ordering.eq) = true := by kernel_rfl
  have o2 : (Go.FloatKind.f32.format.order 1036831949 1036831949 == some Ordering.eq) = true := by kernel_rfl
  have o3 : (Go.FloatKind.f64.format.order 4599676419421066581 4599676419421066581 == some Ordering.eq) = true := by kernel_rfl
  clear htab
  go_enter Tryz.func10, Tryz.ntmps10
  go_wp2_with fail
  refine (H64.out _ HB0.out).mono ?_
  rintro e w1 ⟨rfl, hb⟩
  have HK1 : Hid (Kept _ (w1.alloc (.cells #[.bool true, .bool false, .bool false] 27))) := (HK0.out.below hb).push (.cells #[.bool true, .bool false, .bool false] 27 (0, 0))
  have HB1 : Hid (Below w.heap.size w (w1.alloc (.cells #[.bool true, .bool false, .bool false] 27))) := (HB0.out.thru hb).alloc (HB0.out.thru hb).size _
  clear hb HB0 HK0
  obtain ⟨a0, a1, a2⟩ := HK1.out.lits (.tail _ (.head _))
  go_wp2_with fail
  refine (H32.out _ HB1.out).mono ?_
  rintro e w2 ⟨rfl, hb⟩
  have HK2 : Hid (Kept _ (w2.alloc (.cells #[.bool true, .bool false, .bool false] 27))) := (HK1.out.below hb).push (.cells #[.bool true, .bool false, .bool false] 27 (0, 0))
  have HB2 : Hid (Below w.heap.size w (w2.alloc (.cells #[.bool true, .bool false, .bool false] 27))) := (HB1.out.thru hb).alloc (HB1.out.thru hb).size _
  clear hb HB1 HK1 a0 a1 a2
  go_wp2_with fail
  refine (HRT.out _).mono ?_
  rintro e w3 ⟨rfl, hb⟩
  have HK3 : Hid (Kept _ (w3.alloc (.cells #[.bool true, .bool false, .bool false] 27))) := (HK2.out.below hb).push (.cells #[.bool true, .bool false, .bool false] 27 (0, 0))
  have HB3 : Hid (Below w.heap.size w (w3.alloc (.cells #[.bool true, .bool false, .bool false] 27))) := (HB2.out.thru hb).alloc (HB2.out.thru hb).size _
  clear hb HB2 HK2
  obtain ⟨x0, x1, x2⟩ := flag_cells (HK3.out _ (.tail _ (.head _)))
  obtain ⟨y0, y1, y2⟩ := flag_cells (HK3.out _ (.tail _ (.tail _ (.head _))))
  go_wp2
  go_ret
  exact ⟨rfl, HB3.out⟩
end Go.Proofs.YtapahfoebpiajaaGreatDoor

/- Walks: the laws RoundTells, RoundParts. -/
namespace Go.Proofs.YtapahfoebpiajaaGreatDoor
open Go.RowKit
theorem is_self (x : Nat) (w : World) : Calls Tryz.prog 15 #[.float .f64 x, .int .u64 (x : Nat)] w fun e w' => e = .returned (.bool true) ∧ Below w.heap.size w w' := by
  have := is_v x x w
  rw [decide_eq_true rfl] at this
  exact this
end Go.Proofs.YtapahfoebpiajaaGreatDoor
