/- Parts Bs, Bt of the proof, in one text. -/
import Derived.Test.YtapahfoebpiajaaGreatDoorPBM
import Derived.Test.YtapahfoebpiajaaGreatDoorPBQ

/- Walks: awake, is. -/
namespace Go.Proofs.YtapahfoebpiajaaGreatDoor
open Go.RowKit

def tenth : Dc := ⟨false, [49], -1⟩
def threeD : Dc := ⟨false, [51], 0⟩
theorem tenth_ok : tenth.ok := (okB_iff _).1 (by decide)
theorem three_ok : threeD.ok := (okB_iff _).1 (by decide)
theorem tenth_s : tenth.s ≠ [] := by decide
theorem three_s : threeD.s ≠ [] := by decide
theorem tenth_g : quoG tenth oneD = ratMag 1 10 0 := by
  unfold quoG
  rw [show qM tenth oneD = 1 by decide, show qD tenth oneD = 10 by decide]
theorem third_g : quoG oneD threeD = ratMag 1 3 0 := by
  unfold quoG
  rw [show qM oneD threeD = 1 by decide, show qD oneD threeD = 3 by decide]
theorem tenth64 : to64A tenth 1 = ⟨4591870180066957722, true, false, false, 0⟩ := by
  unfold to64A ratioA
  rw [if_neg (fun h => h ⟨tenth_ok, oneD_ok, by decide, by decide⟩), if_neg oneD_s, if_neg tenth_s, tenth_g]
  have h : outG 53 (-1074) 971 (tenth.neg != oneD.neg) 1 (ratMag 1 10 0) = _ := outG_eq (e := -56) (by decide) (ratMag_ok (by decide)) ⟨by decide, by decide, .inr (by decide)⟩
  rw [h]
  rfl
theorem tenth32 : to32A tenth 1 = ⟨1036831949, true, false, false, 0⟩ := by
  unfold to32A
  rw [if_neg (fun h => h ⟨tenth_ok, by decide, by decide⟩), if_neg tenth_s, tenth_g]
  have h : outG 24 (-149) 104 tenth.neg 1 (ratMag 1 10 0) = _ := outG_eq (e := -27) (by decide) (ratMag_ok (by decide)) ⟨by decide, by decide, .inr (by decide)⟩
  rw [h]
  rfl
theorem third64 : ratioA oneD threeD 1 = ⟨4599676419421066581, true, false, false, 0⟩ := by
  unfold ratioA
  rw [if_neg (fun h => h ⟨oneD_ok, three_ok, by decide, by decide⟩), if_neg three_s, if_neg oneD_s, third_g]
  have h : outG 53 (-1074) 971 (oneD.neg != threeD.neg) 1 (ratMag 1 3 0) = _ := outG_eq (e := -54) (by decide) (ratMag_ok (by decide)) ⟨by decide, by decide, .inr (by decide)⟩
  rw [h]
  rfl
theorem flag_cells {w : World} {g : Nat} {a b c : Bool} (h : w.heap[g]? = some (.cells #[.bool a, .bool b, .bool c] 27 (0, 0))) : w.cell? ⟨g, 0, none⟩ = some (.bool a) ∧ w.cell? ⟨g, 1, none⟩ = some (.bool b) ∧ w.cell? ⟨g, 2, none⟩ = some (.bool c) :=
  ⟨cell_of_row w g 0 _ _ _ h, cell_of_row w g 1 _ _ _ h, cell_of_row w g 2 _ _ _ h⟩
set_option maxRecDepth 100000 in
theorem is_v (x : Nat) (b : Nat) (w : World) : Calls Tryz.prog 15 #[.float .f64 x, .int .u64 (b : Nat)] w fun e w' => e = .returned (.bool (decide (x = b))) ∧ Below w.heap.size w w' := by
  have h : ((x : Int) == (b : Int)) = decide (x = b) := by
    rw [Bool.eq_iff_iff, beq_iff_eq, decide_eq_true_eq]; omega
  go_enter Tryz.func15, Tryz.ntmps15
  go_wp2
  go_ret
  exact ⟨rfl, Below.refl _ _⟩
set_option maxHeartbeats 4000000 in
set_option maxRecDepth 100000 in
theorem awake_v (w : World) (htab : Tab w) : Calls Tryz.prog 10 #[] w fun e w' => e = .returned (.bool true) ∧ Below w.heap.size w w' := by
  have H64 : Hid (∀ W, Below w.heap.size w W → Calls Tryz.prog 11 #[.agg #[.bool false, .string ⟨#[49]⟩, .int .i64 (-1)], .int .i64 1] W (RatioQ ⟨4591870180066957722, true, false, false, 0⟩ W)) := fun W hW => by
    rw [← tenth64]; exact to64_v tenth 1 W (htab.below hW) (by decide)
  have H32 : Hid (∀ W, Below w.heap.size w W → Calls Tryz.prog 13 #[.agg #[.bool false, .string ⟨#[49]⟩, .int .i64 (-1)], .int .i64 1] W (Ratio32Q ⟨1036831949, true, false, false, 0⟩ W)) := fun W hW => by
    rw [← tenth32]; exact to32_v tenth 1 W (htab.below hW) (by decide)
  have HRT : Hid (∀ W, Calls Tryz.prog 17 #[.agg #[.bool false, .string ⟨#[49]⟩, .int .i64 0], .agg #[.bool false, .string ⟨#[51]⟩, .int .i64 0], .int .i64 1] W (RatioQ ⟨4599676419421066581, true, false, false, 0⟩ W)) := fun W => by
    rw [← third64]; exact ratio_v oneD threeD 1 W (by decide) (by decide)
  have HB0 : Hid (Below w.heap.size w (w.alloc (.cells #[.bool false, .string ⟨#[49]⟩, .int .i64 (-1)] 23))) := (Below.refl _ _).alloc (Nat.le_refl _) _
  have HK0 : Hid (Kept _ (w.alloc (.cells #[.bool false, .string ⟨#[49]⟩, .int .i64 (-1)] 23))) := (Kept.nil w).push (.cells #[.bool false, .string ⟨#[49]⟩, .int .i64 (-1)] 23 (0, 0))
  have o1 : (Go.FloatKind.f64.format.order 4591870180066957722 4591870180066957722 == some Ordering.eq) = true := by kernel_rfl
  have o2 : (Go.FloatKind.f32.format.order 1036831949 1036831949 == some Ordering.eq) = true := by kernel_rfl
  have o3 : (Go.FloatKind.f64.format.order 4599676419421066581 4599676419421066581 == some Ordering.eq) = true := by kernel_rfl
  clear htab
  go_enter Tryz.func10, Tryz.ntmps10
  go_wp2_with fail
  refine (H64.out _ HB0.out).mono ?_
  rintro e w1 ⟨rfl, hb⟩
  have HK1 : Hid (Kept _ (w1.alloc (.cells #[.bool true, .bool false, .bool false] 27))) := (HK0.out.below hb).push (.cells #[.bool true, .bool false, .bool false] 27 (0, 0))
  have HB1 : Hid (Below w.heap.size w (w1.alloc (.cells #[.bool true, .bool false, .bool false] 27))) := (HB0.out.thru hb).alloc (HB0.out.thru hb).size _
  clear hb HB0 HK0
  obtain ⟨a0, a1, a2⟩ := HK1.out.lits (.tail _ (.head _))
  go_wp2_with fail
  refine (H32.out _ HB1.out).mono ?_
  rintro e w2 ⟨rfl, hb⟩
  have HK2 : Hid (Kept _ (w2.alloc (.cells #[.bool true, .bool false, .bool false] 27))) := (HK1.out.below hb).push (.cells #[.bool true, .bool false, .bool false] 27 (0, 0))
  have HB2 : Hid (Below w.heap.size w (w2.alloc (.cells #[.bool true, .bool false, .bool false] 27))) := (HB1.out.thru hb).alloc (HB1.out.thru hb).size _
  clear hb HB1 HK1 a0 a1 a2
  go_wp2_with fail
  refine (HRT.out _).mono ?_
  rintro e w3 ⟨rfl, hb⟩
  have HK3 : Hid (Kept _ (w3.alloc (.cells #[.bool true, .bool false, .bool false] 27))) := (HK2.out.below hb).push (.cells #[.bool true, .bool false, .bool false] 27 (0, 0))
  have HB3 : Hid (Below w.heap.size w (w3.alloc (.cells #[.bool true, .bool false, .bool false] 27))) := (HB2.out.thru hb).alloc (HB2.out.thru hb).size _
  clear hb HB2 HK2
  obtain ⟨x0, x1, x2⟩ := flag_cells (HK3.out _ (.tail _ (.head _)))
  obtain ⟨y0, y1, y2⟩ := flag_cells (HK3.out _ (.tail _ (.tail _ (.head _))))
  go_wp2
  go_ret
  exact ⟨rfl, HB3.out⟩
end Go.Proofs.YtapahfoebpiajaaGreatDoor

/- Walks: the laws RoundTells, RoundParts. -/
namespace Go.Proofs.YtapahfoebpiajaaGreatDoor
open Go.RowKit
theorem is_self (x : Nat) (w : World) : Calls Tryz.prog 15 #[.float .f64 x, .int .u64 (x : Nat)] w fun e w' => e = .returned (.bool true) ∧ Below w.heap.size w w' := by
  have := is_v x x w
  rw [decide_eq_true rfl] at this
  exact this
theorem same_nat (n : Nat) : ((n : Int) == (n : Int)) = true := by simp

set_option maxHeartbeats 4000000 in
set_option maxRecDepth 100000 in
theorem roundParts_core (a : Dc) (b : Dc) (m : Int) (w : World) (ha : a.s.length ≤ 9223372036854775807) (hb : b.s.length ≤ 9223372036854775807) (htab : Tab w) :
    Calls Tryz.prog 4 #[.agg #[.bool a.neg, .string (bs a.s), .int .i64 a.e], .agg #[.bool b.neg, .string (bs b.s), .int .i64 b.e], .int .i64 m] w fun e w' => e = .returned (.bool true) ∧ Below w.heap.size w w' := by
  have HW : Hid (∀ W, Below w.heap.size w W → Calls Tryz.prog 10 #[] W fun e w' => e = .returned (.bool true) ∧ Below W.heap.size W w') := fun W hW => awake_v W (htab.below hW)
  obtain ⟨R, hR⟩ : ∃ R, R = ratioA a b m := ⟨_, rfl⟩
  obtain ⟨S, hS⟩ : ∃ S, S = rootA a m := ⟨_, rfl⟩
  have H1 : Hid (∀ W, Below w.heap.size w W → Calls Tryz.prog 17 #[.agg #[.bool a.neg, .string (bs a.s), .int .i64 a.e], .agg #[.bool b.neg, .string (bs b.s), .int .i64 b.e], .int .i64 m] W (RatioQ R W)) := fun W hW => by rw [hR]; exact ratio_v a b m W ha hb
  have H2 : Hid (∀ W, Below w.heap.size w W → Calls Tryz.prog 18 #[.agg #[.bool a.neg, .string (bs a.s), .int .i64 a.e], .agg #[.bool b.neg, .string (bs b.s), .int .i64 b.e], .int .i64 m] W (RefQ .u64 R W)) := fun W hW => by rw [hR]; exact rratio_v a b m W ha hb
  have H3 : Hid (∀ W, Below w.heap.size w W → Calls Tryz.prog 19 #[.agg #[.bool a.neg, .string (bs a.s), .int .i64 a.e], .int .i64 m] W (RatioQ S W)) := fun W hW => by rw [hS]; exact root_v a m W (htab.below hW) ha
  have H4 : Hid (∀ W, Below w.heap.size w W → Calls Tryz.prog 20 #[.agg #[.bool a.neg, .string (bs a.s), .int .i64 a.e], .int .i64 m] W (RefQ .u64 S W)) := fun W hW => by rw [hS]; exact rroot_v a m W ha
  have HB0 : Hid (Below w.heap.size w ((w.alloc (.cells #[.bool a.neg, .string (bs a.s), .int .i64 a.e] 23)).alloc (.cells #[.bool b.neg, .string (bs b.s), .int .i64 b.e] 23))) := ((Below.refl _ _).alloc (Nat.le_refl _) _).alloc (by simp) _
  have HK0 : Hid (Kept [(w.heap.size + 1, decO b), (w.heap.size, decO a)] ((w.alloc (.cells #[.bool a.neg, .string (bs a.s), .int .i64 a.e] 23)).alloc (.cells #[.bool b.neg, .string (bs b.s), .int .i64 b.e] 23))) := by
    have := ((Kept.nil w).dec a).dec b
    show Kept _ _
    simpa using this
  have e1 := same_nat R.bits
  have e2 := same_nat S.bits
  have e3 : ((R.err : Int) == R.err) = true := by simp
  have e4 : ((S.err : Int) == S.err) = true := by simp

  have HI1 : Hid (∀ W, Calls Tryz.prog 15 #[.float .f64 R.bits, .int .u64 (R.bits : Nat)] W fun e w' => e = .returned (.bool true) ∧ Below W.heap.size W w') := fun W => is_self R.bits W
  have HI2 : Hid (∀ W, Calls Tryz.prog 15 #[.float .f64 S.bits, .int .u64 (S.bits : Nat)] W fun e w' => e = .returned (.bool true) ∧ Below W.heap.size W w') := fun W => is_self S.bits W
  clear htab hR hS ha hb
  go_enter Tryz.func4, Tryz.ntmps4
  go_wp2_with fail
  refine (HW.out _ HB0.out).mono ?_
  rintro e w0 ⟨rfl, hb⟩
  have HK : Hid (Kept _ w0) := HK0.out.below hb
  have HB : Hid (Below w.heap.size w w0) := HB0.out.thru hb
  clear hb HB0 HK0
  obtain ⟨a0, a1, a2⟩ := HK.out.decs (.tail _ (.head _))
  obtain ⟨b0, b1, b2⟩ := HK.out.decs (.head _)
  go_wp2_with fail
  refine (H1.out _ HB.out).mono ?_
  rintro e v1 ⟨rfl, hb⟩
  have HK1 : Hid (Kept _ (v1.alloc (.cells #[.bool R.ine, .bool R.ov, .bool R.un] 27))) := (HK.out.below hb).push (.cells #[.bool R.ine, .bool R.ov, .bool R.un] 27 (0, 0))
  have HB1 : Hid (Below w.heap.size w (v1.alloc (.cells #[.bool R.ine, .bool R.ov, .bool R.un] 27))) := (HB.out.thru hb).alloc (HB.out.thru hb).size _
  clear hb HB HK a0 a1 a2 b0 b1 b2
  obtain ⟨a0, a1, a2⟩ := HK1.out.decs (.tail _ (.tail _ (.head _)))
  obtain ⟨b0, b1, b2⟩ := HK1.out.decs (.tail _ (.head _))
  go_wp2_with fail
  refine (H2.out _ HB1.out).mono ?_
  rintro e v2 ⟨rfl, hb⟩
  have HK2 : Hid (Kept _ (v2.alloc (.cells #[.bool R.ine, .bool R.ov, .bool R.un] 27))) := (HK1.out.below hb).push (.cells #[.bool R.ine, .bool R.ov, .bool R.un] 27 (0, 0))
  have HB2 : Hid (Below w.heap.size w (v2.alloc (.cells #[.bool R.ine, .bool R.ov, .bool R.un] 27))) := (HB1.out.thru hb).alloc (HB1.out.thru hb).size _
  clear hb HB1 HK1 a0 a1 a2 b0 b1 b2
  obtain ⟨a0, a1, a2⟩ := HK2.out.decs (.tail _ (.tail _ (.tail _ (.head _))))
  obtain ⟨b0, b1, b2⟩ := HK2.out.decs (.tail _ (.tail _ (.head _)))
  go_wp2_with fail
  refine (H3.out _ HB2.out).mono ?_
  rintro e v3 ⟨rfl, hb⟩
  have HK3 : Hid (Kept _ (v3.alloc (.cells #[.bool S.ine, .bool S.ov, .bool S.un] 27))) := (HK2.out.below hb).push (.cells #[.bool S.ine, .bool S.ov, .bool S.un] 27 (0, 0))
  have HB3 : Hid (Below w.heap.size w (v3.alloc (.cells #[.bool S.ine, .bool S.ov, .bool S.un] 27))) := (HB2.out.thru hb).alloc (HB2.out.thru hb).size _
  clear hb HB2 HK2 a0 a1 a2 b0 b1 b2
  obtain ⟨a0, a1, a2⟩ := HK3.out.decs (.tail _ (.tail _ (.tail _ (.tail _ (.head _)))))
  obtain ⟨b0, b1, b2⟩ := HK3.out.decs (.tail _ (.tail _ (.tail _ (.head _))))
  go_wp2_with fail
  refine (H4.out _ HB3.out).mono ?_
  rintro e v4 ⟨rfl, hb⟩
  have HK4 : Hid (Kept _ (v4.alloc (.cells #[.bool S.ine, .bool S.ov, .bool S.un] 27))) := (HK3.out.below hb).push (.cells #[.bool S.ine, .bool S.ov, .bool S.un] 27 (0, 0))
  have HB4 : Hid (Below w.heap.size w (v4.alloc (.cells #[.bool S.ine, .bool S.ov, .bool S.un] 27))) := (HB3.out.thru hb).alloc (HB3.out.thru hb).size _
  clear hb HB3 HK3 a0 a1 a2 b0 b1 b2
  go_wp2_with fail
  refine (HI1.out _).mono ?_
  rintro e v5 ⟨rfl, hb⟩
  have HK5 : Hid (Kept _ v5) := HK4.out.below hb
  have HB5 : Hid (Below w.heap.size w v5) := HB4.out.thru hb
  clear hb HB4 HK4
  obtain ⟨r0, r1, r2⟩ := flag_cells (HK5.out _ (.tail _ (.tail _ (.head _))))
  obtain ⟨t0, t1, t2⟩ := flag_cells (HK5.out _ (.tail _ (.tail _ (.tail _ (.head _)))))
  go_wp2_with fail
  refine (HI2.out _).mono ?_
  rintro e v6 ⟨rfl, hb⟩
  have HK6 : Hid (Kept _ v6) := HK5.out.below hb
  have HB6 : Hid (Below w.heap.size w v6) := HB5.out.thru hb
  clear hb HB5 HK5 r0 r1 r2 t0 t1 t2
  obtain ⟨p0, p1, p2⟩ := flag_cells (HK6.out _ (.head _))
  obtain ⟨q0, q1, q2⟩ := flag_cells (HK6.out _ (.tail _ (.head _)))
  go_wp2
  go_ret
  exact ⟨rfl, HB6.out⟩
theorem roundParts_walk (ga : Bool) (sa : ByteArray) (xa : Int) (gb : Bool) (sb : ByteArray) (xb : Int) (m : Int) (w : World) (za : sa.size ≤ 9223372036854775807) (_ : -9223372036854775808 ≤ xa) (_ : xa ≤ 9223372036854775807) (zb : sb.size ≤ 9223372036854775807) (_ : -9223372036854775808 ≤ xb) (_ : xb ≤ 9223372036854775807) (_ : -9223372036854775808 ≤ m) (_ : m ≤ 9223372036854775807) (htab : Tab w) :
    Calls Tryz.prog 4 #[.agg #[.bool ga, .string sa, .int .i64 xa], .agg #[.bool gb, .string sb, .int .i64 xb], .int .i64 m] w fun e w' => e = .returned (.bool true) ∧ Below w.heap.size w w' :=
  roundParts_core ⟨ga, bl sa, xa⟩ ⟨gb, bl sb, xb⟩ m w za zb htab

end Go.Proofs.YtapahfoebpiajaaGreatDoor
