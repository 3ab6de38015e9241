/- Parts Em of the proof, in one text. -/
import Derived.Test.YtpfnfhikhlceoaaGreatDoorQZ

/- Walks: dec's Cmp, Sub, Mul. -/
namespace Go.Proofs.YtpfnfhikhlceoaaGreatDoor
open Go.RowKit

theorem row3_other {w : World} {g k : Nat} {x : Option Obj} (h : w.heap[k]? = x) (hk : k ≠ g) (u v y : Value) : (((w.setCell ⟨g, 0, none⟩ u).setCell ⟨g, 1, none⟩ v).setCell ⟨g, 2, none⟩ y).heap[k]? = x := by
  rw [heap_setCell_other _ _ _ _ hk]; exact row2_other h hk u v
set_option maxHeartbeats 2000000 in
set_option maxRecDepth 100000 in
theorem cmp_v (a b : Dc) (w : World) (hsa : a.s.length ≤ 9223372036854775807) (hsb : b.s.length ≤ 9223372036854775807) :
    Calls Tryz.prog 31 #[dcV a, dcV b] w fun en w' => en = .returned (.tuple #[.int .i64 (if (a.okB && b.okB) = true then cmpV a b else 0), .int .i64 (if (a.okB && b.okB) = true then 0 else 1)]) ∧ Below w.heap.size w w' := by
  have HV : Hid (∀ W, Calls Tryz.prog 25 #[.agg #[.bool a.neg, .string (bs a.s), .int .i64 a.e]] W fun en w' => en = .returned (.bool a.okB) ∧ Below W.heap.size W w') := fun W => valid_v a W hsa
  have HU : Hid (∀ W, Calls Tryz.prog 25 #[.agg #[.bool b.neg, .string (bs b.s), .int .i64 b.e]] W fun en w' => en = .returned (.bool b.okB) ∧ Below W.heap.size W w') := fun W => valid_v b W hsb
  have hb0 : Below w.heap.size w ((w.alloc (.cells #[.bool a.neg, .string (bs a.s), .int .i64 a.e] 25)).alloc (.cells #[.bool b.neg, .string (bs b.s), .int .i64 b.e] 25)) := ((Below.refl _ _).alloc (Nat.le_refl _) _).alloc (by simp) _
  have q0 := heap_alloc2_old w (.cells #[.bool a.neg, .string (bs a.s), .int .i64 a.e] 25) (.cells #[.bool b.neg, .string (bs b.s), .int .i64 b.e] 25)
  have q1 := heap_alloc2_new w (.cells #[.bool a.neg, .string (bs a.s), .int .i64 a.e] 25) (.cells #[.bool b.neg, .string (bs b.s), .int .i64 b.e] 25)
  have HQ0 : Hid _ := q0
  have HQ1 : Hid _ := q1
  have HB0 : Hid _ := hb0
  clear hb0 q0 q1
  cases hao : a.okB
  · rw [hao] at HV
    rw [Bool.false_and, if_neg (by simp), if_neg (by simp)]
    clear hao HU hsa hsb
    show Calls Tryz.prog 31 #[.agg #[.bool a.neg, .string (bs a.s), .int .i64 a.e], .agg #[.bool b.neg, .string (bs b.s), .int .i64 b.e]] w _
    go_enter Tryz.func31, Tryz.ntmps31
    go_wp2_with fail
    refine (HV.out _).mono ?_
    rintro e' w1 ⟨rfl, hb⟩
    have HBB : Hid (Below w.heap.size w w1) := HB0.out.thru hb
    clear hb
    go_wp2
    go_ret2
    exact ⟨rfl, HBB.out⟩
  · rw [hao] at HV
    cases hbo : b.okB
    · rw [hbo] at HU
      rw [Bool.and_false, if_neg (by simp), if_neg (by simp)]
      clear hao hbo hsa hsb
      show Calls Tryz.prog 31 #[.agg #[.bool a.neg, .string (bs a.s), .int .i64 a.e], .agg #[.bool b.neg, .string (bs b.s), .int .i64 b.e]] w _
      go_enter Tryz.func31, Tryz.ntmps31
      go_wp2_with fail
      refine (HV.out _).mono ?_
      rintro e' w1 ⟨rfl, hb⟩
      have HQ11 : Hid _ := hb.blk HQ1.out (blk_lt HQ1.out)
      have HB1 : Hid (Below w.heap.size w w1) := HB0.out.thru hb
      have k0 := cell_of_row _ _ 0 _ _ _ HQ11.out
      have k1 := cell_of_row _ _ 1 _ _ _ HQ11.out
      have k2 := cell_of_row _ _ 2 _ _ _ HQ11.out
      clear hb
      go_wp2_with fail
      refine (HU.out _).mono ?_
      rintro e' w2 ⟨rfl, hb⟩
      have HBB : Hid (Below w.heap.size w w2) := HB1.out.thru hb
      clear hb
      go_wp2
      go_ret2
      exact ⟨rfl, HBB.out⟩
    · rw [hbo] at HU
      have hA := (okB_iff a).1 hao
      have hB := (okB_iff b).1 hbo
      rw [Bool.and_true, if_pos rfl, if_pos rfl]
      have HL : Hid (∀ W, Calls Tryz.prog 60 #[.agg #[.bool a.neg, .string (bs a.s), .int .i64 a.e], .agg #[.bool b.neg, .string (bs b.s), .int .i64 b.e]] W (LiftQ a b W)) := fun W => lifted_v a b W hA hB
      obtain ⟨bt, hbt, hbt2⟩ : ∃ bt, 250000 ≤ bt ∧ bt ≤ 4294967296 := ⟨250000, by decide, by decide⟩
      obtain ⟨l1, l2, l3⟩ := liftV_lt hA hB hbt
      have HCM : Hid (∀ W u v, WideI W u (liftV a (liftE a b)) → WideI W v (liftV b (liftE a b)) → Calls Tryz.prog 61 #[u, v] W fun e w' => e = .returned (.int .i64 (cmpV a b)) ∧ Below W.heap.size W w') := fun W u v hu hv => icmp_v u v _ _ W hu hv l1 l2 hbt2
      clear hbt hbt2 l1 l2 l3
      clear hao hbo hsa hsb hA hB
      show Calls Tryz.prog 31 #[.agg #[.bool a.neg, .string (bs a.s), .int .i64 a.e], .agg #[.bool b.neg, .string (bs b.s), .int .i64 b.e]] w _
      go_enter Tryz.func31, Tryz.ntmps31
      go_wp2_with fail
      refine (HV.out _).mono ?_
      rintro e' w1 ⟨rfl, hb⟩
      have P0 : Hid _ := hb.blk HQ0.out (blk_lt HQ0.out)
      have P1 : Hid _ := hb.blk HQ1.out (blk_lt HQ1.out)
      have HB1 : Hid (Below w.heap.size w w1) := HB0.out.thru hb
      have k0 := cell_of_row _ _ 0 _ _ _ P1.out
      have k1 := cell_of_row _ _ 1 _ _ _ P1.out
      have k2 := cell_of_row _ _ 2 _ _ _ P1.out
      clear hb
      go_wp2_with fail
      refine (HU.out _).mono ?_
      rintro e' w2 ⟨rfl, hb⟩
      have R0 : Hid _ := hb.blk P0.out (blk_lt P0.out)
      have R1 : Hid _ := hb.blk P1.out (blk_lt P1.out)
      have HB2 : Hid (Below w.heap.size w w2) := HB1.out.thru hb
      have j0 := cell_of_row _ _ 0 _ _ _ R0.out
      have j1 := cell_of_row _ _ 1 _ _ _ R0.out
      have j2 := cell_of_row _ _ 2 _ _ _ R0.out
      have i0 := cell_of_row _ _ 0 _ _ _ R1.out
      have i1 := cell_of_row _ _ 1 _ _ _ R1.out
      have i2 := cell_of_row _ _ 2 _ _ _ R1.out
      clear hb k0 k1 k2
      go_wp2_with fail
      refine (HL.out _).mono ?_
      rintro e' w3 ⟨u, v, rfl, hu, hv, hb⟩
      have hu2 := hu
      have hv2 := hv
      obtain ⟨p1, p2, p3, rfl, -⟩ := hu2
      obtain ⟨q1, q2, q3, rfl, -⟩ := hv2
      obtain ⟨ba, hba⟩ : ∃ x, x = decide (liftV a (liftE a b) < 0) := ⟨_, rfl⟩
      obtain ⟨bb, hbb⟩ : ∃ x, x = decide (liftV b (liftE a b) < 0) := ⟨_, rfl⟩
      rw [← hba] at hu
      rw [← hbb] at hv
      simp only [← hba, ← hbb]
      have HWU : Hid (WideI w3 (.agg #[.bool ba, .slice p1 p2 p3]) (liftV a (liftE a b))) := hu
      have HWV : Hid (WideI w3 (.agg #[.bool bb, .slice q1 q2 q3]) (liftV b (liftE a b))) := hv
      have HB3 : Hid (Below w.heap.size w w3) := HB2.out.thru hb
      have HX : Hid (Below w3.heap.size w3 ((w3.alloc (.cells #[.bool ba, .slice p1 p2 p3] 63)).alloc (.cells #[.bool bb, .slice q1 q2 q3] 63))) := ((Below.refl _ _).alloc (Nat.le_refl _) _).alloc (by simp) _
      clear hb hu hv hba hbb j0 j1 j2 i0 i1 i2
      generalize liftE a b = E at *
      go_wp2_with fail
      refine (HCM.out _ _ _ (HWU.out.below HX.out) (HWV.out.below HX.out)).mono ?_
      rintro e' w4 ⟨rfl, hb⟩
      have HB4 : Hid (Below w.heap.size w w4) := (HB3.out.thru HX.out).thru hb
      clear hb
      go_wp2
      go_ret2
      exact ⟨rfl, HB4.out⟩
set_option maxHeartbeats 2000000 in
set_option maxRecDepth 100000 in
theorem sub_v (a b : Dc) (w : World) (hsa : a.s.length ≤ 9223372036854775807) (hsb : b.s.length ≤ 9223372036854775807) (htab : Tab w) :
    Calls Tryz.prog 37 #[dcV a, dcV b] w (DcQ (if (a.okB && b.okB) = true then addD a (negD b) else Dc.none) (if (a.okB && b.okB) = true then addX a (negD b) else 1) w) := by
  have HVx : Hid (∀ W, Calls Tryz.prog 25 #[.agg #[.bool a.neg, .string (bs a.s), .int .i64 a.e]] W fun en w' => en = .returned (.bool a.okB) ∧ Below W.heap.size W w') := fun W => valid_v a W hsa
  have HUx : Hid (∀ W, Calls Tryz.prog 25 #[.agg #[.bool b.neg, .string (bs b.s), .int .i64 b.e]] W fun en w' => en = .returned (.bool b.okB) ∧ Below W.heap.size W w') := fun W => valid_v b W hsb
  have hb0 : Below w.heap.size w (((w.alloc (.cells #[.bool a.neg, .string (bs a.s), .int .i64 a.e] 25)).alloc (.cells #[.bool b.neg, .string (bs b.s), .int .i64 b.e] 25)).alloc (.cells #[.bool false, .string ⟨#[]⟩, .int .i64 0] 25)) := (((Below.refl _ _).alloc (Nat.le_refl _) _).alloc (by simp) _).alloc (by simp; omega) _
  have q0 := heap_alloc3_0 w (.cells #[.bool a.neg, .string (bs a.s), .int .i64 a.e] 25) (.cells #[.bool b.neg, .string (bs b.s), .int .i64 b.e] 25) (.cells #[.bool false, .string ⟨#[]⟩, .int .i64 0] 25)
  have q1 := heap_alloc3_1 w (.cells #[.bool a.neg, .string (bs a.s), .int .i64 a.e] 25) (.cells #[.bool b.neg, .string (bs b.s), .int .i64 b.e] 25) (.cells #[.bool false, .string ⟨#[]⟩, .int .i64 0] 25)
  have q2 := heap_alloc3_2 w (.cells #[.bool a.neg, .string (bs a.s), .int .i64 a.e] 25) (.cells #[.bool b.neg, .string (bs b.s), .int .i64 b.e] 25) (.cells #[.bool false, .string ⟨#[]⟩, .int .i64 0] 25)
  have HQ0 : Hid _ := q0
  have HQ1 : Hid _ := q1
  have HQ2 : Hid _ := q2
  have HB0 : Hid _ := hb0
  clear hb0 q0 q1 q2
  clear HVx HUx
  cases hbo : b.okB
  · rw [Bool.and_false, if_neg (by simp), if_neg (by simp)]
    have HN : Hid (∀ W, Calls Tryz.prog 27 #[.agg #[.bool b.neg, .string (bs b.s), .int .i64 b.e]] W (DcQ Dc.none 1 W)) := fun W => neg_bad b W hsb hbo
    clear hbo hsa hsb htab
    show Calls Tryz.prog 37 #[.agg #[.bool a.neg, .string (bs a.s), .int .i64 a.e], .agg #[.bool b.neg, .string (bs b.s), .int .i64 b.e]] w _
    go_enter Tryz.func37, Tryz.ntmps37
    go_wp2_with fail
    refine (HN.out _).mono ?_
    rintro e' w1 ⟨rfl, hb⟩
    simp only [dcV_none]
    have r1 := hb.blk HQ1.out (blk_lt HQ1.out)
    have r2 := hb.blk HQ2.out (blk_lt HQ2.out)
    obtain ⟨g0, d0, g1, d1, g2, d2, t3⟩ := rw3 r1
    have n2 : ((((w1.setCell ⟨w.heap.size + 1, 0, none⟩ (.bool false)).setCell ⟨w.heap.size + 1, 1, none⟩ (.string ⟨#[]⟩)).setCell ⟨w.heap.size + 1, 2, none⟩ (.int .i64 0))).heap[w.heap.size + 2]? = some (.cells #[.bool false, .string ⟨#[]⟩, .int .i64 0] 25 (0, 0)) := row3_other r2 (by omega) _ _ _
    obtain ⟨f0, c0, f1, c1, f2, c2, r3⟩ := rw3 n2
    have HR : Hid _ := r3
    have HBB : Hid (Below w.heap.size w _) := below_row3 (HB0.out.thru hb) (Nat.le_add_right _ 1) (.bool false) (.string ⟨#[]⟩) (.int .i64 0)
    clear r1 r2 r3 t3 n2 hb
    go_wp2
    exact dc_end rfl rfl rfl (HR.out _ _ _) rfl rfl (below_row3 HBB.out (Nat.le_add_right _ 2) _ _ _)
  · have hB := (okB_iff b).1 hbo
    rw [Bool.and_true]
    have HN : Hid (∀ W, Calls Tryz.prog 27 #[.agg #[.bool b.neg, .string (bs b.s), .int .i64 b.e]] W (DcQ (negD b) 0 W)) := fun W => neg_ok b W hB
    have HA : Hid (∀ W, Below w.heap.size w W → Calls Tryz.prog 32 #[.agg #[.bool a.neg, .string (bs a.s), .int .i64 a.e], .agg #[.bool (negD b).neg, .string (bs (negD b).s), .int .i64 (negD b).e]] W (DcQ (if a.okB = true then addD a (negD b) else Dc.none) (if a.okB = true then addX a (negD b) else 1) W)) := fun W hW => by
      have := add_v a (negD b) W hsa (by rw [negD_s]; exact hsb) (htab.below hW)
      rwa [okB_ok (negD_ok hB), Bool.and_true] at this
    generalize (if a.okB = true then addD a (negD b) else Dc.none) = D at *
    generalize (if a.okB = true then addX a (negD b) else 1) = X at *
    generalize negD b = nb at *
    clear hbo hsa hsb htab hB
    show Calls Tryz.prog 37 #[.agg #[.bool a.neg, .string (bs a.s), .int .i64 a.e], .agg #[.bool b.neg, .string (bs b.s), .int .i64 b.e]] w _
    go_enter Tryz.func37, Tryz.ntmps37
    go_wp2_with fail
    refine (HN.out _).mono ?_
    rintro e' w1 ⟨rfl, hb⟩
    simp only [dcV]
    have r0 := hb.blk HQ0.out (blk_lt HQ0.out)
    have r1 := hb.blk HQ1.out (blk_lt HQ1.out)
    have r2 := hb.blk HQ2.out (blk_lt HQ2.out)
    obtain ⟨g0, d0, g1, d1, g2, d2, t3⟩ := rw3 r1
    have HM : Hid _ := t3 (.bool nb.neg) (.string (bs nb.s)) (.int .i64 nb.e)
    have n2 : ((((w1.setCell ⟨w.heap.size + 1, 0, none⟩ (.bool nb.neg)).setCell ⟨w.heap.size + 1, 1, none⟩ (.string (bs nb.s))).setCell ⟨w.heap.size + 1, 2, none⟩ (.int .i64 nb.e))).heap[w.heap.size + 2]? = some (.cells #[.bool false, .string ⟨#[]⟩, .int .i64 0] 25 (0, 0)) := row3_other r2 (by omega) _ _ _
    have n0 : ((((w1.setCell ⟨w.heap.size + 1, 0, none⟩ (.bool nb.neg)).setCell ⟨w.heap.size + 1, 1, none⟩ (.string (bs nb.s))).setCell ⟨w.heap.size + 1, 2, none⟩ (.int .i64 nb.e))).heap[w.heap.size]? = some (.cells #[.bool a.neg, .string (bs a.s), .int .i64 a.e] 25 (0, 0)) := row3_other r0 (by omega) _ _ _
    have HN2 : Hid _ := n2
    have HBB : Hid (Below w.heap.size w _) := below_row3 (HB0.out.thru hb) (Nat.le_add_right _ 1) (.bool nb.neg) (.string (bs nb.s)) (.int .i64 nb.e)
    have a0 := cell_of_row _ _ 0 _ _ _ n0
    have a1 := cell_of_row _ _ 1 _ _ _ n0
    have a2 := cell_of_row _ _ 2 _ _ _ n0
    have b0 := cell_of_row _ _ 0 _ _ _ HM.out
    have b1 := cell_of_row _ _ 1 _ _ _ HM.out
    have b2 := cell_of_row _ _ 2 _ _ _ HM.out
    clear r0 r1 r2 t3 n2 n0 hb
    go_wp2_with fail
    refine (HA.out _ HBB.out).mono ?_
    rintro e' w5 ⟨rfl, hb⟩
    have r2 := hb.blk HN2.out (blk_lt HN2.out)
    obtain ⟨f0, c0, f1, c1, f2, c2, r3⟩ := rw3 r2
    have HR : Hid _ := r3
    have HB5 : Hid (Below w.heap.size w w5) := HBB.out.thru hb
    clear r2 r3 hb g0 d0 g1 d1 g2 d2 a0 a1 a2 b0 b1 b2
    simp only [dcV]
    go_wp2
    exact dc_end rfl rfl rfl (HR.out _ _ _) rfl rfl (below_row3 HB5.out (Nat.le_add_right _ 2) _ _ _)
set_option maxHeartbeats 2000000 in
set_option maxRecDepth 100000 in
theorem mul_v (a b : Dc) (w : World) (hsa : a.s.length ≤ 9223372036854775807) (hsb : b.s.length ≤ 9223372036854775807) (htab : Tab w) :
    Calls Tryz.prog 33 #[dcV a, dcV b] w (DcQ (if (a.okB && b.okB) = true then mulD a b else Dc.none) (if (a.okB && b.okB) = true then mulX a b else 1) w) := by
  have HV : Hid (∀ W, Calls Tryz.prog 25 #[.agg #[.bool a.neg, .string (bs a.s), .int .i64 a.e]] W fun en w' => en = .returned (.bool a.okB) ∧ Below W.heap.size W w') := fun W => valid_v a W hsa
  have HU : Hid (∀ W, Calls Tryz.prog 25 #[.agg #[.bool b.neg, .string (bs b.s), .int .i64 b.e]] W fun en w' => en = .returned (.bool b.okB) ∧ Below W.heap.size W w') := fun W => valid_v b W hsb
  have hb0 : Below w.heap.size w (((w.alloc (.cells #[.bool a.neg, .string (bs a.s), .int .i64 a.e] 25)).alloc (.cells #[.bool b.neg, .string (bs b.s), .int .i64 b.e] 25)).alloc (.cells #[.bool false, .string ⟨#[]⟩, .int .i64 0] 25)) := (((Below.refl _ _).alloc (Nat.le_refl _) _).alloc (by simp) _).alloc (by simp; omega) _
  have q0 := heap_alloc3_0 w (.cells #[.bool a.neg, .string (bs a.s), .int .i64 a.e] 25) (.cells #[.bool b.neg, .string (bs b.s), .int .i64 b.e] 25) (.cells #[.bool false, .string ⟨#[]⟩, .int .i64 0] 25)
  have q1 := heap_alloc3_1 w (.cells #[.bool a.neg, .string (bs a.s), .int .i64 a.e] 25) (.cells #[.bool b.neg, .string (bs b.s), .int .i64 b.e] 25) (.cells #[.bool false, .string ⟨#[]⟩, .int .i64 0] 25)
  have q2 := heap_alloc3_2 w (.cells #[.bool a.neg, .string (bs a.s), .int .i64 a.e] 25) (.cells #[.bool b.neg, .string (bs b.s), .int .i64 b.e] 25) (.cells #[.bool false, .string ⟨#[]⟩, .int .i64 0] 25)
  have HQ0 : Hid _ := q0
  have HQ1 : Hid _ := q1
  have HQ2 : Hid _ := q2
  have HB0 : Hid _ := hb0
  clear hb0 q0 q1 q2
  cases hao : a.okB
  · rw [hao] at HV
    rw [Bool.false_and, if_neg (by simp), if_neg (by simp)]
    clear hao HU hsa hsb htab
    show Calls Tryz.prog 33 #[.agg #[.bool a.neg, .string (bs a.s), .int .i64 a.e], .agg #[.bool b.neg, .string (bs b.s), .int .i64 b.e]] w _
    go_enter Tryz.func33, Tryz.ntmps33
    go_wp2_with fail
    refine (HV.out _).mono ?_
    rintro e' w1 ⟨rfl, hb⟩
    have r2 := hb.blk HQ2.out (blk_lt HQ2.out)
    obtain ⟨f0, c0, f1, c1, f2, c2, r3⟩ := rw3 r2
    have HR : Hid _ := r3
    have HBB : Hid (Below w.heap.size w w1) := HB0.out.thru hb
    clear r2 r3 hb
    go_wp2
    exact dc_end rfl rfl rfl (HR.out _ _ _) rfl rfl (below_row3 HBB.out (Nat.le_add_right _ 2) _ _ _)
  · rw [hao] at HV
    cases hbo : b.okB
    · rw [hbo] at HU
      rw [Bool.and_false, if_neg (by simp), if_neg (by simp)]
      clear hao hbo hsa hsb htab
      show Calls Tryz.prog 33 #[.agg #[.bool a.neg, .string (bs a.s), .int .i64 a.e], .agg #[.bool b.neg, .string (bs b.s), .int .i64 b.e]] w _
      go_enter Tryz.func33, Tryz.ntmps33
      go_wp2_with fail
      refine (HV.out _).mono ?_
      rintro e' w1 ⟨rfl, hb⟩
      have HQ11 : Hid _ := hb.blk HQ1.out (blk_lt HQ1.out)
      have HB1 : Hid (Below w.heap.size w w1) := HB0.out.thru hb
      have HQ12 : Hid _ := hb.blk HQ2.out (blk_lt HQ2.out)
      have k0 := cell_of_row _ _ 0 _ _ _ HQ11.out
      have k1 := cell_of_row _ _ 1 _ _ _ HQ11.out
      have k2 := cell_of_row _ _ 2 _ _ _ HQ11.out
      clear hb
      go_wp2_with fail
      refine (HU.out _).mono ?_
      rintro e' w2 ⟨rfl, hb⟩
      have r2 := hb.blk HQ12.out (blk_lt HQ12.out)
      obtain ⟨f0, c0, f1, c1, f2, c2, r3⟩ := rw3 r2
      have HR : Hid _ := r3
      have HBB : Hid (Below w.heap.size w w2) := HB1.out.thru hb
      clear r2 r3 hb
      go_wp2
      exact dc_end rfl rfl rfl (HR.out _ _ _) rfl rfl (below_row3 HBB.out (Nat.le_add_right _ 2) _ _ _)
    · rw [hbo] at HU
      have hA := (okB_iff a).1 hao
      have hB := (okB_iff b).1 hbo
      rw [Bool.and_true, if_pos rfl, if_pos rfl]
      have HSA : Hid (∀ W, Calls Tryz.prog 63 #[dcV a] W (WideR a.v W)) := fun W => signed_v a W (ok_dig hA) (by have := ok_len hA; omega)
      have HSB : Hid (∀ W, Calls Tryz.prog 63 #[dcV b] W (WideR b.v W)) := fun W => signed_v b W (ok_dig hB) (by have := ok_len hB; omega)
      obtain ⟨bt, hbt, hbt2⟩ : ∃ bt, 250000 ≤ bt ∧ bt ≤ 4294967296 := ⟨250000, by decide, by decide⟩
      have lm : (a.v * b.v).natAbs < 2 ^ bt := by
        rw [Int.natAbs_mul, v_abs, v_abs]
        have h1 := Nat.lt_of_lt_of_le (ok_val hA) (Nat.pow_le_pow_right (show 0 < 10 by decide) (ok_len hA))
        have h2 := Nat.lt_of_lt_of_le (ok_val hB) (Nat.pow_le_pow_right (show 0 < 10 by decide) (ok_len hB))
        obtain ⟨M, hM⟩ : ∃ M, M = 8192 := ⟨_, rfl⟩
        rw [← hM] at h1 h2
        have h3 : dval a.s * dval b.s < 10 ^ (M + M) := by rw [Nat.pow_add]; exact Nat.lt_of_le_of_lt (Nat.mul_le_mul_left _ (Nat.le_of_lt h2)) (Nat.mul_lt_mul_of_pos_right h1 (Nat.pow_pos (by decide)))
        exact Nat.lt_trans h3 (ten_lt (Nat.le_refl _) (by omega))
      have HML : Hid (∀ W u v, WideI W u a.v → WideI W v b.v → Calls Tryz.prog 43 #[u, v] W (WideR (a.v * b.v) W)) := fun W u v hu hv => imul_v u v _ _ W hu hv (v_lt hA (by omega)) (v_lt hB (by omega)) hbt2
      have HE : Hid (IntKind.i64.wrap (a.e + b.e) = a.e + b.e) := by have := ok_exp hA; have := ok_exp hB; exact IntWalk.i64_in _ (by omega)
      have HWH : Hid (∀ W v, Below w.heap.size w W → WideI W v (a.v * b.v) → Calls Tryz.prog 58 #[v, .int .i64 (a.e + b.e)] W (DcQ (mulD a b) (mulX a b) W)) := fun W v hW hv => whole_any v (a.v * b.v) _ W hv lm hbt2 (htab.below hW)
      clear hbt hbt2 lm htab
      clear hao hbo hsa hsb hA hB
      show Calls Tryz.prog 33 #[.agg #[.bool a.neg, .string (bs a.s), .int .i64 a.e], .agg #[.bool b.neg, .string (bs b.s), .int .i64 b.e]] w _
      go_enter Tryz.func33, Tryz.ntmps33
      go_wp2_with fail
      refine (HV.out _).mono ?_
      rintro e' w1 ⟨rfl, hb⟩
      have P0 : Hid _ := hb.blk HQ0.out (blk_lt HQ0.out)
      have P1 : Hid _ := hb.blk HQ1.out (blk_lt HQ1.out)
      have P2 : Hid _ := hb.blk HQ2.out (blk_lt HQ2.out)
      have HB1 : Hid (Below w.heap.size w w1) := HB0.out.thru hb
      have k0 := cell_of_row _ _ 0 _ _ _ P1.out
      have k1 := cell_of_row _ _ 1 _ _ _ P1.out
      have k2 := cell_of_row _ _ 2 _ _ _ P1.out
      clear hb
      go_wp2_with fail
      refine (HU.out _).mono ?_
      rintro e' w2 ⟨rfl, hb⟩
      have R0 : Hid _ := hb.blk P0.out (blk_lt P0.out)
      have R1 : Hid _ := hb.blk P1.out (blk_lt P1.out)
      have R2 : Hid _ := hb.blk P2.out (blk_lt P2.out)
      have HB2 : Hid (Below w.heap.size w w2) := HB1.out.thru hb
      have j0 := cell_of_row _ _ 0 _ _ _ R0.out
      have j1 := cell_of_row _ _ 1 _ _ _ R0.out
      have j2 := cell_of_row _ _ 2 _ _ _ R0.out
      have i0 := cell_of_row _ _ 0 _ _ _ R1.out
      have i1 := cell_of_row _ _ 1 _ _ _ R1.out
      have i2 := cell_of_row _ _ 2 _ _ _ R1.out
      clear hb k0 k1 k2
      go_upto_region 3 with fail
      clear j0 j1 j2 i0 i1 i2
      have h1 : once [(15, 0), (16, 1), (17, 2), (18, 3), (19, 4), (20, 5), (21, 6), (22, 7), (23, 8), (24, 9), (25, 10), (26, 11), (27, 12)] = true := by kernel_rfl
      have h2 : within [(15, 0), (16, 1), (17, 2), (18, 3), (19, 4), (20, 5), (21, 6), (22, 7), (23, 8), (24, 9), (25, 10), (26, 11), (27, 12)] 28 = true := by kernel_rfl
      refine wp_region_flow 13 15 [(15, 0), (16, 1), (17, 2), (18, 3), (19, 4), (20, 5), (21, 6), (22, 7), (23, 8), (24, 9), (25, 10), (26, 11), (27, 12)] [] (fun i v W => match i with
        | 0 => v = dcV a
        | 1 => WideI W v a.v
        | 2 => v = dcV b
        | 3 => WideI W v b.v
        | 4 => WideI W v (a.v * b.v)
        | 5 => v = .pointer (some ⟨w.heap.size, 2, none⟩)
        | 6 => v = .int .i64 a.e
        | 7 => v = .pointer (some ⟨w.heap.size + 1, 2, none⟩)
        | 8 => v = .int .i64 b.e
        | 9 => v = .int .i64 (a.e + b.e)
        | 10 => v = .tuple #[dcV (mulD a b), .int .i64 (mulX a b)]
        | 11 => v = dcV (mulD a b)
        | _ => v = .int .i64 (mulX a b)) w2.heap.size (Nat.le_refl _) (by kernel_rfl) (by kernel_rfl) (by kernel_rfl) (by decide) (by kernel_rfl) h1 (by kernel_rfl) ?_ ?_ ?_ ?_
      · intro j v W W' h hb
        match j, h with
        | 0, h => exact h
        | 1, h => exact WideI.below h hb
        | 2, h => exact h
        | 3, h => exact WideI.below h hb
        | 4, h => exact WideI.below h hb
        | 5, h => exact h
        | 6, h => exact h
        | 7, h => exact h
        | 8, h => exact h
        | 9, h => exact h
        | 10, h => exact h
        | 11, h => exact h
        | _ + 12, h => exact h
      · exact fun j hj => by cases hj
      · refine ⟨⟨⟨⟨⟨⟨⟨⟨⟨⟨⟨⟨⟨trivial, ?_⟩, ?_⟩, ?_⟩, ?_⟩, ?_⟩, ?_⟩, ?_⟩, ?_⟩, ?_⟩, ?_⟩, ?_⟩, ?_⟩, ?_⟩
        · refine flow_step _ 15 rfl rfl (fun d h => by simpa using h) h1 h2 fun ac xs W he hb hS K hK => ?_
          exact wp_load_row 25 (.tmp 2) rfl w.heap.size (he 2) _ _ _ _ (hb.blk R0.out (blk_lt R0.out)) Tryz.underlying25 rfl (by kernel_rfl) (hK _ _ rfl (Below.refl _ _) (fun h => absurd h (by decide)))
        · refine flow_step _ 16 rfl rfl (fun d h => by simpa using h) h1 h2 fun ac xs W he hb hS K hK => ?_
          have e0 : ac.eval (.tmp 15) = _ := (he 15).trans (hS 0 (by kernel_rfl))
          refine op_call 63 _ _ rfl _ (by simp only [List.map, e0]) (by go_simp) (HSA.out W) ?_
          rintro e' W' ⟨v, rfl, hi, hb'⟩
          exact ⟨_, rfl, hK _ _ (hi) hb' (fun h => absurd h (by decide))⟩
        · refine flow_step _ 17 rfl rfl (fun d h => by simpa using h) h1 h2 fun ac xs W he hb hS K hK => ?_
          exact wp_load_row 25 (.tmp 3) rfl (w.heap.size + 1) (he 3) _ _ _ _ (hb.blk R1.out (blk_lt R1.out)) Tryz.underlying25 rfl (by kernel_rfl) (hK _ _ rfl (Below.refl _ _) (fun h => absurd h (by decide)))
        · refine flow_step _ 18 rfl rfl (fun d h => by simpa using h) h1 h2 fun ac xs W he hb hS K hK => ?_
          have e0 : ac.eval (.tmp 17) = _ := (he 17).trans (hS 2 (by kernel_rfl))
          refine op_call 63 _ _ rfl _ (by simp only [List.map, e0]) (by go_simp) (HSB.out W) ?_
          rintro e' W' ⟨v, rfl, hi, hb'⟩
          exact ⟨_, rfl, hK _ _ (hi) hb' (fun h => absurd h (by decide))⟩
        · refine flow_step _ 19 rfl rfl (fun d h => by simpa using h) h1 h2 fun ac xs W he hb hS K hK => ?_
          have y1 : xs 1 = xs 1 := rfl
          have y3 : xs 3 = xs 3 := rfl
          have e0 : ac.eval (.tmp 16) = _ := (he 16).trans y1
          have e1 : ac.eval (.tmp 18) = _ := (he 18).trans y3
          refine op_call 43 _ _ rfl _ (by simp only [List.map, e0, e1]) (by go_simp) (HML.out W _ _ (hS 1 (by kernel_rfl)) (hS 3 (by kernel_rfl))) ?_
          rintro e' W' ⟨v, rfl, hi, hb'⟩
          exact ⟨_, rfl, hK _ _ (hi) hb' (fun h => absurd h (by decide))⟩
        · refine flow_step _ 20 rfl rfl (fun d h => by simpa using h) h1 h2 fun ac xs W he hb hS K hK => ?_
          have e0 : ac.eval (.tmp 2) = .pointer (some ⟨w.heap.size, 0, none⟩) := he 2
          refine op_any (.fieldAddr 25 (.tmp 2) 2) rfl (.pointer (some ⟨w.heap.size, 2, none⟩)) (fun o' ho' => ?_) (hK _ _ rfl (Below.refl _ _) (fun h => absurd h (by decide)))
          simp only [execOp, ho', e0]
          go_simp
        · refine flow_step _ 21 rfl rfl (fun d h => by simpa using h) h1 h2 fun ac xs W he hb hS K hK => ?_
          have e0 : ac.eval (.tmp 20) = _ := (he 20).trans (hS 5 (by kernel_rfl))
          refine op_any (.load 3 (.tmp 20)) rfl (.int .i64 a.e) (fun o' ho' => ?_) (hK _ _ rfl (Below.refl _ _) (fun h => absurd h (by decide)))
          simp only [execOp, ho', e0]
          have hc := cell_of_row W _ 2 _ _ _ (hb.blk R0.out (blk_lt R0.out))
          go_simp
        · refine flow_step _ 22 rfl rfl (fun d h => by simpa using h) h1 h2 fun ac xs W he hb hS K hK => ?_
          have e0 : ac.eval (.tmp 3) = .pointer (some ⟨w.heap.size + 1, 0, none⟩) := he 3
          refine op_any (.fieldAddr 25 (.tmp 3) 2) rfl (.pointer (some ⟨w.heap.size + 1, 2, none⟩)) (fun o' ho' => ?_) (hK _ _ rfl (Below.refl _ _) (fun h => absurd h (by decide)))
          simp only [execOp, ho', e0]
          go_simp
        · refine flow_step _ 23 rfl rfl (fun d h => by simpa using h) h1 h2 fun ac xs W he hb hS K hK => ?_
          have e0 : ac.eval (.tmp 22) = _ := (he 22).trans (hS 7 (by kernel_rfl))
          refine op_any (.load 3 (.tmp 22)) rfl (.int .i64 b.e) (fun o' ho' => ?_) (hK _ _ rfl (Below.refl _ _) (fun h => absurd h (by decide)))
          simp only [execOp, ho', e0]
          have hc := cell_of_row W _ 2 _ _ _ (hb.blk R1.out (blk_lt R1.out))
          go_simp
        · refine flow_step _ 24 rfl rfl (fun d h => by simpa using h) h1 h2 fun ac xs W he hb hS K hK => ?_
          have e0 : ac.eval (.tmp 21) = _ := (he 21).trans (hS 6 (by kernel_rfl))
          have e1 : ac.eval (.tmp 23) = _ := (he 23).trans (hS 8 (by kernel_rfl))
          refine op_any (.binOp .add 3 (.tmp 21) (.tmp 23) 3) rfl (.int .i64 (a.e + b.e)) (fun o' ho' => ?_) (hK _ _ rfl (Below.refl _ _) (fun h => absurd h (by decide)))
          simp only [execOp, ho', e0, e1]
          rw [← HE.out]
          go_simp
        · refine flow_step _ 25 rfl rfl (fun d h => by simpa using h) h1 h2 fun ac xs W he hb hS K hK => ?_
          have y4 : xs 4 = xs 4 := rfl
          have e0 : ac.eval (.tmp 19) = _ := (he 19).trans y4
          have e1 : ac.eval (.tmp 24) = _ := (he 24).trans (hS 9 (by kernel_rfl))
          refine op_call 58 _ _ rfl _ (by simp only [List.map, e0, e1]) (by go_simp) (HWH.out W _ (HB2.out.thru hb) (hS 4 (by kernel_rfl))) ?_
          rintro e' W' ⟨rfl, hb'⟩
          exact ⟨_, rfl, hK _ _ (rfl) hb' (fun h => absurd h (by decide))⟩
        · refine flow_step _ 26 rfl rfl (fun d h => by simpa using h) h1 h2 fun ac xs W he hb hS K hK => ?_
          have e0 : ac.eval (.tmp 25) = _ := (he 25).trans (hS 10 (by kernel_rfl))
          refine op_any (.extract (.tmp 25) 0) rfl (dcV (mulD a b)) (fun o' ho' => ?_) (hK _ _ rfl (Below.refl _ _) (fun h => absurd h (by decide)))
          simp only [execOp, ho', e0]
          go_simp
        · refine flow_step _ 27 rfl rfl (fun d h => by simpa using h) h1 h2 fun ac xs W he hb hS K hK => ?_
          have e0 : ac.eval (.tmp 25) = _ := (he 25).trans (hS 10 (by kernel_rfl))
          refine op_any (.extract (.tmp 25) 1) rfl (.int .i64 (mulX a b)) (fun o' ho' => ?_) (hK _ _ rfl (Below.refl _ _) (fun h => absurd h (by decide)))
          simp only [execOp, ho', e0]
          go_simp
      · intro xs W hb hS hD
        have s0 : xs 0 = _ := hS 0 (by decide)
        have s2 : xs 2 = _ := hS 2 (by decide)
        have s5 : xs 5 = _ := hS 5 (by decide)
        have s6 : xs 6 = _ := hS 6 (by decide)
        have s7 : xs 7 = _ := hS 7 (by decide)
        have s8 : xs 8 = _ := hS 8 (by decide)
        have s9 : xs 9 = _ := hS 9 (by decide)
        have s10 : xs 10 = _ := hS 10 (by decide)
        have s11 : xs 11 = _ := hS 11 (by decide)
        have s12 : xs 12 = _ := hS 12 (by decide)
        have r2 := hb.blk R2.out (blk_lt R2.out)
        obtain ⟨f0, c0, f1, c1, f2, c2, r3⟩ := rw3 r2
        have HR : Hid _ := r3
        have HBB : Hid (Below w.heap.size w W) := HB2.out.thru hb
        generalize xs 1 = x1 at *
        generalize xs 3 = x3 at *
        generalize xs 4 = x4 at *
        generalize mulD a b = D at *
        generalize mulX a b = X at *
        simp only [layAll, s0, s2, s5, s6, s7, s8, s9, s10, s11, s12]
        clear s0 s2 s5 s6 s7 s8 s9 s10 s11 s12 hS hD r2 r3 hb
        go_simp
        simp only [dcV]
        go_wp2
        exact dc_end rfl rfl rfl (HR.out _ _ _) rfl rfl (below_row3 HBB.out (Nat.le_add_right _ 2) _ _ _)
end Go.Proofs.YtpfnfhikhlceoaaGreatDoor
