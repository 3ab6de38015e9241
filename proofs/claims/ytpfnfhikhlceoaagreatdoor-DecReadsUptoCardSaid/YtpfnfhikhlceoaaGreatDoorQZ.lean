/- Parts El of the proof, in one text. -/
import Derived.Test.YtpfnfhikhlceoaaGreatDoorQY

/- Walks: dec's Add, Cmp, Sub, Mul. -/
namespace Go.Proofs.YtpfnfhikhlceoaaGreatDoor
open Go.RowKit

theorem liftV_lt {a b : Dc} (ha : a.ok) (hb : b.ok) {bb : Nat} (hbb : 250000 ≤ bb) : (liftV a (liftE a b)).natAbs < 2 ^ bb ∧ (liftV b (liftE a b)).natAbs < 2 ^ bb ∧ (addV a b).natAbs < 2 ^ bb := by
  obtain ⟨M, hM⟩ : ∃ M, M = 8192 := ⟨_, rfl⟩
  obtain ⟨L, hL⟩ : ∃ L, L = 40000 := ⟨_, rfl⟩
  have key : ∀ (x : Dc), x.ok → ∀ f : Int, -20000 ≤ f → (liftV x f).natAbs < 10 ^ (M + L) := fun x hx f hf => by
    unfold liftV
    rw [abs_mul_pow, v_abs]
    have h1 := ok_val hx
    have h2 := ok_exp hx
    have h3 : (10 : Nat) ^ (x.e - f).toNat ≤ 10 ^ L := Nat.pow_le_pow_right (by decide) (by omega)
    have h4 : dval x.s < 10 ^ M := Nat.lt_of_lt_of_le h1 (Nat.pow_le_pow_right (by decide) (by rw [hM]; exact ok_len hx))
    have h6 : dval x.s * 10 ^ (x.e - f).toNat < 10 ^ M * 10 ^ L := by
      have hp : 0 < (10 : Nat) ^ L := Nat.pow_pos (by decide)
      exact Nat.lt_of_le_of_lt (Nat.mul_le_mul_left _ h3) (Nat.mul_lt_mul_of_pos_right h4 hp)
    rwa [← Nat.pow_add] at h6
  obtain ⟨-, -, h1, h2⟩ := liftE_cases ha hb
  have ka := key a ha (liftE a b) h1
  have kb := key b hb (liftE a b) h1
  have hm2 : 2 * 10 ^ (M + L) ≤ 10 ^ (M + L + 1) := by rw [Nat.pow_succ]; omega
  have h9 : (10 : Nat) ^ (M + L + 1) < 2 ^ bb := ten_lt (Nat.le_refl _) (by omega)
  generalize (10 : Nat) ^ (M + L) = T at *
  generalize (10 : Nat) ^ (M + L + 1) = T1 at *
  unfold addV
  clear key
  omega

set_option maxHeartbeats 2000000 in
set_option maxRecDepth 100000 in
theorem add_v (a b : Dc) (w : World) (hsa : a.s.length ≤ 9223372036854775807) (hsb : b.s.length ≤ 9223372036854775807) (htab : Tab w) :
    Calls Tryz.prog 32 #[dcV a, dcV b] w (DcQ (if (a.okB && b.okB) = true then addD a b else Dc.none) (if (a.okB && b.okB) = true then addX a b else 1) w) := by
  have HV : Hid (∀ W, Calls Tryz.prog 25 #[.agg #[.bool a.neg, .string (bs a.s), .int .i64 a.e]] W fun en w' => en = .returned (.bool a.okB) ∧ Below W.heap.size W w') := fun W => valid_v a W hsa
  have HU : Hid (∀ W, Calls Tryz.prog 25 #[.agg #[.bool b.neg, .string (bs b.s), .int .i64 b.e]] W fun en w' => en = .returned (.bool b.okB) ∧ Below W.heap.size W w') := fun W => valid_v b W hsb
  have hb0 : Below w.heap.size w (((w.alloc (.cells #[.bool a.neg, .string (bs a.s), .int .i64 a.e] 25)).alloc (.cells #[.bool b.neg, .string (bs b.s), .int .i64 b.e] 25)).alloc (.cells #[.bool false, .string ⟨#[]⟩, .int .i64 0] 25)) := (((Below.refl _ _).alloc (Nat.le_refl _) _).alloc (by simp) _).alloc (by simp; omega) _
  have q0 := heap_alloc3_0 w (.cells #[.bool a.neg, .string (bs a.s), .int .i64 a.e] 25) (.cells #[.bool b.neg, .string (bs b.s), .int .i64 b.e] 25) (.cells #[.bool false, .string ⟨#[]⟩, .int .i64 0] 25)
  have q1 := heap_alloc3_1 w (.cells #[.bool a.neg, .string (bs a.s), .int .i64 a.e] 25) (.cells #[.bool b.neg, .string (bs b.s), .int .i64 b.e] 25) (.cells #[.bool false, .string ⟨#[]⟩, .int .i64 0] 25)
  have q2 := heap_alloc3_2 w (.cells #[.bool a.neg, .string (bs a.s), .int .i64 a.e] 25) (.cells #[.bool b.neg, .string (bs b.s), .int .i64 b.e] 25) (.cells #[.bool false, .string ⟨#[]⟩, .int .i64 0] 25)
  have HQ0 : Hid _ := q0
  have HQ1 : Hid _ := q1
  have HQ2 : Hid _ := q2
  have HB0 : Hid _ := hb0
  clear hb0 q0 q1 q2
  cases hao : a.okB
  · rw [hao] at HV
    rw [Bool.false_and, if_neg (by simp), if_neg (by simp)]
    clear hao HU hsa hsb htab
    show Calls Tryz.prog 32 #[.agg #[.bool a.neg, .string (bs a.s), .int .i64 a.e], .agg #[.bool b.neg, .string (bs b.s), .int .i64 b.e]] w _
    go_enter Tryz.func32, Tryz.ntmps32
    go_wp2_with fail
    refine (HV.out _).mono ?_
    rintro e' w1 ⟨rfl, hb⟩
    have r2 := hb.blk HQ2.out (blk_lt HQ2.out)
    obtain ⟨f0, c0, f1, c1, f2, c2, r3⟩ := rw3 r2
    have HR : Hid _ := r3
    have HBB : Hid (Below w.heap.size w w1) := HB0.out.thru hb
    clear r2 r3 hb
    go_wp2
    exact dc_end rfl rfl rfl (HR.out _ _ _) rfl rfl (below_row3 HBB.out (Nat.le_add_right _ 2) _ _ _)
  · rw [hao] at HV
    cases hbo : b.okB
    · rw [hbo] at HU
      rw [Bool.and_false, if_neg (by simp), if_neg (by simp)]
      clear hao hbo hsa hsb htab
      show Calls Tryz.prog 32 #[.agg #[.bool a.neg, .string (bs a.s), .int .i64 a.e], .agg #[.bool b.neg, .string (bs b.s), .int .i64 b.e]] w _
      go_enter Tryz.func32, Tryz.ntmps32
      go_wp2_with fail
      refine (HV.out _).mono ?_
      rintro e' w1 ⟨rfl, hb⟩
      have HQ11 : Hid _ := hb.blk HQ1.out (blk_lt HQ1.out)
      have HB1 : Hid (Below w.heap.size w w1) := HB0.out.thru hb
      have HQ12 : Hid _ := hb.blk HQ2.out (blk_lt HQ2.out)
      have k0 := cell_of_row _ _ 0 _ _ _ HQ11.out
      have k1 := cell_of_row _ _ 1 _ _ _ HQ11.out
      have k2 := cell_of_row _ _ 2 _ _ _ HQ11.out
      clear hb
      go_wp2_with fail
      refine (HU.out _).mono ?_
      rintro e' w2 ⟨rfl, hb⟩
      have r2 := hb.blk HQ12.out (blk_lt HQ12.out)
      obtain ⟨f0, c0, f1, c1, f2, c2, r3⟩ := rw3 r2
      have HR : Hid _ := r3
      have HBB : Hid (Below w.heap.size w w2) := HB1.out.thru hb
      clear r2 r3 hb
      go_wp2
      exact dc_end rfl rfl rfl (HR.out _ _ _) rfl rfl (below_row3 HBB.out (Nat.le_add_right _ 2) _ _ _)
    · rw [hbo] at HU
      have hA := (okB_iff a).1 hao
      have hB := (okB_iff b).1 hbo
      rw [Bool.and_true, if_pos rfl, if_pos rfl]
      have HL : Hid (∀ W, Calls Tryz.prog 60 #[.agg #[.bool a.neg, .string (bs a.s), .int .i64 a.e], .agg #[.bool b.neg, .string (bs b.s), .int .i64 b.e]] W (LiftQ a b W)) := fun W => lifted_v a b W hA hB
      obtain ⟨bt, hbt, hbt2⟩ : ∃ bt, 250000 ≤ bt ∧ bt ≤ 4294967296 := ⟨250000, by decide, by decide⟩
      obtain ⟨l1, l2, l3⟩ := liftV_lt hA hB hbt
      have HAD : Hid (∀ W u v, WideI W u (liftV a (liftE a b)) → WideI W v (liftV b (liftE a b)) → Calls Tryz.prog 62 #[u, v] W (WideR (addV a b) W)) := fun W u v hu hv => iadd_v u v _ _ W hu hv l1 l2 hbt2
      have HWH : Hid (∀ W v, Below w.heap.size w W → WideI W v (addV a b) → Calls Tryz.prog 58 #[v, .int .i64 (liftE a b)] W (DcQ (addD a b) (addX a b) W)) := fun W v hW hv => whole_any v (addV a b) _ W hv l3 hbt2 (htab.below hW)
      clear hbt hbt2 l1 l2 l3 htab
      clear hao hbo hsa hsb hA hB
      show Calls Tryz.prog 32 #[.agg #[.bool a.neg, .string (bs a.s), .int .i64 a.e], .agg #[.bool b.neg, .string (bs b.s), .int .i64 b.e]] w _
      go_enter Tryz.func32, Tryz.ntmps32
      go_wp2_with fail
      refine (HV.out _).mono ?_
      rintro e' w1 ⟨rfl, hb⟩
      have P0 : Hid _ := hb.blk HQ0.out (blk_lt HQ0.out)
      have P1 : Hid _ := hb.blk HQ1.out (blk_lt HQ1.out)
      have P2 : Hid _ := hb.blk HQ2.out (blk_lt HQ2.out)
      have HB1 : Hid (Below w.heap.size w w1) := HB0.out.thru hb
      have k0 := cell_of_row _ _ 0 _ _ _ P1.out
      have k1 := cell_of_row _ _ 1 _ _ _ P1.out
      have k2 := cell_of_row _ _ 2 _ _ _ P1.out
      clear hb
      go_wp2_with fail
      refine (HU.out _).mono ?_
      rintro e' w2 ⟨rfl, hb⟩
      have R0 : Hid _ := hb.blk P0.out (blk_lt P0.out)
      have R1 : Hid _ := hb.blk P1.out (blk_lt P1.out)
      have R2 : Hid _ := hb.blk P2.out (blk_lt P2.out)
      have HB2 : Hid (Below w.heap.size w w2) := HB1.out.thru hb
      have j0 := cell_of_row _ _ 0 _ _ _ R0.out
      have j1 := cell_of_row _ _ 1 _ _ _ R0.out
      have j2 := cell_of_row _ _ 2 _ _ _ R0.out
      have i0 := cell_of_row _ _ 0 _ _ _ R1.out
      have i1 := cell_of_row _ _ 1 _ _ _ R1.out
      have i2 := cell_of_row _ _ 2 _ _ _ R1.out
      clear hb k0 k1 k2
      go_wp2_with fail
      refine (HL.out _).mono ?_
      rintro e' w3 ⟨u, v, rfl, hu, hv, hb⟩
      have hu2 := hu
      have hv2 := hv
      obtain ⟨p1, p2, p3, rfl, -⟩ := hu2
      obtain ⟨q1, q2, q3, rfl, -⟩ := hv2
      obtain ⟨ba, hba⟩ : ∃ x, x = decide (liftV a (liftE a b) < 0) := ⟨_, rfl⟩
      obtain ⟨bb, hbb⟩ : ∃ x, x = decide (liftV b (liftE a b) < 0) := ⟨_, rfl⟩
      rw [← hba] at hu
      rw [← hbb] at hv
      simp only [← hba, ← hbb]
      have HWU : Hid (WideI w3 (.agg #[.bool ba, .slice p1 p2 p3]) (liftV a (liftE a b))) := hu
      have HWV : Hid (WideI w3 (.agg #[.bool bb, .slice q1 q2 q3]) (liftV b (liftE a b))) := hv
      have HB3 : Hid (Below w.heap.size w w3) := HB2.out.thru hb
      have S2 : Hid _ := hb.blk R2.out (blk_lt R2.out)
      have HX : Hid (Below w3.heap.size w3 ((w3.alloc (.cells #[.bool ba, .slice p1 p2 p3] 63)).alloc (.cells #[.bool bb, .slice q1 q2 q3] 63))) := ((Below.refl _ _).alloc (Nat.le_refl _) _).alloc (by simp) _
      clear hb hu hv hba hbb j0 j1 j2 i0 i1 i2
      generalize liftE a b = E at *
      go_wp2_with fail
      refine (HAD.out _ _ _ (HWU.out.below HX.out) (HWV.out.below HX.out)).mono ?_
      rintro e' w4 ⟨v, rfl, hi, hb⟩
      have HB4 : Hid (Below w.heap.size w w4) := (HB3.out.thru HX.out).thru hb
      have HI : Hid (WideI w4 v (addV a b)) := hi
      have T2 : Hid _ := hb.blk (HX.out.blk S2.out (blk_lt S2.out)) (by have := blk_lt S2.out; simp; omega)
      clear hb hi
      go_wp2_with fail
      refine (HWH.out _ _ HB4.out HI.out).mono ?_
      rintro e' w5 ⟨rfl, hb⟩
      have r2 := hb.blk T2.out (blk_lt T2.out)
      obtain ⟨f0, c0, f1, c1, f2, c2, r3⟩ := rw3 r2
      have HR : Hid _ := r3
      have HBB : Hid (Below w.heap.size w w5) := HB4.out.thru hb
      clear r2 r3 hb
      simp only [dcV]
      go_wp2
      exact dc_end rfl rfl rfl (HR.out _ _ _) rfl rfl (below_row3 HBB.out (Nat.le_add_right _ 2) _ _ _)
end Go.Proofs.YtpfnfhikhlceoaaGreatDoor
