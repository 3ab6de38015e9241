/- Parts Hd, He of the proof, in one text. -/
import Derived.Test.YtpfnfhikhlceoaaGreatDoorRZ
import Derived.Test.YtpfnfhikhlceoaaGreatDoorRF

/- Walks: the document's answer: Add, Sub, Cmp. -/
namespace Go.Proofs.YtpfnfhikhlceoaaGreatDoor
open Go.RowKit

theorem rplus_lift {a b : Dc} (ha : a.ok) (hb : b.ok) (W : World) : Calls Tryz.prog 99 #[.string (bs (bareD (liftN a (liftE a b)))), .string (bs (bareD (liftN b (liftE a b))))] W fun e w' => e = .returned (.string (bs (bareD (liftN a (liftE a b) + liftN b (liftE a b))))) ∧ Below W.heap.size W w' := by
  obtain ⟨-, -, h1, -⟩ := liftE_cases ha hb
  have := rplus_v (bs (bareD (liftN a (liftE a b)))) (bs (bareD (liftN b (liftE a b)))) W (bare_all _) (bare_all _) (by have := liftN_len ha h1; show (bareD _).length ≤ _; omega) (by have := liftN_len hb h1; show (bareD _).length ≤ _; omega)
  rw [bl_bs, bl_bs, dval_bare, dval_bare] at this; exact this
theorem rminus_lift {X Y : Nat} (h1 : (bareD X).length ≤ 48192) (h2 : (bareD Y).length ≤ 48192) (hle : Y ≤ X) (W : World) : Calls Tryz.prog 101 #[.string (bs (bareD X)), .string (bs (bareD Y))] W fun e w' => e = .returned (.string (bs (bareD (X - Y)))) ∧ Below W.heap.size W w' := by
  have := rminus_v (bs (bareD X)) (bs (bareD Y)) W (bare_all _) (bare_all _) (by show (bareD _).length ≤ _; omega) (by show (bareD _).length ≤ _; omega) (by rw [bl_bs, bl_bs, dval_bare, dval_bare]; exact hle)
  rw [bl_bs, bl_bs, dval_bare, dval_bare] at this; exact this
theorem made_lift {a b : Dc} (ng : Bool) (N : Nat) (hV : sg ng N = addV a b) (hN : (bareD N).length ≤ 100000) (W : World) : Calls Tryz.prog 28 #[.bool ng, .string (bs (bareD N)), .int .i64 (liftE a b)] W (DcQ (addD a b) (addX a b) W) := by
  have := rmade_v ng (bs (bareD N)) (liftE a b) W (bare_all _) (by show (bareD _).length ≤ _; omega)
  rw [bl_bs, dval_bare] at this
  unfold addD addX
  rw [← hV, (mkD_sg ng N _).1, (mkD_sg ng N _).2]
  exact this
theorem bare_sum_len {X Y : Nat} (h1 : (bareD X).length ≤ 48192) (h2 : (bareD Y).length ≤ 48192) : (bareD (X + Y)).length ≤ 48193 ∧ (bareD (X - Y)).length ≤ 48192 := by
  have k1 := Nat.lt_of_lt_of_le (bare_len_lt X) (Nat.pow_le_pow_right (show 0 < 10 by decide) h1)
  have k2 := Nat.lt_of_lt_of_le (bare_len_lt Y) (Nat.pow_le_pow_right (show 0 < 10 by decide) h2)
  obtain ⟨L, hL⟩ : ∃ L, L = 48192 := ⟨_, rfl⟩
  rw [← hL] at k1 k2 ⊢
  have h3 : X + Y < 10 ^ (L + 1) := by rw [Nat.pow_succ]; omega
  have := bare_len_le _ _ h3
  exact ⟨by omega, bare_len_le _ _ (Nat.lt_of_le_of_lt (Nat.sub_le _ _) k1)⟩

set_option maxHeartbeats 2000000 in
set_option maxRecDepth 100000 in
theorem radd_v (a b : Dc) (w : World) (hsa : a.s.length ≤ 9223372036854775807) (hsb : b.s.length ≤ 9223372036854775807) :
    Calls Tryz.prog 67 #[dcV a, dcV b] w (DcQ (if (a.okB && b.okB) = true then addD a b else Dc.none) (if (a.okB && b.okB) = true then addX a b else 1) w) := by
  have HV : Hid (∀ W, Calls Tryz.prog 66 #[.agg #[.bool a.neg, .string (bs a.s), .int .i64 a.e]] W fun en w' => en = .returned (.bool a.okB) ∧ Below W.heap.size W w') := fun W => rvalid_v a W hsa
  have HU : Hid (∀ W, Calls Tryz.prog 66 #[.agg #[.bool b.neg, .string (bs b.s), .int .i64 b.e]] W fun en w' => en = .returned (.bool b.okB) ∧ Below W.heap.size W w') := fun W => rvalid_v b W hsb
  have hb0 : Below w.heap.size w (((w.alloc (.cells #[.bool a.neg, .string (bs a.s), .int .i64 a.e] 25)).alloc (.cells #[.bool b.neg, .string (bs b.s), .int .i64 b.e] 25)).alloc (.cells #[.bool false, .string ⟨#[]⟩, .int .i64 0] 25)) := (((Below.refl _ _).alloc (Nat.le_refl _) _).alloc (by simp) _).alloc (by simp; omega) _
  have q0 := heap_alloc3_0 w (.cells #[.bool a.neg, .string (bs a.s), .int .i64 a.e] 25) (.cells #[.bool b.neg, .string (bs b.s), .int .i64 b.e] 25) (.cells #[.bool false, .string ⟨#[]⟩, .int .i64 0] 25)
  have q1 := heap_alloc3_1 w (.cells #[.bool a.neg, .string (bs a.s), .int .i64 a.e] 25) (.cells #[.bool b.neg, .string (bs b.s), .int .i64 b.e] 25) (.cells #[.bool false, .string ⟨#[]⟩, .int .i64 0] 25)
  have q2 := heap_alloc3_2 w (.cells #[.bool a.neg, .string (bs a.s), .int .i64 a.e] 25) (.cells #[.bool b.neg, .string (bs b.s), .int .i64 b.e] 25) (.cells #[.bool false, .string ⟨#[]⟩, .int .i64 0] 25)
  have HQ0 : Hid _ := q0
  have HQ1 : Hid _ := q1
  have HQ2 : Hid _ := q2
  have HB0 : Hid _ := hb0
  clear hb0 q0 q1 q2
  cases hao : a.okB
  · rw [hao] at HV
    rw [Bool.false_and, if_neg (by simp), if_neg (by simp)]
    clear hao HU hsa hsb
    show Calls Tryz.prog 67 #[.agg #[.bool a.neg, .string (bs a.s), .int .i64 a.e], .agg #[.bool b.neg, .string (bs b.s), .int .i64 b.e]] w _
    go_enter Tryz.func67, Tryz.ntmps67
    go_wp2_with fail
    refine (HV.out _).mono ?_
    rintro e' w1 ⟨rfl, hb⟩
    have r2 := hb.blk HQ2.out (blk_lt HQ2.out)
    obtain ⟨f0, c0, f1, c1, f2, c2, r3⟩ := rw3 r2
    have HR : Hid _ := r3
    have HBB : Hid (Below w.heap.size w w1) := HB0.out.thru hb
    clear r2 r3 hb
    go_wp2
    exact dc_end rfl rfl rfl (HR.out _ _ _) rfl rfl (below_row3 HBB.out (Nat.le_add_right _ 2) _ _ _)
  · rw [hao] at HV
    cases hbo : b.okB
    · rw [hbo] at HU
      rw [Bool.and_false, if_neg (by simp), if_neg (by simp)]
      clear hao hbo hsa hsb
      show Calls Tryz.prog 67 #[.agg #[.bool a.neg, .string (bs a.s), .int .i64 a.e], .agg #[.bool b.neg, .string (bs b.s), .int .i64 b.e]] w _
      go_enter Tryz.func67, Tryz.ntmps67
      go_wp2_with fail
      refine (HV.out _).mono ?_
      rintro e' w1 ⟨rfl, hb⟩
      have HQ11 : Hid _ := hb.blk HQ1.out (blk_lt HQ1.out)
      have HB1 : Hid (Below w.heap.size w w1) := HB0.out.thru hb
      have HQ12 : Hid _ := hb.blk HQ2.out (blk_lt HQ2.out)
      have k0 := cell_of_row _ _ 0 _ _ _ HQ11.out
      have k1 := cell_of_row _ _ 1 _ _ _ HQ11.out
      have k2 := cell_of_row _ _ 2 _ _ _ HQ11.out
      clear hb
      go_wp2_with fail
      refine (HU.out _).mono ?_
      rintro e' w2 ⟨rfl, hb⟩
      have r2 := hb.blk HQ12.out (blk_lt HQ12.out)
      obtain ⟨f0, c0, f1, c1, f2, c2, r3⟩ := rw3 r2
      have HR : Hid _ := r3
      have HBB : Hid (Below w.heap.size w w2) := HB1.out.thru hb
      clear r2 r3 hb
      go_wp2
      exact dc_end rfl rfl rfl (HR.out _ _ _) rfl rfl (below_row3 HBB.out (Nat.le_add_right _ 2) _ _ _)
    · rw [hbo] at HU
      have hA := (okB_iff a).1 hao
      have hB := (okB_iff b).1 hbo
      rw [Bool.and_true, if_pos rfl, if_pos rfl]
      have HL : Hid (∀ W, Calls Tryz.prog 98 #[.agg #[.bool a.neg, .string (bs a.s), .int .i64 a.e], .agg #[.bool b.neg, .string (bs b.s), .int .i64 b.e]] W fun en w' => en = .returned (.tuple #[.string (bs (bareD (liftN a (liftE a b)))), .string (bs (bareD (liftN b (liftE a b)))), .int .i64 (liftE a b)]) ∧ Below W.heap.size W w') := fun W => rraised_v a b W hA hB
      obtain ⟨-, -, l1, -⟩ := liftE_cases hA hB
      have n1 := liftN_len hA l1
      have n2 := liftN_len hB l1
      have HPL0 : Hid (∀ W, Calls Tryz.prog 99 #[.string (bs (bareD (liftN a (liftE a b)))), .string (bs (bareD (liftN b (liftE a b))))] W fun e w' => e = .returned (.string (bs (bareD (liftN a (liftE a b) + liftN b (liftE a b))))) ∧ Below W.heap.size W w') := fun W => rplus_lift hA hB W
      have HMD0 : Hid (∀ ng N, sg ng N = addV a b → (bareD N).length ≤ 100000 → ∀ W, Calls Tryz.prog 28 #[.bool ng, .string (bs (bareD N)), .int .i64 (liftE a b)] W (DcQ (addD a b) (addX a b) W)) := fun ng N h1 h2 W => made_lift ng N h1 h2 W
      have HAV : Hid (addV a b = sg a.neg (liftN a (liftE a b)) + sg b.neg (liftN b (liftE a b))) := by show _ = _; unfold addV; rw [liftV_N, liftV_N]
      have HN : Hid ((bareD (liftN a (liftE a b))).length ≤ 48192 ∧ (bareD (liftN b (liftE a b))).length ≤ 48192) := ⟨n1, n2⟩
      clear l1 n1 n2
      clear hao hbo hsa hsb hA hB
      show Calls Tryz.prog 67 #[.agg #[.bool a.neg, .string (bs a.s), .int .i64 a.e], .agg #[.bool b.neg, .string (bs b.s), .int .i64 b.e]] w _
      go_enter Tryz.func67, Tryz.ntmps67
      go_wp2_with fail
      refine (HV.out _).mono ?_
      rintro e' w1 ⟨rfl, hb⟩
      have P0 : Hid _ := hb.blk HQ0.out (blk_lt HQ0.out)
      have P1 : Hid _ := hb.blk HQ1.out (blk_lt HQ1.out)
      have P2 : Hid _ := hb.blk HQ2.out (blk_lt HQ2.out)
      have HB1 : Hid (Below w.heap.size w w1) := HB0.out.thru hb
      have k0 := cell_of_row _ _ 0 _ _ _ P1.out
      have k1 := cell_of_row _ _ 1 _ _ _ P1.out
      have k2 := cell_of_row _ _ 2 _ _ _ P1.out
      clear hb
      go_wp2_with fail
      refine (HU.out _).mono ?_
      rintro e' w2 ⟨rfl, hb⟩
      have R0 : Hid _ := hb.blk P0.out (blk_lt P0.out)
      have R1 : Hid _ := hb.blk P1.out (blk_lt P1.out)
      have R2 : Hid _ := hb.blk P2.out (blk_lt P2.out)
      have HB2 : Hid (Below w.heap.size w w2) := HB1.out.thru hb
      have j0 := cell_of_row _ _ 0 _ _ _ R0.out
      have j1 := cell_of_row _ _ 1 _ _ _ R0.out
      have j2 := cell_of_row _ _ 2 _ _ _ R0.out
      have i0 := cell_of_row _ _ 0 _ _ _ R1.out
      have i1 := cell_of_row _ _ 1 _ _ _ R1.out
      have i2 := cell_of_row _ _ 2 _ _ _ R1.out
      clear hb k0 k1 k2
      go_wp2_with fail
      refine (HL.out _).mono ?_
      rintro e' w3 ⟨rfl, hb⟩
      have HB3 : Hid (Below w.heap.size w w3) := HB2.out.thru hb
      have S0 : Hid _ := hb.blk R0.out (blk_lt R0.out)
      have S1 : Hid _ := hb.blk R1.out (blk_lt R1.out)
      have S2 : Hid _ := hb.blk R2.out (blk_lt R2.out)
      clear j0 j1 j2 i0 i1 i2 hb
      have j0 := cell_of_row _ _ 0 _ _ _ S0.out
      have i0 := cell_of_row _ _ 0 _ _ _ S1.out
      generalize addD a b = D at *
      generalize addX a b = X at *
      generalize hE : liftE a b = E at *
      generalize hP : liftN a E = P at *
      generalize hQ : liftN b E = Q at *
      generalize addV a b = V at *
      generalize hSA : bs (bareD P) = SA at *
      generalize hSB : bs (bareD Q) = SB at *
      by_cases hsg : a.neg = b.neg
      · obtain ⟨PT, hPT⟩ : ∃ S, S = bs (bareD (P + Q)) := ⟨_, rfl⟩
        have HPL : Hid (∀ W, Calls Tryz.prog 99 #[.string SA, .string SB] W fun e w' => e = .returned (.string PT) ∧ Below W.heap.size W w') := fun W => by rw [hPT]; exact HPL0.out W
        have HMD : Hid (∀ W, Calls Tryz.prog 28 #[.bool a.neg, .string PT, .int .i64 E] W (DcQ D X W)) := fun W => by
          rw [hPT]
          refine HMD0.out a.neg (P + Q) ?_ (by have := (bare_sum_len HN.out.1 HN.out.2).1; omega) W
          rw [HAV.out, ← hsg]; unfold sg; split <;> omega
        have hq : (a.neg == b.neg) = true := by rw [hsg]; simp
        clear hPT hSA hSB hP hQ hE HMD0 HPL0 HAV HN hsg HL HV HU
        go_upto_region 5 with fail
        clear j0 i0 hq
        have h1 : once [(30, 0), (31, 1), (32, 2), (33, 3), (34, 4), (35, 5), (36, 6), (37, 7), (38, 8)] = true := by kernel_rfl
        have h2 : within [(30, 0), (31, 1), (32, 2), (33, 3), (34, 4), (35, 5), (36, 6), (37, 7), (38, 8)] 61 = true := by kernel_rfl
        refine wp_region_flow 9 11 [(30, 0), (31, 1), (32, 2), (33, 3), (34, 4), (35, 5), (36, 6), (37, 7), (38, 8)] [] (fun i v W => match i with
          | 0 => v = .pointer (some ⟨w.heap.size, 0, none⟩)
          | 1 => v = .bool a.neg
          | 2 => v = .string SA
          | 3 => v = .string SB
          | 4 => v = .string PT
          | 5 => v = .int .i64 E
          | 6 => v = .tuple #[dcV D, .int .i64 X]
          | 7 => v = dcV D
          | _ => v = .int .i64 X) w3.heap.size (Nat.le_refl _) (by kernel_rfl) (by kernel_rfl) (by kernel_rfl) (by decide) (by kernel_rfl) h1 (by kernel_rfl) ?_ ?_ ?_ ?_
        · intro j v W W' h hb
          match j, h with
          | 0, h => exact h
          | 1, h => exact h
          | 2, h => exact h
          | 3, h => exact h
          | 4, h => exact h
          | 5, h => exact h
          | 6, h => exact h
          | 7, h => exact h
          | _ + 8, h => exact h
        · exact fun j hj => by cases hj
        · refine ⟨⟨⟨⟨⟨⟨⟨⟨⟨trivial, ?_⟩, ?_⟩, ?_⟩, ?_⟩, ?_⟩, ?_⟩, ?_⟩, ?_⟩, ?_⟩
          · refine flow_step _ 30 rfl rfl (fun d h => by simpa using h) h1 h2 fun ac xs W he hb hS K hK => ?_
            have e0 : ac.eval (.tmp 2) = .pointer (some ⟨w.heap.size, 0, none⟩) := he 2
            refine op_any (.fieldAddr 25 (.tmp 2) 0) rfl (.pointer (some ⟨w.heap.size, 0, none⟩)) (fun o' ho' => ?_) (hK _ _ rfl (Below.refl _ _) (fun h => absurd h (by decide)))
            simp only [execOp, ho', e0]
            go_simp
          · refine flow_step _ 31 rfl rfl (fun d h => by simpa using h) h1 h2 fun ac xs W he hb hS K hK => ?_
            have e0 : ac.eval (.tmp 30) = _ := (he 30).trans (hS 0 (by kernel_rfl))
            refine op_any (.load 4 (.tmp 30)) rfl (.bool a.neg) (fun o' ho' => ?_) (hK _ _ rfl (Below.refl _ _) (fun h => absurd h (by decide)))
            simp only [execOp, ho', e0]
            have hc := cell_of_row W _ 0 _ _ _ (hb.blk S0.out (blk_lt S0.out))
            go_simp
          · refine flow_step _ 32 rfl rfl (fun d h => by simpa using h) h1 h2 fun ac xs W he hb hS K hK => ?_
            exact op_move (.tmp 6) (.inl rfl) (hK _ _ (he 6) (Below.refl _ _) (fun h => absurd h (by decide)))
          · refine flow_step _ 33 rfl rfl (fun d h => by simpa using h) h1 h2 fun ac xs W he hb hS K hK => ?_
            exact op_move (.tmp 7) (.inl rfl) (hK _ _ (he 7) (Below.refl _ _) (fun h => absurd h (by decide)))
          · refine flow_step _ 34 rfl rfl (fun d h => by simpa using h) h1 h2 fun ac xs W he hb hS K hK => ?_
            have e0 : ac.eval (.tmp 32) = _ := (he 32).trans (hS 2 (by kernel_rfl))
            have e1 : ac.eval (.tmp 33) = _ := (he 33).trans (hS 3 (by kernel_rfl))
            refine op_call 99 _ _ rfl _ (by simp only [List.map, e0, e1]) (by go_simp) (HPL.out W) ?_
            rintro e' W' ⟨rfl, hb'⟩
            exact ⟨_, rfl, hK _ _ (rfl) hb' (fun h => absurd h (by decide))⟩
          · refine flow_step _ 35 rfl rfl (fun d h => by simpa using h) h1 h2 fun ac xs W he hb hS K hK => ?_
            exact op_move (.tmp 8) (.inl rfl) (hK _ _ (he 8) (Below.refl _ _) (fun h => absurd h (by decide)))
          · refine flow_step _ 36 rfl rfl (fun d h => by simpa using h) h1 h2 fun ac xs W he hb hS K hK => ?_
            have e0 : ac.eval (.tmp 31) = _ := (he 31).trans (hS 1 (by kernel_rfl))
            have e1 : ac.eval (.tmp 34) = _ := (he 34).trans (hS 4 (by kernel_rfl))
            have e2 : ac.eval (.tmp 35) = _ := (he 35).trans (hS 5 (by kernel_rfl))
            refine op_call 28 _ _ rfl _ (by simp only [List.map, e0, e1, e2]) (by go_simp) (HMD.out W) ?_
            rintro e' W' ⟨rfl, hb'⟩
            exact ⟨_, rfl, hK _ _ (rfl) hb' (fun h => absurd h (by decide))⟩
          · refine flow_step _ 37 rfl rfl (fun d h => by simpa using h) h1 h2 fun ac xs W he hb hS K hK => ?_
            have e0 : ac.eval (.tmp 36) = _ := (he 36).trans (hS 6 (by kernel_rfl))
            refine op_any (.extract (.tmp 36) 0) rfl (dcV D) (fun o' ho' => ?_) (hK _ _ rfl (Below.refl _ _) (fun h => absurd h (by decide)))
            simp only [execOp, ho', e0]
            go_simp
          · refine flow_step _ 38 rfl rfl (fun d h => by simpa using h) h1 h2 fun ac xs W he hb hS K hK => ?_
            have e0 : ac.eval (.tmp 36) = _ := (he 36).trans (hS 6 (by kernel_rfl))
            refine op_any (.extract (.tmp 36) 1) rfl (.int .i64 X) (fun o' ho' => ?_) (hK _ _ rfl (Below.refl _ _) (fun h => absurd h (by decide)))
            simp only [execOp, ho', e0]
            go_simp
        · intro xs w5 hb hS hD
          have s0 : xs 0 = _ := hS 0 (by decide)
          have s1 : xs 1 = _ := hS 1 (by decide)
          have s2 : xs 2 = _ := hS 2 (by decide)
          have s3 : xs 3 = _ := hS 3 (by decide)
          have s4 : xs 4 = _ := hS 4 (by decide)
          have s5 : xs 5 = _ := hS 5 (by decide)
          have s6 : xs 6 = _ := hS 6 (by decide)
          have s7 : xs 7 = _ := hS 7 (by decide)
          have s8 : xs 8 = _ := hS 8 (by decide)
          have r2 := hb.blk S2.out (blk_lt S2.out)
          obtain ⟨f0, c0, f1, c1, f2, c2, r3⟩ := rw3 r2
          have HR : Hid _ := r3
          have HBB : Hid (Below w.heap.size w w5) := HB3.out.thru hb
          simp only [layAll, s0, s1, s2, s3, s4, s5, s6, s7, s8]
          clear s0 s1 s2 s3 s4 s5 s6 s7 s8 hS hD r2 r3 hb
          go_simp
          simp only [dcV]
          go_wp2
          exact dc_end rfl rfl rfl (HR.out _ _ _) rfl rfl (below_row3 HBB.out (Nat.le_add_right _ 2) _ _ _)
      · have hq : (a.neg == b.neg) = false := by simpa using hsg
        have hbn : b.neg = !a.neg := by cases h1 : a.neg <;> cases h2 : b.neg <;> simp [h1, h2] at hsg ⊢
        obtain ⟨mm, hmm⟩ : ∃ m : Int, m = if P = Q then 0 else if P < Q then -1 else 1 := ⟨_, rfl⟩
        have HMO : Hid (∀ W, Calls Tryz.prog 100 #[.string SA, .string SB] W fun e w' => e = .returned (.int .i64 mm) ∧ Below W.heap.size W w') := fun W => by
          rw [← hSA, ← hSB, hmm]; exact rmore_v P Q W (by have := HN.out.1; omega) (by have := HN.out.2; omega)
        obtain ⟨PT, hPT⟩ : ∃ S, S = bs (bareD (if Q ≤ P then P - Q else Q - P)) := ⟨_, rfl⟩
        by_cases hqp : Q ≤ P
        · rw [if_pos hqp] at hPT
          have hm0 : 0 ≤ mm := by
            rw [hmm]
            by_cases h : P = Q
            · rw [if_pos h]; decide
            · rw [if_neg h, if_neg (by omega)]; decide
          have HPL : Hid (∀ W, Calls Tryz.prog 101 #[.string SA, .string SB] W fun e w' => e = .returned (.string PT) ∧ Below W.heap.size W w') := fun W => by rw [hPT, ← hSA, ← hSB]; exact rminus_lift HN.out.1 HN.out.2 hqp W
          have HMD : Hid (∀ W, Calls Tryz.prog 28 #[.bool a.neg, .string PT, .int .i64 E] W (DcQ D X W)) := fun W => by
            rw [hPT]
            refine HMD0.out a.neg (P - Q) ?_ (by have := (bare_sum_len HN.out.1 HN.out.2).2; omega) W
            rw [HAV.out, hbn, sg_not]; unfold sg; split <;> omega
          clear hPT hSA hSB hP hQ hE HMD0 HPL0 HAV HN hsg HL HV HU hmm hbn hqp
          go_wp2_with fail
          refine (HMO.out _).mono ?_
          rintro e' w4 ⟨rfl, hb⟩
          have HB4 : Hid (Below w.heap.size w w4) := HB3.out.thru hb
          have T0 : Hid _ := hb.blk S0.out (blk_lt S0.out)
          have T1 : Hid _ := hb.blk S1.out (blk_lt S1.out)
          have T2 : Hid _ := hb.blk S2.out (blk_lt S2.out)
          clear hb
          go_upto_region 7 with fail
          clear j0 i0 hq hm0
          have h1 : once [(43, 0), (44, 1), (45, 2), (46, 3), (47, 4), (48, 5), (49, 6), (50, 7), (51, 8)] = true := by kernel_rfl
          have h2 : within [(43, 0), (44, 1), (45, 2), (46, 3), (47, 4), (48, 5), (49, 6), (50, 7), (51, 8)] 61 = true := by kernel_rfl
          refine wp_region_flow 9 11 [(43, 0), (44, 1), (45, 2), (46, 3), (47, 4), (48, 5), (49, 6), (50, 7), (51, 8)] [] (fun i v W => match i with
            | 0 => v = .pointer (some ⟨w.heap.size, 0, none⟩)
            | 1 => v = .bool a.neg
            | 2 => v = .string SA
            | 3 => v = .string SB
            | 4 => v = .string PT
            | 5 => v = .int .i64 E
            | 6 => v = .tuple #[dcV D, .int .i64 X]
            | 7 => v = dcV D
            | _ => v = .int .i64 X) w4.heap.size (Nat.le_refl _) (by kernel_rfl) (by kernel_rfl) (by kernel_rfl) (by decide) (by kernel_rfl) h1 (by kernel_rfl) ?_ ?_ ?_ ?_
          · intro j v W W' h hb
            match j, h with
            | 0, h => exact h
            | 1, h => exact h
            | 2, h => exact h
            | 3, h => exact h
            | 4, h => exact h
            | 5, h => exact h
            | 6, h => exact h
            | 7, h => exact h
            | _ + 8, h => exact h
          · exact fun j hj => by cases hj
          · refine ⟨⟨⟨⟨⟨⟨⟨⟨⟨trivial, ?_⟩, ?_⟩, ?_⟩, ?_⟩, ?_⟩, ?_⟩, ?_⟩, ?_⟩, ?_⟩
            · refine flow_step _ 43 rfl rfl (fun d h => by simpa using h) h1 h2 fun ac xs W he hb hS K hK => ?_
              have e0 : ac.eval (.tmp 2) = .pointer (some ⟨w.heap.size, 0, none⟩) := he 2
              refine op_any (.fieldAddr 25 (.tmp 2) 0) rfl (.pointer (some ⟨w.heap.size, 0, none⟩)) (fun o' ho' => ?_) (hK _ _ rfl (Below.refl _ _) (fun h => absurd h (by decide)))
              simp only [execOp, ho', e0]
              go_simp
            · refine flow_step _ 44 rfl rfl (fun d h => by simpa using h) h1 h2 fun ac xs W he hb hS K hK => ?_
              have e0 : ac.eval (.tmp 43) = _ := (he 43).trans (hS 0 (by kernel_rfl))
              refine op_any (.load 4 (.tmp 43)) rfl (.bool a.neg) (fun o' ho' => ?_) (hK _ _ rfl (Below.refl _ _) (fun h => absurd h (by decide)))
              simp only [execOp, ho', e0]
              have hc := cell_of_row W _ 0 _ _ _ (hb.blk T0.out (blk_lt T0.out))
              go_simp
            · refine flow_step _ 45 rfl rfl (fun d h => by simpa using h) h1 h2 fun ac xs W he hb hS K hK => ?_
              exact op_move (.tmp 6) (.inl rfl) (hK _ _ (he 6) (Below.refl _ _) (fun h => absurd h (by decide)))
            · refine flow_step _ 46 rfl rfl (fun d h => by simpa using h) h1 h2 fun ac xs W he hb hS K hK => ?_
              exact op_move (.tmp 7) (.inl rfl) (hK _ _ (he 7) (Below.refl _ _) (fun h => absurd h (by decide)))
            · refine flow_step _ 47 rfl rfl (fun d h => by simpa using h) h1 h2 fun ac xs W he hb hS K hK => ?_
              have e0 : ac.eval (.tmp 45) = _ := (he 45).trans (hS 2 (by kernel_rfl))
              have e1 : ac.eval (.tmp 46) = _ := (he 46).trans (hS 3 (by kernel_rfl))
              refine op_call 101 _ _ rfl _ (by simp only [List.map, e0, e1]) (by go_simp) (HPL.out W) ?_
              rintro e' W' ⟨rfl, hb'⟩
              exact ⟨_, rfl, hK _ _ (rfl) hb' (fun h => absurd h (by decide))⟩
            · refine flow_step _ 48 rfl rfl (fun d h => by simpa using h) h1 h2 fun ac xs W he hb hS K hK => ?_
              exact op_move (.tmp 8) (.inl rfl) (hK _ _ (he 8) (Below.refl _ _) (fun h => absurd h (by decide)))
            · refine flow_step _ 49 rfl rfl (fun d h => by simpa using h) h1 h2 fun ac xs W he hb hS K hK => ?_
              have e0 : ac.eval (.tmp 44) = _ := (he 44).trans (hS 1 (by kernel_rfl))
              have e1 : ac.eval (.tmp 47) = _ := (he 47).trans (hS 4 (by kernel_rfl))
              have e2 : ac.eval (.tmp 48) = _ := (he 48).trans (hS 5 (by kernel_rfl))
              refine op_call 28 _ _ rfl _ (by simp only [List.map, e0, e1, e2]) (by go_simp) (HMD.out W) ?_
              rintro e' W' ⟨rfl, hb'⟩
              exact ⟨_, rfl, hK _ _ (rfl) hb' (fun h => absurd h (by decide))⟩
            · refine flow_step _ 50 rfl rfl (fun d h => by simpa using h) h1 h2 fun ac xs W he hb hS K hK => ?_
              have e0 : ac.eval (.tmp 49) = _ := (he 49).trans (hS 6 (by kernel_rfl))
              refine op_any (.extract (.tmp 49) 0) rfl (dcV D) (fun o' ho' => ?_) (hK _ _ rfl (Below.refl _ _) (fun h => absurd h (by decide)))
              simp only [execOp, ho', e0]
              go_simp
            · refine flow_step _ 51 rfl rfl (fun d h => by simpa using h) h1 h2 fun ac xs W he hb hS K hK => ?_
              have e0 : ac.eval (.tmp 49) = _ := (he 49).trans (hS 6 (by kernel_rfl))
              refine op_any (.extract (.tmp 49) 1) rfl (.int .i64 X) (fun o' ho' => ?_) (hK _ _ rfl (Below.refl _ _) (fun h => absurd h (by decide)))
              simp only [execOp, ho', e0]
              go_simp
          · intro xs w5 hb hS hD
            have s0 : xs 0 = _ := hS 0 (by decide)
            have s1 : xs 1 = _ := hS 1 (by decide)
            have s2 : xs 2 = _ := hS 2 (by decide)
            have s3 : xs 3 = _ := hS 3 (by decide)
            have s4 : xs 4 = _ := hS 4 (by decide)
            have s5 : xs 5 = _ := hS 5 (by decide)
            have s6 : xs 6 = _ := hS 6 (by decide)
            have s7 : xs 7 = _ := hS 7 (by decide)
            have s8 : xs 8 = _ := hS 8 (by decide)
            have r2 := hb.blk T2.out (blk_lt T2.out)
            obtain ⟨f0, c0, f1, c1, f2, c2, r3⟩ := rw3 r2
            have HR : Hid _ := r3
            have HBB : Hid (Below w.heap.size w w5) := HB4.out.thru hb
            simp only [layAll, s0, s1, s2, s3, s4, s5, s6, s7, s8]
            clear s0 s1 s2 s3 s4 s5 s6 s7 s8 hS hD r2 r3 hb
            go_simp
            simp only [dcV]
            go_wp2
            exact dc_end rfl rfl rfl (HR.out _ _ _) rfl rfl (below_row3 HBB.out (Nat.le_add_right _ 2) _ _ _)
        · rw [if_neg hqp] at hPT
          have hm0 : mm < 0 := by rw [hmm, if_neg (by omega), if_pos (by omega)]; decide
          have HPL : Hid (∀ W, Calls Tryz.prog 101 #[.string SB, .string SA] W fun e w' => e = .returned (.string PT) ∧ Below W.heap.size W w') := fun W => by rw [hPT, ← hSA, ← hSB]; exact rminus_lift HN.out.2 HN.out.1 (by omega) W
          have HMD : Hid (∀ W, Calls Tryz.prog 28 #[.bool b.neg, .string PT, .int .i64 E] W (DcQ D X W)) := fun W => by
            rw [hPT]
            refine HMD0.out b.neg (Q - P) ?_ (by have := (bare_sum_len HN.out.2 HN.out.1).2; omega) W
            rw [HAV.out, hbn, sg_not]; unfold sg; cases a.neg <;> simp <;> omega
          clear hPT hSA hSB hP hQ hE HMD0 HPL0 HAV HN hsg HL HV HU hmm hbn hqp
          go_wp2_with fail
          refine (HMO.out _).mono ?_
          rintro e' w4 ⟨rfl, hb⟩
          have HB4 : Hid (Below w.heap.size w w4) := HB3.out.thru hb
          have T0 : Hid _ := hb.blk S0.out (blk_lt S0.out)
          have T1 : Hid _ := hb.blk S1.out (blk_lt S1.out)
          have T2 : Hid _ := hb.blk S2.out (blk_lt S2.out)
          clear hb
          go_upto_region 8 with fail
          clear j0 i0 hq hm0
          have h1 : once [(52, 0), (53, 1), (54, 2), (55, 3), (56, 4), (57, 5), (58, 6), (59, 7), (60, 8)] = true := by kernel_rfl
          have h2 : within [(52, 0), (53, 1), (54, 2), (55, 3), (56, 4), (57, 5), (58, 6), (59, 7), (60, 8)] 61 = true := by kernel_rfl
          refine wp_region_flow 9 11 [(52, 0), (53, 1), (54, 2), (55, 3), (56, 4), (57, 5), (58, 6), (59, 7), (60, 8)] [] (fun i v W => match i with
            | 0 => v = .pointer (some ⟨w.heap.size + 1, 0, none⟩)
            | 1 => v = .bool b.neg
            | 2 => v = .string SB
            | 3 => v = .string SA
            | 4 => v = .string PT
            | 5 => v = .int .i64 E
            | 6 => v = .tuple #[dcV D, .int .i64 X]
            | 7 => v = dcV D
            | _ => v = .int .i64 X) w4.heap.size (Nat.le_refl _) (by kernel_rfl) (by kernel_rfl) (by kernel_rfl) (by decide) (by kernel_rfl) h1 (by kernel_rfl) ?_ ?_ ?_ ?_
          · intro j v W W' h hb
            match j, h with
            | 0, h => exact h
            | 1, h => exact h
            | 2, h => exact h
            | 3, h => exact h
            | 4, h => exact h
            | 5, h => exact h
            | 6, h => exact h
            | 7, h => exact h
            | _ + 8, h => exact h
          · exact fun j hj => by cases hj
          · refine ⟨⟨⟨⟨⟨⟨⟨⟨⟨trivial, ?_⟩, ?_⟩, ?_⟩, ?_⟩, ?_⟩, ?_⟩, ?_⟩, ?_⟩, ?_⟩
            · refine flow_step _ 52 rfl rfl (fun d h => by simpa using h) h1 h2 fun ac xs W he hb hS K hK => ?_
              have e0 : ac.eval (.tmp 3) = .pointer (some ⟨w.heap.size + 1, 0, none⟩) := he 3
              refine op_any (.fieldAddr 25 (.tmp 3) 0) rfl (.pointer (some ⟨w.heap.size + 1, 0, none⟩)) (fun o' ho' => ?_) (hK _ _ rfl (Below.refl _ _) (fun h => absurd h (by decide)))
              simp only [execOp, ho', e0]
              go_simp
            · refine flow_step _ 53 rfl rfl (fun d h => by simpa using h) h1 h2 fun ac xs W he hb hS K hK => ?_
              have e0 : ac.eval (.tmp 52) = _ := (he 52).trans (hS 0 (by kernel_rfl))
              refine op_any (.load 4 (.tmp 52)) rfl (.bool b.neg) (fun o' ho' => ?_) (hK _ _ rfl (Below.refl _ _) (fun h => absurd h (by decide)))
              simp only [execOp, ho', e0]
              have hc := cell_of_row W _ 0 _ _ _ (hb.blk T1.out (blk_lt T1.out))
              go_simp
            · refine flow_step _ 54 rfl rfl (fun d h => by simpa using h) h1 h2 fun ac xs W he hb hS K hK => ?_
              exact op_move (.tmp 7) (.inl rfl) (hK _ _ (he 7) (Below.refl _ _) (fun h => absurd h (by decide)))
            · refine flow_step _ 55 rfl rfl (fun d h => by simpa using h) h1 h2 fun ac xs W he hb hS K hK => ?_
              exact op_move (.tmp 6) (.inl rfl) (hK _ _ (he 6) (Below.refl _ _) (fun h => absurd h (by decide)))
            · refine flow_step _ 56 rfl rfl (fun d h => by simpa using h) h1 h2 fun ac xs W he hb hS K hK => ?_
              have e0 : ac.eval (.tmp 54) = _ := (he 54).trans (hS 2 (by kernel_rfl))
              have e1 : ac.eval (.tmp 55) = _ := (he 55).trans (hS 3 (by kernel_rfl))
              refine op_call 101 _ _ rfl _ (by simp only [List.map, e0, e1]) (by go_simp) (HPL.out W) ?_
              rintro e' W' ⟨rfl, hb'⟩
              exact ⟨_, rfl, hK _ _ (rfl) hb' (fun h => absurd h (by decide))⟩
            · refine flow_step _ 57 rfl rfl (fun d h => by simpa using h) h1 h2 fun ac xs W he hb hS K hK => ?_
              exact op_move (.tmp 8) (.inl rfl) (hK _ _ (he 8) (Below.refl _ _) (fun h => absurd h (by decide)))
            · refine flow_step _ 58 rfl rfl (fun d h => by simpa using h) h1 h2 fun ac xs W he hb hS K hK => ?_
              have e0 : ac.eval (.tmp 53) = _ := (he 53).trans (hS 1 (by kernel_rfl))
              have e1 : ac.eval (.tmp 56) = _ := (he 56).trans (hS 4 (by kernel_rfl))
              have e2 : ac.eval (.tmp 57) = _ := (he 57).trans (hS 5 (by kernel_rfl))
              refine op_call 28 _ _ rfl _ (by simp only [List.map, e0, e1, e2]) (by go_simp) (HMD.out W) ?_
              rintro e' W' ⟨rfl, hb'⟩
              exact ⟨_, rfl, hK _ _ (rfl) hb' (fun h => absurd h (by decide))⟩
            · refine flow_step _ 59 rfl rfl (fun d h => by simpa using h) h1 h2 fun ac xs W he hb hS K hK => ?_
              have e0 : ac.eval (.tmp 58) = _ := (he 58).trans (hS 6 (by kernel_rfl))
              refine op_any (.extract (.tmp 58) 0) rfl (dcV D) (fun o' ho' => ?_) (hK _ _ rfl (Below.refl _ _) (fun h => absurd h (by decide)))
              simp only [execOp, ho', e0]
              go_simp
            · refine flow_step _ 60 rfl rfl (fun d h => by simpa using h) h1 h2 fun ac xs W he hb hS K hK => ?_
              have e0 : ac.eval (.tmp 58) = _ := (he 58).trans (hS 6 (by kernel_rfl))
              refine op_any (.extract (.tmp 58) 1) rfl (.int .i64 X) (fun o' ho' => ?_) (hK _ _ rfl (Below.refl _ _) (fun h => absurd h (by decide)))
              simp only [execOp, ho', e0]
              go_simp
          · intro xs w5 hb hS hD
            have s0 : xs 0 = _ := hS 0 (by decide)
            have s1 : xs 1 = _ := hS 1 (by decide)
            have s2 : xs 2 = _ := hS 2 (by decide)
            have s3 : xs 3 = _ := hS 3 (by decide)
            have s4 : xs 4 = _ := hS 4 (by decide)
            have s5 : xs 5 = _ := hS 5 (by decide)
            have s6 : xs 6 = _ := hS 6 (by decide)
            have s7 : xs 7 = _ := hS 7 (by decide)
            have s8 : xs 8 = _ := hS 8 (by decide)
            have r2 := hb.blk T2.out (blk_lt T2.out)
            obtain ⟨f0, c0, f1, c1, f2, c2, r3⟩ := rw3 r2
            have HR : Hid _ := r3
            have HBB : Hid (Below w.heap.size w w5) := HB4.out.thru hb
            simp only [layAll, s0, s1, s2, s3, s4, s5, s6, s7, s8]
            clear s0 s1 s2 s3 s4 s5 s6 s7 s8 hS hD r2 r3 hb
            go_simp
            simp only [dcV]
            go_wp2
            exact dc_end rfl rfl rfl (HR.out _ _ _) rfl rfl (below_row3 HBB.out (Nat.le_add_right _ 2) _ _ _)
end Go.Proofs.YtpfnfhikhlceoaaGreatDoor

/- Walks: the document's answer: Sub, Cmp. -/
namespace Go.Proofs.YtpfnfhikhlceoaaGreatDoor
open Go.RowKit

theorem liftN_pos {a : Dc} (ha : a.ok) (hn : a.neg = true) (f : Int) : 0 < liftN a f := by
  have h0 : a.s ≠ [] := fun h => by rw [ok_nil ha h] at hn; exact absurd hn (by decide)
  exact Nat.mul_pos (ok_pos ha h0) (Nat.pow_pos (by decide))
theorem cmp_lift {a b : Dc} (ha : a.ok) (hb : b.ok) : cmpV a b = if a.neg = b.neg then
    (if a.neg = true then (if liftN b (liftE a b) = liftN a (liftE a b) then 0 else if liftN b (liftE a b) < liftN a (liftE a b) then -1 else 1)
      else (if liftN a (liftE a b) = liftN b (liftE a b) then 0 else if liftN a (liftE a b) < liftN b (liftE a b) then -1 else 1))
    else if a.neg = true then -1 else 1 := by
  have k1 := fun h => liftN_pos ha h (liftE a b)
  have k2 := fun h => liftN_pos hb h (liftE a b)
  unfold cmpV
  rw [liftV_N, liftV_N]
  generalize liftN a (liftE a b) = P at *
  generalize liftN b (liftE a b) = Q at *
  unfold sg
  cases h1 : a.neg <;> cases h2 : b.neg <;> simp [h1, h2] at k1 k2 ⊢
  all_goals (repeat' split) <;> first | rfl | omega

set_option maxHeartbeats 2000000 in
set_option maxRecDepth 100000 in
theorem rsub_v (a b : Dc) (w : World) (hsa : a.s.length ≤ 9223372036854775807) (hsb : b.s.length ≤ 9223372036854775807) :
    Calls Tryz.prog 68 #[dcV a, dcV b] w (DcQ (if (a.okB && b.okB) = true then addD a (negD b) else Dc.none) (if (a.okB && b.okB) = true then addX a (negD b) else 1) w) := by
  have HV : Hid (∀ W, Calls Tryz.prog 66 #[.agg #[.bool a.neg, .string (bs a.s), .int .i64 a.e]] W fun en w' => en = .returned (.bool a.okB) ∧ Below W.heap.size W w') := fun W => rvalid_v a W hsa
  have HUx : Hid (∀ W, Calls Tryz.prog 66 #[.agg #[.bool b.neg, .string (bs b.s), .int .i64 b.e]] W fun en w' => en = .returned (.bool b.okB) ∧ Below W.heap.size W w') := fun W => rvalid_v b W hsb
  have hb0 : Below w.heap.size w (((w.alloc (.cells #[.bool a.neg, .string (bs a.s), .int .i64 a.e] 25)).alloc (.cells #[.bool b.neg, .string (bs b.s), .int .i64 b.e] 25)).alloc (.cells #[.bool false, .string ⟨#[]⟩, .int .i64 0] 25)) := (((Below.refl _ _).alloc (Nat.le_refl _) _).alloc (by simp) _).alloc (by simp; omega) _
  have q0 := heap_alloc3_0 w (.cells #[.bool a.neg, .string (bs a.s), .int .i64 a.e] 25) (.cells #[.bool b.neg, .string (bs b.s), .int .i64 b.e] 25) (.cells #[.bool false, .string ⟨#[]⟩, .int .i64 0] 25)
  have q1 := heap_alloc3_1 w (.cells #[.bool a.neg, .string (bs a.s), .int .i64 a.e] 25) (.cells #[.bool b.neg, .string (bs b.s), .int .i64 b.e] 25) (.cells #[.bool false, .string ⟨#[]⟩, .int .i64 0] 25)
  have q2 := heap_alloc3_2 w (.cells #[.bool a.neg, .string (bs a.s), .int .i64 a.e] 25) (.cells #[.bool b.neg, .string (bs b.s), .int .i64 b.e] 25) (.cells #[.bool false, .string ⟨#[]⟩, .int .i64 0] 25)
  have HQ0 : Hid _ := q0
  have HQ1 : Hid _ := q1
  have HQ2 : Hid _ := q2
  have HB0 : Hid _ := hb0
  clear hb0 q0 q1 q2
  clear HUx
  cases hbo : b.okB
  · rw [Bool.and_false, if_neg (by simp), if_neg (by simp)]
    have HN : Hid (∀ W, Calls Tryz.prog 64 #[.agg #[.bool b.neg, .string (bs b.s), .int .i64 b.e]] W (DcQ Dc.none 1 W)) := fun W => rneg_bad b W hsb hbo
    clear hbo hsa hsb HV
    show Calls Tryz.prog 68 #[.agg #[.bool a.neg, .string (bs a.s), .int .i64 a.e], .agg #[.bool b.neg, .string (bs b.s), .int .i64 b.e]] w _
    go_enter Tryz.func68, Tryz.ntmps68
    go_wp2_with fail
    refine (HN.out _).mono ?_
    rintro e' w1 ⟨rfl, hb⟩
    simp only [dcV_none]
    have bz : Below w1.heap.size w1 (w1.alloc (.cells #[.bool false, .string ⟨#[]⟩, .int .i64 0] 25)) := (Below.refl _ _).alloc (Nat.le_refl _) _
    have q0 := hb.blk HQ0.out (blk_lt HQ0.out)
    have q2 := hb.blk HQ2.out (blk_lt HQ2.out)
    have HM : Hid _ := new_blk w1 (.cells #[.bool false, .string ⟨#[]⟩, .int .i64 0] 25)
    have n0 := bz.blk q0 (blk_lt q0)
    have n2 := bz.blk q2 (blk_lt q2)
    have HN0 : Hid _ := n0
    have HN2 : Hid _ := n2
    have HBB : Hid (Below w.heap.size w (w1.alloc (.cells #[.bool false, .string ⟨#[]⟩, .int .i64 0] 25))) := (HB0.out.thru hb).alloc (HB0.out.thru hb).size _
    obtain ⟨f0, c0, f1, c1, f2, c2, r3⟩ := rw3 n2
    have HR : Hid _ := r3
    clear r3 n2 n0 q0 q2 bz hb
    go_wp2
    exact dc_end rfl rfl rfl (HR.out _ _ _) rfl rfl (below_row3 HBB.out (Nat.le_add_right _ 2) _ _ _)
  · have hB := (okB_iff b).1 hbo
    rw [Bool.and_true]
    have HN : Hid (∀ W, Calls Tryz.prog 64 #[.agg #[.bool b.neg, .string (bs b.s), .int .i64 b.e]] W (DcQ (negD b) 0 W)) := fun W => rneg_ok b W hB
    have HA : Hid (a.okB = true → ∀ W, Calls Tryz.prog 67 #[.agg #[.bool a.neg, .string (bs a.s), .int .i64 a.e], .agg #[.bool (negD b).neg, .string (bs (negD b).s), .int .i64 (negD b).e]] W (DcQ (addD a (negD b)) (addX a (negD b)) W)) := fun hao W => by
      have := radd_v a (negD b) W hsa (by rw [negD_s]; exact hsb)
      rwa [hao, okB_ok (negD_ok hB), Bool.and_true, if_pos rfl, if_pos rfl] at this
    generalize addD a (negD b) = D at *
    generalize addX a (negD b) = X at *
    generalize negD b = nb at *
    clear hbo hsa hsb hB
    cases hao : a.okB
    · rw [hao] at HV
      rw [if_neg (by decide), if_neg (by decide)]
      clear HA hao
      show Calls Tryz.prog 68 #[.agg #[.bool a.neg, .string (bs a.s), .int .i64 a.e], .agg #[.bool b.neg, .string (bs b.s), .int .i64 b.e]] w _
      go_enter Tryz.func68, Tryz.ntmps68
      go_wp2_with fail
      refine (HN.out _).mono ?_
      rintro e' w1 ⟨rfl, hb⟩
      simp only [dcV]
      have bz : Below w1.heap.size w1 (w1.alloc (.cells #[.bool nb.neg, .string (bs nb.s), .int .i64 nb.e] 25)) := (Below.refl _ _).alloc (Nat.le_refl _) _
      have q0 := hb.blk HQ0.out (blk_lt HQ0.out)
      have q2 := hb.blk HQ2.out (blk_lt HQ2.out)
      have HM : Hid _ := new_blk w1 (.cells #[.bool nb.neg, .string (bs nb.s), .int .i64 nb.e] 25)
      have n0 := bz.blk q0 (blk_lt q0)
      have n2 := bz.blk q2 (blk_lt q2)
      have HN0 : Hid _ := n0
      have HN2 : Hid _ := n2
      have HBB : Hid (Below w.heap.size w (w1.alloc (.cells #[.bool nb.neg, .string (bs nb.s), .int .i64 nb.e] 25))) := (HB0.out.thru hb).alloc (HB0.out.thru hb).size _
      have a0 := cell_of_row _ _ 0 _ _ _ n0
      have a1 := cell_of_row _ _ 1 _ _ _ n0
      have a2 := cell_of_row _ _ 2 _ _ _ n0
      clear n2 n0 q0 q2 bz hb
      go_wp2_with fail
      refine (HV.out _).mono ?_
      rintro e' w5 ⟨rfl, hb⟩
      have r2 := hb.blk HN2.out (blk_lt HN2.out)
      obtain ⟨f0, c0, f1, c1, f2, c2, r3⟩ := rw3 r2
      have HR : Hid _ := r3
      have HB5 : Hid (Below w.heap.size w w5) := HBB.out.thru hb
      clear r2 r3 hb a0 a1 a2
      go_wp2
      exact dc_end rfl rfl rfl (HR.out _ _ _) rfl rfl (below_row3 HB5.out (Nat.le_add_right _ 2) _ _ _)
    · rw [hao] at HV
      rw [if_pos rfl, if_pos rfl]
      have HA := HA.out hao
      have HA : Hid _ := HA
      clear hao
      show Calls Tryz.prog 68 #[.agg #[.bool a.neg, .string (bs a.s), .int .i64 a.e], .agg #[.bool b.neg, .string (bs b.s), .int .i64 b.e]] w _
      go_enter Tryz.func68, Tryz.ntmps68
      go_wp2_with fail
      refine (HN.out _).mono ?_
      rintro e' w1 ⟨rfl, hb⟩
      simp only [dcV]
      have bz : Below w1.heap.size w1 (w1.alloc (.cells #[.bool nb.neg, .string (bs nb.s), .int .i64 nb.e] 25)) := (Below.refl _ _).alloc (Nat.le_refl _) _
      have q0 := hb.blk HQ0.out (blk_lt HQ0.out)
      have q2 := hb.blk HQ2.out (blk_lt HQ2.out)
      have HM : Hid _ := new_blk w1 (.cells #[.bool nb.neg, .string (bs nb.s), .int .i64 nb.e] 25)
      have n0 := bz.blk q0 (blk_lt q0)
      have n2 := bz.blk q2 (blk_lt q2)
      have HN0 : Hid _ := n0
      have HN2 : Hid _ := n2
      have HBB : Hid (Below w.heap.size w (w1.alloc (.cells #[.bool nb.neg, .string (bs nb.s), .int .i64 nb.e] 25))) := (HB0.out.thru hb).alloc (HB0.out.thru hb).size _
      have a0 := cell_of_row _ _ 0 _ _ _ n0
      have a1 := cell_of_row _ _ 1 _ _ _ n0
      have a2 := cell_of_row _ _ 2 _ _ _ n0
      clear n2 n0 q0 q2 bz hb
      go_wp2_with fail
      refine (HV.out _).mono ?_
      rintro e' w5 ⟨rfl, hb⟩
      have HR0 : Hid _ := hb.blk HN0.out (blk_lt HN0.out)
      have HR1 : Hid _ := hb.blk HM.out (blk_lt HM.out)
      have HR2 : Hid _ := hb.blk HN2.out (blk_lt HN2.out)
      have HB5 : Hid (Below w.heap.size w w5) := HBB.out.thru hb
      clear hb a0 a1 a2
      have a0 := cell_of_row _ _ 0 _ _ _ HR0.out
      have a1 := cell_of_row _ _ 1 _ _ _ HR0.out
      have a2 := cell_of_row _ _ 2 _ _ _ HR0.out
      have b0 := cell_of_row _ _ 0 _ _ _ HR1.out
      have b1 := cell_of_row _ _ 1 _ _ _ HR1.out
      have b2 := cell_of_row _ _ 2 _ _ _ HR1.out
      go_wp2_with fail
      refine (HA.out _).mono ?_
      rintro e' w6 ⟨rfl, hb⟩
      have r2 := hb.blk HR2.out (blk_lt HR2.out)
      obtain ⟨f0, c0, f1, c1, f2, c2, r3⟩ := rw3 r2
      have HR : Hid _ := r3
      have HB6 : Hid (Below w.heap.size w w6) := HB5.out.thru hb
      clear r2 r3 hb a0 a1 a2 b0 b1 b2
      simp only [dcV]
      go_wp2
      exact dc_end rfl rfl rfl (HR.out _ _ _) rfl rfl (below_row3 HB6.out (Nat.le_add_right _ 2) _ _ _)

set_option maxHeartbeats 2000000 in
set_option maxRecDepth 100000 in
theorem rcmp_v (a b : Dc) (w : World) (hsa : a.s.length ≤ 9223372036854775807) (hsb : b.s.length ≤ 9223372036854775807) :
    Calls Tryz.prog 70 #[dcV a, dcV b] w fun en w' => en = .returned (.tuple #[.int .i64 (if (a.okB && b.okB) = true then cmpV a b else 0), .int .i64 (if (a.okB && b.okB) = true then 0 else 1)]) ∧ Below w.heap.size w w' := by
  have HV : Hid (∀ W, Calls Tryz.prog 66 #[.agg #[.bool a.neg, .string (bs a.s), .int .i64 a.e]] W fun en w' => en = .returned (.bool a.okB) ∧ Below W.heap.size W w') := fun W => rvalid_v a W hsa
  have HU : Hid (∀ W, Calls Tryz.prog 66 #[.agg #[.bool b.neg, .string (bs b.s), .int .i64 b.e]] W fun en w' => en = .returned (.bool b.okB) ∧ Below W.heap.size W w') := fun W => rvalid_v b W hsb
  have hb0 : Below w.heap.size w ((w.alloc (.cells #[.bool a.neg, .string (bs a.s), .int .i64 a.e] 25)).alloc (.cells #[.bool b.neg, .string (bs b.s), .int .i64 b.e] 25)) := ((Below.refl _ _).alloc (Nat.le_refl _) _).alloc (by simp) _
  have q0 := heap_alloc2_old w (.cells #[.bool a.neg, .string (bs a.s), .int .i64 a.e] 25) (.cells #[.bool b.neg, .string (bs b.s), .int .i64 b.e] 25)
  have q1 := heap_alloc2_new w (.cells #[.bool a.neg, .string (bs a.s), .int .i64 a.e] 25) (.cells #[.bool b.neg, .string (bs b.s), .int .i64 b.e] 25)
  have HQ0 : Hid _ := q0
  have HQ1 : Hid _ := q1
  have HB0 : Hid _ := hb0
  clear hb0 q0 q1
  cases hao : a.okB
  · rw [hao] at HV
    rw [Bool.false_and, if_neg (by simp), if_neg (by simp)]
    clear hao HU hsa hsb
    show Calls Tryz.prog 70 #[.agg #[.bool a.neg, .string (bs a.s), .int .i64 a.e], .agg #[.bool b.neg, .string (bs b.s), .int .i64 b.e]] w _
    go_enter Tryz.func70, Tryz.ntmps70
    go_wp2_with fail
    refine (HV.out _).mono ?_
    rintro e' w1 ⟨rfl, hb⟩
    have HBB : Hid (Below w.heap.size w w1) := HB0.out.thru hb
    clear hb
    go_wp2
    go_ret2
    exact ⟨rfl, HBB.out⟩
  · rw [hao] at HV
    cases hbo : b.okB
    · rw [hbo] at HU
      rw [Bool.and_false, if_neg (by simp), if_neg (by simp)]
      clear hao hbo hsa hsb
      show Calls Tryz.prog 70 #[.agg #[.bool a.neg, .string (bs a.s), .int .i64 a.e], .agg #[.bool b.neg, .string (bs b.s), .int .i64 b.e]] w _
      go_enter Tryz.func70, Tryz.ntmps70
      go_wp2_with fail
      refine (HV.out _).mono ?_
      rintro e' w1 ⟨rfl, hb⟩
      have HQ11 : Hid _ := hb.blk HQ1.out (blk_lt HQ1.out)
      have HB1 : Hid (Below w.heap.size w w1) := HB0.out.thru hb
      have k0 := cell_of_row _ _ 0 _ _ _ HQ11.out
      have k1 := cell_of_row _ _ 1 _ _ _ HQ11.out
      have k2 := cell_of_row _ _ 2 _ _ _ HQ11.out
      clear hb
      go_wp2_with fail
      refine (HU.out _).mono ?_
      rintro e' w2 ⟨rfl, hb⟩
      have HBB : Hid (Below w.heap.size w w2) := HB1.out.thru hb
      clear hb
      go_wp2
      go_ret2
      exact ⟨rfl, HBB.out⟩
    · rw [hbo] at HU
      have hA := (okB_iff a).1 hao
      have hB := (okB_iff b).1 hbo
      rw [Bool.and_true, if_pos rfl, if_pos rfl]
      have HL : Hid (∀ W, Calls Tryz.prog 98 #[.agg #[.bool a.neg, .string (bs a.s), .int .i64 a.e], .agg #[.bool b.neg, .string (bs b.s), .int .i64 b.e]] W fun en w' => en = .returned (.tuple #[.string (bs (bareD (liftN a (liftE a b)))), .string (bs (bareD (liftN b (liftE a b)))), .int .i64 (liftE a b)]) ∧ Below W.heap.size W w') := fun W => rraised_v a b W hA hB
      obtain ⟨-, -, l1, -⟩ := liftE_cases hA hB
      have n1 := liftN_len hA l1
      have n2 := liftN_len hB l1
      have HMA : Hid (∀ W, Calls Tryz.prog 100 #[.string (bs (bareD (liftN a (liftE a b)))), .string (bs (bareD (liftN b (liftE a b))))] W fun e w' => e = .returned (.int .i64 (if liftN a (liftE a b) = liftN b (liftE a b) then 0 else if liftN a (liftE a b) < liftN b (liftE a b) then -1 else 1)) ∧ Below W.heap.size W w') := fun W => rmore_v _ _ W (by omega) (by omega)
      have HMB : Hid (∀ W, Calls Tryz.prog 100 #[.string (bs (bareD (liftN b (liftE a b)))), .string (bs (bareD (liftN a (liftE a b))))] W fun e w' => e = .returned (.int .i64 (if liftN b (liftE a b) = liftN a (liftE a b) then 0 else if liftN b (liftE a b) < liftN a (liftE a b) then -1 else 1)) ∧ Below W.heap.size W w') := fun W => rmore_v _ _ W (by omega) (by omega)
      rw [cmp_lift hA hB]
      clear l1 n1 n2
      obtain ⟨mA, hmA⟩ : ∃ m : Int, m = (if liftN a (liftE a b) = liftN b (liftE a b) then 0 else if liftN a (liftE a b) < liftN b (liftE a b) then -1 else 1) := ⟨_, rfl⟩
      obtain ⟨mB, hmB⟩ : ∃ m : Int, m = (if liftN b (liftE a b) = liftN a (liftE a b) then 0 else if liftN b (liftE a b) < liftN a (liftE a b) then -1 else 1) := ⟨_, rfl⟩
      rw [← hmA] at HMA ⊢
      rw [← hmB] at HMB ⊢
      clear hmA hmB
      obtain ⟨V, hV⟩ : ∃ V : Int, V = (if a.neg = b.neg then (if a.neg = true then mB else mA) else if a.neg = true then -1 else 1) := ⟨_, rfl⟩
      rw [← hV]
      have HCV : Hid (V = (if a.neg = b.neg then (if a.neg = true then mB else mA) else if a.neg = true then -1 else 1)) := hV
      clear hV
      generalize liftE a b = E at *
      generalize bs (bareD (liftN a E)) = SA at *
      generalize bs (bareD (liftN b E)) = SB at *
      clear hao hbo hsa hsb hA hB
      show Calls Tryz.prog 70 #[.agg #[.bool a.neg, .string (bs a.s), .int .i64 a.e], .agg #[.bool b.neg, .string (bs b.s), .int .i64 b.e]] w _
      go_enter Tryz.func70, Tryz.ntmps70
      go_wp2_with fail
      refine (HV.out _).mono ?_
      rintro e' w1 ⟨rfl, hb⟩
      have P0 : Hid _ := hb.blk HQ0.out (blk_lt HQ0.out)
      have P1 : Hid _ := hb.blk HQ1.out (blk_lt HQ1.out)
      have HB1 : Hid (Below w.heap.size w w1) := HB0.out.thru hb
      have k0 := cell_of_row _ _ 0 _ _ _ P1.out
      have k1 := cell_of_row _ _ 1 _ _ _ P1.out
      have k2 := cell_of_row _ _ 2 _ _ _ P1.out
      clear hb
      go_wp2_with fail
      refine (HU.out _).mono ?_
      rintro e' w2 ⟨rfl, hb⟩
      have R0 : Hid _ := hb.blk P0.out (blk_lt P0.out)
      have R1 : Hid _ := hb.blk P1.out (blk_lt P1.out)
      have HB2 : Hid (Below w.heap.size w w2) := HB1.out.thru hb
      have j0 := cell_of_row _ _ 0 _ _ _ R0.out
      have j1 := cell_of_row _ _ 1 _ _ _ R0.out
      have j2 := cell_of_row _ _ 2 _ _ _ R0.out
      have i0 := cell_of_row _ _ 0 _ _ _ R1.out
      have i1 := cell_of_row _ _ 1 _ _ _ R1.out
      have i2 := cell_of_row _ _ 2 _ _ _ R1.out
      clear hb k0 k1 k2
      have c0 := j0
      have c1 := i0
      by_cases hsg : a.neg = b.neg
      · have hq : (a.neg == b.neg) = true := by rw [hsg]; simp
        have HVV : Hid (V = if a.neg = true then mB else mA) := by show _ = _; rw [HCV.out, if_pos hsg]
        clear hsg HV HU
        go_wp2_with fail
        refine (HL.out _).mono ?_
        rintro e' w3 ⟨rfl, hb⟩
        have HB3 : Hid (Below w.heap.size w w3) := HB2.out.thru hb
        have S0 := hb.blk R0.out (blk_lt R0.out)
        clear j0 j1 j2 i0 i1 i2 c0 c1 hb hq
        have j0 := cell_of_row _ _ 0 _ _ _ S0
        clear S0
        cases han : a.neg
        · rw [han] at j0
          have HW : Hid (V = mA) := by show _ = _; rw [HVV.out, if_neg (by rw [han]; decide)]
          go_wp2_with fail
          refine (HMA.out _).mono ?_
          rintro e' w4 ⟨rfl, hb⟩
          have HB4 : Hid (Below w.heap.size w w4) := HB3.out.thru hb
          clear hb
          go_wp2
          go_ret2
          exact ⟨by rw [HW.out]; rfl, HB4.out⟩
        · rw [han] at j0
          have HW : Hid (V = mB) := by show _ = _; rw [HVV.out, if_pos han]
          go_wp2_with fail
          refine (HMB.out _).mono ?_
          rintro e' w4 ⟨rfl, hb⟩
          have HB4 : Hid (Below w.heap.size w w4) := HB3.out.thru hb
          clear hb
          go_wp2
          go_ret2
          exact ⟨by rw [HW.out]; rfl, HB4.out⟩
      · have hq : (a.neg == b.neg) = false := by simpa using hsg
        have hq2 : (a.neg != b.neg) = true := by simpa using hsg
        have HVV : Hid (V = if a.neg = true then -1 else 1) := by show _ = _; rw [HCV.out, if_neg hsg]
        clear HL HMA HMB HV HU
        cases han : a.neg
        · rw [han] at hsg hq hq2
          have hbn : b.neg = true := by cases h : b.neg <;> simp_all
          have HW : Hid (V = 1) := by show _ = _; rw [HVV.out, if_neg (by rw [han]; decide)]
          go_wp2_with fail
          go_ret2
          exact ⟨by rw [HW.out]; rfl, HB2.out⟩
        · rw [han] at hsg hq hq2
          have hbn : b.neg = false := by cases h : b.neg <;> simp_all
          have HW : Hid (V = -1) := by show _ = _; rw [HVV.out, if_pos han]
          go_wp2_with fail
          go_ret2
          exact ⟨by rw [HW.out]; rfl, HB2.out⟩
end Go.Proofs.YtpfnfhikhlceoaaGreatDoor
