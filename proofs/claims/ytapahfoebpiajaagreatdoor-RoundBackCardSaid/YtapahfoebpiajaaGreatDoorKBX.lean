/- Parts Bx of the proof, in one text. -/
import Derived.Test.YtapahfoebpiajaaGreatDoorKBW
import Derived.Test.YtapahfoebpiajaaGreatDoorKBS
import Derived.Test.YtapahfoebpiajaaGreatDoorKUN

/- Walks: the law RoundBack. -/
namespace Go.Proofs.YtapahfoebpiajaaGreatDoor
open Go.RowKit

theorem zero_cases {n : Nat} (hb : W64 n) (h : absB n = 0) : n = 0 ∨ n = 9223372036854775808 := by
  unfold W64 at hb
  unfold absB at h
  omega
theorem ord_some {n : Nat} (hb : W64 n) (hn : nanB n = false) (h : absB n ≠ 0) : ∃ o, Go.FloatKind.f64.format.order n 0 = some o ∧ o ≠ .eq := by
  refine ⟨_, ord_D n 0 hb (by unfold W64; decide) hn (by decide), ?_⟩
  have h0 : valB 0 = 0 := by decide
  have h1 : 0 < rv 52 (absB n) := by
    have := rv_lt (p := 52) (show 0 < absB n by omega)
    omega
  rw [h0]
  intro he
  have : valB n = 0 := by
    revert he
    show compareOfLessAndEq (valB n) 0 = _ → _
    unfold compareOfLessAndEq
    split
    · intro h; cases h
    · split
      · intro _; assumption
      · intro h; cases h
  rw [val_sgn] at this
  unfold sg at this
  split at this <;> omega
theorem back_facts {n : Nat} (hb : W64 n) (hf : finB n = true) {m : Int} (hm : 1 ≤ m ∧ m ≤ 6) :
    (absB n = 0 ∧ to64A (ofD n) m = RA.no 0 ∧ to32A (ofD n) m = RA.no 0 ∧ singB n = true) ∨
    (absB n ≠ 0 ∧ to64A (ofD n) m = ⟨n, false, false, false, 0⟩ ∧ ((singB n = true ∧ ∃ B, to32A (ofD n) m = ⟨B, false, false, false, 0⟩ ∧ Go.floatToFloatBits .f32 B .f64 = some n) ∨
      (singB n = false ∧ ∃ B o u, to32A (ofD n) m = ⟨B, true, o, u, 0⟩))) := by
  have hfl : absB n < 9218868437227405312 := of_decide_eq_true hf
  obtain ⟨mm, ee, hc, hr⟩ := fin_form hfl
  have hj := bits_join hb
  rw [hr] at hj
  by_cases h0 : absB n = 0
  · left
    have hz : ofD n = Dc.none := by
      have := of_zero (sgnB n)
      have h1 : rungN 0 (-1074) = 0 := by decide
      rw [h1] at this
      rw [bits_join hb, h0]; exact this
    refine ⟨h0, ?_, ?_, ?_⟩
    · rw [hz]; unfold to64A ratioA
      rw [if_neg (fun h => h ⟨none_ok, oneD_ok, hm⟩), if_neg oneD_s, if_pos (show Dc.none.s = [] from rfl)]
    · rw [hz]; unfold to32A
      rw [if_neg (fun h => h ⟨none_ok, hm⟩), if_pos (show Dc.none.s = [] from rfl)]
    · unfold singB zeroB
      rw [h0]; simp
  · right
    have hm0 : mm ≠ 0 := by
      rintro rfl
      refine h0 ?_
      rw [hr]; unfold rungN
      have h1 : ee = -1074 := by have := hc.2.2.2; omega
      rw [h1]; decide
    have b1 := back64 (sgnB n) hc hm0 hm
    obtain ⟨b2, b3, b4⟩ := back32 (sgnB n) hc hm0 hm
    rw [← hj] at b1 b2 b3 b4
    refine ⟨h0, b1, ?_⟩
    cases hs : singB n
    · right
      refine ⟨rfl, ?_⟩
      have h1 := b4 hs
      obtain ⟨r, hr⟩ : ∃ r, r = to32A (ofD n) m := ⟨_, rfl⟩
      rw [← hr] at b2 h1 ⊢
      obtain ⟨x1, x2, x3, x4, x5⟩ := r
      cases h1
      cases b2
      exact ⟨_, _, _, rfl⟩
    · left
      exact ⟨rfl, b3 hs⟩
set_option maxHeartbeats 4000000 in
set_option maxRecDepth 100000 in
theorem roundBack_walk (n : Nat) (m : Int) (w : World) (hb : W64 n) (lm : -9223372036854775808 ≤ m) (um : m ≤ 9223372036854775807) (htab : Tab w) :
    Calls Tryz.prog 7 #[.int .u64 (n : Nat), .int .i64 m] w fun e w' => e = .returned (.bool true) ∧ Below w.heap.size w w' := by
  have HW : Hid (∀ W, Below w.heap.size w W → Calls Tryz.prog 10 #[] W fun e w' => e = .returned (.bool true) ∧ Below W.heap.size W w') := fun W hW => awake_v W (htab.below hW)
  obtain ⟨D, hD⟩ : ∃ D, D = ofD n := ⟨_, rfl⟩
  obtain ⟨X, hX⟩ : ∃ X, X = ofX n := ⟨_, rfl⟩
  have HDX : Hid (D = ofD n ∧ X = ofX n) := ⟨hD, hX⟩
  have H1 : Hid (∀ W, Below w.heap.size w W → Calls Tryz.prog 30 #[.float .f64 n] W (fun e w' => e = .returned (.tuple #[.agg #[.bool D.neg, .string (bs D.s), .int .i64 D.e], .int .i64 X]) ∧ Below W.heap.size W w')) := fun W hW => by rw [hD, hX]; exact of_v n hb W (htab.below hW)
  have HDL : Hid (D.s.length ≤ 9223372036854775807) := by
    show _ ≤ _
    rw [hD]
    unfold ofD
    split
    · have := ok_len (mkD_ok (sg (spS n) (ofN n)) (ofE n))
      rw [(mkD_sg _ _ _).1] at this
      omega
    · decide
  have H2 : Hid (∀ W, Below w.heap.size w W → Calls Tryz.prog 11 #[.agg #[.bool D.neg, .string (bs D.s), .int .i64 D.e], .int .i64 m] W (RatioQ (to64A D m) W)) := fun W hW => to64_v D m W (htab.below hW) HDL.out
  have H3 : Hid (∀ W, Calls Tryz.prog 17 #[.agg #[.bool D.neg, .string (bs D.s), .int .i64 D.e], .agg #[.bool false, .string ⟨#[49]⟩, .int .i64 0], .int .i64 m] W (RatioQ (to64A D m) W)) := fun W => ratio_v D oneD m W HDL.out (by decide)
  have H4 : Hid (∀ W, Below w.heap.size w W → Calls Tryz.prog 13 #[.agg #[.bool D.neg, .string (bs D.s), .int .i64 D.e], .int .i64 m] W (Ratio32Q (to32A D m) W)) := fun W hW => to32_v D m W (htab.below hW) HDL.out
  have HBN : Hid (W64 n) := hb
  clear htab hD hX HDL
  go_enter Tryz.func7, Tryz.ntmps7
  go_wp2_with fail
  refine (HW.out _ (Below.refl _ _)).mono ?_
  rintro e w0 ⟨rfl, hb0⟩
  have HB : Hid (Below w.heap.size w w0) := hb0
  clear hb0
  go_wp2_with fail
  refine (H1.out _ HB.out).mono ?_
  rintro e v1 ⟨rfl, hb1⟩
  have HK1 : Hid (Kept _ (v1.alloc (.cells #[.bool D.neg, .string (bs D.s), .int .i64 D.e] 23))) := (Kept.nil v1).dec D
  have HB1 : Hid (Below w.heap.size w (v1.alloc (.cells #[.bool D.neg, .string (bs D.s), .int .i64 D.e] 23))) := (HB.out.thru hb1).alloc (HB.out.thru hb1).size _
  clear hb1 HB
  go_wp2_with fail
  refine (ref_finite n _ hb).mono ?_
  rintro e w' ⟨rfl, rfl⟩
  obtain ⟨v2, hv2⟩ : ∃ W, W = v1.alloc (.cells #[.bool D.neg, .string (bs D.s), .int .i64 D.e] 23) := ⟨_, rfl⟩
  rw [← hv2] at HK1 HB1 ⊢
  clear hv2
  obtain ⟨fb, hfb⟩ : ∃ f, f = finB n := ⟨_, rfl⟩
  have HFB : Hid (fb = finB n) := hfb
  rw [← hfb]
  clear hfb
  cases fb
  · have hx : X = 10 := by
      rw [HDX.out.2]; unfold ofX
      have h1 : spX n ≠ 0 := by
        intro h
        have := of_fin h
        rw [← HFB.out] at this
        cases this
      rw [if_neg h1]
    subst hx
    go_wp2
    go_ret
    exact ⟨rfl, HB1.out⟩
  · have hx : X = 0 := by rw [HDX.out.2]; exact of_room HFB.out.symm
    subst hx
    obtain ⟨a0, a1, a2⟩ := HK1.out.decs (.head _)
    go_wp2_with fail
    refine (H2.out _ HB1.out).mono ?_
    rintro e v3 ⟨rfl, hb3⟩
    by_cases hm : 1 ≤ m ∧ m ≤ 6
    · obtain ⟨rb, S, hR, hS, hrb⟩ : ∃ rb S, to64A D m = ⟨rb, false, false, false, 0⟩ ∧ to32A D m = S ∧ ((absB n = 0 ∧ rb = 0 ∧ S = ⟨0, false, false, false, 0⟩ ∧ singB n = true) ∨ (absB n ≠ 0 ∧ rb = n ∧ ((singB n = true ∧ ∃ B, S = ⟨B, false, false, false, 0⟩ ∧ Go.floatToFloatBits .f32 B .f64 = some n) ∨ (singB n = false ∧ ∃ B o u, S = ⟨B, true, o, u, 0⟩)))) := by
        rw [HDX.out.1]
        rcases back_facts HBN.out HFB.out.symm hm with ⟨h1, h2, h3, h4⟩ | ⟨h1, h2, h3⟩
        · exact ⟨0, _, h2, h3, .inl ⟨h1, rfl, rfl, h4⟩⟩
        · exact ⟨n, _, h2, rfl, .inr ⟨h1, rfl, h3⟩⟩
      rw [hR] at H3 ⊢
      rw [hS] at H4
      have HK3 : Hid (Kept _ (v3.alloc (.cells #[.bool false, .bool false, .bool false] 27))) := (HK1.out.below hb3).push (.cells #[.bool false, .bool false, .bool false] 27 (0, 0))
      have HB3 : Hid (Below w.heap.size w (v3.alloc (.cells #[.bool false, .bool false, .bool false] 27))) := (HB1.out.thru hb3).alloc (HB1.out.thru hb3).size _
      have hm1 : ¬ m < 1 := by omega
      have hm2 : ¬ 6 < m := by omega
      clear hb3 HB1 HK1 a0 a1 a2 hR hS hm H2 H1 HW
      obtain ⟨a0, a1, a2⟩ := HK3.out.decs (.tail _ (.head _))
      go_wp2_with fail
      refine (H3.out _).mono ?_
      rintro e v5 ⟨rfl, hb5⟩
      have HK5 : Hid (Kept _ (v5.alloc (.cells #[.bool false, .bool false, .bool false] 27))) := (HK3.out.below hb5).push (.cells #[.bool false, .bool false, .bool false] 27 (0, 0))
      have HB5 : Hid (Below w.heap.size w (v5.alloc (.cells #[.bool false, .bool false, .bool false] 27))) := (HB3.out.thru hb5).alloc (HB3.out.thru hb5).size _
      clear hb5 HB3 HK3 a0 a1 a2 H3 hm1 hm2
      obtain ⟨p0, p1, p2⟩ := flag_cells (HK5.out _ (.head _))
      obtain ⟨q0, q1, q2⟩ := flag_cells (HK5.out _ (.tail _ (.head _)))
      obtain ⟨a0, a1, a2⟩ := HK5.out.decs (.tail _ (.tail _ (.head _)))
      obtain ⟨v6, hv6⟩ : ∃ W, W = v5.alloc (.cells #[.bool false, .bool false, .bool false] 27) := ⟨_, rfl⟩
      go_upto_region 13 with fail
      rw [← hv6] at HK5 HB5 p0 p1 p2 q0 q1 q2 a0 a1 a2 ⊢
      clear hv6
      rcases hrb with ⟨hz, rfl, rfl, hsg⟩ | ⟨hz, rfl, hsg⟩
      · have HSG : Hid (singB n = true) := hsg
        have hcv := fun w : World => run_convert_float_float (P := Tryz.prog) w 34 25 .f32 .f64 0 0 (by kernel_rfl) (by kernel_rfl) (by kernel_rfl)
        have HCV : Hid _ := hcv
        obtain ⟨o1, ho1⟩ : ∃ o, Go.FloatKind.f64.format.order 0 n = o := ⟨_, rfl⟩
        have ho : o1 = some .eq ∧ Go.FloatKind.f64.format.order n 0 = some .eq := by
          rw [← ho1]
          rcases zero_cases HBN.out hz with rfl | rfl
          · exact ⟨by kernel_rfl, by kernel_rfl⟩
          · exact ⟨by kernel_rfl, by kernel_rfl⟩
        obtain ⟨rfl, ho2⟩ := ho
        have HO1 : Hid (Go.FloatKind.f64.format.order 0 n = some .eq) := ho1
        clear hsg hcv
        go_wp2_with fail
        refine (H4.out _ HB5.out).mono ?_
        rintro e v7 ⟨rfl, hb7⟩
        have HK7 : Hid (Kept _ (v7.alloc (.cells #[.bool false, .bool false, .bool false] 27))) := (HK5.out.below hb7).push (.cells #[.bool false, .bool false, .bool false] 27 (0, 0))
        have HB7 : Hid (Below w.heap.size w (v7.alloc (.cells #[.bool false, .bool false, .bool false] 27))) := (HB5.out.thru hb7).alloc (HB5.out.thru hb7).size _
        clear hb7 HB5 HK5 a0 a1 a2 p0 p1 p2 q0 q1 q2 ho1 ho2
        go_wp2_with fail
        refine (rsingle_any n _ HBN.out).mono ?_
        rintro e w' ⟨rfl, rfl⟩
        rw [HSG.out]
        obtain ⟨p0, p1, p2⟩ := flag_cells (HK7.out _ (.head _))
        obtain ⟨q0, q1, q2⟩ := flag_cells (HK7.out _ (.tail _ (.tail _ (.head _))))
        have ho1 := HO1.out
        have hcv := HCV.out
        go_wp2
        go_ret
        exact ⟨rfl, HB7.out⟩
      · have hnn : nanB rb = false := by
          have := finB_eq rb
          rw [← HFB.out] at this
          cases h1 : nanB rb
          · rfl
          · rw [h1] at this; cases this
        obtain ⟨oz, hoz, hne⟩ := ord_some HBN.out hnn hz
        have HI : Hid (∀ W, Calls Tryz.prog 15 #[.float .f64 rb, .int .u64 (rb : Nat)] W fun e w' => e = .returned (.bool true) ∧ Below W.heap.size W w') := fun W => is_self rb W
        have HNN : Hid (nanB rb = false) := hnn
        have HSG : Hid _ := hsg
        clear hsg hz
        have cut : ∀ K : Prop, (oz = .lt → K) → (oz = .gt → K) → K := fun K h1 h2 => by cases oz; exact h1 rfl; exact absurd rfl hne; exact h2 rfl
        refine cut _ (fun h => ?_) (fun h => ?_)
        all_goals
          subst h
          clear cut hne
          go_wp2_with fail
          refine (HI.out _).mono ?_
          rintro e v7 ⟨rfl, hb7⟩
          have HK6 : Hid (Kept _ v7) := HK5.out.below hb7
          have HB6 : Hid (Below w.heap.size w v7) := HB5.out.thru hb7
          clear hb7 HB5 HK5 a0 a1 a2 p0 p1 p2 q0 q1 q2 hoz
          obtain ⟨a0, a1, a2⟩ := HK6.out.decs (.tail _ (.tail _ (.head _)))
          go_wp2_with fail
          refine (H4.out _ HB6.out).mono ?_
          rintro e v8 ⟨rfl, hb8⟩
          have HK8 : Hid (Kept _ (v8.alloc (.cells #[.bool S.ine, .bool S.ov, .bool S.un] 27))) := (HK6.out.below hb8).push (.cells #[.bool S.ine, .bool S.ov, .bool S.un] 27 (0, 0))
          have HB8 : Hid (Below w.heap.size w (v8.alloc (.cells #[.bool S.ine, .bool S.ov, .bool S.un] 27))) := (HB6.out.thru hb8).alloc (HB6.out.thru hb8).size _
          clear hb8 HB6 HK6 a0 a1 a2
          obtain ⟨p0, p1, p2⟩ := flag_cells (HK8.out _ (.head _))
          obtain ⟨q0, q1, q2⟩ := flag_cells (HK8.out _ (.tail _ (.tail _ (.head _))))
          have hnn := HNN.out
          go_wp2_with fail
          refine (rsingle_any rb _ HBN.out).mono ?_
          rintro e w' ⟨rfl, rfl⟩
          rcases HSG.out with ⟨h1, B, rfl, hcv⟩ | ⟨h1, B, o, u, rfl⟩
          · rw [h1]
            have k1 := fun w : World => run_convert_float_float (P := Tryz.prog) w 34 25 .f32 .f64 B rb (by kernel_rfl) (by kernel_rfl) hcv
            clear h1 hcv
            go_wp2
            go_ret
            exact ⟨rfl, HB8.out⟩
          · rw [h1]
            clear h1
            go_wp2
            go_ret
            exact ⟨rfl, HB8.out⟩
    · have hR : to64A D m = RA.no 1 := by
        unfold to64A ratioA
        rw [if_pos (fun h => hm h.2.2)]
      rw [hR]
      have HBZ : Hid (Below w.heap.size w (v3.alloc (.cells #[.bool false, .bool false, .bool false] 27))) := (HB1.out.thru hb3).alloc (HB1.out.thru hb3).size _
      clear hR hb3 a0 a1 a2
      by_cases h1 : m < 1
      · go_wp2
        go_ret
        exact ⟨rfl, HBZ.out⟩
      · have h2 : 6 < m := by omega
        go_wp2
        go_ret
        exact ⟨rfl, HBZ.out⟩
end Go.Proofs.YtapahfoebpiajaaGreatDoor
