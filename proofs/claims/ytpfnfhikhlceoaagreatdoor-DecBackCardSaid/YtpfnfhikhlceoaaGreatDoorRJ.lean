/- Parts Gf of the proof, in one text. -/
import Derived.Test.YtpfnfhikhlceoaaGreatDoorRG

/- Walks: the law DecBack. -/
namespace Go.Proofs.YtpfnfhikhlceoaaGreatDoor
open Go.RowKit
set_option maxHeartbeats 8000000 in
set_option maxRecDepth 100000 in
theorem decBack_walk (g0 : Bool) (s0 : ByteArray) (x0 : Int) (p0 q0 : Int) (w : World) (z0 : s0.size ≤ 9223372036854775807) (l0 : -9223372036854775808 ≤ x0) (u0 : x0 ≤ 9223372036854775807) (lp0 : -9223372036854775808 ≤ p0) (up0 : p0 ≤ 9223372036854775807) (lq0 : -9223372036854775808 ≤ q0) (uq0 : q0 ≤ 9223372036854775807) (htab : Tab w) : Calls Tryz.prog 7 #[.agg #[.bool g0, .string s0, .int .i64 x0], .int .i64 p0, .int .i64 q0] w fun e w' => e = .returned (.bool true) ∧ Below w.heap.size w w' := by
  have T0 : Hid _ := tame_c g0 s0 x0 8192 19000 z0 (by decide) l0 u0 (by decide) (by decide)
  have HTAB : Hid (Tab w) := htab
  have HK0 : Hid (Kept _ (w.alloc (.cells #[.bool g0, .string s0, .int .i64 x0] 38))) := (Kept.nil w).push (rowO g0 s0 x0)
  have HB0 : Hid (Below w.heap.size w (w.alloc (.cells #[.bool g0, .string s0, .int .i64 x0] 38))) := (Below.refl _ _).alloc (Nat.le_refl _) _
  obtain ⟨p, hp, PK1⟩ : ∃ p : Nat, p < 40 ∧ Hid (∀ W, Calls Tryz.prog 22 #[.int .i64 p0, .int .i64 40] W fun e w' => e = .returned (.int .i64 (p : Nat)) ∧ w' = W) := pick_nat p0 40 lp0 up0 (by decide) (by decide)
  obtain ⟨q, hq, PK2⟩ : ∃ p : Nat, p < 40 ∧ Hid (∀ W, Calls Tryz.prog 22 #[.int .i64 q0, .int .i64 40] W fun e w' => e = .returned (.int .i64 (p : Nat)) ∧ w' = W) := pick_nat q0 40 lq0 uq0 (by decide) (by decide)
  clear htab z0 l0 u0 lp0 up0 lq0 uq0
  go_enter Tryz.func7, Tryz.ntmps7
  obtain ⟨a0, a1, a2⟩ := HK0.out.rows (.head _)
  go_wp2_with fail
  refine (T0.out _).mono ?_
  rintro e v1 ⟨da, V0, e0, rfl, ta0, hb⟩
  have HK1 : Hid (Kept _ (v1.alloc (.cells #[.bool da.neg, .string (bs da.s), .int .i64 da.e] 25))) := (HK0.out.below hb).dec da
  have HB1 : Hid (Below w.heap.size w (v1.alloc (.cells #[.bool da.neg, .string (bs da.s), .int .i64 da.e] 25))) := (HB0.out.thru hb).alloc (HB0.out.thru hb).size _
  clear hb HK0 HB0 a0 a1 a2
  have ok := ta0.rep.ok
  clear ta0
  obtain ⟨TT, hTT⟩ : ∃ X, X = textL da := ⟨_, rfl⟩
  obtain ⟨NB, hNB⟩ : ∃ X, X = negD da := ⟨_, rfl⟩
  have htl := textL_len ok
  rw [← hTT] at htl
  have CT : Hid (∀ W, Below w.heap.size w W → Calls Tryz.prog 24 #[.agg #[.bool da.neg, .string (bs da.s), .int .i64 da.e]] W fun e w' => e = .returned (.tuple #[.string (bs TT), .int .i64 0]) ∧ Below W.heap.size W w') := fun W hW => by rw [hTT]; exact text_ok da W ok (HTAB.out.below hW)
  have CP : Hid (∀ W, Calls Tryz.prog 19 #[.string (bs TT)] W fun e w' => e = .returned (.tuple #[.agg #[.bool da.neg, .string (bs da.s), .int .i64 da.e], .int .i64 0]) ∧ Below W.heap.size W w') := fun W => by
    have := dparse_any (bs TT) W (by show TT.length ≤ _; omega)
    rw [bl_bs, hTT, read_text ok] at this
    rw [hTT]; exact this
  have CV : Hid (∀ W, Calls Tryz.prog 25 #[.agg #[.bool da.neg, .string (bs da.s), .int .i64 da.e]] W fun e w' => e = .returned (.bool true) ∧ Below W.heap.size W w') := fun W => by
    have := valid_v da W (by have := ok_len ok; omega)
    rw [okB_ok ok] at this; exact this
  have kNB : NB.ok := by rw [hNB]; exact negD_ok ok
  have CN : Hid _ := neg_c ok hNB.symm w
  have CM : Hid _ := neg_c (r := da) kNB (by rw [hNB]; exact negD_neg da) w
  have KN : Hid (∀ W, Below w.heap.size w W → Calls Tryz.prog 14 #[] W fun e w' => e = .returned (.bool true) ∧ Below W.heap.size W w') := fun W hW => known_any W (HTAB.out.below hW)
  have OK : Hid da.ok := ok
  have HNB : Hid (NB = negD da) := hNB
  clear ok hTT hNB htl kNB T0
  obtain ⟨a0, a1, a2⟩ := HK1.out.decs (.head _)
  go_wp2_with fail
  refine (CT.out _ HB1.out).mono ?_
  rintro e v2 ⟨rfl, hb⟩
  have HK2 : Hid (Kept _ v2) := HK1.out.below hb
  have HB2 : Hid (Below w.heap.size w v2) := HB1.out.thru hb
  clear hb HK1 HB1 a0 a1 a2
  go_wp2_with fail
  refine (CP.out _).mono ?_
  rintro e v3 ⟨rfl, hb⟩
  have HK3 : Hid (Kept _ (v3.alloc (.cells #[.bool da.neg, .string (bs da.s), .int .i64 da.e] 25))) := (HK2.out.below hb).dec da
  have HB3 : Hid (Below w.heap.size w (v3.alloc (.cells #[.bool da.neg, .string (bs da.s), .int .i64 da.e] 25))) := (HB2.out.thru hb).alloc (HB2.out.thru hb).size _
  clear hb HK2 HB2 
  obtain ⟨a0, a1, a2⟩ := HK3.out.decs (.tail _ (.head _))
  obtain ⟨b0, b1, b2⟩ := HK3.out.decs (.head _)
  go_wp2_with fail
  refine (CV.out _).mono ?_
  rintro e v4 ⟨rfl, hb⟩
  have HK4 : Hid (Kept _ v4) := HK3.out.below hb
  have HB4 : Hid (Below w.heap.size w v4) := HB3.out.thru hb
  clear hb HK3 HB3 a0 a1 a2 b0 b1 b2
  obtain ⟨a0, a1, a2⟩ := HK4.out.decs (.tail _ (.head _))
  go_wp2_with fail
  go_loop [12, 13] (fun t i => ∃ (j : Nat) (tt : ByteArray), j ≤ p ∧ tt = bs (List.replicate j 48 ++ da.s) ∧ t = .string tt ∧ i = .int .i64 (j : Nat)) (fun _ i => p - (intOf i).toNat)
  case atStart => exact ⟨0, _, Nat.zero_le _, rfl, rfl, rfl⟩
  case round =>
    obtain ⟨j, tt, hj, htt, rfl, rfl⟩ := hrel
    have hsz : tt.size ≤ 9000 := by
      have := ok_len OK.out
      rw [htt]
      show (List.replicate j 48 ++ da.s).length ≤ _
      simp; omega
    have HTT : Hid (tt = bs (List.replicate j 48 ++ da.s)) := htt
    clear htt
    by_cases hjp : j < p
    · go_wp2_with fail
      refine (PK1.out _).mono ?_
      rintro e w' ⟨rfl, hw⟩
      subst hw
      go_wp2_with fail
      refine ⟨⟨j + 1, _, by omega, ?_, rfl, by go_num⟩, by simp [intOf]; omega⟩
      rw [HTT.out]; exact (cons_bs 48 _).trans (by rw [List.replicate_succ, List.cons_append])
    · obtain rfl : j = p := by omega
      go_wp2_with fail
      refine (PK1.out _).mono ?_
      rintro e w' ⟨rfl, hw⟩
      subst hw
      go_wp2_with fail
      refine (PK2.out _).mono ?_
      rintro e w' ⟨rfl, hw⟩
      subst hw
      go_wp2_with fail
      go_loop [12, 15] (fun t i => ∃ (k : Nat) (uu : ByteArray), k ≤ q ∧ uu = bs (List.replicate j 48 ++ da.s ++ List.replicate k 48) ∧ t = .string uu ∧ i = .int .i64 (k : Nat)) (fun _ i => q - (intOf i).toNat)
      case atStart => exact ⟨0, _, Nat.zero_le _, by rw [HTT.out]; simp, rfl, rfl⟩
      case round =>
        obtain ⟨k, uu, hk, huu, rfl, rfl⟩ := hrel
        have hsu : uu.size ≤ 9000 := by
          have := ok_len OK.out
          rw [huu]
          show (List.replicate j 48 ++ da.s ++ List.replicate k 48).length ≤ _
          simp; omega
        have HUU : Hid (uu = bs (List.replicate j 48 ++ da.s ++ List.replicate k 48)) := huu
        clear huu
        by_cases hkq : k < q
        · go_wp2_with fail
          refine ⟨⟨k + 1, _, by omega, ?_, rfl, by go_num⟩, by simp [intOf]; omega⟩
          rw [HUU.out, List.replicate_succ', ← List.append_assoc]; exact snoc_bs 48 _
        · obtain rfl : k = q := by omega
          have HMD : Hid (∀ W, Below w.heap.size w W → Calls Tryz.prog 26 #[.bool da.neg, .string uu, .int .i64 (da.e - (k : Int))] W fun e w' => e = .returned (.tuple #[.agg #[.bool da.neg, .string (bs da.s), .int .i64 da.e], .int .i64 0]) ∧ Below W.heap.size W w') := fun W _ => by
            have hd : allDig (bl uu) := by rw [HUU.out]; exact noughts_dig (ok_dig OK.out) j k
            have := Made_any da.neg uu (da.e - k) W hd (by omega)
            have hv : dval (bl uu) = dval da.s * 10 ^ k := by rw [HUU.out]; exact noughts_val _ j k
            obtain ⟨m1, m2, m3, m4⟩ := made_of OK.out _ k (da.e - k) hv (by omega)
            unfold DecR at this
            rw [m1, m2, m3, m4] at this
            exact this
          have hx := ok_exp OK.out
          have hsub : IntKind.i64.wrap (da.e - (k : Int)) = da.e - (k : Int) := IntWalk.i64_in _ (by omega)
          have HFE : Hid (IntKind.i64.wrap (da.e - (k : Int)) = da.e - (k : Int)) := hsub
          clear hx hsub
          clear a0 a1 a2
          have hsub := HFE.out
          obtain ⟨a0, a1, a2⟩ := HK4.out.decs (.tail _ (.head _))
          go_wp2_with fail
          refine (HMD.out _ HB4.out).mono ?_
          rintro e v5 ⟨rfl, hb⟩
          have HK5 : Hid (Kept _ (v5.alloc (.cells #[.bool da.neg, .string (bs da.s), .int .i64 da.e] 25))) := (HK4.out.below hb).dec da
          have HB5 : Hid (Below w.heap.size w (v5.alloc (.cells #[.bool da.neg, .string (bs da.s), .int .i64 da.e] 25))) := (HB4.out.thru hb).alloc (HB4.out.thru hb).size _
          clear hb HK4 HB4 a0 a1 a2
          clear hsub
          obtain ⟨a0, a1, a2⟩ := HK5.out.decs (.tail _ (.tail _ (.head _)))
          go_wp2_with fail
          refine (CN.out _ HB5.out).mono ?_
          rintro e v6 ⟨rfl, hb⟩
          have HK6 : Hid (Kept _ (v6.alloc (.cells #[.bool NB.neg, .string (bs NB.s), .int .i64 NB.e] 25))) := (HK5.out.below hb).dec NB
          have HB6 : Hid (Below w.heap.size w (v6.alloc (.cells #[.bool NB.neg, .string (bs NB.s), .int .i64 NB.e] 25))) := (HB5.out.thru hb).alloc (HB5.out.thru hb).size _
          clear hb HK5 HB5 a0 a1 a2
          obtain ⟨a0, a1, a2⟩ := HK6.out.decs (.head _)
          go_wp2_with fail
          refine (CM.out _ HB6.out).mono ?_
          rintro e v7 ⟨rfl, hb⟩
          have HK7 : Hid (Kept _ (v7.alloc (.cells #[.bool da.neg, .string (bs da.s), .int .i64 da.e] 25))) := (HK6.out.below hb).dec da
          have HB7 : Hid (Below w.heap.size w (v7.alloc (.cells #[.bool da.neg, .string (bs da.s), .int .i64 da.e] 25))) := (HB6.out.thru hb).alloc (HB6.out.thru hb).size _
          clear hb HK6 HB6 a0 a1 a2
          by_cases h0 : da.s = []
          · have hn := ok_nil OK.out h0
            obtain rfl : NB = da := by rw [HNB.out]; unfold negD; rw [if_pos h0]
            obtain ⟨a0, a1, a2⟩ := HK7.out.decs (.tail _ (.tail _ (.head _)))
            obtain ⟨b0, b1, b2⟩ := HK7.out.decs (.tail _ (.tail _ (.tail _ (.tail _ (.head _)))))
            obtain ⟨c0, c1, c2⟩ := HK7.out.decs (.head _)
            obtain ⟨d0, d1, d2⟩ := HK7.out.decs (.tail _ (.head _))
            replace a0 := a0.trans (show some (Value.bool NB.neg) = some (Value.bool false) by rw [hn]; rfl)
            replace a1 := a1.trans (show some (Value.string (bs NB.s)) = some (Value.string ⟨#[]⟩) by rw [hn]; rfl)
            replace a2 := a2.trans (show some (Value.int .i64 NB.e) = some (Value.int .i64 0) by rw [hn]; rfl)
            replace b0 := b0.trans (show some (Value.bool NB.neg) = some (Value.bool false) by rw [hn]; rfl)
            replace b1 := b1.trans (show some (Value.string (bs NB.s)) = some (Value.string ⟨#[]⟩) by rw [hn]; rfl)
            replace b2 := b2.trans (show some (Value.int .i64 NB.e) = some (Value.int .i64 0) by rw [hn]; rfl)
            replace c0 := c0.trans (show some (Value.bool NB.neg) = some (Value.bool false) by rw [hn]; rfl)
            replace c1 := c1.trans (show some (Value.string (bs NB.s)) = some (Value.string ⟨#[]⟩) by rw [hn]; rfl)
            replace c2 := c2.trans (show some (Value.int .i64 NB.e) = some (Value.int .i64 0) by rw [hn]; rfl)
            replace d0 := d0.trans (show some (Value.bool NB.neg) = some (Value.bool false) by rw [hn]; rfl)
            replace d1 := d1.trans (show some (Value.string (bs NB.s)) = some (Value.string ⟨#[]⟩) by rw [hn]; rfl)
            replace d2 := d2.trans (show some (Value.int .i64 NB.e) = some (Value.int .i64 0) by rw [hn]; rfl)
            clear hn h0
            go_wp2_with fail
            refine (KN.out _ HB7.out).mono ?_
            rintro e v8 ⟨rfl, hb⟩
            have HBZ : Hid (Below w.heap.size w v8) := HB7.out.thru hb
            clear hb
            go_wp2
            go_ret
            exact ⟨rfl, HBZ.out⟩
          · have hnb : NB.neg = !da.neg ∧ NB.s = da.s ∧ NB.e = da.e := by rw [HNB.out]; unfold negD; rw [if_neg h0]; exact ⟨rfl, rfl, rfl⟩
            obtain ⟨a0, a1, a2⟩ := HK7.out.decs (.tail _ (.tail _ (.head _)))
            obtain ⟨b0, b1, b2⟩ := HK7.out.decs (.tail _ (.tail _ (.tail _ (.tail _ (.head _)))))
            obtain ⟨c0, c1, c2⟩ := HK7.out.decs (.head _)
            obtain ⟨d0, d1, d2⟩ := HK7.out.decs (.tail _ (.head _))
            rw [hnb.1] at d0
            rw [hnb.2.1] at d1
            rw [hnb.2.2] at d2
            clear hnb h0
            go_wp2_with fail
            refine (KN.out _ HB7.out).mono ?_
            rintro e v8 ⟨rfl, hb⟩
            have HBZ : Hid (Below w.heap.size w v8) := HB7.out.thru hb
            clear hb
            go_wp2
            go_ret
            exact ⟨rfl, HBZ.out⟩
end Go.Proofs.YtpfnfhikhlceoaaGreatDoor
