/- Parts Ge of the proof, in one text. -/
import Derived.Test.YtpfnfhikhlceoaaGreatDoorRG

/- Walks: the law DecOrder. -/
namespace Go.Proofs.YtpfnfhikhlceoaaGreatDoor
open Go.RowKit
set_option maxHeartbeats 8000000 in
set_option maxRecDepth 100000 in
theorem decOrder_walk (g0 : Bool) (s0 : ByteArray) (x0 : Int) (g1 : Bool) (s1 : ByteArray) (x1 : Int) (g2 : Bool) (s2 : ByteArray) (x2 : Int) (w : World) (z0 : s0.size ≤ 9223372036854775807) (l0 : -9223372036854775808 ≤ x0) (u0 : x0 ≤ 9223372036854775807) (z1 : s1.size ≤ 9223372036854775807) (l1 : -9223372036854775808 ≤ x1) (u1 : x1 ≤ 9223372036854775807) (z2 : s2.size ≤ 9223372036854775807) (l2 : -9223372036854775808 ≤ x2) (u2 : x2 ≤ 9223372036854775807) (htab : Tab w) : Calls Tryz.prog 11 #[.agg #[.bool g0, .string s0, .int .i64 x0], .agg #[.bool g1, .string s1, .int .i64 x1], .agg #[.bool g2, .string s2, .int .i64 x2]] w fun e w' => e = .returned (.bool true) ∧ Below w.heap.size w w' := by
  have T0 : Hid _ := tame_c g0 s0 x0 2000 2500 z0 (by decide) l0 u0 (by decide) (by decide)
  have T1 : Hid _ := tame_c g1 s1 x1 2000 2500 z1 (by decide) l1 u1 (by decide) (by decide)
  have T2 : Hid _ := tame_c g2 s2 x2 2000 2500 z2 (by decide) l2 u2 (by decide) (by decide)
  have HTAB : Hid (Tab w) := htab
  have HK0 : Hid (Kept _ (((w.alloc (.cells #[.bool g0, .string s0, .int .i64 x0] 38)).alloc (.cells #[.bool g1, .string s1, .int .i64 x1] 38)).alloc (.cells #[.bool g2, .string s2, .int .i64 x2] 38))) := kept_rows3 w g0 g1 g2 s0 s1 s2 x0 x1 x2
  have HB0 : Hid (Below w.heap.size w (((w.alloc (.cells #[.bool g0, .string s0, .int .i64 x0] 38)).alloc (.cells #[.bool g1, .string s1, .int .i64 x1] 38)).alloc (.cells #[.bool g2, .string s2, .int .i64 x2] 38))) := (((Below.refl _ _).alloc (Nat.le_refl _) _).alloc (by simp) _).alloc (by simp; omega) _
  clear htab z0 l0 u0 z1 l1 u1 z2 l2 u2
  go_enter Tryz.func11, Tryz.ntmps11
  obtain ⟨a0, a1, a2⟩ := HK0.out.rows (.head _)
  go_wp2_with fail
  refine (T0.out _).mono ?_
  rintro e v1 ⟨da, V0, e0, rfl, ta0, hb⟩
  have HK1 : Hid (Kept _ (v1.alloc (.cells #[.bool da.neg, .string (bs da.s), .int .i64 da.e] 25))) := (HK0.out.below hb).dec da
  have HB1 : Hid (Below w.heap.size w (v1.alloc (.cells #[.bool da.neg, .string (bs da.s), .int .i64 da.e] 25))) := (HB0.out.thru hb).alloc (HB0.out.thru hb).size _
  clear hb HK0 HB0 a0 a1 a2
  have TA0 : Hid _ := ta0
  clear ta0
  obtain ⟨a0, a1, a2⟩ := HK1.out.rows (.tail _ (.tail _ (.head _)))
  go_wp2_with fail
  refine (T1.out _).mono ?_
  rintro e v2 ⟨db, V1, e1, rfl, ta1, hb⟩
  have HK2 : Hid (Kept _ (v2.alloc (.cells #[.bool db.neg, .string (bs db.s), .int .i64 db.e] 25))) := (HK1.out.below hb).dec db
  have HB2 : Hid (Below w.heap.size w (v2.alloc (.cells #[.bool db.neg, .string (bs db.s), .int .i64 db.e] 25))) := (HB1.out.thru hb).alloc (HB1.out.thru hb).size _
  clear hb HK1 HB1 a0 a1 a2
  have TA1 : Hid _ := ta1
  clear ta1
  obtain ⟨a0, a1, a2⟩ := HK2.out.rows (.tail _ (.tail _ (.tail _ (.tail _ (.head _)))))
  go_wp2_with fail
  refine (T2.out _).mono ?_
  rintro e v3 ⟨dc, V2, e2, rfl, ta2, hb⟩
  have HK3 : Hid (Kept _ (v3.alloc (.cells #[.bool dc.neg, .string (bs dc.s), .int .i64 dc.e] 25))) := (HK2.out.below hb).dec dc
  have HB3 : Hid (Below w.heap.size w (v3.alloc (.cells #[.bool dc.neg, .string (bs dc.s), .int .i64 dc.e] 25))) := (HB2.out.thru hb).alloc (HB2.out.thru hb).size _
  clear hb HK2 HB2 a0 a1 a2
  have TA2 : Hid _ := ta2
  clear ta2
  obtain ⟨X, Y, Z, n1, n2, n3, n4, n5, n6, n7, n8, n9, n10, n11, n12, n13⟩ := order_laws (Nat.le_refl _) TA0.out TA1.out TA2.out
  obtain ⟨DD, hDD⟩ : ∃ X, X = addD da (negD db) := ⟨_, rfl⟩
  obtain ⟨FF, hFF⟩ : ∃ X, X = addD da dc := ⟨_, rfl⟩
  obtain ⟨GG, hGG⟩ : ∃ X, X = addD db dc := ⟨_, rfl⟩
  obtain ⟨n, hn⟩ : ∃ n, n = sgnV X Y := ⟨_, rfl⟩
  obtain ⟨m, hm⟩ : ∃ n, n = sgnV Y X := ⟨_, rfl⟩
  obtain ⟨k, hk⟩ : ∃ n, n = sgnV Y Z := ⟨_, rfl⟩
  obtain ⟨l, hl⟩ : ∃ n, n = sgnV X Z := ⟨_, rfl⟩
  have oa := TA0.out.rep.ok
  have ob := TA1.out.rep.ok
  have oc := TA2.out.rep.ok
  have kDD : DD.ok := by rw [hDD]; exact n7
  have kFF : FF.ok := by rw [hFF]; exact n11
  have kGG : GG.ok := by rw [hGG]; exact n12
  have C1 : Hid _ := cmp_c (n := n) oa ob (n1.trans hn.symm) w
  have C2 : Hid _ := cmp_c (n := m) ob oa (n2.trans hm.symm) w
  have C3 : Hid _ := cmp_c (n := k) ob oc (n3.trans hk.symm) w
  have C4 : Hid _ := cmp_c (n := l) oa oc (n4.trans hl.symm) w
  have C5 : Hid _ := sub_c (r := DD) oa ob n6 hDD.symm w HTAB.out
  have C6 : Hid _ := cmp_c (n := n) kDD none_ok (by rw [hDD]; exact n8.trans hn.symm) w
  have C7 : Hid _ := add_c (r := FF) oa oc n9 hFF.symm w HTAB.out
  have C8 : Hid _ := add_c (r := GG) ob oc n10 hGG.symm w HTAB.out
  have C9 : Hid _ := cmp_c (n := n) kFF kGG (by rw [hFF, hGG]; exact n13.trans hn.symm) w
  have KN : Hid (∀ W, Below w.heap.size w W → Calls Tryz.prog 14 #[] W fun e w' => e = .returned (.bool true) ∧ Below W.heap.size W w') := fun W hW => known_any W (HTAB.out.below hW)
  have NN : Hid (IntKind.i64.wrap (-m) = n) := order_neg hn hm
  have NE : Hid (da = db ↔ n = 0) := by rw [show _ ↔ _ from n5]; rw [hn]; exact sgn_zero.symm
  have NL : Hid (n = k → l ≠ n → n = 0) := by rw [hn, hk, hl]; exact sgn_chain
  clear TA0 TA1 TA2 T0 T1 T2 n1 n2 n3 n4 n5 n6 n7 n8 n9 n10 n11 n12 n13 oa ob oc hDD hFF hGG hn hm hk hl kDD kFF kGG HTAB
  obtain ⟨a0, a1, a2⟩ := HK3.out.decs (.tail _ (.tail _ (.head _)))
  obtain ⟨b0, b1, b2⟩ := HK3.out.decs (.tail _ (.head _))
  go_wp2_with fail
  refine (C1.out _ HB3.out).mono ?_
  rintro e v4 ⟨rfl, hb⟩
  have HK4 : Hid (Kept _ v4) := HK3.out.below hb
  have HB4 : Hid (Below w.heap.size w v4) := HB3.out.thru hb
  clear hb HK3 HB3 a0 a1 a2 b0 b1 b2
  obtain ⟨a0, a1, a2⟩ := HK4.out.decs (.tail _ (.head _))
  obtain ⟨b0, b1, b2⟩ := HK4.out.decs (.tail _ (.tail _ (.head _)))
  go_wp2_with fail
  refine (C2.out _ HB4.out).mono ?_
  rintro e v5 ⟨rfl, hb⟩
  have HK5 : Hid (Kept _ v5) := HK4.out.below hb
  have HB5 : Hid (Below w.heap.size w v5) := HB4.out.thru hb
  clear hb HK4 HB4 a0 a1 a2 b0 b1 b2
  obtain ⟨a0, a1, a2⟩ := HK5.out.decs (.tail _ (.head _))
  obtain ⟨b0, b1, b2⟩ := HK5.out.decs (.head _)
  go_wp2_with fail
  refine (C3.out _ HB5.out).mono ?_
  rintro e v6 ⟨rfl, hb⟩
  have HK6 : Hid (Kept _ v6) := HK5.out.below hb
  have HB6 : Hid (Below w.heap.size w v6) := HB5.out.thru hb
  clear hb HK5 HB5 a0 a1 a2 b0 b1 b2
  obtain ⟨a0, a1, a2⟩ := HK6.out.decs (.tail _ (.tail _ (.head _)))
  obtain ⟨b0, b1, b2⟩ := HK6.out.decs (.head _)
  go_wp2_with fail
  refine (C4.out _ HB6.out).mono ?_
  rintro e v7 ⟨rfl, hb⟩
  have HK7 : Hid (Kept _ v7) := HK6.out.below hb
  have HB7 : Hid (Below w.heap.size w v7) := HB6.out.thru hb
  clear hb HK6 HB6 a0 a1 a2 b0 b1 b2
  obtain ⟨a0, a1, a2⟩ := HK7.out.decs (.tail _ (.tail _ (.head _)))
  obtain ⟨b0, b1, b2⟩ := HK7.out.decs (.tail _ (.head _))
  go_wp2_with fail
  refine (C5.out _ HB7.out).mono ?_
  rintro e v8 ⟨rfl, hb⟩
  have HK8 : Hid (Kept _ (v8.alloc (.cells #[.bool DD.neg, .string (bs DD.s), .int .i64 DD.e] 25))) := (HK7.out.below hb).dec DD
  have HB8 : Hid (Below w.heap.size w (v8.alloc (.cells #[.bool DD.neg, .string (bs DD.s), .int .i64 DD.e] 25))) := (HB7.out.thru hb).alloc (HB7.out.thru hb).size _
  clear hb HK7 HB7 a0 a1 a2 b0 b1 b2
  obtain ⟨a0, a1, a2⟩ := HK8.out.decs (.head _)
  go_wp2_with fail
  refine (C6.out _ HB8.out).mono ?_
  rintro e v9 ⟨rfl, hb⟩
  have HK9 : Hid (Kept _ v9) := HK8.out.below hb
  have HB9 : Hid (Below w.heap.size w v9) := HB8.out.thru hb
  clear hb HK8 HB8 a0 a1 a2
  go_upto_region 10 with fail
  go_cut [7, 8, 9, 10, 108] (fun p q r i b wx => p = .pointer (some ⟨v1.heap.size, 0, none⟩) ∧ q = .pointer (some ⟨v2.heap.size, 0, none⟩) ∧ r = .pointer (some ⟨v3.heap.size, 0, none⟩) ∧ i = .int .i64 n ∧ b = .bool false ∧ Below w.heap.size w wx ∧ Kept [(v8.heap.size, decO DD), (v3.heap.size, decO dc), (v2.heap.size, decO db), (v1.heap.size, decO da), (w.heap.size, rowO g0 s0 x0), (w.heap.size + 1, rowO g1 s1 x1), (w.heap.size + 2, rowO g2 s2 x2)] wx)
  case first =>
    have nn := NN.out
    clear C1 C2 C3 C4 C5 C6 C7 C8 C9 KN
    go_wp2_with fail
    refine (all_c 6 _ (by decide) rfl 26 _ _ (by simp)).mono ?_
    rintro e v10 ⟨rfl, hb⟩
    have HK10 : Hid (Kept _ v10) := (HK9.out.more _).below hb
    have HB10 : Hid (Below w.heap.size w v10) := (HB9.out.alloc HB9.out.size _).thru hb
    clear hb HK9 HB9
    obtain ⟨a0, a1, a2⟩ := HK10.out.decs (.tail _ (.tail _ (.tail _ (.head _))))
    obtain ⟨b0, b1, b2⟩ := HK10.out.decs (.tail _ (.tail _ (.head _)))
    by_cases hab : da = db
    · have h0 : n = 0 := NE.out.1 hab
      subst h0 hab
      by_cases hk : (0 : Int) = k
      · subst hk
        by_cases hl : l = 0
        · subst hl
          go_wp2_with fail
          go_meet; exact ⟨rfl, rfl, rfl, rfl, rfl, HB10.out, HK10.out⟩
        · have h1 : (l == 0) = false := by simpa using hl
          go_wp2_with fail
          go_meet; exact ⟨rfl, rfl, rfl, rfl, rfl, HB10.out, HK10.out⟩
      · have h1 : ((0 : Int) == k) = false := by simpa using hk
        go_wp2_with fail
        go_meet; exact ⟨rfl, rfl, rfl, rfl, rfl, HB10.out, HK10.out⟩
    · have hn0 : ¬ n = 0 := fun h => hab (NE.out.2 h)
      have h0 : (n == 0) = false := by simpa using hn0
      by_cases hk : n = k
      · have hl : l = n := Decidable.byContradiction fun h => hn0 (NL.out hk h)
        subst hk hl
        clear hn0
        go_wp2_with fail
        all_goals first
          | exact (hab (dc_same (by assumption) (by assumption) (by assumption))).elim
          | (go_meet; exact ⟨rfl, rfl, rfl, rfl, rfl, HB10.out, HK10.out⟩)
      · have h1 : (n == k) = false := by simpa using hk
        clear hn0 hk
        go_wp2_with fail
        all_goals first
          | exact (hab (dc_same (by assumption) (by assumption) (by assumption))).elim
          | (go_meet; exact ⟨rfl, rfl, rfl, rfl, rfl, HB10.out, HK10.out⟩)
  case rest =>
  obtain ⟨rfl, rfl, rfl, rfl, rfl, hb, hk⟩ := hcut
  have HK11 : Hid (Kept [(v8.heap.size, decO DD), (v3.heap.size, decO dc), (v2.heap.size, decO db), (v1.heap.size, decO da), (w.heap.size, rowO g0 s0 x0), (w.heap.size + 1, rowO g1 s1 x1), (w.heap.size + 2, rowO g2 s2 x2)] wc) := hk
  have HB11 : Hid _ := hb
  clear hb hk NN NE NL HK9 HB9
  obtain ⟨a0, a1, a2⟩ := HK11.out.decs (.tail _ (.tail _ (.tail _ (.head _))))
  obtain ⟨b0, b1, b2⟩ := HK11.out.decs (.tail _ (.head _))
  go_wp2_with fail
  refine (C7.out _ HB11.out).mono ?_
  rintro e v12 ⟨rfl, hb⟩
  have HK12 : Hid (Kept _ (v12.alloc (.cells #[.bool FF.neg, .string (bs FF.s), .int .i64 FF.e] 25))) := (HK11.out.below hb).dec FF
  have HB12 : Hid (Below w.heap.size w (v12.alloc (.cells #[.bool FF.neg, .string (bs FF.s), .int .i64 FF.e] 25))) := (HB11.out.thru hb).alloc (HB11.out.thru hb).size _
  clear hb HK11 HB11 a0 a1 a2 b0 b1 b2
  obtain ⟨a0, a1, a2⟩ := HK12.out.decs (.tail _ (.tail _ (.tail _ (.head _))))
  obtain ⟨b0, b1, b2⟩ := HK12.out.decs (.tail _ (.tail _ (.head _)))
  go_wp2_with fail
  refine (C8.out _ HB12.out).mono ?_
  rintro e v13 ⟨rfl, hb⟩
  have HK13 : Hid (Kept _ (v13.alloc (.cells #[.bool GG.neg, .string (bs GG.s), .int .i64 GG.e] 25))) := (HK12.out.below hb).dec GG
  have HB13 : Hid (Below w.heap.size w (v13.alloc (.cells #[.bool GG.neg, .string (bs GG.s), .int .i64 GG.e] 25))) := (HB12.out.thru hb).alloc (HB12.out.thru hb).size _
  clear hb HK12 HB12 a0 a1 a2 b0 b1 b2
  obtain ⟨a0, a1, a2⟩ := HK13.out.decs (.tail _ (.head _))
  obtain ⟨b0, b1, b2⟩ := HK13.out.decs (.head _)
  go_wp2_with fail
  refine (C9.out _ HB13.out).mono ?_
  rintro e v14 ⟨rfl, hb⟩
  have HK14 : Hid (Kept _ v14) := HK13.out.below hb
  have HB14 : Hid (Below w.heap.size w v14) := HB13.out.thru hb
  clear hb HK13 HB13 a0 a1 a2 b0 b1 b2
  go_wp2_with fail
  refine (all_c 3 _ (by decide) rfl 26 _ _ (by simp)).mono ?_
  rintro e v15 ⟨rfl, hb⟩
  have HK15 : Hid (Kept _ v15) := (HK14.out.more _).below hb
  have HB15 : Hid (Below w.heap.size w v15) := (HB14.out.alloc HB14.out.size _).thru hb
  clear hb HK14 HB14
  go_wp2_with fail
  refine (KN.out _ HB15.out).mono ?_
  rintro e v16 ⟨rfl, hb⟩
  have HK16 : Hid (Kept _ v16) := HK15.out.below hb
  have HB16 : Hid (Below w.heap.size w v16) := HB15.out.thru hb
  clear hb HK15 HB15 
  go_wp2
  go_ret
  exact ⟨rfl, HB16.out⟩
end Go.Proofs.YtpfnfhikhlceoaaGreatDoor
