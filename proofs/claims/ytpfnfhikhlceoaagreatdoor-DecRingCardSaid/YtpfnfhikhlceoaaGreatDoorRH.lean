/- Parts Gd of the proof, in one text. -/
import Derived.Test.YtpfnfhikhlceoaaGreatDoorRG

/- Walks: the law DecRing. -/
namespace Go.Proofs.YtpfnfhikhlceoaaGreatDoor
open Go.RowKit
set_option maxHeartbeats 8000000 in
set_option maxRecDepth 100000 in
theorem decRing_walk (g0 : Bool) (s0 : ByteArray) (x0 : Int) (g1 : Bool) (s1 : ByteArray) (x1 : Int) (g2 : Bool) (s2 : ByteArray) (x2 : Int) (w : World) (z0 : s0.size ≤ 9223372036854775807) (l0 : -9223372036854775808 ≤ x0) (u0 : x0 ≤ 9223372036854775807) (z1 : s1.size ≤ 9223372036854775807) (l1 : -9223372036854775808 ≤ x1) (u1 : x1 ≤ 9223372036854775807) (z2 : s2.size ≤ 9223372036854775807) (l2 : -9223372036854775808 ≤ x2) (u2 : x2 ≤ 9223372036854775807) (htab : Tab w) : Calls Tryz.prog 13 #[.agg #[.bool g0, .string s0, .int .i64 x0], .agg #[.bool g1, .string s1, .int .i64 x1], .agg #[.bool g2, .string s2, .int .i64 x2]] w fun e w' => e = .returned (.bool true) ∧ Below w.heap.size w w' := by
  have T0 : Hid _ := tame_c g0 s0 x0 1200 900 z0 (by decide) l0 u0 (by decide) (by decide)
  have T1 : Hid _ := tame_c g1 s1 x1 1200 900 z1 (by decide) l1 u1 (by decide) (by decide)
  have T2 : Hid _ := tame_c g2 s2 x2 1200 900 z2 (by decide) l2 u2 (by decide) (by decide)
  have HTAB : Hid (Tab w) := htab
  have HK0 : Hid (Kept _ (((w.alloc (.cells #[.bool g0, .string s0, .int .i64 x0] 38)).alloc (.cells #[.bool g1, .string s1, .int .i64 x1] 38)).alloc (.cells #[.bool g2, .string s2, .int .i64 x2] 38))) := kept_rows3 w g0 g1 g2 s0 s1 s2 x0 x1 x2
  have HB0 : Hid (Below w.heap.size w (((w.alloc (.cells #[.bool g0, .string s0, .int .i64 x0] 38)).alloc (.cells #[.bool g1, .string s1, .int .i64 x1] 38)).alloc (.cells #[.bool g2, .string s2, .int .i64 x2] 38))) := (((Below.refl _ _).alloc (Nat.le_refl _) _).alloc (by simp) _).alloc (by simp; omega) _
  clear htab z0 l0 u0 z1 l1 u1 z2 l2 u2
  go_enter Tryz.func13, Tryz.ntmps13
  obtain ⟨a0, a1, a2⟩ := HK0.out.rows (.head _)
  go_wp2_with fail
  refine (T0.out _).mono ?_
  rintro e v1 ⟨da, V0, e0, rfl, ta0, hb⟩
  have HK1 : Hid (Kept _ (v1.alloc (.cells #[.bool da.neg, .string (bs da.s), .int .i64 da.e] 25))) := (HK0.out.below hb).dec da
  have HB1 : Hid (Below w.heap.size w (v1.alloc (.cells #[.bool da.neg, .string (bs da.s), .int .i64 da.e] 25))) := (HB0.out.thru hb).alloc (HB0.out.thru hb).size _
  clear hb HK0 HB0 a0 a1 a2
  have TA0 : Hid _ := ta0
  clear ta0
  obtain ⟨a0, a1, a2⟩ := HK1.out.rows (.tail _ (.tail _ (.head _)))
  go_wp2_with fail
  refine (T1.out _).mono ?_
  rintro e v2 ⟨db, V1, e1, rfl, ta1, hb⟩
  have HK2 : Hid (Kept _ (v2.alloc (.cells #[.bool db.neg, .string (bs db.s), .int .i64 db.e] 25))) := (HK1.out.below hb).dec db
  have HB2 : Hid (Below w.heap.size w (v2.alloc (.cells #[.bool db.neg, .string (bs db.s), .int .i64 db.e] 25))) := (HB1.out.thru hb).alloc (HB1.out.thru hb).size _
  clear hb HK1 HB1 a0 a1 a2
  have TA1 : Hid _ := ta1
  clear ta1
  obtain ⟨a0, a1, a2⟩ := HK2.out.rows (.tail _ (.tail _ (.tail _ (.tail _ (.head _)))))
  go_wp2_with fail
  refine (T2.out _).mono ?_
  rintro e v3 ⟨dc, V2, e2, rfl, ta2, hb⟩
  have HK3 : Hid (Kept _ (v3.alloc (.cells #[.bool dc.neg, .string (bs dc.s), .int .i64 dc.e] 25))) := (HK2.out.below hb).dec dc
  have HB3 : Hid (Below w.heap.size w (v3.alloc (.cells #[.bool dc.neg, .string (bs dc.s), .int .i64 dc.e] 25))) := (HB2.out.thru hb).alloc (HB2.out.thru hb).size _
  clear hb HK2 HB2 a0 a1 a2
  have TA2 : Hid _ := ta2
  clear ta2
  obtain ⟨⟨x1, x2, x3, x4, x5, x6, x7⟩, ⟨y1, y2, y3, y4, y5, y6, y7⟩, ⟨z1, z2, z3, z4, z5, z6, z7⟩, ⟨u1, u2, u3, u4, u5, u6⟩, o1, o2, o3, o4, o5⟩ := ring_laws (Nat.le_refl _) TA0.out TA1.out TA2.out
  obtain ⟨AB, hAB⟩ : ∃ X, X = addD da db := ⟨_, rfl⟩
  obtain ⟨BC, hBC⟩ : ∃ X, X = addD db dc := ⟨_, rfl⟩
  obtain ⟨ABC, hABC⟩ : ∃ X, X = addD (addD da db) dc := ⟨_, rfl⟩
  obtain ⟨PP, hPP⟩ : ∃ X, X = mulD da db := ⟨_, rfl⟩
  obtain ⟨RR, hRR⟩ : ∃ X, X = mulD db dc := ⟨_, rfl⟩
  obtain ⟨SS, hSS⟩ : ∃ X, X = mulD (mulD da db) dc := ⟨_, rfl⟩
  obtain ⟨UU, hUU⟩ : ∃ X, X = mulD da (addD db dc) := ⟨_, rfl⟩
  obtain ⟨VV, hVV⟩ : ∃ X, X = mulD da dc := ⟨_, rfl⟩
  obtain ⟨NB, hNB⟩ : ∃ X, X = negD db := ⟨_, rfl⟩
  obtain ⟨LL, hLL⟩ : ∃ X, X = addD da (negD db) := ⟨_, rfl⟩
  obtain ⟨N1, hN1⟩ : ∃ X, X = mkD 1 0 := ⟨_, rfl⟩
  obtain ⟨N0, hN0⟩ : ∃ X, X = mkD 0 0 := ⟨_, rfl⟩
  have oa := TA0.out.rep.ok
  have ob := TA1.out.rep.ok
  have oc := TA2.out.rep.ok
  have kAB : AB.ok := by rw [hAB]; exact o1
  have kBC : BC.ok := by rw [hBC]; exact o2
  have kPP : PP.ok := by rw [hPP]; exact o3
  have kRR : RR.ok := by rw [hRR]; exact o4
  have kVV : VV.ok := by rw [hVV]; exact o5
  have kNB : NB.ok := by rw [hNB]; exact negD_ok ob
  have kN1 : N1.ok := by rw [hN1]; exact (int_room (n := 1) (by decide)).ok
  have kN0 : N0.ok := by rw [hN0]; exact (int_room (n := 0) (by decide)).ok
  have C1 : Hid _ := add_c (r := AB) oa ob x1 hAB.symm w HTAB.out
  have C2 : Hid _ := add_c (r := AB) ob oa x2 (x6.trans hAB.symm) w HTAB.out
  have C3 : Hid _ := add_c (r := BC) ob oc x3 hBC.symm w HTAB.out
  have C4 : Hid _ := add_c (r := ABC) kAB oc (by rw [hAB]; exact x4) (by rw [hABC, hAB]) w HTAB.out
  have C5 : Hid _ := add_c (r := ABC) oa kBC (by rw [hBC]; exact x5) (by rw [hABC, hBC]; exact x7) w HTAB.out
  have C6 : Hid _ := mul_c (r := PP) oa ob y1 hPP.symm w HTAB.out
  have C7 : Hid _ := mul_c (r := PP) ob oa y2 (y6.trans hPP.symm) w HTAB.out
  have C8 : Hid _ := mul_c (r := RR) ob oc y3 hRR.symm w HTAB.out
  have C9 : Hid _ := mul_c (r := SS) kPP oc (by rw [hPP]; exact y4) (by rw [hSS, hPP]) w HTAB.out
  have C10 : Hid _ := mul_c (r := SS) oa kRR (by rw [hRR]; exact y5) (by rw [hSS, hRR]; exact y7) w HTAB.out
  have C11 : Hid _ := mul_c (r := UU) oa kBC (by rw [hBC]; exact z1) (by rw [hUU, hBC]) w HTAB.out
  have C12 : Hid _ := mul_c (r := VV) oa oc z2 hVV.symm w HTAB.out
  have C13 : Hid _ := add_c (r := UU) kPP kVV (by rw [hPP, hVV]; exact z3) (by rw [hPP, hVV, hUU]; exact z6.symm) w HTAB.out
  have C14 : Hid _ := sub_c (r := da) kAB ob (by rw [hAB]; exact z4) (by rw [hAB]; exact z7) w HTAB.out
  have C15 : Hid _ := neg_c (r := NB) ob hNB.symm w
  have C16 : Hid _ := sub_c (r := LL) oa ob z5 hLL.symm w HTAB.out
  have C17 : Hid _ := add_c (r := LL) oa kNB (by rw [hNB]; exact z5) (by rw [hNB, hLL]) w HTAB.out
  have C18 : Hid _ := sub_c (r := Dc.none) oa oa u1 u4 w HTAB.out
  have C19 : Hid _ := mul_c (r := da) oa kN1 (by rw [hN1]; exact u2) (by rw [hN1]; exact u5) w HTAB.out
  have C20 : Hid _ := mul_c (r := Dc.none) oa kN0 (by rw [hN0]; exact u3) (by rw [hN0]; exact u6) w HTAB.out
  simp only [show Dc.none.neg = false from rfl, show bs Dc.none.s = ⟨#[]⟩ from rfl, show Dc.none.e = 0 from rfl] at C18 C20
  have I1 : Hid _ := int_c (n := 1) (by decide) (by decide) hN1.symm w HTAB.out
  have I0 : Hid _ := int_c (n := 0) (by decide) (by decide) hN0.symm w HTAB.out
  have KN : Hid (∀ W, Below w.heap.size w W → Calls Tryz.prog 14 #[] W fun e w' => e = .returned (.bool true) ∧ Below W.heap.size W w') := fun W hW => known_any W (HTAB.out.below hW)
  clear TA0 TA1 TA2 T0 T1 T2 x1 x2 x3 x4 x5 x6 x7 y1 z1 y2 z2 y3 z3 y4 z4 y5 z5 y6 z6 y7 z7 u1 u2 u3 u4 u5 u6 o1 o2 o3 o4 o5 oa ob oc hAB hBC hABC hPP hRR hSS hUU hVV hNB hLL hN1 hN0 kAB kBC kPP kRR kVV kNB kN1 kN0 HTAB
  obtain ⟨a0, a1, a2⟩ := HK3.out.decs (.tail _ (.tail _ (.head _)))
  obtain ⟨b0, b1, b2⟩ := HK3.out.decs (.tail _ (.head _))
  go_wp2_with fail
  refine (C1.out _ HB3.out).mono ?_
  rintro e v4 ⟨rfl, hb⟩
  have HK4 : Hid (Kept _ (v4.alloc (.cells #[.bool AB.neg, .string (bs AB.s), .int .i64 AB.e] 25))) := (HK3.out.below hb).dec AB
  have HB4 : Hid (Below w.heap.size w (v4.alloc (.cells #[.bool AB.neg, .string (bs AB.s), .int .i64 AB.e] 25))) := (HB3.out.thru hb).alloc (HB3.out.thru hb).size _
  clear hb HK3 HB3 a0 a1 a2 b0 b1 b2
  obtain ⟨a0, a1, a2⟩ := HK4.out.decs (.tail _ (.tail _ (.head _)))
  obtain ⟨b0, b1, b2⟩ := HK4.out.decs (.tail _ (.tail _ (.tail _ (.head _))))
  go_wp2_with fail
  refine (C2.out _ HB4.out).mono ?_
  rintro e v5 ⟨rfl, hb⟩
  have HK5 : Hid (Kept _ (v5.alloc (.cells #[.bool AB.neg, .string (bs AB.s), .int .i64 AB.e] 25))) := (HK4.out.below hb).dec AB
  have HB5 : Hid (Below w.heap.size w (v5.alloc (.cells #[.bool AB.neg, .string (bs AB.s), .int .i64 AB.e] 25))) := (HB4.out.thru hb).alloc (HB4.out.thru hb).size _
  clear hb HK4 HB4 a0 a1 a2 b0 b1 b2
  obtain ⟨a0, a1, a2⟩ := HK5.out.decs (.tail _ (.tail _ (.tail _ (.head _))))
  obtain ⟨b0, b1, b2⟩ := HK5.out.decs (.tail _ (.tail _ (.head _)))
  go_wp2_with fail
  refine (C3.out _ HB5.out).mono ?_
  rintro e v6 ⟨rfl, hb⟩
  have HK6 : Hid (Kept _ (v6.alloc (.cells #[.bool BC.neg, .string (bs BC.s), .int .i64 BC.e] 25))) := (HK5.out.below hb).dec BC
  have HB6 : Hid (Below w.heap.size w (v6.alloc (.cells #[.bool BC.neg, .string (bs BC.s), .int .i64 BC.e] 25))) := (HB5.out.thru hb).alloc (HB5.out.thru hb).size _
  clear hb HK5 HB5 a0 a1 a2 b0 b1 b2
  obtain ⟨a0, a1, a2⟩ := HK6.out.decs (.tail _ (.tail _ (.head _)))
  obtain ⟨b0, b1, b2⟩ := HK6.out.decs (.tail _ (.tail _ (.tail _ (.head _))))
  go_wp2_with fail
  refine (C4.out _ HB6.out).mono ?_
  rintro e v7 ⟨rfl, hb⟩
  have HK7 : Hid (Kept _ (v7.alloc (.cells #[.bool ABC.neg, .string (bs ABC.s), .int .i64 ABC.e] 25))) := (HK6.out.below hb).dec ABC
  have HB7 : Hid (Below w.heap.size w (v7.alloc (.cells #[.bool ABC.neg, .string (bs ABC.s), .int .i64 ABC.e] 25))) := (HB6.out.thru hb).alloc (HB6.out.thru hb).size _
  clear hb HK6 HB6 a0 a1 a2 b0 b1 b2
  obtain ⟨a0, a1, a2⟩ := HK7.out.decs (.tail _ (.tail _ (.tail _ (.tail _ (.tail _ (.tail _ (.head _)))))))
  obtain ⟨b0, b1, b2⟩ := HK7.out.decs (.tail _ (.head _))
  go_wp2_with fail
  refine (C5.out _ HB7.out).mono ?_
  rintro e v8 ⟨rfl, hb⟩
  have HK8 : Hid (Kept _ (v8.alloc (.cells #[.bool ABC.neg, .string (bs ABC.s), .int .i64 ABC.e] 25))) := (HK7.out.below hb).dec ABC
  have HB8 : Hid (Below w.heap.size w (v8.alloc (.cells #[.bool ABC.neg, .string (bs ABC.s), .int .i64 ABC.e] 25))) := (HB7.out.thru hb).alloc (HB7.out.thru hb).size _
  clear hb HK7 HB7 a0 a1 a2 b0 b1 b2
  go_wp2_with fail
  refine (all_c 5 _ (by decide) rfl 26 _ _ (by simp)).mono ?_
  rintro e v9 ⟨rfl, hb⟩
  have HK9 : Hid (Kept _ v9) := (HK8.out.more _).below hb
  have HB9 : Hid (Below w.heap.size w v9) := (HB8.out.alloc HB8.out.size _).thru hb
  clear hb HK8 HB8
  obtain ⟨a0, a1, a2⟩ := HK9.out.decs (.tail _ (.tail _ (.tail _ (.tail _ (.tail _ (.tail _ (.tail _ (.head _))))))))
  obtain ⟨b0, b1, b2⟩ := HK9.out.decs (.tail _ (.tail _ (.tail _ (.tail _ (.tail _ (.tail _ (.head _)))))))
  obtain ⟨c0, c1, c2⟩ := HK9.out.decs (.tail _ (.tail _ (.tail _ (.tail _ (.head _)))))
  obtain ⟨d0, d1, d2⟩ := HK9.out.decs (.tail _ (.tail _ (.tail _ (.head _))))
  obtain ⟨f0, f1, f2⟩ := HK9.out.decs (.tail _ (.head _))
  obtain ⟨g0, g1, g2⟩ := HK9.out.decs (.head _)
  go_wp2_with fail
  refine (C6.out _ HB9.out).mono ?_
  rintro e v10 ⟨rfl, hb⟩
  have HK10 : Hid (Kept _ (v10.alloc (.cells #[.bool PP.neg, .string (bs PP.s), .int .i64 PP.e] 25))) := (HK9.out.below hb).dec PP
  have HB10 : Hid (Below w.heap.size w (v10.alloc (.cells #[.bool PP.neg, .string (bs PP.s), .int .i64 PP.e] 25))) := (HB9.out.thru hb).alloc (HB9.out.thru hb).size _
  clear hb HK9 HB9 a0 a1 a2 b0 b1 b2 c0 c1 c2 d0 d1 d2 f0 f1 f2 g0 g1 g2
  obtain ⟨a0, a1, a2⟩ := HK10.out.decs (.tail _ (.tail _ (.tail _ (.tail _ (.tail _ (.tail _ (.tail _ (.head _))))))))
  obtain ⟨b0, b1, b2⟩ := HK10.out.decs (.tail _ (.tail _ (.tail _ (.tail _ (.tail _ (.tail _ (.tail _ (.tail _ (.head _)))))))))
  go_wp2_with fail
  refine (C7.out _ HB10.out).mono ?_
  rintro e v11 ⟨rfl, hb⟩
  have HK11 : Hid (Kept _ (v11.alloc (.cells #[.bool PP.neg, .string (bs PP.s), .int .i64 PP.e] 25))) := (HK10.out.below hb).dec PP
  have HB11 : Hid (Below w.heap.size w (v11.alloc (.cells #[.bool PP.neg, .string (bs PP.s), .int .i64 PP.e] 25))) := (HB10.out.thru hb).alloc (HB10.out.thru hb).size _
  clear hb HK10 HB10 a0 a1 a2 b0 b1 b2
  obtain ⟨a0, a1, a2⟩ := HK11.out.decs (.tail _ (.tail _ (.tail _ (.tail _ (.tail _ (.tail _ (.tail _ (.tail _ (.head _)))))))))
  obtain ⟨b0, b1, b2⟩ := HK11.out.decs (.tail _ (.tail _ (.tail _ (.tail _ (.tail _ (.tail _ (.tail _ (.head _))))))))
  go_wp2_with fail
  refine (C8.out _ HB11.out).mono ?_
  rintro e v12 ⟨rfl, hb⟩
  have HK12 : Hid (Kept _ (v12.alloc (.cells #[.bool RR.neg, .string (bs RR.s), .int .i64 RR.e] 25))) := (HK11.out.below hb).dec RR
  have HB12 : Hid (Below w.heap.size w (v12.alloc (.cells #[.bool RR.neg, .string (bs RR.s), .int .i64 RR.e] 25))) := (HB11.out.thru hb).alloc (HB11.out.thru hb).size _
  clear hb HK11 HB11 a0 a1 a2 b0 b1 b2
  obtain ⟨a0, a1, a2⟩ := HK12.out.decs (.tail _ (.tail _ (.head _)))
  obtain ⟨b0, b1, b2⟩ := HK12.out.decs (.tail _ (.tail _ (.tail _ (.tail _ (.tail _ (.tail _ (.tail _ (.tail _ (.head _)))))))))
  go_wp2_with fail
  refine (C9.out _ HB12.out).mono ?_
  rintro e v13 ⟨rfl, hb⟩
  have HK13 : Hid (Kept _ (v13.alloc (.cells #[.bool SS.neg, .string (bs SS.s), .int .i64 SS.e] 25))) := (HK12.out.below hb).dec SS
  have HB13 : Hid (Below w.heap.size w (v13.alloc (.cells #[.bool SS.neg, .string (bs SS.s), .int .i64 SS.e] 25))) := (HB12.out.thru hb).alloc (HB12.out.thru hb).size _
  clear hb HK12 HB12 a0 a1 a2 b0 b1 b2
  obtain ⟨a0, a1, a2⟩ := HK13.out.decs (.tail _ (.tail _ (.tail _ (.tail _ (.tail _ (.tail _ (.tail _ (.tail _ (.tail _ (.tail _ (.tail _ (.head _))))))))))))
  obtain ⟨b0, b1, b2⟩ := HK13.out.decs (.tail _ (.head _))
  go_wp2_with fail
  refine (C10.out _ HB13.out).mono ?_
  rintro e v14 ⟨rfl, hb⟩
  have HK14 : Hid (Kept _ (v14.alloc (.cells #[.bool SS.neg, .string (bs SS.s), .int .i64 SS.e] 25))) := (HK13.out.below hb).dec SS
  have HB14 : Hid (Below w.heap.size w (v14.alloc (.cells #[.bool SS.neg, .string (bs SS.s), .int .i64 SS.e] 25))) := (HB13.out.thru hb).alloc (HB13.out.thru hb).size _
  clear hb HK13 HB13 a0 a1 a2 b0 b1 b2
  go_wp2_with fail
  refine (all_c 5 _ (by decide) rfl 26 _ _ (by simp)).mono ?_
  rintro e v15 ⟨rfl, hb⟩
  have HK15 : Hid (Kept _ v15) := (HK14.out.more _).below hb
  have HB15 : Hid (Below w.heap.size w v15) := (HB14.out.alloc HB14.out.size _).thru hb
  clear hb HK14 HB14
  obtain ⟨a0, a1, a2⟩ := HK15.out.decs (.tail _ (.tail _ (.tail _ (.tail _ (.tail _ (.tail _ (.tail _ (.tail _ (.tail _ (.tail _ (.tail _ (.tail _ (.head _)))))))))))))
  obtain ⟨b0, b1, b2⟩ := HK15.out.decs (.tail _ (.tail _ (.tail _ (.tail _ (.tail _ (.tail _ (.tail _ (.head _))))))))
  obtain ⟨c0, c1, c2⟩ := HK15.out.decs (.tail _ (.tail _ (.tail _ (.tail _ (.head _)))))
  obtain ⟨d0, d1, d2⟩ := HK15.out.decs (.tail _ (.tail _ (.tail _ (.head _))))
  obtain ⟨f0, f1, f2⟩ := HK15.out.decs (.tail _ (.head _))
  obtain ⟨g0, g1, g2⟩ := HK15.out.decs (.head _)
  go_wp2_with fail
  refine (C11.out _ HB15.out).mono ?_
  rintro e v16 ⟨rfl, hb⟩
  have HK16 : Hid (Kept _ (v16.alloc (.cells #[.bool UU.neg, .string (bs UU.s), .int .i64 UU.e] 25))) := (HK15.out.below hb).dec UU
  have HB16 : Hid (Below w.heap.size w (v16.alloc (.cells #[.bool UU.neg, .string (bs UU.s), .int .i64 UU.e] 25))) := (HB15.out.thru hb).alloc (HB15.out.thru hb).size _
  clear hb HK15 HB15 a0 a1 a2 b0 b1 b2 c0 c1 c2 d0 d1 d2 f0 f1 f2 g0 g1 g2
  obtain ⟨a0, a1, a2⟩ := HK16.out.decs (.tail _ (.tail _ (.tail _ (.tail _ (.tail _ (.tail _ (.tail _ (.tail _ (.tail _ (.tail _ (.tail _ (.tail _ (.tail _ (.head _))))))))))))))
  obtain ⟨b0, b1, b2⟩ := HK16.out.decs (.tail _ (.tail _ (.tail _ (.tail _ (.tail _ (.tail _ (.tail _ (.tail _ (.tail _ (.tail _ (.tail _ (.head _))))))))))))
  go_wp2_with fail
  refine (C12.out _ HB16.out).mono ?_
  rintro e v17 ⟨rfl, hb⟩
  have HK17 : Hid (Kept _ (v17.alloc (.cells #[.bool VV.neg, .string (bs VV.s), .int .i64 VV.e] 25))) := (HK16.out.below hb).dec VV
  have HB17 : Hid (Below w.heap.size w (v17.alloc (.cells #[.bool VV.neg, .string (bs VV.s), .int .i64 VV.e] 25))) := (HB16.out.thru hb).alloc (HB16.out.thru hb).size _
  clear hb HK16 HB16 a0 a1 a2 b0 b1 b2
  obtain ⟨a0, a1, a2⟩ := HK17.out.decs (.tail _ (.tail _ (.tail _ (.tail _ (.tail _ (.tail _ (.head _)))))))
  obtain ⟨b0, b1, b2⟩ := HK17.out.decs (.head _)
  go_wp2_with fail
  refine (C13.out _ HB17.out).mono ?_
  rintro e v18 ⟨rfl, hb⟩
  have HK18 : Hid (Kept _ (v18.alloc (.cells #[.bool UU.neg, .string (bs UU.s), .int .i64 UU.e] 25))) := (HK17.out.below hb).dec UU
  have HB18 : Hid (Below w.heap.size w (v18.alloc (.cells #[.bool UU.neg, .string (bs UU.s), .int .i64 UU.e] 25))) := (HB17.out.thru hb).alloc (HB17.out.thru hb).size _
  clear hb HK17 HB17 a0 a1 a2 b0 b1 b2
  obtain ⟨a0, a1, a2⟩ := HK18.out.decs (.tail _ (.tail _ (.tail _ (.tail _ (.tail _ (.tail _ (.tail _ (.tail _ (.tail _ (.tail _ (.tail _ (.tail _ (.head _)))))))))))))
  obtain ⟨b0, b1, b2⟩ := HK18.out.decs (.tail _ (.tail _ (.tail _ (.tail _ (.tail _ (.tail _ (.tail _ (.tail _ (.tail _ (.tail _ (.tail _ (.tail _ (.tail _ (.tail _ (.head _)))))))))))))))
  go_wp2_with fail
  refine (C14.out _ HB18.out).mono ?_
  rintro e v19 ⟨rfl, hb⟩
  have HK19 : Hid (Kept _ (v19.alloc (.cells #[.bool da.neg, .string (bs da.s), .int .i64 da.e] 25))) := (HK18.out.below hb).dec da
  have HB19 : Hid (Below w.heap.size w (v19.alloc (.cells #[.bool da.neg, .string (bs da.s), .int .i64 da.e] 25))) := (HB18.out.thru hb).alloc (HB18.out.thru hb).size _
  clear hb HK18 HB18 a0 a1 a2 b0 b1 b2
  obtain ⟨a0, a1, a2⟩ := HK19.out.decs (.tail _ (.tail _ (.tail _ (.tail _ (.tail _ (.tail _ (.tail _ (.tail _ (.tail _ (.tail _ (.tail _ (.tail _ (.tail _ (.tail _ (.tail _ (.head _))))))))))))))))
  go_wp2_with fail
  refine (C15.out _ HB19.out).mono ?_
  rintro e v20 ⟨rfl, hb⟩
  have HK20 : Hid (Kept _ (v20.alloc (.cells #[.bool NB.neg, .string (bs NB.s), .int .i64 NB.e] 25))) := (HK19.out.below hb).dec NB
  have HB20 : Hid (Below w.heap.size w (v20.alloc (.cells #[.bool NB.neg, .string (bs NB.s), .int .i64 NB.e] 25))) := (HB19.out.thru hb).alloc (HB19.out.thru hb).size _
  clear hb HK19 HB19 a0 a1 a2
  obtain ⟨a0, a1, a2⟩ := HK20.out.decs (.tail _ (.tail _ (.tail _ (.tail _ (.tail _ (.tail _ (.tail _ (.tail _ (.tail _ (.tail _ (.tail _ (.tail _ (.tail _ (.tail _ (.tail _ (.tail _ (.tail _ (.head _))))))))))))))))))
  obtain ⟨b0, b1, b2⟩ := HK20.out.decs (.tail _ (.tail _ (.tail _ (.tail _ (.tail _ (.tail _ (.tail _ (.tail _ (.tail _ (.tail _ (.tail _ (.tail _ (.tail _ (.tail _ (.tail _ (.tail _ (.head _)))))))))))))))))
  go_wp2_with fail
  refine (C16.out _ HB20.out).mono ?_
  rintro e v21 ⟨rfl, hb⟩
  have HK21 : Hid (Kept _ (v21.alloc (.cells #[.bool LL.neg, .string (bs LL.s), .int .i64 LL.e] 25))) := (HK20.out.below hb).dec LL
  have HB21 : Hid (Below w.heap.size w (v21.alloc (.cells #[.bool LL.neg, .string (bs LL.s), .int .i64 LL.e] 25))) := (HB20.out.thru hb).alloc (HB20.out.thru hb).size _
  clear hb HK20 HB20 a0 a1 a2 b0 b1 b2
  obtain ⟨a0, a1, a2⟩ := HK21.out.decs (.tail _ (.tail _ (.tail _ (.tail _ (.tail _ (.tail _ (.tail _ (.tail _ (.tail _ (.tail _ (.tail _ (.tail _ (.tail _ (.tail _ (.tail _ (.tail _ (.tail _ (.tail _ (.head _)))))))))))))))))))
  obtain ⟨b0, b1, b2⟩ := HK21.out.decs (.tail _ (.head _))
  go_wp2_with fail
  refine (C17.out _ HB21.out).mono ?_
  rintro e v22 ⟨rfl, hb⟩
  have HK22 : Hid (Kept _ (v22.alloc (.cells #[.bool LL.neg, .string (bs LL.s), .int .i64 LL.e] 25))) := (HK21.out.below hb).dec LL
  have HB22 : Hid (Below w.heap.size w (v22.alloc (.cells #[.bool LL.neg, .string (bs LL.s), .int .i64 LL.e] 25))) := (HB21.out.thru hb).alloc (HB21.out.thru hb).size _
  clear hb HK21 HB21 a0 a1 a2 b0 b1 b2
  go_wp2_with fail
  refine (all_c 7 _ (by decide) rfl 26 _ _ (by simp)).mono ?_
  rintro e v23 ⟨rfl, hb⟩
  have HK23 : Hid (Kept _ v23) := (HK22.out.more _).below hb
  have HB23 : Hid (Below w.heap.size w v23) := (HB22.out.alloc HB22.out.size _).thru hb
  clear hb HK22 HB22
  obtain ⟨a0, a1, a2⟩ := HK23.out.decs (.tail _ (.tail _ (.tail _ (.tail _ (.tail _ (.tail _ (.tail _ (.tail _ (.tail _ (.tail _ (.tail _ (.tail _ (.tail _ (.tail _ (.tail _ (.tail _ (.tail _ (.tail _ (.tail _ (.head _))))))))))))))))))))
  obtain ⟨b0, b1, b2⟩ := HK23.out.decs (.tail _ (.tail _ (.tail _ (.tail _ (.tail _ (.tail _ (.head _)))))))
  obtain ⟨c0, c1, c2⟩ := HK23.out.decs (.tail _ (.tail _ (.tail _ (.tail _ (.head _)))))
  obtain ⟨d0, d1, d2⟩ := HK23.out.decs (.tail _ (.tail _ (.tail _ (.head _))))
  obtain ⟨f0, f1, f2⟩ := HK23.out.decs (.tail _ (.head _))
  obtain ⟨g0, g1, g2⟩ := HK23.out.decs (.head _)
  go_wp2_with fail
  refine (C18.out _ HB23.out).mono ?_
  rintro e v24 ⟨rfl, hb⟩
  have HK24 : Hid (Kept _ (v24.alloc (.cells #[.bool false, .string ⟨#[]⟩, .int .i64 0] 25))) := (HK23.out.below hb).nought
  have HB24 : Hid (Below w.heap.size w (v24.alloc (.cells #[.bool false, .string ⟨#[]⟩, .int .i64 0] 25))) := (HB23.out.thru hb).alloc (HB23.out.thru hb).size _
  clear hb HK23 HB23 a0 a1 a2 b0 b1 b2 c0 c1 c2 d0 d1 d2 f0 f1 f2 g0 g1 g2
  go_upto_region 28 with fail
  obtain ⟨w124, hw⟩ : ∃ X, X = v24.alloc (.cells #[.bool false, .string ⟨#[]⟩, .int .i64 0] 25) := ⟨_, rfl⟩
  rw [← hw] at HK24 HB24 ⊢
  clear hw
  have HA : Hid _ := HK24.out.drow (.tail _ (.tail _ (.tail _ (.tail _ (.tail _ (.tail _ (.tail _ (.tail _ (.tail _ (.tail _ (.tail _ (.tail _ (.tail _ (.tail _ (.tail _ (.tail _ (.tail _ (.tail _ (.tail _ (.tail _ (.head _)))))))))))))))))))))
  have h1 : once [(212, 0), (213, 1), (214, 2), (211, 3), (215, 4), (216, 5), (35, 6)] = true := by kernel_rfl
  have h2 : within [(212, 0), (213, 1), (214, 2), (211, 3), (215, 4), (216, 5), (35, 6)] 246 = true := by kernel_rfl
  have hstab : ∀ j (ys : Nat → Value) W W', (fun (i : Nat) (xs : Nat → Value) (W : World) => match i with
    | 0 => (xs 0) = .agg #[.bool da.neg, .string (bs da.s), .int .i64 da.e]
    | 1 => (xs 1) = .agg #[.bool N1.neg, .string (bs N1.s), .int .i64 N1.e]
    | 2 => (xs 2) = .tuple #[.agg #[.bool da.neg, .string (bs da.s), .int .i64 da.e], .int .i64 0]
    | 3 => (xs 3) = .tuple #[.agg #[.bool da.neg, .string (bs da.s), .int .i64 da.e], .int .i64 0]
    | 4 => (xs 4) = .agg #[.bool da.neg, .string (bs da.s), .int .i64 da.e]
    | 5 => (xs 5) = .int .i64 0
    | 6 => ∃ g x y z, xs 6 = .pointer (some ⟨g, 0, none⟩) ∧ w124.heap.size ≤ g ∧ g < W.heap.size ∧ W.heap[g]? = some (.cells #[x, y, z] 25 (0, 0))
    | 7 => ∃ g, xs 6 = .pointer (some ⟨g, 0, none⟩) ∧ w124.heap.size ≤ g ∧ W.heap[g]? = some (.cells #[.bool da.neg, .string (bs da.s), .int .i64 da.e] 25 (0, 0))
    | _ => True) j ys W → Below W.heap.size W W' → (fun (i : Nat) (xs : Nat → Value) (W : World) => match i with
    | 0 => (xs 0) = .agg #[.bool da.neg, .string (bs da.s), .int .i64 da.e]
    | 1 => (xs 1) = .agg #[.bool N1.neg, .string (bs N1.s), .int .i64 N1.e]
    | 2 => (xs 2) = .tuple #[.agg #[.bool da.neg, .string (bs da.s), .int .i64 da.e], .int .i64 0]
    | 3 => (xs 3) = .tuple #[.agg #[.bool da.neg, .string (bs da.s), .int .i64 da.e], .int .i64 0]
    | 4 => (xs 4) = .agg #[.bool da.neg, .string (bs da.s), .int .i64 da.e]
    | 5 => (xs 5) = .int .i64 0
    | 6 => ∃ g x y z, xs 6 = .pointer (some ⟨g, 0, none⟩) ∧ w124.heap.size ≤ g ∧ g < W.heap.size ∧ W.heap[g]? = some (.cells #[x, y, z] 25 (0, 0))
    | 7 => ∃ g, xs 6 = .pointer (some ⟨g, 0, none⟩) ∧ w124.heap.size ≤ g ∧ W.heap[g]? = some (.cells #[.bool da.neg, .string (bs da.s), .int .i64 da.e] 25 (0, 0))
    | _ => True) j ys W' := by
    intro j ys W W' h hb
    match j, h with
    | 0, h => exact h
    | 1, h => exact h
    | 2, h => exact h
    | 3, h => exact h
    | 4, h => exact h
    | 5, h => exact h
    | 6, ⟨g, x, y, z, s1, s2, s3, s4⟩ => exact ⟨g, x, y, z, s1, s2, Nat.lt_of_lt_of_le s3 hb.size, hb.blk s4 s3⟩
    | 7, ⟨g, s1, s2, s4⟩ => exact ⟨g, s1, s2, hb.blk s4 (blk_lt s4)⟩
    | _ + 8, h => exact trivial
  refine wp_region_flow3 8 9 [(212, 0), (213, 1), (214, 2), (211, 3), (215, 4), (216, 5), (35, 6)] [6] (fun (i : Nat) (xs : Nat → Value) (W : World) => match i with
    | 0 => (xs 0) = .agg #[.bool da.neg, .string (bs da.s), .int .i64 da.e]
    | 1 => (xs 1) = .agg #[.bool N1.neg, .string (bs N1.s), .int .i64 N1.e]
    | 2 => (xs 2) = .tuple #[.agg #[.bool da.neg, .string (bs da.s), .int .i64 da.e], .int .i64 0]
    | 3 => (xs 3) = .tuple #[.agg #[.bool da.neg, .string (bs da.s), .int .i64 da.e], .int .i64 0]
    | 4 => (xs 4) = .agg #[.bool da.neg, .string (bs da.s), .int .i64 da.e]
    | 5 => (xs 5) = .int .i64 0
    | 6 => ∃ g x y z, xs 6 = .pointer (some ⟨g, 0, none⟩) ∧ w124.heap.size ≤ g ∧ g < W.heap.size ∧ W.heap[g]? = some (.cells #[x, y, z] 25 (0, 0))
    | 7 => ∃ g, xs 6 = .pointer (some ⟨g, 0, none⟩) ∧ w124.heap.size ≤ g ∧ W.heap[g]? = some (.cells #[.bool da.neg, .string (bs da.s), .int .i64 da.e] 25 (0, 0))
    | _ => True) (fun _ W => Below w124.heap.size w124 W) ((Below.refl _ _).drew) (by kernel_rfl) (by kernel_rfl) (by kernel_rfl) (by decide) (by kernel_rfl) h1 (by kernel_rfl) ?_ ?_ ?_ ?_
  · intro j hj xs W h
    simp only [List.mem_cons, List.not_mem_nil, or_false] at hj
    subst hj
    obtain ⟨g, _, _, _, s1, _, s3, _⟩ := h; exact ⟨g, s1, s3⟩
  · intro j xs ys W e h
    match j, e, h with
    | 0, e, h => exact (e 0 (.inl rfl)).symm.trans h
    | 1, e, h => exact (e 1 (.inl rfl)).symm.trans h
    | 2, e, h => exact (e 2 (.inl rfl)).symm.trans h
    | 3, e, h => exact (e 3 (.inl rfl)).symm.trans h
    | 4, e, h => exact (e 4 (.inl rfl)).symm.trans h
    | 5, e, h => exact (e 5 (.inl rfl)).symm.trans h
    | 6, e, ⟨g, x, y, z, s1, r⟩ => exact ⟨g, x, y, z, (e 6 (.inl rfl)).symm.trans s1, r⟩
    | 7, e, ⟨g, s1, r⟩ => exact ⟨g, (e 6 (.inr (by kernel_rfl))).symm.trans s1, r⟩
    | _ + 8, e, h => exact trivial
  · refine ⟨⟨⟨⟨⟨⟨⟨⟨trivial, ?_⟩, ?_⟩, ?_⟩, ?_⟩, ?_⟩, ?_⟩, ?_⟩, ?_⟩
    · refine flow3_step _ (some 212) rfl rfl rfl h1 h2 (fun D W _ h => h) (fun D W W' h hb => h.thru hb) hstab fun ac xs W D he hni hb hS K hK => ?_
      exact wp_load_row 25 (.tmp 7) rfl v1.heap.size (he 7) _ _ _ _ (hb.blk HA.out (blk_lt HA.out)) Tryz.underlying25 rfl (by kernel_rfl) (hK _ _ rfl (Below.refl _ _) (fun h => absurd h (by decide)))
    · refine flow3_step _ (some 213) rfl rfl rfl h1 h2 (fun D W _ h => h) (fun D W W' h hb => h.thru hb) hstab fun ac xs W D he hni hb hS K hK => ?_
      refine op_call 29 _ _ rfl _ (by simp only [List.map, eval_const]) (by go_simp) (I1.out W (HB24.out.thru hb)) ?_
      rintro e' W' ⟨rfl, hb'⟩
      exact ⟨_, rfl, hK _ _ (rfl) hb' (fun h => absurd h (by decide))⟩
    · refine flow3_step _ (some 214) rfl rfl rfl h1 h2 (fun D W _ h => h) (fun D W W' h hb => h.thru hb) hstab fun ac xs W D he hni hb hS K hK => ?_
      have e0 : ac.eval (.tmp 212) = _ := (he 212).trans (hS 0 (by kernel_rfl))
      have e1 : ac.eval (.tmp 213) = _ := (he 213).trans (hS 1 (by kernel_rfl))
      refine op_call 33 _ _ rfl _ (by simp only [List.map, e0, e1]) (by go_simp) (C19.out W (HB24.out.thru hb)) ?_
      rintro e' W' ⟨rfl, hb'⟩
      exact ⟨_, rfl, hK _ _ (rfl) hb' (fun h => absurd h (by decide))⟩
    · refine flow3_step _ (some 211) rfl rfl rfl h1 h2 (fun D W _ h => h) (fun D W W' h hb => h.thru hb) hstab fun ac xs W D he hni hb hS K hK => ?_
      exact op_move (.tmp 214) (.inl rfl) (hK _ _ ((he 214).trans (hS 2 (by kernel_rfl))) (Below.refl _ _) (fun h => absurd h (by decide)))
    · refine flow3_step _ (some 215) rfl rfl rfl h1 h2 (fun D W _ h => h) (fun D W W' h hb => h.thru hb) hstab fun ac xs W D he hni hb hS K hK => ?_
      have e0 : ac.eval (.tmp 211) = _ := (he 211).trans (hS 3 (by kernel_rfl))
      refine op_any (.extract (.tmp 211) 0) rfl (.agg #[.bool da.neg, .string (bs da.s), .int .i64 da.e]) (fun o' ho' => ?_) (hK _ _ rfl (Below.refl _ _) (fun h => absurd h (by decide)))
      simp only [execOp, ho', e0]
      go_simp
    · refine flow3_step _ (some 216) rfl rfl rfl h1 h2 (fun D W _ h => h) (fun D W W' h hb => h.thru hb) hstab fun ac xs W D he hni hb hS K hK => ?_
      have e0 : ac.eval (.tmp 211) = _ := (he 211).trans (hS 3 (by kernel_rfl))
      refine op_any (.extract (.tmp 211) 1) rfl (.int .i64 0) (fun o' ho' => ?_) (hK _ _ rfl (Below.refl _ _) (fun h => absurd h (by decide)))
      simp only [execOp, ho', e0]
      go_simp
    · refine flow3_step _ (some 35) rfl rfl rfl h1 h2 (fun D W _ h => h) (fun D W W' h hb => h.thru hb) hstab fun ac xs W D he hni hb hS K hK => ?_
      have hsz := hb.size
      refine op_anyw (.alloc 25) rfl (.pointer (some ⟨W.heap.size, 0, none⟩)) (W.alloc (.cells #[.bool false, .string ⟨#[]⟩, .int .i64 0] 25)) ?_ ?_
      · intro o' ho'
        simp only [execOp, ho']
        go_simp
      · exact hK _ _ ⟨_, _, _, _, rfl, by omega, by simp, heap_alloc_new _ _⟩ ((Below.refl _ _).alloc (Nat.le_refl _) _) (fun _ => rfl)
    · refine flow3_store _ rfl rfl rfl h1 h2 (by decide) fun ac xs W D he hni hb hS K hK => ?_
      obtain ⟨g, z1, z2, z3, s1, s2, s3, s4⟩ := hS 6 (by kernel_rfl)
      have hvy : ac.eval (.tmp 215) = .agg #[.bool da.neg, .string (bs da.s), .int .i64 da.e] := (he 215).trans (hS 4 (by kernel_rfl))
      refine wp_store_row 25 (.tmp 35) (.tmp 215) rfl g #[.bool da.neg, .string (bs da.s), .int .i64 da.e] ((he 35).trans s1) hvy _ _ s4 (by kernel_rfl) rfl (by simp [Value.oneCell']) ?_
      have hself := setRow_heap W g _ #[.bool da.neg, .string (bs da.s), .int .i64 da.e] 25 (0, 0) s4
      refine hK _ ⟨g, s1, s2, hself⟩ (below_setRow hb s2 _) ?_
      intro j ys h
      match j, h with
      | 0, h => exact h
      | 1, h => exact h
      | 2, h => exact h
      | 3, h => exact h
      | 4, h => exact h
      | 5, h => exact h
      | 6, ⟨g1, x, y, z, u1, u2, u3, u4⟩ =>
        by_cases hg : g1 = g
        · subst hg; exact ⟨g1, _, _, _, u1, u2, by rw [setRow_size]; exact u3, hself⟩
        · exact ⟨g1, x, y, z, u1, u2, by rw [setRow_size]; exact u3, (setRow_other W g g1 _ hg).trans u4⟩
      | 7, ⟨g1, u1, u2, u4⟩ =>
        by_cases hg : g1 = g
        · subst hg; exact ⟨g1, u1, u2, hself⟩
        · exact ⟨g1, u1, u2, (setRow_other W g g1 _ hg).trans u4⟩
      | _ + 8, h => exact trivial
  · intro xs w125 D hall hb hS hD
    have s4 : xs 4 = _ := hS 4 (by decide)
    have s5 : xs 5 = _ := hS 5 (by decide)
    obtain ⟨g, s6, s7, s9⟩ := hS 7 (by decide)
    have HK25 : Hid (Kept _ w125) := (HK24.out.below hb).cons (o := decO da) s9
    have HB25 : Hid (Below w.heap.size w w125) := HB24.out.thru hb
    generalize xs 0 = x0 at *
    generalize xs 1 = x1 at *
    generalize xs 2 = x2 at *
    generalize xs 3 = x3 at *
    simp only [layAll, s4, s5, s6]
    clear hS hD hall hstab s4 s5 s6 s7 s9 hb HK24 HB24 HA
    go_upto_region 29 with fail
    have HA : Hid _ := HK25.out.drow (.tail _ (.tail _ (.tail _ (.tail _ (.tail _ (.tail _ (.tail _ (.tail _ (.tail _ (.tail _ (.tail _ (.tail _ (.tail _ (.tail _ (.tail _ (.tail _ (.tail _ (.tail _ (.tail _ (.tail _ (.tail _ (.head _))))))))))))))))))))))
    have h1 : once [(218, 0), (219, 1), (220, 2), (217, 3), (221, 4), (222, 5), (36, 6)] = true := by kernel_rfl
    have h2 : within [(218, 0), (219, 1), (220, 2), (217, 3), (221, 4), (222, 5), (36, 6)] 246 = true := by kernel_rfl
    have hstab : ∀ j (ys : Nat → Value) W W', (fun (i : Nat) (xs : Nat → Value) (W : World) => match i with
      | 0 => (xs 0) = .agg #[.bool da.neg, .string (bs da.s), .int .i64 da.e]
      | 1 => (xs 1) = .agg #[.bool N0.neg, .string (bs N0.s), .int .i64 N0.e]
      | 2 => (xs 2) = .tuple #[.agg #[.bool false, .string ⟨#[]⟩, .int .i64 0], .int .i64 0]
      | 3 => (xs 3) = .tuple #[.agg #[.bool false, .string ⟨#[]⟩, .int .i64 0], .int .i64 0]
      | 4 => (xs 4) = .agg #[.bool false, .string ⟨#[]⟩, .int .i64 0]
      | 5 => (xs 5) = .int .i64 0
      | 6 => ∃ g x y z, xs 6 = .pointer (some ⟨g, 0, none⟩) ∧ w125.heap.size ≤ g ∧ g < W.heap.size ∧ W.heap[g]? = some (.cells #[x, y, z] 25 (0, 0))
      | 7 => ∃ g, xs 6 = .pointer (some ⟨g, 0, none⟩) ∧ w125.heap.size ≤ g ∧ W.heap[g]? = some (.cells #[.bool false, .string ⟨#[]⟩, .int .i64 0] 25 (0, 0))
      | _ => True) j ys W → Below W.heap.size W W' → (fun (i : Nat) (xs : Nat → Value) (W : World) => match i with
      | 0 => (xs 0) = .agg #[.bool da.neg, .string (bs da.s), .int .i64 da.e]
      | 1 => (xs 1) = .agg #[.bool N0.neg, .string (bs N0.s), .int .i64 N0.e]
      | 2 => (xs 2) = .tuple #[.agg #[.bool false, .string ⟨#[]⟩, .int .i64 0], .int .i64 0]
      | 3 => (xs 3) = .tuple #[.agg #[.bool false, .string ⟨#[]⟩, .int .i64 0], .int .i64 0]
      | 4 => (xs 4) = .agg #[.bool false, .string ⟨#[]⟩, .int .i64 0]
      | 5 => (xs 5) = .int .i64 0
      | 6 => ∃ g x y z, xs 6 = .pointer (some ⟨g, 0, none⟩) ∧ w125.heap.size ≤ g ∧ g < W.heap.size ∧ W.heap[g]? = some (.cells #[x, y, z] 25 (0, 0))
      | 7 => ∃ g, xs 6 = .pointer (some ⟨g, 0, none⟩) ∧ w125.heap.size ≤ g ∧ W.heap[g]? = some (.cells #[.bool false, .string ⟨#[]⟩, .int .i64 0] 25 (0, 0))
      | _ => True) j ys W' := by
      intro j ys W W' h hb
      match j, h with
      | 0, h => exact h
      | 1, h => exact h
      | 2, h => exact h
      | 3, h => exact h
      | 4, h => exact h
      | 5, h => exact h
      | 6, ⟨g, x, y, z, s1, s2, s3, s4⟩ => exact ⟨g, x, y, z, s1, s2, Nat.lt_of_lt_of_le s3 hb.size, hb.blk s4 s3⟩
      | 7, ⟨g, s1, s2, s4⟩ => exact ⟨g, s1, s2, hb.blk s4 (blk_lt s4)⟩
      | _ + 8, h => exact trivial
    refine wp_region_flow3 8 9 [(218, 0), (219, 1), (220, 2), (217, 3), (221, 4), (222, 5), (36, 6)] [6] (fun (i : Nat) (xs : Nat → Value) (W : World) => match i with
      | 0 => (xs 0) = .agg #[.bool da.neg, .string (bs da.s), .int .i64 da.e]
      | 1 => (xs 1) = .agg #[.bool N0.neg, .string (bs N0.s), .int .i64 N0.e]
      | 2 => (xs 2) = .tuple #[.agg #[.bool false, .string ⟨#[]⟩, .int .i64 0], .int .i64 0]
      | 3 => (xs 3) = .tuple #[.agg #[.bool false, .string ⟨#[]⟩, .int .i64 0], .int .i64 0]
      | 4 => (xs 4) = .agg #[.bool false, .string ⟨#[]⟩, .int .i64 0]
      | 5 => (xs 5) = .int .i64 0
      | 6 => ∃ g x y z, xs 6 = .pointer (some ⟨g, 0, none⟩) ∧ w125.heap.size ≤ g ∧ g < W.heap.size ∧ W.heap[g]? = some (.cells #[x, y, z] 25 (0, 0))
      | 7 => ∃ g, xs 6 = .pointer (some ⟨g, 0, none⟩) ∧ w125.heap.size ≤ g ∧ W.heap[g]? = some (.cells #[.bool false, .string ⟨#[]⟩, .int .i64 0] 25 (0, 0))
      | _ => True) (fun _ W => Below w125.heap.size w125 W) ((Below.refl _ _).drew) (by kernel_rfl) (by kernel_rfl) (by kernel_rfl) (by decide) (by kernel_rfl) h1 (by kernel_rfl) ?_ ?_ ?_ ?_
    · intro j hj xs W h
      simp only [List.mem_cons, List.not_mem_nil, or_false] at hj
      subst hj
      obtain ⟨g, _, _, _, s1, _, s3, _⟩ := h; exact ⟨g, s1, s3⟩
    · intro j xs ys W e h
      match j, e, h with
      | 0, e, h => exact (e 0 (.inl rfl)).symm.trans h
      | 1, e, h => exact (e 1 (.inl rfl)).symm.trans h
      | 2, e, h => exact (e 2 (.inl rfl)).symm.trans h
      | 3, e, h => exact (e 3 (.inl rfl)).symm.trans h
      | 4, e, h => exact (e 4 (.inl rfl)).symm.trans h
      | 5, e, h => exact (e 5 (.inl rfl)).symm.trans h
      | 6, e, ⟨g, x, y, z, s1, r⟩ => exact ⟨g, x, y, z, (e 6 (.inl rfl)).symm.trans s1, r⟩
      | 7, e, ⟨g, s1, r⟩ => exact ⟨g, (e 6 (.inr (by kernel_rfl))).symm.trans s1, r⟩
      | _ + 8, e, h => exact trivial
    · refine ⟨⟨⟨⟨⟨⟨⟨⟨trivial, ?_⟩, ?_⟩, ?_⟩, ?_⟩, ?_⟩, ?_⟩, ?_⟩, ?_⟩
      · refine flow3_step _ (some 218) rfl rfl rfl h1 h2 (fun D W _ h => h) (fun D W W' h hb => h.thru hb) hstab fun ac xs W D he hni hb hS K hK => ?_
        exact wp_load_row 25 (.tmp 7) rfl v1.heap.size (he 7) _ _ _ _ (hb.blk HA.out (blk_lt HA.out)) Tryz.underlying25 rfl (by kernel_rfl) (hK _ _ rfl (Below.refl _ _) (fun h => absurd h (by decide)))
      · refine flow3_step _ (some 219) rfl rfl rfl h1 h2 (fun D W _ h => h) (fun D W W' h hb => h.thru hb) hstab fun ac xs W D he hni hb hS K hK => ?_
        refine op_call 29 _ _ rfl _ (by simp only [List.map, eval_const]) (by go_simp) (I0.out W (HB25.out.thru hb)) ?_
        rintro e' W' ⟨rfl, hb'⟩
        exact ⟨_, rfl, hK _ _ (rfl) hb' (fun h => absurd h (by decide))⟩
      · refine flow3_step _ (some 220) rfl rfl rfl h1 h2 (fun D W _ h => h) (fun D W W' h hb => h.thru hb) hstab fun ac xs W D he hni hb hS K hK => ?_
        have e0 : ac.eval (.tmp 218) = _ := (he 218).trans (hS 0 (by kernel_rfl))
        have e1 : ac.eval (.tmp 219) = _ := (he 219).trans (hS 1 (by kernel_rfl))
        refine op_call 33 _ _ rfl _ (by simp only [List.map, e0, e1]) (by go_simp) (C20.out W (HB25.out.thru hb)) ?_
        rintro e' W' ⟨rfl, hb'⟩
        exact ⟨_, rfl, hK _ _ (rfl) hb' (fun h => absurd h (by decide))⟩
      · refine flow3_step _ (some 217) rfl rfl rfl h1 h2 (fun D W _ h => h) (fun D W W' h hb => h.thru hb) hstab fun ac xs W D he hni hb hS K hK => ?_
        exact op_move (.tmp 220) (.inl rfl) (hK _ _ ((he 220).trans (hS 2 (by kernel_rfl))) (Below.refl _ _) (fun h => absurd h (by decide)))
      · refine flow3_step _ (some 221) rfl rfl rfl h1 h2 (fun D W _ h => h) (fun D W W' h hb => h.thru hb) hstab fun ac xs W D he hni hb hS K hK => ?_
        have e0 : ac.eval (.tmp 217) = _ := (he 217).trans (hS 3 (by kernel_rfl))
        refine op_any (.extract (.tmp 217) 0) rfl (.agg #[.bool false, .string ⟨#[]⟩, .int .i64 0]) (fun o' ho' => ?_) (hK _ _ rfl (Below.refl _ _) (fun h => absurd h (by decide)))
        simp only [execOp, ho', e0]
        go_simp
      · refine flow3_step _ (some 222) rfl rfl rfl h1 h2 (fun D W _ h => h) (fun D W W' h hb => h.thru hb) hstab fun ac xs W D he hni hb hS K hK => ?_
        have e0 : ac.eval (.tmp 217) = _ := (he 217).trans (hS 3 (by kernel_rfl))
        refine op_any (.extract (.tmp 217) 1) rfl (.int .i64 0) (fun o' ho' => ?_) (hK _ _ rfl (Below.refl _ _) (fun h => absurd h (by decide)))
        simp only [execOp, ho', e0]
        go_simp
      · refine flow3_step _ (some 36) rfl rfl rfl h1 h2 (fun D W _ h => h) (fun D W W' h hb => h.thru hb) hstab fun ac xs W D he hni hb hS K hK => ?_
        have hsz := hb.size
        refine op_anyw (.alloc 25) rfl (.pointer (some ⟨W.heap.size, 0, none⟩)) (W.alloc (.cells #[.bool false, .string ⟨#[]⟩, .int .i64 0] 25)) ?_ ?_
        · intro o' ho'
          simp only [execOp, ho']
          go_simp
        · exact hK _ _ ⟨_, _, _, _, rfl, by omega, by simp, heap_alloc_new _ _⟩ ((Below.refl _ _).alloc (Nat.le_refl _) _) (fun _ => rfl)
      · refine flow3_store _ rfl rfl rfl h1 h2 (by decide) fun ac xs W D he hni hb hS K hK => ?_
        obtain ⟨g, z1, z2, z3, s1, s2, s3, s4⟩ := hS 6 (by kernel_rfl)
        have hvy : ac.eval (.tmp 221) = .agg #[.bool false, .string ⟨#[]⟩, .int .i64 0] := (he 221).trans (hS 4 (by kernel_rfl))
        refine wp_store_row 25 (.tmp 36) (.tmp 221) rfl g #[.bool false, .string ⟨#[]⟩, .int .i64 0] ((he 36).trans s1) hvy _ _ s4 (by kernel_rfl) rfl (by simp [Value.oneCell']) ?_
        have hself := setRow_heap W g _ #[.bool false, .string ⟨#[]⟩, .int .i64 0] 25 (0, 0) s4
        refine hK _ ⟨g, s1, s2, hself⟩ (below_setRow hb s2 _) ?_
        intro j ys h
        match j, h with
        | 0, h => exact h
        | 1, h => exact h
        | 2, h => exact h
        | 3, h => exact h
        | 4, h => exact h
        | 5, h => exact h
        | 6, ⟨g1, x, y, z, u1, u2, u3, u4⟩ =>
          by_cases hg : g1 = g
          · subst hg; exact ⟨g1, _, _, _, u1, u2, by rw [setRow_size]; exact u3, hself⟩
          · exact ⟨g1, x, y, z, u1, u2, by rw [setRow_size]; exact u3, (setRow_other W g g1 _ hg).trans u4⟩
        | 7, ⟨g1, u1, u2, u4⟩ =>
          by_cases hg : g1 = g
          · subst hg; exact ⟨g1, u1, u2, hself⟩
          · exact ⟨g1, u1, u2, (setRow_other W g g1 _ hg).trans u4⟩
        | _ + 8, h => exact trivial
    · intro xs w126 D hall hb hS hD
      have s4 : xs 4 = _ := hS 4 (by decide)
      have s5 : xs 5 = _ := hS 5 (by decide)
      obtain ⟨g, s6, s7, s9⟩ := hS 7 (by decide)
      have HK26 : Hid (Kept _ w126) := (HK25.out.below hb).cons (o := decO Dc.none) s9
      have HB26 : Hid (Below w.heap.size w w126) := HB25.out.thru hb
      generalize xs 0 = x0 at *
      generalize xs 1 = x1 at *
      generalize xs 2 = x2 at *
      generalize xs 3 = x3 at *
      simp only [layAll, s4, s5, s6]
      clear hS hD hall hstab s4 s5 s6 s7 s9 hb HK25 HB25 HA
      go_wp2_with fail
      refine (all_c 3 _ (by decide) rfl 26 _ _ (by simp)).mono ?_
      rintro e v27 ⟨rfl, hb⟩
      have HK27 : Hid (Kept _ v27) := (HK26.out.more _).below hb
      have HB27 : Hid (Below w.heap.size w v27) := (HB26.out.alloc HB26.out.size _).thru hb
      clear hb HK26 HB26
      obtain ⟨a0, a1, a2⟩ := HK27.out.nones (.tail _ (.tail _ (.head _)))
      obtain ⟨b0, b1, b2⟩ := HK27.out.decs (.tail _ (.head _))
      obtain ⟨c0, c1, c2⟩ := HK27.out.decs (.tail _ (.tail _ (.tail _ (.tail _ (.tail _ (.tail _ (.tail _ (.tail _ (.tail _ (.tail _ (.tail _ (.tail _ (.tail _ (.tail _ (.tail _ (.tail _ (.tail _ (.tail _ (.tail _ (.tail _ (.tail _ (.tail _ (.head _)))))))))))))))))))))))
      obtain ⟨d0, d1, d2⟩ := HK27.out.nones (.head _)
      go_wp2_with fail
      refine (KN.out _ HB27.out).mono ?_
      rintro e v28 ⟨rfl, hb⟩
      have HK28 : Hid (Kept _ v28) := HK27.out.below hb
      have HB28 : Hid (Below w.heap.size w v28) := HB27.out.thru hb
      clear hb HK27 HB27 a0 a1 a2 b0 b1 b2 c0 c1 c2 d0 d1 d2
      go_wp2
      go_ret
      exact ⟨rfl, HB28.out⟩
end Go.Proofs.YtpfnfhikhlceoaaGreatDoor
