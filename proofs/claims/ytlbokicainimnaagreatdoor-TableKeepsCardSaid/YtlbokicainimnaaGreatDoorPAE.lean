import Derived.Test.YtlbokicainimnaaGreatDoorPAD
set_option maxRecDepth 100000
namespace Go.Proofs.YtlbokicainimnaaGreatDoor
open Go.RowKit
set_option maxHeartbeats 16000000 in
theorem to53_walk (mode : Int) (hm : 1 ≤ mode ∧ mode ≤ 6) (neg rt : Bool) (a a' : Option Addr) (m c m' c' : Nat) (E sz : Int) (g : Mag) (w : World)
  (hok : g.Ok) (hszb : -400000 ≤ sz ∧ sz ≤ 400000)
  (hsize : ∀ W, Below w.heap.size w W → Calls Tryz.prog 172 #[.agg #[.bool neg, .slice a m c, .slice a' m' c', .int .i64 E, .bool rt]] W fun e w' => e = .returned (.int .i64 sz) ∧ Below W.heap.size W w')
  (hbes : ∀ W e, Below w.heap.size w W → -1074 ≤ e → e ≤ 1041 → g.Q e < 1152921504606846976 → Calls Tryz.prog 173 #[.agg #[.bool neg, .slice a m c, .slice a' m' c', .int .i64 E, .bool rt], .int .i64 e] W (BesG g e W))
  (hstart : sz - 56 ≤ 1031 → g.Q (max (-1074) (sz - 56)) < 2^(53 + 4)) (hhigh : -1074 ≤ sz - 56 → 2^53 ≤ g.Q (sz - 56)) (hH : ∀ e, g.H e = -1 ∨ g.H e = 0 ∨ g.H e = 1) :
  Calls Tryz.prog 113 #[.agg #[.bool neg, .slice a m c, .slice a' m' c', .int .i64 E, .bool rt], .agg #[.int .i64 53, .int .i64 (-1074), .int .i64 1023], .int .i64 mode] w (FlQ neg (outG 53 (-1074) 971 neg mode g) w) := by
 obtain ⟨O, hO⟩ : ∃ O, O = outG 53 (-1074) 971 neg mode g := ⟨_, rfl⟩
 rw [← hO]
 have HO : Hid (O = outG 53 (-1074) 971 neg mode g) := hO
 have HSZ : Hid (∀ W, Below w.heap.size w W → Calls Tryz.prog 172 #[.agg #[.bool neg, .slice a m c, .slice a' m' c', .int .i64 E, .bool rt]] W fun e w' => e = .returned (.int .i64 sz) ∧ Below W.heap.size W w') := hsize
 have HBS : Hid (∀ W e, Below w.heap.size w W → -1074 ≤ e → e ≤ 1041 → g.Q e < 1152921504606846976 → Calls Tryz.prog 173 #[.agg #[.bool neg, .slice a m c, .slice a' m' c', .int .i64 E, .bool rt], .int .i64 e] W (BesG g e W)) := hbes
 have HOK : Hid g.Ok := hok
 have HST : Hid (sz - 56 ≤ 1031 → g.Q (max (-1074) (sz - 56)) < 2^(53 + 4)) := hstart
 have HHI : Hid (-1074 ≤ sz - 56 → 2^53 ≤ g.Q (sz - 56)) := hhigh
 have HHH : Hid (∀ e, g.H e = -1 ∨ g.H e = 0 ∨ g.H e = 1) := hH
 have HUP : Hid (∀ (odd : Bool) (half : Int) (W : World), (half = -1 ∨ half = 0 ∨ half = 1) → Calls Tryz.prog 170 #[.int .i64 mode, .bool neg, .bool odd, .int .i64 half] W fun e w' => e = .returned (.bool (upW mode neg odd half)) ∧ w' = W) := fun odd half W hh => up_any mode neg odd half W hh hm
 have HM6 : Hid (1 ≤ mode ∧ mode ≤ 6) := hm
 clear hsize hbes hstart hhigh hH hok hO hm
 go_enter Tryz.func113, Tryz.ntmps113
 go_upto_region 1 with fail
 have hb0 := below4 w (.cells #[.bool neg, .slice a m c, .slice a' m' c', .int .i64 E, .bool rt] 141) (.cells #[.int .i64 53, .int .i64 (-1074), .int .i64 1023] 144) (.cells #[.bool false, .bool false, .int .u64 0, .int .i64 0] 137) (.cells #[.bool false, .bool false, .bool false] 76)
 have q0 := heap_alloc4_0 w (.cells #[.bool neg, .slice a m c, .slice a' m' c', .int .i64 E, .bool rt] 141) (.cells #[.int .i64 53, .int .i64 (-1074), .int .i64 1023] 144) (.cells #[.bool false, .bool false, .int .u64 0, .int .i64 0] 137) (.cells #[.bool false, .bool false, .bool false] 76)
 have q1 := heap_alloc4_1 w (.cells #[.bool neg, .slice a m c, .slice a' m' c', .int .i64 E, .bool rt] 141) (.cells #[.int .i64 53, .int .i64 (-1074), .int .i64 1023] 144) (.cells #[.bool false, .bool false, .int .u64 0, .int .i64 0] 137) (.cells #[.bool false, .bool false, .bool false] 76)
 have q2 := heap_alloc4_2 w (.cells #[.bool neg, .slice a m c, .slice a' m' c', .int .i64 E, .bool rt] 141) (.cells #[.int .i64 53, .int .i64 (-1074), .int .i64 1023] 144) (.cells #[.bool false, .bool false, .int .u64 0, .int .i64 0] 137) (.cells #[.bool false, .bool false, .bool false] 76)
 have q3 := heap_alloc4_3 w (.cells #[.bool neg, .slice a m c, .slice a' m' c', .int .i64 E, .bool rt] 141) (.cells #[.int .i64 53, .int .i64 (-1074), .int .i64 1023] 144) (.cells #[.bool false, .bool false, .int .u64 0, .int .i64 0] 137) (.cells #[.bool false, .bool false, .bool false] 76)
 have hs4 : ((((w.alloc (.cells #[.bool neg, .slice a m c, .slice a' m' c', .int .i64 E, .bool rt] 141)).alloc (.cells #[.int .i64 53, .int .i64 (-1074), .int .i64 1023] 144)).alloc (.cells #[.bool false, .bool false, .int .u64 0, .int .i64 0] 137)).alloc (.cells #[.bool false, .bool false, .bool false] 76)).heap.size = w.heap.size + 4 := by simp
 generalize ((((w.alloc (.cells #[.bool neg, .slice a m c, .slice a' m' c', .int .i64 E, .bool rt] 141)).alloc (.cells #[.int .i64 53, .int .i64 (-1074), .int .i64 1023] 144)).alloc (.cells #[.bool false, .bool false, .int .u64 0, .int .i64 0] 137)).alloc (.cells #[.bool false, .bool false, .bool false] 76)) = w4 at *
 have HC : Hid (∀ W, Below w4.heap.size w4 W → (W.cell? ⟨w.heap.size, 0, none⟩ = some (.bool neg) ∧ W.cell? ⟨w.heap.size, 1, none⟩ = some (.slice a m c) ∧ W.cell? ⟨w.heap.size, 2, none⟩ = some (.slice a' m' c') ∧ W.cell? ⟨w.heap.size, 3, none⟩ = some (.int .i64 E) ∧ W.cell? ⟨w.heap.size, 4, none⟩ = some (.bool rt)) ∧
   (W.cell? ⟨w.heap.size + 1, 0, none⟩ = some (.int .i64 53) ∧ W.cell? ⟨w.heap.size + 1, 1, none⟩ = some (.int .i64 (-1074)) ∧ W.cell? ⟨w.heap.size + 1, 2, none⟩ = some (.int .i64 1023))) :=
  fun W hW => ⟨row5 (hW.blk q0 (by omega)), row3 (hW.blk q1 (by omega))⟩
 have HB0 : Hid (Below w.heap.size w w4) := hb0
 have hbs : Below w4.heap.size w4 w4 := Below.refl _ _
 have HQ0 : Hid _ := q0
 have HQ1 : Hid _ := q1
 have HQ2 : Hid _ := q2
 have HQ3 : Hid _ := q3
 have HS4 : Hid (w4.heap.size = w.heap.size + 4) := hs4
 clear hb0 q0 q1 q2 q3 hs4
 have HSZ2 : Hid (∀ W, Below w4.heap.size w4 W → Calls Tryz.prog 172 #[.agg #[.bool neg, .slice a m c, .slice a' m' c', .int .i64 E, .bool rt]] W fun e w' => e = .returned (.int .i64 sz) ∧ Below W.heap.size W w') :=
  fun W hW => HSZ.out W (HB0.out.trans (hW.mono (by have := HS4.out; omega)))
 obtain ⟨e0, he0⟩ : ∃ e0, max (-1074) (sz - 56) = e0 := ⟨_, rfl⟩
 have i1 : IntKind.i64.wrap (sz - 53) = sz - 53 := IntWalk.i64_in _ (by omega)
 have i2 : IntKind.i64.wrap (sz - 53 - 3) = sz - 56 := by clear i1; rw [show sz - 53 - 3 = sz - 56 by omega]; exact IntWalk.i64_in _ (by omega)
 go_cut [8] (fun e wx => e = .int .i64 e0 ∧ Below w4.heap.size w4 wx)
 case first => as_aux_lemma =>
  go_region_held3 (fun W => Below w4.heap.size w4 W ∧ (W.cell? ⟨w.heap.size, 0, none⟩ = some (.bool neg) ∧ W.cell? ⟨w.heap.size, 1, none⟩ = some (.slice a m c) ∧ W.cell? ⟨w.heap.size, 2, none⟩ = some (.slice a' m' c') ∧ W.cell? ⟨w.heap.size, 3, none⟩ = some (.int .i64 E) ∧ W.cell? ⟨w.heap.size, 4, none⟩ = some (.bool rt)) ∧
   (W.cell? ⟨w.heap.size + 1, 0, none⟩ = some (.int .i64 53) ∧ W.cell? ⟨w.heap.size + 1, 1, none⟩ = some (.int .i64 (-1074)) ∧ W.cell? ⟨w.heap.size + 1, 2, none⟩ = some (.int .i64 1023)))
   (first | exact ⟨‹Below w4.heap.size w4 _›, HC.out _ ‹Below w4.heap.size w4 _›⟩ | exact ⟨(‹Below w4.heap.size w4 _›).drew, HC.out _ (‹Below w4.heap.size w4 _›).drew⟩)
   (first | (go_at_call 172; refine (HSZ2.out _ (by first | assumption | exact Below.drew (by assumption))).mono ?_; rintro e w' ⟨rfl, hb⟩; have hB2 : Below w4.heap.size w4 w' := Below.thru (by first | assumption | exact Below.drew (by assumption)) hb))
  all_goals go_wp2
  all_goals go_meet
  exact ⟨rfl, by assumption⟩
 case rest =>
 obtain ⟨rfl, hbc⟩ := hcut
 clear i1 i2 hbs
 have HBC : Hid (Below w4.heap.size w4 wc) := hbc
 obtain ⟨⟨x0, x1, x2, x3, x4⟩, y0, y1, y2⟩ := HC.out _ hbc
 have HE0 : Hid (max (-1074) (sz - 56) = e0) := he0
 have he0b : -1074 ≤ e0 ∧ e0 ≤ 400000 := by omega
 clear he0 hbc
 have HBW4 : Hid (Below w.heap.size w wc) := HB0.out.trans (HBC.out.mono (by have := HS4.out; omega))
 have r0 : Hid _ := HBC.out.blk HQ0.out (hp_lt HQ0.out)
 have r1 : Hid _ := HBC.out.blk HQ1.out (hp_lt HQ1.out)
 have r2 : Hid _ := HBC.out.blk HQ2.out (hp_lt HQ2.out)
 have r3 : Hid _ := HBC.out.blk HQ3.out (hp_lt HQ3.out)
 have HOA : Hid (∀ W, Calls Tryz.prog 54 #[.int .u64 9007199254740991] W (NatQ 9007199254740991 W)) := fun W => of_any 9007199254740991 W (by decide)
 have HOB : Hid (∀ W, Calls Tryz.prog 54 #[.int .u64 1] W (NatQ 1 W)) := fun W => of_any 1 W (by decide)
 have HF : Hid (∀ W, Below wc.heap.size wc W → W.heap[w.heap.size]? = some (.cells #[.bool neg, .slice a m c, .slice a' m' c', .int .i64 E, .bool rt] 141 (0, 0))) := fun W hW => hW.blk r0.out (hp_lt r0.out)
 have HG : Hid (∀ W, Below wc.heap.size wc W → W.cell? ⟨w.heap.size + 1, 0, none⟩ = some (.int .i64 53)) := fun W hW => (row3 (hW.blk r1.out (hp_lt r1.out))).1
 have hbs : Below wc.heap.size wc wc := Below.refl _ _
 have hwc0 : w.heap.size + 4 ≤ wc.heap.size := by have := HBC.out.size; have := HS4.out; omega
 clear HSZ2 x1 x2 x3 x4 y1
 go_upto_if 27 with fail
 go_cut [8] (fun ev wx => ∃ (e1 : Int) (n1 d1 : Option Addr) (n2 n3 d2 d3 : Nat) (E2 : Int) (rt2 : Bool) (g2 : Mag), ev = .int .i64 e1 ∧ wx.heap[w.heap.size]? = some (.cells #[.bool neg, .slice n1 n2 n3, .slice d1 d2 d3, .int .i64 E2, .bool rt2] 141 (0, 0)) ∧
  wx.heap[w.heap.size + 1]? = some (.cells #[.int .i64 53, .int .i64 (-1074), .int .i64 1023] 144 (0, 0)) ∧ wx.heap[w.heap.size + 2]? = some (.cells #[.bool false, .bool false, .int .u64 0, .int .i64 0] 137 (0, 0)) ∧ wx.heap[w.heap.size + 3]? = some (.cells #[.bool false, .bool false, .bool false] 76 (0, 0)) ∧ Below w.heap.size w wx ∧ w.heap.size + 4 ≤ wx.heap.size ∧
  Hid (-1074 ≤ e1 ∧ e1 ≤ 1031 ∧ g2.Ok ∧ O = outG 53 (-1074) 971 neg mode g2 ∧ g2.Q e1 < 2^(53 + 4) ∧ (e1 = -1074 ∨ 2^53 ≤ g2.Q e1 ∨ IsE 53 (-1074) g2 e1) ∧ ∀ e, g2.H e = -1 ∨ g2.H e = 0 ∨ g2.H e = 1) ∧
  Hid (∀ W e, Below wx.heap.size wx W → -1074 ≤ e → e ≤ 1041 → g2.Q e < 1152921504606846976 → Calls Tryz.prog 173 #[.agg #[.bool neg, .slice n1 n2 n3, .slice d1 d2 d3, .int .i64 E2, .bool rt2], .int .i64 e] W (BesG g2 e W)))
 case first => as_aux_lemma =>
  by_cases hf : 1031 < e0
  ·have HHUGE : Hid (O = outG 53 (-1074) 971 neg mode (ratMag 9007199254740991 1 1031)) := by
    show _ = _
    have h1 := HE0.out
    have h2 := HHI.out (by omega)
    rw [HO.out, outG_huge (by decide) HOK.out (by decide) (Nat.le_trans h2 (HOK.out.anti (by omega))), outG_eq (e := 1031) (by decide) (ratMag_ok (by decide)) ⟨by decide, by decide, .inr (by decide)⟩]
    rfl
   go_upto_region 4 with fail
   clear x0 y0 y2
   have HK : Hid (∀ W, Below wc.heap.size wc W → W.cell? ⟨w.heap.size, 0, none⟩ = some (.bool neg) ∧ W.cell? ⟨w.heap.size + 1, 0, none⟩ = some (.int .i64 53)) := fun W hW => ⟨(row5 (HF.out _ hW)).1, HG.out _ hW⟩
   have j1 : IntKind.u64.wrap 9007199254740992 = 9007199254740992 := by decide
   have j2 : IntKind.u64.wrap 9007199254740991 = 9007199254740991 := by decide
   have j3 : IntKind.u64.wrap (9007199254740992 - 1) = 9007199254740991 := by decide
   have HEND : Hid (∀ (wy wx : World) (n1 d1 : Option Addr) (n2 n3 d2 d3 : Nat), Below wc.heap.size wc wy → (∀ k, w.heap.size < k → k < wc.heap.size → wx.heap[k]? = wc.heap[k]?) → Below w.heap.size w wx → wc.heap.size ≤ wx.heap.size →
     Num .u32 4294967296 wx (.slice n1 n2 n3) 9007199254740991 → Num .u32 4294967296 wx (.slice d1 d2 d3) 1 →
     wx.heap[w.heap.size + 1]? = some (.cells #[.int .i64 53, .int .i64 (-1074), .int .i64 1023] 144 (0, 0)) ∧ wx.heap[w.heap.size + 2]? = some (.cells #[.bool false, .bool false, .int .u64 0, .int .i64 0] 137 (0, 0)) ∧ wx.heap[w.heap.size + 3]? = some (.cells #[.bool false, .bool false, .bool false] 76 (0, 0)) ∧ Below w.heap.size w wx ∧ w.heap.size + 4 ≤ wx.heap.size ∧
     Hid ((-1074 : Int) ≤ 1031 ∧ (1031 : Int) ≤ 1031 ∧ (ratMag 9007199254740991 1 1031).Ok ∧ O = outG 53 (-1074) 971 neg mode (ratMag 9007199254740991 1 1031) ∧ (ratMag 9007199254740991 1 1031).Q 1031 < 2^(53 + 4) ∧ ((1031 : Int) = -1074 ∨ 2^53 ≤ (ratMag 9007199254740991 1 1031).Q 1031 ∨ IsE 53 (-1074) (ratMag 9007199254740991 1 1031) 1031) ∧ ∀ e, (ratMag 9007199254740991 1 1031).H e = -1 ∨ (ratMag 9007199254740991 1 1031).H e = 0 ∨ (ratMag 9007199254740991 1 1031).H e = 1) ∧
     Hid (∀ W e, Below wx.heap.size wx W → -1074 ≤ e → e ≤ 1041 → (ratMag 9007199254740991 1 1031).Q e < 1152921504606846976 → Calls Tryz.prog 173 #[.agg #[.bool neg, .slice n1 n2 n3, .slice d1 d2 d3, .int .i64 1031, .bool false], .int .i64 e] W (BesG (ratMag 9007199254740991 1 1031) e W))) := fun wy wx n1 d1 n2 n3 d2 d3 _ hoth hbw hsz hn hd =>
    ⟨(hoth _ (by omega) (by omega)).trans r1.out, (hoth _ (by omega) (by omega)).trans r2.out, (hoth _ (by omega) (by omega)).trans r3.out, hbw, by omega,
      ⟨by decide, by decide, ratMag_ok (by decide), HHUGE.out, by decide, .inr (.inr ⟨by decide, by decide, .inr (by decide)⟩), fun e => ratMag_half _ _ _ e⟩,
      fun W e hW h1 h2 h3 => bes_rat neg _ 9007199254740991 1 1031 e W ⟨_, _, rfl, hn.below (Nat.le_refl _) hW, hd.below (Nat.le_refl _) hW⟩ (bb := 53) (by decide) (by decide) (by decide) (by decide) (by decide) (by decide) (by omega) (by omega) (by omega)⟩
   go_region_held3 (fun W => W.cell? ⟨w.heap.size, 0, none⟩ = some (.bool neg) ∧ W.cell? ⟨w.heap.size + 1, 0, none⟩ = some (.int .i64 53))
    (first | exact HK.out _ ‹Below wc.heap.size wc _› | exact HK.out _ (‹Below wc.heap.size wc _›).drew | exact K6.out _ _ _ _ _)
    (first
     | (go_at_call 54; (with_reducible refine (HOA.out _).mono ?_); rintro e w7 ⟨v, rfl, hnumA, hb7⟩; obtain ⟨n1, n2, n3, rfl⟩ := Num.shape hnumA; have hB7 : Below wc.heap.size wc w7 := Below.thru (by first | assumption | exact Below.drew (by assumption)) hb7; have f0 := HF.out _ hB7; have g0 := HG.out _ hB7; obtain ⟨⟨a0, a1⟩, a2, a3, a4, a5, a6⟩ := wr5 f0; have b0 := fun u => (a2 u).1; have b1 := fun u => (a2 u).2; have b2 := fun u v => (a3 u v).1; have b3 := fun u v => (a3 u v).2; have b4 := fun u v x => (a4 u v x).1; have b5 := fun u v x => (a4 u v x).2; have b6 := fun u v x y => (a5 u v x y).1; have b7 := fun u v x y => (a5 u v x y).2; have A6 : Hid _ := a6; have K6 : Hid _ := keep5 a6 g0; have HRA : Hid _ := f0; have HNA : Hid _ := hnumA; have HBA : Hid _ := hb7; have G0 : Hid _ := g0; clear hnumA f0 g0 a2 a3 a4 a5 a6 hb7)
     | (go_at_call 54; (with_reducible refine (HOB.out _).mono ?_); rintro e w8 ⟨v, rfl, hnumB, hb8⟩; obtain ⟨d1, d2, d3, rfl⟩ := Num.shape hnumB; have hB8 : Below wc.heap.size wc w8 := Below.thru (by first | assumption | exact Below.drew (by assumption)) hb8; have f0 := HF.out _ hB8; have g0 := HG.out _ hB8; obtain ⟨⟨a0, a1⟩, a2, a3, a4, a5, a6⟩ := wr5 f0; have b0 := fun u => (a2 u).1; have b1 := fun u => (a2 u).2; have b2 := fun u v => (a3 u v).1; have b3 := fun u v => (a3 u v).2; have b4 := fun u v x => (a4 u v x).1; have b5 := fun u v x => (a4 u v x).2; have b6 := fun u v x y => (a5 u v x y).1; have b7 := fun u v x y => (a5 u v x y).2; have A6 : Hid _ := a6; have K6 : Hid _ := keep5 a6 g0; have HRB : Hid _ := f0; have HNB : Hid _ := hnumB; have HBB : Hid _ := hb8; have G0 : Hid _ := g0; clear hnumB f0 g0 a2 a3 a4 a5 a6 hb8))
   all_goals go_wp2
   all_goals go_meet
   all_goals first
    | exact ⟨1031, _, _, _, _, _, _, 1031, false, ratMag 9007199254740991 1 1031, rfl, A6.out _ _ _ _ _, HEND.out _ _ _ _ _ _ _ _ hB8 (fun k h1 h2 => (set5_other (by omega) _ _ _ _ _).trans (hB8.block k h2)) (set5_below (HBW4.out.trans (hB8.mono (by omega))) (Nat.le_refl _) _ _ _ _ _) (by simpa using hB8.size) (Num.set5 (Num.below HNA.out (Nat.le_refl _) HBB.out) HRB.out (by simp) _ _ _ _ _) (Num.set5 HNB.out HRB.out (by simp) _ _ _ _ _)⟩
    | exact ⟨1031, _, _, _, _, _, _, 1031, false, ratMag 9007199254740991 1 1031, rfl, A6.out _ _ _ _ _, HEND.out _ _ _ _ _ _ _ _ hB7 (fun k h1 h2 => (set5_other (by omega) _ _ _ _ _).trans (hB7.block k h2)) (set5_below (HBW4.out.trans (hB7.mono (by omega))) (Nat.le_refl _) _ _ _ _ _) (by simpa using hB7.size) (Num.set5 HNA.out HRA.out (by simp) _ _ _ _ _) (Num.set5 (Num.below HNB.out (Nat.le_refl _) HBA.out) HRA.out (by simp) _ _ _ _ _)⟩
  ·have HN : Hid (-1074 ≤ e0 ∧ e0 ≤ 1031 ∧ g.Ok ∧ O = outG 53 (-1074) 971 neg mode g ∧ g.Q e0 < 2^(53 + 4) ∧ (e0 = -1074 ∨ 2^53 ≤ g.Q e0 ∨ IsE 53 (-1074) g e0) ∧ ∀ e, g.H e = -1 ∨ g.H e = 0 ∨ g.H e = 1) := by
    have h1 := HE0.out
    have h2 := HST.out (by omega)
    rw [h1] at h2
    refine ⟨he0b.1, by omega, HOK.out, HO.out, h2, ?_, HHH.out⟩
    by_cases h3 : e0 = -1074
    ·exact .inl h3
    ·have h4 : sz - 56 = e0 := by omega
     have h5 := HHI.out (by omega)
     rw [h4] at h5
     exact .inr (.inl h5)
   go_wp2
   go_meet
   exact ⟨e0, a, a', m, c, m', c', E, rt, g, rfl, r0.out, r1.out, r2.out, r3.out, HBW4.out, hwc0, HN, fun W e hW h1 h2 h3 => HBS.out W e (HBW4.out.trans (hW.mono (by omega))) h1 h2 h3⟩
 case rest =>
 obtain ⟨e1, n1, d1, n2, n3, d2, d3, E2, rt2, g2, rfl, q0, q1, q2, q3, hbw, hsz4, HH, HBES⟩ := hcut
 have he1b : -1074 ≤ e1 ∧ e1 ≤ 1031 := ⟨HH.out.1, HH.out.2.1⟩
 have HB0 : Hid (Below w.heap.size w wc) := hbw
 have HC : Hid (∀ W, Below wc.heap.size wc W → (W.cell? ⟨w.heap.size, 0, none⟩ = some (.bool neg) ∧ W.cell? ⟨w.heap.size, 1, none⟩ = some (.slice n1 n2 n3) ∧ W.cell? ⟨w.heap.size, 2, none⟩ = some (.slice d1 d2 d3) ∧ W.cell? ⟨w.heap.size, 3, none⟩ = some (.int .i64 E2) ∧ W.cell? ⟨w.heap.size, 4, none⟩ = some (.bool rt2)) ∧
   (W.cell? ⟨w.heap.size + 1, 0, none⟩ = some (.int .i64 53) ∧ W.cell? ⟨w.heap.size + 1, 1, none⟩ = some (.int .i64 (-1074)) ∧ W.cell? ⟨w.heap.size + 1, 2, none⟩ = some (.int .i64 1023))) :=
  fun W hW => ⟨row5 (hW.blk q0 (by omega)), row3 (hW.blk q1 (by omega))⟩
 have HQ2 : Hid _ := q2
 have HQ3 : Hid _ := q3
 have HS4 : Hid (w.heap.size + 4 ≤ wc.heap.size) := hsz4
 clear HBW4 HF HG HOA HOB r0 r1 r2 r3 hbs x0 y0 y2 q0 q1 q2 q3 hbw hsz4 hwc0 HBC HE0 he0b HBS HST HHI HHH HSZ HOK HO
 obtain ⟨⟨x0, x1, x2, x3, x4⟩, y0, y1, y2⟩ := HC.out _ (Below.refl _ _)
 go_wp2_with fail
 with_reducible refine (HBES.out _ e1 (Below.refl _ _) he1b.1 (by omega) (by have := HH.out.2.2.2.2.1; omega)).mono ?_
 rintro ee w5 ⟨rfl, hb5⟩
 obtain ⟨q0, hq0⟩ : ∃ q, q = g2.Q e1 := ⟨_, rfl⟩
 obtain ⟨h0, hh0⟩ : ∃ h, h = g2.H e1 := ⟨_, rfl⟩
 obtain ⟨b0, hbb0⟩ : ∃ b, b = g2.Z e1 := ⟨_, rfl⟩
 rw [← hq0, ← hh0, ← hbb0]
 have HR0 : Hid (q0 = g2.Q e1 ∧ h0 = g2.H e1 ∧ b0 = g2.Z e1) := ⟨hq0, hh0, hbb0⟩
 have HI0 : Hid (GIk g2 53 e1 e1 q0) := ⟨⟨0, by simp, by omega, by rw [hq0]; simpa using HH.out.2.2.2.2.1⟩, .inl rfl⟩
 have HB5 : Hid (Below wc.heap.size wc w5) := hb5
 clear hq0 hh0 hbb0 hb5 x0 x1 x2 x3 x4 y0 y1 y2
 go_wp2
 go_loopw [8, 9, 10, 11] (fun ev qv hv bv wr => ∃ (e : Int) (q : Nat) (h : Int) (b : Bool), ev = .int .i64 e ∧ qv = .int .u64 (q : Nat) ∧ hv = .int .i64 h ∧ bv = .bool b ∧ -1074 ≤ e ∧ e ≤ 1040 ∧ q < 144115188075855872 ∧ Hid (q = g2.Q e ∧ h = g2.H e ∧ b = g2.Z e) ∧ Hid (GIk g2 53 e1 e q) ∧ Below wc.heap.size wc wr) (fun _ qv _ _ _ => (intOf qv).toNat)
 case atStart =>
  exact ⟨e1, q0, h0, b0, rfl, rfl, rfl, rfl, he1b.1, by omega, by have h1 := HH.out.2.2.2.2.1; have h2 := HR0.out.1; rw [← h2] at h1; exact h1, HR0, HI0, HB5.out⟩
 case round =>
  obtain ⟨e, q, h, b, rfl, rfl, rfl, rfl, he1, he2, hqb, hR, hI, hbr⟩ := hrel
  clear HR0 HI0 HB5
  have HBR : Hid (Below wc.heap.size wc wr) := hbr
  obtain ⟨⟨x0, x1, x2, x3, x4⟩, y0, y1, y2⟩ := HC.out _ hbr
  clear hbr
  by_cases hlt : 9007199254740992 ≤ q
  ·have hltI : (9007199254740992 : Int) ≤ q := by omega
   obtain ⟨n1', n2', n3'⟩ := gik_next HH.out.2.2.1 hI.out hR.out.1 (by exact hlt)
   have HN1 : Hid (GIk g2 53 e1 (e + 1) (g2.Q (e + 1))) := n1'
   have HN2 : Hid (g2.Q (e + 1) < q ∧ e + 1 ≤ e1 + 4) := ⟨n2', n3'⟩
   clear n1' n2' n3'
   go_wp2_with fail
   with_reducible refine (HBES.out _ (e + 1) HBR.out (by omega) (by omega) (by have := HN2.out; omega)).mono ?_
   rintro ee w6 ⟨rfl, hb6⟩
   obtain ⟨q0, hq0⟩ : ∃ q, q = g2.Q (e + 1) := ⟨_, rfl⟩
   obtain ⟨h0, hh0⟩ : ∃ h, h = g2.H (e + 1) := ⟨_, rfl⟩
   obtain ⟨b0, hbb0⟩ : ∃ b, b = g2.Z (e + 1) := ⟨_, rfl⟩
   rw [← hq0, ← hh0, ← hbb0]
   rw [← hq0] at HN1 HN2
   have HR0 : Hid (q0 = g2.Q (e + 1) ∧ h0 = g2.H (e + 1) ∧ b0 = g2.Z (e + 1)) := ⟨hq0, hh0, hbb0⟩
   have HB6 : Hid (Below wc.heap.size wc w6) := HBR.out.trans (hb6.mono HBR.out.size)
   clear hq0 hh0 hbb0 hb6
   go_wp2
   go_roundw
   case rel => exact ⟨e + 1, q0, h0, b0, rfl, rfl, rfl, rfl, by omega, by have := HN2.out; omega, by have := HN2.out; omega, HR0, HN1, HB6.out⟩
   case measure => have := HN2.out; simp [intOf]; omega
  ·have HIE : Hid (IsE 53 (-1074) g2 e) := gik_end (by decide) HH.out.2.2.1 hI.out hR.out.1 (by show q < 9007199254740992; omega) he1b.1 HH.out.2.2.2.2.2.1
   have HOO : Hid (O = outW 53 971 neg mode q h b e) := by
    show _ = _
    rw [HH.out.2.2.2.1, outG_eq (by decide) HH.out.2.2.1 HIE.out, ← hR.out.1, ← hR.out.2.1, ← hR.out.2.2]
   have hend : e = -1074 ∨ 4503599627370496 ≤ q := by
    rcases HIE.out.2.2 with h | h
    ·exact .inl h
    ·right; rw [hR.out.1]; exact h
   obtain ⟨qi, hqi⟩ : ∃ qi : Int, qi = (q : Int) := ⟨_, rfl⟩
   have hq0 : 0 ≤ qi := by omega
   have hltI : ¬ (9007199254740992 : Int) ≤ qi := by omega
   have hendI : e = -1074 ∨ 4503599627370496 ≤ qi := by omega
   rw [← hqi]
   have HQI : Hid (qi = (q : Int)) := hqi
   have hh := hR.out.2.1
   have hh3 : h = -1 ∨ h = 0 ∨ h = 1 := by rw [hh]; exact HH.out.2.2.2.2.2.2 _
   clear hI hh hqi hlt hqb hR hend
   have hszr : w.heap.size + 4 ≤ wr.heap.size := by have := HBR.out.size; have := HS4.out; omega
   have al1 : ∀ (F : Obj) g o v, g < w.heap.size + 4 → wr.cell? ⟨g, o, none⟩ = some v → (wr.alloc F).cell? ⟨g, o, none⟩ = some v := fun F g o v hg h => by
    rw [World.cell?_alloc_past _ _ _ (by show g < _; omega)]; exact h
   have al2 : ∀ (F G : Obj) g o v, g < w.heap.size + 4 → wr.cell? ⟨g, o, none⟩ = some v → ((wr.alloc F).alloc G).cell? ⟨g, o, none⟩ = some v := fun F G g o v hg h => by
    rw [World.cell?_alloc_past _ _ _ (by show g < _; simp; omega)]; exact al1 F g o v hg h
   have ax0 := fun F => al1 F _ _ _ (by omega) x0
   have ay0 := fun F => al1 F _ _ _ (by omega) y0
   have ay2 := fun F => al1 F _ _ _ (by omega) y2
   have bx0 := fun F G => al2 F G _ _ _ (by omega) x0
   have by0 := fun F G => al2 F G _ _ _ (by omega) y0
   have by2 := fun F G => al2 F G _ _ _ (by omega) y2
   have hr2 := HBR.out.blk HQ2.out (by have := HS4.out; omega)
   have hr3 := HBR.out.blk HQ3.out (by have := HS4.out; omega)
   have HR2 : Hid (∀ F G : Obj, ((wr.alloc F).alloc G).heap[w.heap.size + 2]? = _) := fun F G => (heap_alloc_old (wr.alloc F) G (by simp; omega)).trans ((heap_alloc_old wr F (by omega)).trans hr2)
   have HR3 : Hid (∀ F G : Obj, ((wr.alloc F).alloc G).heap[w.heap.size + 3]? = _) := fun F G => (heap_alloc_old (wr.alloc F) G (by simp; omega)).trans ((heap_alloc_old wr F (by omega)).trans hr3)
   clear al1 al2 hr2 hr3
   obtain ⟨ru, hru⟩ : ∃ ru : Bool, ru = (!b && upW mode neg (decide (q % 2 = 1)) h) := ⟨_, rfl⟩
   obtain ⟨un, hun⟩ : ∃ un : Bool, un = (!b && decide (qi < 4503599627370496)) := ⟨_, rfl⟩
   obtain ⟨Ki, hKi⟩ : ∃ Ki : Int, Ki = if ru then qi + 1 else qi := ⟨_, rfl⟩
   have HRU : Hid (ru = (!b && upW mode neg (decide (q % 2 = 1)) h)) := hru
   have HUN : Hid (un = (!b && decide (qi < 4503599627370496))) := hun
   have HKI : Hid (Ki = if ru then qi + 1 else qi) := hKi
   clear hru hKi hun
   go_upto_region 10 with fail
   go_cut [75] (fun _ wx => wx = wr.alloc (.cells #[.bool (!b), .bool false, .bool un] 76))
   case first => as_aux_lemma =>
    cases b
    ·by_cases hqH : qi < 4503599627370496
     ·have hu : un = true := by rw [HUN.out, decide_eq_true hqH]; rfl
      go_wp2
      go_meet
      subst hu
      rfl
     ·have hu : un = false := by rw [HUN.out, decide_eq_false hqH]; rfl
      go_wp2
      go_meet
      subst hu
      rfl
    ·have hu : un = false := HUN.out
     go_wp2
     go_meet
     subst hu
     rfl
   case rest =>
   subst hcut
   go_upto_region 11 with fail
   go_cut [87] (fun v wx => v = .bool ru ∧ wx = wr.alloc (.cells #[.bool (!b), .bool false, .bool un] 76))
   case first => as_aux_lemma =>
    cases b
    ·go_wp2_with fail
     with_reducible refine (HUP.out _ h _ hh3).mono ?_
     rintro ee w' ⟨rfl, rfl⟩
     go_wp2
     go_meet
     refine ⟨?_, rfl⟩
     rw [HRU.out]
     have e1 : (qi % 2 == 1) = decide (q % 2 = 1) := by
      rw [HQI.out]
      by_cases hq : q % 2 = 1
      ·simp [hq]; omega
      ·simp [hq]; omega
     rw [e1]; rfl
    ·go_wp2
     go_meet
     exact ⟨by rw [HRU.out]; rfl, rfl⟩
   case rest =>
   obtain ⟨rfl, rfl⟩ := hcut
   go_upto_if 87 with fail
   go_cut [9] (fun qv wx => qv = .int .u64 Ki ∧ wx = wr.alloc (.cells #[.bool (!b), .bool false, .bool un] 76))
   case first => as_aux_lemma =>
    cases ru
    ·have hk : Ki = qi := HKI.out
     go_wp2
     go_meet
     exact ⟨by rw [hk], rfl⟩
    ·have hk : Ki = qi + 1 := HKI.out
     go_wp2
     go_meet
     exact ⟨by rw [hk], rfl⟩
   case rest =>
   obtain ⟨rfl, rfl⟩ := hcut
   have hKb : 0 ≤ Ki ∧ Ki ≤ 9007199254740992 ∧ (e = -1074 ∨ 4503599627370496 ≤ Ki) := by
    have := HKI.out
    split at this <;> omega
   obtain ⟨e2, he2d⟩ : ∃ e2, e2 = if Ki = 9007199254740992 then e + 1 else e := ⟨_, rfl⟩
   obtain ⟨K2, hK2d⟩ : ∃ K2, K2 = if Ki = 9007199254740992 then 4503599627370496 else Ki := ⟨_, rfl⟩
   have hK2b : 0 ≤ K2 ∧ K2 < 9007199254740992 ∧ (e2 = -1074 ∨ 4503599627370496 ≤ K2) := by rw [hK2d, he2d]; split <;> omega
   have he2b : -1074 ≤ e2 ∧ e2 ≤ 1041 := by rw [he2d]; split <;> omega
   have HEK : Hid (e2 = (if Ki = 9007199254740992 then e + 1 else e) ∧ K2 = if Ki = 9007199254740992 then 4503599627370496 else Ki) := ⟨he2d, hK2d⟩
   go_upto_if 94 with fail
   go_cut [8, 9] (fun ev qv wx => ev = .int .i64 e2 ∧ qv = .int .u64 K2 ∧ wx = wr.alloc (.cells #[.bool (!b), .bool false, .bool un] 76))
   case first => as_aux_lemma =>
    by_cases hk : Ki = 9007199254740992
    ·rw [if_pos hk] at he2d hK2d
     subst hk
     go_wp2
     go_meet
     exact ⟨by rw [he2d], by rw [hK2d], rfl⟩
    ·rw [if_neg hk] at he2d hK2d
     have hkb : (Ki == 9007199254740992) = false := by simpa using hk
     go_wp2
     go_meet
     exact ⟨by rw [he2d], by rw [hK2d], rfl⟩
   case rest =>
   obtain ⟨rfl, rfl, rfl⟩ := hcut
   clear he2d hK2d hKb hendI
   obtain ⟨ov, hov⟩ : ∃ ov : Bool, ov = (decide (971 < e2) && decide (4503599627370496 ≤ K2)) := ⟨_, rfl⟩
   have HOV : Hid (ov = (decide (971 < e2) && decide (4503599627370496 ≤ K2))) := hov
   clear hov
   go_upto_region 17 with fail
   go_cut [119] (fun v wx => v = .bool ov ∧ wx = (wr.alloc (.cells #[.bool (!b), .bool false, .bool un] 76)).alloc (.cells #[.bool neg, .bool false, .int .u64 K2, .int .i64 e2] 137))
   case first => as_aux_lemma =>
    by_cases h1 : 971 < e2
    ·have h1I : (1023 : Int) < e2 + 53 - 1 := by omega
     go_wp2
     go_meet
     refine ⟨?_, rfl⟩
     rw [HOV.out, decide_eq_true h1]
     rfl
    ·have h1n : decide (971 < e2) = false := decide_eq_false h1
     have h1I : ¬ (1023 : Int) < e2 + 53 - 1 := by omega
     have H1 : Hid (decide (971 < e2) = false) := h1n
     clear h1n
     go_wp2
     go_meet
     refine ⟨?_, rfl⟩
     rw [HOV.out, H1.out]
     rfl
   case rest =>
   obtain ⟨rfl, rfl⟩ := hcut
   have HLAST : Hid _ := out_last (b := 53) (T := 971) (e := e) (B := 9007199254740992) (H := 4503599627370496) (by decide) (by decide) HQI.out HRU.out HUN.out HKI.out HEK.out
   go_upto_if 119 with fail
   go_cut [12, 13] (fun fv pv wx => ∃ (G1 G2 : Nat), fv = .pointer (some ⟨G1, 0, none⟩) ∧ pv = .pointer (some ⟨G2, 0, none⟩) ∧ wx.heap[G1]? = some (.cells #[.bool O.ine, .bool O.ov, .bool O.un] 76 (0, 0)) ∧
    wx.heap[G2]? = some (.cells #[.bool neg, .bool O.inf, .int .u64 (O.m : Nat), .int .i64 O.e] 137 (0, 0)) ∧ wx.heap[w.heap.size + 2]? = some (.cells #[.bool false, .bool false, .int .u64 0, .int .i64 0] 137 (0, 0)) ∧
    wx.heap[w.heap.size + 3]? = some (.cells #[.bool false, .bool false, .bool false] 76 (0, 0)) ∧ Below w.heap.size w wx ∧ w.heap.size + 4 ≤ G1 ∧ G1 < G2)
   case first => as_aux_lemma =>
    have hbw : ∀ F G : Obj, Below w.heap.size w ((wr.alloc F).alloc G) := fun F G => (HB0.out.trans (HBR.out.mono (by have := HS4.out; omega))).trans (((Below.refl _ _).alloc (by omega) _).alloc (by simp; omega) _)
    have HBW : Hid _ := hbw
    have HFIN : Hid (∀ (F G : Obj), (∃ G1 G2 : Nat, G1 = wr.heap.size ∧ G2 = wr.heap.size + 1 ∧ ((wr.alloc F).alloc G).heap[G1]? = some F ∧ ((wr.alloc F).alloc G).heap[G2]? = some G ∧ w.heap.size + 4 ≤ G1 ∧ G1 < G2)) := fun F G =>
     ⟨_, _, rfl, rfl, (heap_alloc_old _ _ (by simp)).trans (heap_alloc_new _ _), by have := heap_alloc_new (wr.alloc F) G; simpa using this, by omega, by omega⟩
    clear hbw
    cases ov
    ·have hno : ¬ 971 < e2 := by
      have := HOV.out
      simp at this
      omega
     obtain ⟨o1, o2⟩ := HLAST.out.1 hno
     have HOE : Hid (O = ⟨false, K2.toNat, e2, !b, false, un⟩ ∧ 0 ≤ K2) := ⟨HOO.out.trans o1, o2⟩
     clear hno o1 o2
     go_wp2
     go_meet
     obtain ⟨G1, G2, rfl, rfl, f1, f2, f3, f4⟩ := HFIN.out (Obj.cells #[.bool (!b), .bool false, .bool un] 76 (0, 0)) (Obj.cells #[.bool neg, .bool false, .int .u64 K2, .int .i64 e2] 137 (0, 0))
     refine ⟨_, _, by first | rfl | simp, by first | rfl | simp, ?_, ?_, HR2.out _ _, HR3.out _ _, HBW.out _ _, f3, f4⟩
     ·rw [HOE.out.1]; exact f1
     ·rw [HOE.out.1]; show _ = some (Obj.cells #[.bool neg, .bool false, .int .u64 ((K2.toNat : Nat) : Int), .int .i64 e2] _ _); rw [show ((K2.toNat : Nat) : Int) = K2 by have := HOE.out.2; omega]; exact f2
    ·have hyes : 971 < e2 := by
      have := HOV.out
      simp at this
      omega
     have HOE : Hid (O = if maxW mode neg = true then ⟨false, 2^53 - 1, 971, true, true, un⟩ else ⟨true, 0, 0, true, true, un⟩) := HOO.out.trans (HLAST.out.2 hyes)
     clear hyes
     clear HOO HLAST HRU HUP
     go_upto_region 21 with fail
     go_cut [147] (fun v wx => v = .bool (maxW mode neg) ∧ wx = (wr.alloc (.cells #[.bool true, .bool true, .bool un] 76)).alloc (.cells #[.bool neg, .bool true, .int .u64 0, .int .i64 0] 137))
     case first => as_aux_lemma =>
      have h6 : mode = 1 ∨ mode = 2 ∨ mode = 3 ∨ mode = 4 ∨ mode = 5 ∨ mode = 6 := by have := HM6.out; omega
      rcases h6 with rfl | rfl | rfl | rfl | rfl | rfl
      all_goals
       cases neg
       all_goals
        go_wp2
        go_meet
        exact ⟨rfl, rfl⟩
     case rest =>
     obtain ⟨rfl, rfl⟩ := hcut
     obtain ⟨mx, hmx⟩ : ∃ mx, mx = maxW mode neg := ⟨_, rfl⟩
     rw [← hmx]
     have HMX : Hid (mx = maxW mode neg) := hmx
     clear hmx
     cases mx
     ·have HOF : Hid (O = ⟨true, 0, 0, true, true, un⟩) := by have := HOE.out; rw [← HMX.out] at this; exact this
      go_wp2
      go_meet
      rw [HOF.out]
      obtain ⟨G1, G2, rfl, rfl, f1, f2, f3, f4⟩ := HFIN.out (Obj.cells #[.bool true, .bool true, .bool un] 76 (0, 0)) (Obj.cells #[.bool neg, .bool true, .int .u64 0, .int .i64 0] 137 (0, 0))
      exact ⟨_, _, by first | rfl | simp, by first | rfl | simp, f1, f2, HR2.out _ _, HR3.out _ _, HBW.out _ _, f3, f4⟩
     ·have HOF : Hid (O = ⟨false, 2^53 - 1, 971, true, true, un⟩) := by have := HOE.out; rw [← HMX.out] at this; exact this
      go_upto_region 22 with fail
      go_region
      all_goals go_wp2
      all_goals go_meet
      rw [HOF.out]
      obtain ⟨G1, G2, rfl, rfl, f1, f2, f3, f4⟩ := HFIN.out (Obj.cells #[.bool true, .bool true, .bool un] 76 (0, 0)) (Obj.cells #[.bool neg, .bool false, .int .u64 9007199254740991, .int .i64 971] 137 (0, 0))
      exact ⟨_, _, by first | rfl | simp, by first | rfl | simp, f1, f2, HR2.out _ _, HR3.out _ _, (HBW.out _ _).drew, f3, f4⟩
   case rest =>
   obtain ⟨G1, G2, rfl, rfl, hr1, hr2, hr3, hr4, hbw, hg1, hg2⟩ := hcut
   have W1 : wc.drew.heap[G1]? = _ := hr1
   have W2 : wc.drew.heap[G2]? = _ := hr2
   have W3 : wc.drew.heap[w.heap.size + 2]? = _ := hr3
   have W1' := (setRow_other wc.drew (w.heap.size + 2) G1 #[.bool neg, .bool O.inf, .int .u64 (O.m : Nat), .int .i64 O.e] (by omega)).trans W1
   have W4 := (setRow_other wc.drew (w.heap.size + 2) (w.heap.size + 3) #[.bool neg, .bool O.inf, .int .u64 (O.m : Nat), .int .i64 O.e] (by omega)).trans hr4
   have Z1 := setRow_heap (wc.drew.setRow (w.heap.size + 2) #[.bool neg, .bool O.inf, .int .u64 (O.m : Nat), .int .i64 O.e]) (w.heap.size + 3) _ #[.bool O.ine, .bool O.ov, .bool O.un] _ _ W4
   have Z2 := (setRow_other (wc.drew.setRow (w.heap.size + 2) #[.bool neg, .bool O.inf, .int .u64 (O.m : Nat), .int .i64 O.e]) (w.heap.size + 3) (w.heap.size + 2) #[.bool O.ine, .bool O.ov, .bool O.un] (by omega)).trans (setRow_heap wc.drew (w.heap.size + 2) _ #[.bool neg, .bool O.inf, .int .u64 (O.m : Nat), .int .i64 O.e] _ _ W3)
   have Z3 : Hid (Below w.heap.size w ((wc.drew.setRow (w.heap.size + 2) #[.bool neg, .bool O.inf, .int .u64 (O.m : Nat), .int .i64 O.e]).setRow (w.heap.size + 3) #[.bool O.ine, .bool O.ov, .bool O.un])) := below_setRow (below_setRow hbw.drew (by omega) _) (by omega) _
   have HZ1 : Hid _ := Z1
   have HZ2 : Hid _ := Z2
   clear hr1 hr2 hr3 hr4 hbw ax0 ay0 ay2 bx0 by0 by2 HR2 HR3 HLAST HOV HEK HKI HRU HUN HQI HBR HBES HC HQ2 HQ3 HB0 Z1 Z2 HOO HIE HH HUP
   go_upto_region 23 with fail
   refine wp_region_any (by kernel_rfl) ?_
   try (change wpAny _ _ _ _ _ _ _ (World.drew _))
   refine wpAny_ready (rs := [0, 1]) (by kernel_rfl) (by simp) ?_
   refine AllReady.cons rfl (fun K hK => ?_) (AllReady.cons rfl (fun K hK => ?_) AllReady.nil)
   ·refine step_plain rfl (wp_load_row 137 (.tmp 13) rfl G2 rfl _ _ _ _ W2 Tryz.underlying137 rfl (by kernel_rfl) (hK _ _ ?_))
    refine wpAny_ready (rs := [1, 2]) (by kernel_rfl) (by simp) ?_
    refine AllReady.cons rfl (fun K hK => ?_) (AllReady.cons rfl (fun K hK => ?_) AllReady.nil)
    ·refine step_plain rfl (wp_load_row 76 (.tmp 12) rfl G1 rfl _ _ _ _ W1 Tryz.underlying76 rfl (by kernel_rfl) (hK _ _ ?_))
     refine wpAny_ready (rs := [2]) (by kernel_rfl) (by simp) ?_
     refine AllReady.cons rfl (fun K hK => ?_) AllReady.nil
     refine step_plain rfl (wp_store_row 137 (.tmp 6) (.tmp 161) rfl (w.heap.size + 2) #[.bool neg, .bool O.inf, .int .u64 (O.m : Nat), .int .i64 O.e] rfl rfl _ _ W3 (by kernel_rfl) rfl (by simp [Value.oneCell']) (hK _ _ ?_))
     refine wpAny_ready (rs := [3]) (by kernel_rfl) (by simp) ?_
     refine AllReady.cons rfl (fun K hK => ?_) AllReady.nil
     refine step_plain rfl (wp_store_row 76 (.tmp 7) (.tmp 162) rfl (w.heap.size + 3) #[.bool O.ine, .bool O.ov, .bool O.un] rfl rfl _ _ W4 (by kernel_rfl) rfl (by simp [Value.oneCell']) (hK _ _ ?_))
     refine wpAny_done (by kernel_rfl) ?_ _
     go_wp2
     exact bodyPost_ret (float_flags_row rfl _ _ (w.heap.size + 2) (w.heap.size + 3) _ _ _ _ _ _ _ rfl HZ2.out rfl HZ1.out) rfl ⟨rfl, Z3.out⟩
    ·refine step_plain rfl (wp_store_row 137 (.tmp 6) (.tmp 161) rfl (w.heap.size + 2) #[.bool neg, .bool O.inf, .int .u64 (O.m : Nat), .int .i64 O.e] rfl rfl _ _ W3 (by kernel_rfl) rfl (by simp [Value.oneCell']) (hK _ _ ?_))
     refine wpAny_ready (rs := [1]) (by kernel_rfl) (by simp) ?_
     refine AllReady.cons rfl (fun K hK => ?_) AllReady.nil
     refine step_plain rfl (wp_load_row 76 (.tmp 12) rfl G1 rfl _ _ _ _ W1' Tryz.underlying76 rfl (by kernel_rfl) (hK _ _ ?_))
     refine wpAny_ready (rs := [3]) (by kernel_rfl) (by simp) ?_
     refine AllReady.cons rfl (fun K hK => ?_) AllReady.nil
     refine step_plain rfl (wp_store_row 76 (.tmp 7) (.tmp 162) rfl (w.heap.size + 3) #[.bool O.ine, .bool O.ov, .bool O.un] rfl rfl _ _ W4 (by kernel_rfl) rfl (by simp [Value.oneCell']) (hK _ _ ?_))
     refine wpAny_done (by kernel_rfl) ?_ _
     go_wp2
     exact bodyPost_ret (float_flags_row rfl _ _ (w.heap.size + 2) (w.heap.size + 3) _ _ _ _ _ _ _ rfl HZ2.out rfl HZ1.out) rfl ⟨rfl, Z3.out⟩
   ·refine step_plain rfl (wp_load_row 76 (.tmp 12) rfl G1 rfl _ _ _ _ W1 Tryz.underlying76 rfl (by kernel_rfl) (hK _ _ ?_))
    refine wpAny_ready (rs := [0]) (by kernel_rfl) (by simp) ?_
    refine AllReady.cons rfl (fun K hK => ?_) AllReady.nil
    refine step_plain rfl (wp_load_row 137 (.tmp 13) rfl G2 rfl _ _ _ _ W2 Tryz.underlying137 rfl (by kernel_rfl) (hK _ _ ?_))
    refine wpAny_ready (rs := [2]) (by kernel_rfl) (by simp) ?_
    refine AllReady.cons rfl (fun K hK => ?_) AllReady.nil
    refine step_plain rfl (wp_store_row 137 (.tmp 6) (.tmp 161) rfl (w.heap.size + 2) #[.bool neg, .bool O.inf, .int .u64 (O.m : Nat), .int .i64 O.e] rfl rfl _ _ W3 (by kernel_rfl) rfl (by simp [Value.oneCell']) (hK _ _ ?_))
    refine wpAny_ready (rs := [3]) (by kernel_rfl) (by simp) ?_
    refine AllReady.cons rfl (fun K hK => ?_) AllReady.nil
    refine step_plain rfl (wp_store_row 76 (.tmp 7) (.tmp 162) rfl (w.heap.size + 3) #[.bool O.ine, .bool O.ov, .bool O.un] rfl rfl _ _ W4 (by kernel_rfl) rfl (by simp [Value.oneCell']) (hK _ _ ?_))
    refine wpAny_done (by kernel_rfl) ?_ _
    go_wp2
    exact bodyPost_ret (float_flags_row rfl _ _ (w.heap.size + 2) (w.heap.size + 3) _ _ _ _ _ _ _ rfl HZ2.out rfl HZ1.out) rfl ⟨rfl, Z3.out⟩
end Go.Proofs.YtlbokicainimnaaGreatDoor
