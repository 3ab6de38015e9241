/- Parts Wp of the proof, in one text. -/
import Derived.Test.YtiimjbpfdidgcaaDoorHN
import Derived.Test.YtiimjbpfdidgcaaDoorHO
import Derived.Test.YtiimjbpfdidgcaaDoorHF
import Derived.Deep.RegionHeld3

/- Walks: wide.Int.Quo, all of it; wide.Ratio. -/
namespace Go.Proofs.YtiimjbpfdidgcaaDoor
open Go.RowKit

theorem below_thruW {a b w' : World} (h : Below a.heap.size a b) (hb : Below b.heap.size b w') : Below a.heap.size a w' := h.trans (hb.mono h.size)

theorem quo_any (s t : Value) (M D : Nat) (w : World) (h : Num .u64 18446744073709551616 w s M) (h' : Num .u64 18446744073709551616 w t D) {bb : Nat} (hM : M < 2 ^ bb) (hbb : bb ≤ 4294900000) :
    Calls Tryd.prog 99 #[.agg #[.bool false, s], .agg #[.bool false, t]] w (QuoQ (M / D) (M % D) w) := by
  by_cases h1 : M < D ∨ D = 0
  · have e : M / D = 0 ∧ M % D = M := by
      rcases h1 with h1 | rfl
      · exact ⟨Nat.div_eq_of_lt h1, Nat.mod_eq_of_lt h1⟩
      · exact ⟨Nat.div_zero _, Nat.mod_zero _⟩
    rw [e.1, e.2]
    exact quo_none s t M D w h h' h1
  · by_cases h2 : D < 18446744073709551616
    · exact quo_word s t M D w h h' (by omega) (by omega) h2 hM (by omega)
    · exact quo_long s t M D w h h' (by omega) (by omega) hM hbb

/-- The quotient that is cut has 63 or 64 bits. -/
theorem ratio_size {N D : Nat} {s : Int} (hN : N ≠ 0) (hD : 0 < D) (hs : s = (blen D : Int) - blen N + 63) :
    4611686018427387904 ≤ N * 2^s.toNat / (D * 2^(-s).toNat) ∧ N * 2^s.toNat / (D * 2^(-s).toNat) < 18446744073709551616 := by
  obtain ⟨a1, a2, a3⟩ := blen_pos hN
  obtain ⟨b1, b2, b3⟩ := blen_pos (n := D) (by omega)
  have hp : 0 < D * 2^(-s).toNat := Nat.mul_pos hD (Nat.two_pow_pos _)
  constructor
  · rw [Nat.le_div_iff_mul_le hp]
    calc 4611686018427387904 * (D * 2^(-s).toNat) ≤ 2^62 * (2^(blen D) * 2^(-s).toNat) := Nat.mul_le_mul_left _ (Nat.mul_le_mul_right _ (Nat.le_of_lt b2))
      _ = 2^(62 + (blen D + (-s).toNat)) := by rw [Nat.pow_add, Nat.pow_add]
      _ ≤ 2^(blen N - 1 + s.toNat) := Nat.pow_le_pow_right (by decide) (by omega)
      _ = 2^(blen N - 1) * 2^s.toNat := Nat.pow_add ..
      _ ≤ N * 2^s.toNat := Nat.mul_le_mul_right _ a1
  · rw [Nat.div_lt_iff_lt_mul hp]
    calc N * 2^s.toNat < 2^(blen N) * 2^s.toNat := Nat.mul_lt_mul_of_pos_right a2 (Nat.two_pow_pos _)
      _ = 2^(blen N + s.toNat) := (Nat.pow_add ..).symm
      _ ≤ 2^(64 + (blen D - 1 + (-s).toNat)) := Nat.pow_le_pow_right (by decide) (by omega)
      _ = 18446744073709551616 * (2^(blen D - 1) * 2^(-s).toNat) := by rw [Nat.pow_add, Nat.pow_add]
      _ ≤ 18446744073709551616 * (D * 2^(-s).toNat) := Nat.mul_le_mul_left _ (Nat.mul_le_mul_right _ b1)

set_option maxHeartbeats 4000000 in
set_option maxRecDepth 100000 in
theorem wratio_any (s t : Value) (N D R : Nat) (w : World) (h : Num .u64 18446744073709551616 w s N) (h' : Num .u64 18446744073709551616 w t D) (hN0 : N ≠ 0) (hD0 : 0 < D) {bb : Nat} (hN : N < 2 ^ bb) (hD : D < 2 ^ bb) (hbb : bb ≤ 400000)
    (hR : Near 52 (N * 2^LP) D R) :
    Calls Tryd.prog 75 #[.agg #[.bool false, s], .agg #[.bool false, t]] w fun e w' => e = .returned (.float .f64 (min R 9218868437227405312)) ∧ Below w.heap.size w w' := by
  obtain ⟨a, m, c, rfl⟩ := h.shape
  obtain ⟨a', n, c', rfl⟩ := h'.shape
  have HN : Hid (Num .u64 18446744073709551616 w (.slice a m c) N) := h
  have HD : Hid (Num .u64 18446744073709551616 w (.slice a' n c') D) := h'
  have hlN : blen N ≤ 400000 := Nat.le_trans (blen_le hN) hbb
  have hlD : blen D ≤ 400000 := Nat.le_trans (blen_le hD) hbb
  have HBN : Hid (∀ W, Below w.heap.size w W → Calls Tryd.prog 98 #[.agg #[.bool false, .slice a m c]] W fun e w' => e = .returned (.int .i64 (blen N : Nat)) ∧ Below W.heap.size W w') := fun W hW => bits_any false _ N W (h.below (Nat.le_refl _) hW) hN (by omega)
  have HBD : Hid (∀ W, Below w.heap.size w W → Calls Tryd.prog 98 #[.agg #[.bool false, .slice a' n c']] W fun e w' => e = .returned (.int .i64 (blen D : Nat)) ∧ Below W.heap.size W w') := fun W hW => bits_any false _ D W (h'.below (Nat.le_refl _) hW) hD (by omega)
  obtain ⟨lN, eN⟩ : ∃ l, l = blen N := ⟨_, rfl⟩
  obtain ⟨lD, eD⟩ : ∃ l, l = blen D := ⟨_, rfl⟩
  rw [← eN] at hlN HBN
  rw [← eD] at hlD HBD
  obtain ⟨sh, hsh⟩ : ∃ sh : Int, sh = (lD : Int) - lN + 63 := ⟨_, rfl⟩
  have HSZ : Hid (4611686018427387904 ≤ N * 2^sh.toNat / (D * 2^(-sh).toNat) ∧ N * 2^sh.toNat / (D * 2^(-sh).toNat) < 18446744073709551616) := ratio_size hN0 hD0 (by rw [hsh, eN, eD])
  have hshb : -400000 ≤ sh ∧ sh ≤ 400063 := by omega
  have HRR : Hid (Near 52 (N * 2^LP) D R) := hR
  have HNb : Hid (N < 2 ^ bb ∧ D < 2 ^ bb ∧ bb ≤ 400000) := ⟨hN, hD, hbb⟩
  have HSH : Hid (sh = (lD : Int) - lN + 63) := hsh
  clear h h' hN hD hbb hR eN eD
  have hb0 : Below w.heap.size w ((w.alloc (.cells #[.bool false, .slice a m c] 64)).alloc (.cells #[.bool false, .slice a' n c'] 64)) := ((Below.refl _ _).alloc (Nat.le_refl _) _).alloc (by simp) _
  have q0 := heap_alloc2_old w (.cells #[.bool false, .slice a m c] 64) (.cells #[.bool false, .slice a' n c'] 64)
  have q1 := heap_alloc2_new w (.cells #[.bool false, .slice a m c] 64) (.cells #[.bool false, .slice a' n c'] 64)
  have hs2 : ((w.alloc (.cells #[.bool false, .slice a m c] 64)).alloc (.cells #[.bool false, .slice a' n c'] 64)).heap.size = w.heap.size + 2 := by simp
  go_enter Tryd.func75, Tryd.ntmps75
  go_upto_region 1 with fail
  generalize ((w.alloc (.cells #[.bool false, .slice a m c] 64)).alloc (.cells #[.bool false, .slice a' n c'] 64)) = w4 at *
  have HC : Hid (∀ W, Below w4.heap.size w4 W → Below w4.heap.size w4 W ∧ W.cell? ⟨w.heap.size, 0, none⟩ = some (.bool false) ∧ W.cell? ⟨w.heap.size, 1, none⟩ = some (.slice a m c) ∧ W.cell? ⟨w.heap.size + 1, 0, none⟩ = some (.bool false) ∧ W.cell? ⟨w.heap.size + 1, 1, none⟩ = some (.slice a' n c')) :=
    fun W hW => ⟨hW, (row2 (hW.blk q0 (by omega))).2.2.1, (row2 (hW.blk q0 (by omega))).2.2.2.1, (row2 (hW.blk q1 (by omega))).2.2.1, (row2 (hW.blk q1 (by omega))).2.2.2.1⟩
  have HB0 : Hid (Below w.heap.size w w4) := hb0
  have HQ0 : Hid _ := q0
  have HQ1 : Hid _ := q1
  have HS2 : Hid (w4.heap.size = w.heap.size + 2) := hs2
  have hbs : Below w4.heap.size w4 w4 := Below.refl _ _
  have HBN2 : Hid (∀ W, Below w4.heap.size w4 W → Calls Tryd.prog 98 #[.agg #[.bool false, .slice a m c]] W fun e w' => e = .returned (.int .i64 (lN : Nat)) ∧ Below W.heap.size W w') := fun W hW => HBN.out W (HB0.out.trans (hW.mono (by omega)))
  have HBD2 : Hid (∀ W, Below w4.heap.size w4 W → Calls Tryd.prog 98 #[.agg #[.bool false, .slice a' n c']] W fun e w' => e = .returned (.int .i64 (lD : Nat)) ∧ Below W.heap.size W w') := fun W hW => HBD.out W (HB0.out.trans (hW.mono (by omega)))
  have i1 : IntKind.i64.wrap ((lD : Int) - lN) = (lD : Int) - lN := IntWalk.i64_in _ (by omega)
  have i2 : IntKind.i64.wrap ((lD : Int) - lN + 63) = sh := by clear i1; rw [← hsh]; exact IntWalk.i64_in _ (by omega)
  clear hb0 q0 q1 hs2 hsh HBN HBD
  go_cut [5] (fun v wx => v = .int .i64 sh ∧ Below w4.heap.size w4 wx)
  case first => as_aux_lemma =>
    go_region_held3 (fun W => Below w4.heap.size w4 W ∧ W.cell? ⟨w.heap.size, 0, none⟩ = some (.bool false) ∧ W.cell? ⟨w.heap.size, 1, none⟩ = some (.slice a m c) ∧ W.cell? ⟨w.heap.size + 1, 0, none⟩ = some (.bool false) ∧ W.cell? ⟨w.heap.size + 1, 1, none⟩ = some (.slice a' n c'))
      (first | exact HC.out _ ‹Below w4.heap.size w4 _› | exact HC.out _ (‹Below w4.heap.size w4 _›).drew)
      (first
        | (go_at_call 98; with_reducible refine (HBN2.out _ (by first | assumption | exact Below.drew (by assumption))).mono ?_; rintro e w' ⟨rfl, hb⟩; have hB2 : Below w4.heap.size w4 w' := below_thruW (by first | assumption | exact Below.drew (by assumption)) hb)
        | (go_at_call 98; with_reducible refine (HBD2.out _ (by first | assumption | exact Below.drew (by assumption))).mono ?_; rintro e w' ⟨rfl, hb⟩; have hB2 : Below w4.heap.size w4 w' := below_thruW (by first | assumption | exact Below.drew (by assumption)) hb))
    all_goals go_wp2
    all_goals go_meet
    all_goals exact ⟨rfl, by assumption⟩
  case rest =>
  obtain ⟨rfl, hbc⟩ := hcut
  have hlt : ∀ {w : World} {g x}, w.heap[g]? = some x → g < w.heap.size := fun h => (Array.getElem?_eq_some_iff.mp h).1
  have HBC : Hid (Below w.heap.size w wc) := HB0.out.trans (hbc.mono (by have := HS2.out; omega))
  have HR0 : Hid _ := hbc.blk HQ0.out (hlt HQ0.out)
  have HR1 : Hid _ := hbc.blk HQ1.out (hlt HQ1.out)
  have HNc : Hid (Num .u64 18446744073709551616 wc (.slice a m c) N) := Num.below HN.out (Nat.le_refl _) HBC.out
  have HDc : Hid (Num .u64 18446744073709551616 wc (.slice a' n c') D) := Num.below HD.out (Nat.le_refl _) HBC.out
  obtain ⟨x0, x1, x2, x3, x4, x5⟩ := row2 HR0.out
  obtain ⟨y0, y1, y2, y3, y4, y5⟩ := row2 HR1.out
  clear hbc i1 i2 hbs HC HBN2 HBD2
  go_upto_if 20 with fail
  go_cut [20] (fun _ wx => ∃ a1 m1 c1 a2 n2 c2, wx.heap[w.heap.size]? = some (.cells #[.bool false, .slice a1 m1 c1] 64 (0, 0)) ∧ wx.heap[w.heap.size + 1]? = some (.cells #[.bool false, .slice a2 n2 c2] 64 (0, 0)) ∧
    Num .u64 18446744073709551616 wx (.slice a1 m1 c1) (N * 2 ^ sh.toNat) ∧ Num .u64 18446744073709551616 wx (.slice a2 n2 c2) (D * 2 ^ (-sh).toNat) ∧ Below w.heap.size w wx)
  case first => as_aux_lemma =>
    by_cases hpos : 0 < sh
    · obtain ⟨k, hk⟩ : ∃ k : Nat, sh = (k : Int) := ⟨(sh).toNat, by omega⟩
      have hk1 : (sh).toNat = k := by omega
      have hk2 : (-sh).toNat = 0 := by omega
      have hkI : (0 : Int) < sh := by omega
      have HK : Hid ((sh).toNat = k ∧ (-sh).toNat = 0) := ⟨hk1, hk2⟩
      have HKE : Hid (sh = (k : Int)) := hk
      clear hk1 hk2 hk
      go_wp2_with fail
      refine (left_any false _ N (k / 64) (k % 64) _ _ HNc.out (by have := HKE.out; omega) (Nat.mod_lt _ (by decide)) (by have := HKE.out; omega) HNb.out.1 (by have := HNb.out.2.2; omega)).mono ?_
      rw [Nat.div_add_mod, Bool.false_and]
      rintro e w6 ⟨v, rfl, ⟨s6, rfl, hn6, -⟩, hb6⟩
      obtain ⟨ba, bn, bc, rfl⟩ := hn6.shape
      have HN6 : Hid (Num .u64 18446744073709551616 w6 (.slice ba bn bc) (N * 2 ^ k)) := hn6
      have HB6 : Hid (Below wc.heap.size wc w6) := hb6
      have k0 : Hid _ := hb6.blk HR0.out (hlt HR0.out)
      have k1 : Hid _ := hb6.blk HR1.out (hlt HR1.out)
      obtain ⟨z0, z1, z2, z3, z4, z5⟩ := row2 k0.out
      clear hn6 hb6
      go_wp2
      go_meet
      refine ⟨_, _, _, _, _, _, row2_set k0.out _ _, row2_other k1.out (by omega) _ _, ?_, ?_, below_row (HBC.out.trans (HB6.out.mono HBC.out.size)) (Nat.le_refl _) _ _⟩
      · rw [HK.out.1]; exact HN6.out.row k0.out _ _
      · rw [HK.out.2, Nat.pow_zero, Nat.mul_one]; exact (Num.below HDc.out (Nat.le_refl _) HB6.out).row k0.out _ _
    · obtain ⟨k, hk⟩ : ∃ k : Nat, -sh = (k : Int) := ⟨(-sh).toNat, by omega⟩
      have hk1 : (sh).toNat = 0 := by omega
      have hk2 : (-sh).toNat = k := by omega
      have hkI : ¬ (0 : Int) < sh := by omega
      have HK : Hid ((sh).toNat = 0 ∧ (-sh).toNat = k) := ⟨hk1, hk2⟩
      clear hk1 hk2
      go_wp2_with fail
      refine (left_any false _ D (k / 64) (k % 64) _ _ HDc.out (by omega) (Nat.mod_lt _ (by decide)) (by omega) HNb.out.2.1 (by have := HNb.out.2.2; omega)).mono ?_
      rw [Nat.div_add_mod, Bool.false_and]
      rintro e w6 ⟨v, rfl, ⟨s6, rfl, hn6, -⟩, hb6⟩
      obtain ⟨ba, bn, bc, rfl⟩ := hn6.shape
      have HN6 : Hid (Num .u64 18446744073709551616 w6 (.slice ba bn bc) (D * 2 ^ k)) := hn6
      have HB6 : Hid (Below wc.heap.size wc w6) := hb6
      have k0 : Hid _ := hb6.blk HR0.out (hlt HR0.out)
      have k1 : Hid _ := hb6.blk HR1.out (hlt HR1.out)
      obtain ⟨z0, z1, z2, z3, z4, z5⟩ := row2 k1.out
      clear hn6 hb6
      go_wp2
      go_meet
      refine ⟨_, _, _, _, _, _, row2_other k0.out (by omega) _ _, row2_set k1.out _ _, ?_, ?_, below_row (HBC.out.trans (HB6.out.mono HBC.out.size)) (by omega) _ _⟩
      · rw [HK.out.1, Nat.pow_zero, Nat.mul_one]; exact (Num.below HNc.out (Nat.le_refl _) HB6.out).row k1.out _ _
      · rw [HK.out.2]; exact HN6.out.row k1.out _ _
  case rest =>
  obtain ⟨a1, m1, c1, a2, n2, c2, hr0, hr1, hnn, hdd, hbw⟩ := hcut
  have HR0 : Hid _ := hr0
  have HR1 : Hid _ := hr1
  have HNN : Hid (Num .u64 18446744073709551616 wc (.slice a1 m1 c1) (N * 2 ^ sh.toNat)) := hnn
  have HDD : Hid (Num .u64 18446744073709551616 wc (.slice a2 n2 c2) (D * 2 ^ (-sh).toNat)) := hdd
  have HBW : Hid (Below w.heap.size w wc) := hbw
  obtain ⟨x0, x1, x2, x3, x4, x5⟩ := row2 hr0
  obtain ⟨y0, y1, y2, y3, y4, y5⟩ := row2 hr1
  have HNB : Hid (N * 2 ^ sh.toNat < 2 ^ (bb + sh.toNat)) := by
    show N * 2 ^ sh.toNat < 2 ^ (bb + sh.toNat)
    rw [Nat.pow_add]; exact Nat.mul_lt_mul_of_pos_right HNb.out.1 (Nat.two_pow_pos _)
  clear hr0 hr1 hnn hdd hbw
  go_wp2_with fail
  refine (quo_any _ _ _ _ _ HNN.out HDD.out HNB.out (by have := HNb.out.2.2; omega)).mono ?_
  rintro e w6 ⟨v, v', rfl, ⟨sq, rfl, hq, -⟩, ⟨sr, rfl, hr, -⟩, hb6⟩
  obtain ⟨qa, qn, qc, rfl⟩ := hq.shape
  obtain ⟨ra, rn, rc, rfl⟩ := hr.shape
  obtain ⟨q, eq⟩ : ∃ q, q = N * 2 ^ sh.toNat / (D * 2 ^ (-sh).toNat) := ⟨_, rfl⟩
  obtain ⟨rr, er⟩ : ∃ rr, rr = N * 2 ^ sh.toNat % (D * 2 ^ (-sh).toNat) := ⟨_, rfl⟩
  rw [← eq] at hq
  rw [← er] at hr
  have hqs := HSZ.out
  rw [← eq] at hqs
  have HEQ : Hid (q = N * 2 ^ sh.toNat / (D * 2 ^ (-sh).toNat) ∧ rr = N * 2 ^ sh.toNat % (D * 2 ^ (-sh).toNat)) := ⟨eq, er⟩
  have HQN : Hid (Num .u64 18446744073709551616 w6 (.slice qa qn qc) q) := hq
  have HRN : Hid (Num .u64 18446744073709551616 w6 (.slice ra rn rc) rr) := hr
  have HB6 : Hid (Below w.heap.size w w6) := HBW.out.trans (hb6.mono HBW.out.size)
  have HQS : Hid (4611686018427387904 ≤ q ∧ q < 18446744073709551616) := hqs
  clear hq hr eq er hqs hb6 x0 x1 x2 x3 x4 x5 y0 y1 y2 y3 y4 y5
  go_wp2_with fail
  refine (low_any false _ q _ (Num.below HQN.out (Nat.le_refl _) (((Below.refl _ _).alloc (Nat.le_refl _) _).alloc (by simp) _))).mono ?_
  rintro e w7 ⟨rfl, hb7⟩
  rw [Nat.mod_eq_of_lt HQS.out.2]
  have HR7 : Hid (w7.heap[w6.heap.size + 1]? = some (.cells #[.bool false, .slice ra rn rc] 64 (0, 0))) := hb7.blk (heap_alloc2_new w6 _ _) (by simp)
  have HB67 : Hid (Below w6.heap.size w6 w7) := (((Below.refl _ _).alloc (Nat.le_refl _) _).alloc (by simp) _).trans (hb7.mono (by simp; omega))
  have HRN7 : Hid (Num .u64 18446744073709551616 w7 (.slice ra rn rc) rr) := Num.below HRN.out (Nat.le_refl _) HB67.out
  have HB7 : Hid (Below w.heap.size w w7) := HB6.out.trans (HB67.out.mono HB6.out.size)
  obtain ⟨x0, x1, x2, x3, x4, x5⟩ := row2 HR7.out
  have hbl1 : 63 ≤ blen q := blen_ge (k := 62) (by have := HQS.out.1; simpa using this)
  have hbl2 : blen q ≤ 64 := blen_le (by have := HQS.out.2; simpa using this)
  obtain ⟨bl, ebl⟩ : ∃ bl, bl = blen q := ⟨_, rfl⟩
  have HBL : Hid (bl = blen q) := ebl
  rw [← ebl] at hbl1 hbl2
  obtain ⟨dn, hdn⟩ : ∃ dn : Nat, max ((bl : Int) - 53) (sh - 1074) = (dn : Int) := ⟨(max ((bl : Int) - 53) (sh - 1074)).toNat, by omega⟩
  have hdn1 : 10 ≤ dn ∧ dn ≤ 400000 := by omega
  have HDN : Hid (max ((bl : Int) - 53) (sh - 1074) = (dn : Int)) := hdn
  have HFIN : Hid (Ieee.double.nearest false (rndK q rr dn) ((dn : Int) - sh) = min R 9218868437227405312) := by
    have hdv := Nat.div_add_mod (N * 2 ^ sh.toNat) (D * 2 ^ (-sh).toNat)
    rw [← HEQ.out.1, ← HEQ.out.2, Nat.mul_comm] at hdv
    have hl := LP_eq
    obtain ⟨R', e1, e2⟩ := ratio_law N D sh q rr dn hdv.symm (by rw [HEQ.out.2]; exact Nat.mod_lt _ (Nat.mul_pos hD0 (Nat.two_pow_pos _))) (by omega) (by rw [← ebl]; omega) (by rw [← ebl]; omega)
    show _ = _
    rw [e2, Near.uniq hD0 e1 HRR.out]
  have hqb : q / 2 ^ dn < 2 ^ 53 := by
    rw [Nat.div_lt_iff_lt_mul (Nat.two_pow_pos dn), ← Nat.pow_add]
    have := (blen_pos (n := q) (by have := HQS.out.1; omega)).2.1
    rw [← ebl] at this
    exact Nat.lt_of_lt_of_le this (Nat.pow_le_pow_right (by decide) (by omega))
  clear ebl hb7
  by_cases hA : 64 < dn
  · have hAI : (64 : Int) < dn := by omega
    have hk : rndK q rr dn = 0 := by
      have e1 : 2 ^ 64 ≤ 2 ^ (dn - 1) := Nat.pow_le_pow_right (by decide) (by omega)
      have e2 : 2 ^ (dn - 1) ≤ 2 ^ dn := Nat.pow_le_pow_right (by decide) (by omega)
      have e3 := HQS.out.2
      unfold rndK
      rw [Nat.mod_eq_of_lt (by omega), Nat.div_eq_of_lt (by omega), if_neg (by omega)]
    have H0 : Hid (min R 9218868437227405312 = 0) := by
      have := HFIN.out
      rw [hk, nearest_zero] at this
      exact this.symm
    clear hk hqb
    go_wp2_with (go_at_call 101; refine (len_any q _ HQS.out.2).mono ?_; rw [← HBL.out]; rintro e w' ⟨rfl, rfl⟩)
    go_ret
    exact ⟨by rw [H0.out]; rfl, HB7.out⟩
  by_cases hB : dn = 64
  · have hqm : rndK q rr dn = if 9223372036854775808 < q ∨ (q = 9223372036854775808 ∧ 0 < rr) then 1 else 0 := by
      have e3 := HQS.out.2
      unfold rndK
      rw [hB, show (2 ^ 64 : Nat) = 18446744073709551616 from rfl, show (2 ^ (64 - 1) : Nat) = 9223372036854775808 from rfl, Nat.mod_eq_of_lt e3, Nat.div_eq_of_lt e3]
      by_cases hc : 9223372036854775808 < q ∨ (q = 9223372036854775808 ∧ 0 < rr)
      · rw [if_pos hc, if_pos (by omega)]
      · rw [if_neg hc, if_neg (by omega)]
    have hBI : (dn : Int) = 64 := by omega
    have HQM : Hid _ := hqm
    have hone : floatOfInt .f64 ((1 : Nat) : Int) = 4607182418800017408 := by kernel_rfl
    have HLD : Hid (∀ W, Calls Tryd.prog 103 #[.float .f64 4607182418800017408, .int .i64 (64 - sh)] W fun e' w' => e' = .returned (.float .f64 (Ieee.double.nearest false 1 (64 - sh))) ∧ W = w') := by
      intro W
      rw [← hone]
      exact ldexp_any 1 (64 - sh) W (by decide) (by omega) (by omega)
    have HF2 : Hid (Ieee.double.nearest false (if 9223372036854775808 < q ∨ (q = 9223372036854775808 ∧ 0 < rr) then 1 else 0) (64 - sh) = min R 9218868437227405312) := by
      have := HFIN.out
      rw [hqm, hBI] at this
      exact this
    clear hqm hone hqb
    rcases Nat.lt_trichotomy q 9223372036854775808 with hc | hc | hc
    · have hcI : ¬ (9223372036854775808 : Int) < q := by omega
      have hcE : ((q : Int) == 9223372036854775808) = false := by simp; omega
      have HF : Hid (min R 9218868437227405312 = 0) := by
        have := HF2.out
        rw [if_neg (by omega), nearest_zero] at this; exact this.symm
      clear hc
      go_wp2_with (go_at_call 101; refine (len_any q _ HQS.out.2).mono ?_; rw [← HBL.out]; rintro e w' ⟨rfl, rfl⟩)
      go_ret
      exact ⟨by rw [HF.out]; rfl, HB7.out⟩
    · have hcI : ¬ (9223372036854775808 : Int) < q := by omega
      have hcE : ((q : Int) == 9223372036854775808) = true := by simp; omega
      by_cases hr0 : rr = 0
      · have HSV : Hid ((if rr = 0 then (0 : Int) else if false = true then -1 else 1) = 0) := if_pos hr0
        have HF : Hid (min R 9218868437227405312 = 0) := by
          have := HF2.out
          rw [if_neg (by omega), nearest_zero] at this; exact this.symm
        clear hc hr0
        go_wp2_with (first | (go_at_call 101; refine (len_any q _ HQS.out.2).mono ?_; rw [← HBL.out]; rintro e w' ⟨rfl, rfl⟩) | (go_at_call 102; refine (sign_any false _ rr _ HRN7.out).mono ?_; rintro e w8 ⟨he, hb8⟩; rw [HSV.out] at he; subst he; have HB8 : Hid (Below w7.heap.size w7 w8) := hb8; clear hb8))
        go_ret
        exact ⟨by rw [HF.out]; rfl, HB7.out.trans (HB8.out.mono HB7.out.size)⟩
      · have HSV : Hid ((if rr = 0 then (0 : Int) else if false = true then -1 else 1) = 1) := by show _ = _; rw [if_neg hr0]; rfl
        have HF : Hid (Ieee.double.nearest false 1 (64 - sh) = min R 9218868437227405312) := by
          have := HF2.out
          rw [if_pos (.inr ⟨hc, by omega⟩)] at this; exact this
        clear hc hr0
        go_wp2_with (first | (go_at_call 101; refine (len_any q _ HQS.out.2).mono ?_; rw [← HBL.out]; rintro e w' ⟨rfl, rfl⟩) | (go_at_call 102; refine (sign_any false _ rr _ HRN7.out).mono ?_; rintro e w8 ⟨he, hb8⟩; rw [HSV.out] at he; subst he; have HB8 : Hid (Below w7.heap.size w7 w8) := hb8; clear hb8) | (go_at_call 103; refine (HLD.out _).mono ?_; rintro e w' ⟨rfl, rfl⟩))
        go_ret
        exact ⟨by rw [← HF.out]; rfl, HB7.out.trans (HB8.out.mono HB7.out.size)⟩
    · have hcI : (9223372036854775808 : Int) < q := by omega
      have HF : Hid (Ieee.double.nearest false 1 (64 - sh) = min R 9218868437227405312) := by
        have := HF2.out
        rw [if_pos (.inl hc)] at this; exact this
      clear hc
      go_wp2_with (first | (go_at_call 101; refine (len_any q _ HQS.out.2).mono ?_; rw [← HBL.out]; rintro e w' ⟨rfl, rfl⟩) | (go_at_call 103; refine (HLD.out _).mono ?_; rintro e w' ⟨rfl, rfl⟩))
      go_ret
      exact ⟨by rw [← HF.out]; rfl, HB7.out⟩
  · have hC : dn ≤ 63 := by omega
    have hCI1 : ¬ (64 : Int) < dn := by omega
    have hCI2 : ((dn : Int) == 64) = false := by simp; omega
    have h63 : 2 ^ dn ≤ 9223372036854775808 := by
      have : 2 ^ dn ≤ 2 ^ 63 := Nat.pow_le_pow_right (by decide) hC
      simpa using this
    have h62 : 2 ^ (dn - 1) ≤ 2 ^ dn := Nat.pow_le_pow_right (by decide) (by omega)
    obtain ⟨hf, ehf⟩ : ∃ hf, hf = 2 ^ (dn - 1) := ⟨_, rfl⟩
    obtain ⟨ov, eov⟩ : ∃ ov, ov = q % 2 ^ dn := ⟨_, rfl⟩
    obtain ⟨mm, emm⟩ : ∃ mm, mm = q / 2 ^ dn := ⟨_, rfl⟩
    have hp0 := Nat.two_pow_pos dn
    have f1 : IntKind.u64.wrap (2 ^ (dn - 1)) = (hf : Int) := by
      rw [show (2 : Int) ^ (dn - 1) = ((2 ^ (dn - 1) : Nat) : Int) by simp only [Int.natCast_pow]; rfl, ← ehf]; exact wrapN _ (by omega)
    have f2 : bits BinOp.and IntKind.u64 (q : Int) (IntKind.u64.wrap (IntKind.u64.wrap (2 ^ dn) - 1)) = (ov : Int) := by
      rw [show (2 : Int) ^ dn = ((2 ^ dn : Nat) : Int) by simp only [Int.natCast_pow]; rfl, wrapN _ (by omega), show ((2 ^ dn : Nat) : Int) - 1 = ((2 ^ dn - 1 : Nat) : Int) by omega, wrapN _ (by omega),
        u64_and_nat q _ HQS.out.2 (by omega), Nat.and_two_pow_sub_one_eq_mod, eov]
    have f3 : (q : Int) / 2 ^ dn = (mm : Int) := by
      rw [show (2 : Int) ^ dn = ((2 ^ dn : Nat) : Int) by simp only [Int.natCast_pow]; rfl, emm, Int.natCast_ediv]
    have hmb : mm < 9007199254740992 := by rw [emm]; exact hqb
    have HK : Hid (rndK q rr dn = if hf < ov ∨ (ov = hf ∧ (0 < rr ∨ mm % 2 = 1)) then mm + 1 else mm) := by
      show rndK q rr dn = _
      unfold rndK
      rw [← ehf, ← eov, ← emm]
    have HSG : Hid ((if rr = 0 then (0 : Int) else if false = true then -1 else 1) = if rr = 0 then 0 else 1) := by show _ = _; simp
    clear ehf eov emm h63 h62 hp0 hqb
    rcases Nat.lt_trichotomy hf ov with hc | hc | hc
    · have hcI : (hf : Int) < ov := by omega
      have HF : Hid (Ieee.double.nearest false (mm + 1) ((dn : Int) - sh) = min R 9218868437227405312) := by
        have := HFIN.out
        rw [HK.out, if_pos (.inl hc)] at this; exact this
      have HLD : Hid (∀ W, Calls Tryd.prog 103 #[.float .f64 (floatOfInt .f64 ((mm : Int) + 1)), .int .i64 ((dn : Int) - sh)] W fun e' w' => e' = .returned (.float .f64 (Ieee.double.nearest false (mm + 1) ((dn : Int) - sh))) ∧ W = w') := fun W => ldexp_any (mm + 1) _ W (by omega) (by omega) (by omega)
      clear hc
      go_wp2_with (first | (go_at_call 101; refine (len_any q _ HQS.out.2).mono ?_; rw [← HBL.out]; rintro e w' ⟨rfl, rfl⟩) | (go_at_call 103; refine (HLD.out _).mono ?_; rintro e w' ⟨rfl, rfl⟩))
      go_ret
      exact ⟨by rw [← HF.out]; rfl, HB7.out⟩
    · subst hc
      have hcI : ¬ (hf : Int) < hf := by omega
      by_cases hr0 : rr = 0
      · have HSV : Hid ((if rr = 0 then (0 : Int) else if false = true then -1 else 1) = 0) := if_pos hr0
        by_cases hodd : mm % 2 = 1
        · have hoI : ((mm : Int) % 2 == 1) = true := by simp; omega
          have HF : Hid (Ieee.double.nearest false (mm + 1) ((dn : Int) - sh) = min R 9218868437227405312) := by
            have := HFIN.out
            rw [HK.out, if_pos (.inr ⟨rfl, .inr hodd⟩)] at this; exact this
          have HLD : Hid (∀ W, Calls Tryd.prog 103 #[.float .f64 (floatOfInt .f64 ((mm : Int) + 1)), .int .i64 ((dn : Int) - sh)] W fun e' w' => e' = .returned (.float .f64 (Ieee.double.nearest false (mm + 1) ((dn : Int) - sh))) ∧ W = w') := fun W => ldexp_any (mm + 1) _ W (by omega) (by omega) (by omega)
          clear hodd hr0
          go_wp2_with (first | (go_at_call 101; refine (len_any q _ HQS.out.2).mono ?_; rw [← HBL.out]; rintro e w' ⟨rfl, rfl⟩) | (go_at_call 102; refine (sign_any false _ rr _ HRN7.out).mono ?_; rintro e w8 ⟨he, hb8⟩; rw [HSV.out] at he; subst he; have HB8 : Hid (Below w7.heap.size w7 w8) := hb8; clear hb8) | (go_at_call 103; refine (HLD.out _).mono ?_; rintro e w' ⟨rfl, rfl⟩))
          go_ret
          exact ⟨by rw [← HF.out]; rfl, HB7.out.trans (HB8.out.mono HB7.out.size)⟩
        · have hoI : ((mm : Int) % 2 == 1) = false := by simp; omega
          have HF : Hid (Ieee.double.nearest false mm ((dn : Int) - sh) = min R 9218868437227405312) := by
            have := HFIN.out
            rw [HK.out, if_neg (by omega)] at this; exact this
          have HLD : Hid (∀ W, Calls Tryd.prog 103 #[.float .f64 (floatOfInt .f64 (mm : Int)), .int .i64 ((dn : Int) - sh)] W fun e' w' => e' = .returned (.float .f64 (Ieee.double.nearest false mm ((dn : Int) - sh))) ∧ W = w') := fun W => ldexp_any mm _ W (by omega) (by omega) (by omega)
          clear hodd hr0
          go_wp2_with (first | (go_at_call 101; refine (len_any q _ HQS.out.2).mono ?_; rw [← HBL.out]; rintro e w' ⟨rfl, rfl⟩) | (go_at_call 102; refine (sign_any false _ rr _ HRN7.out).mono ?_; rintro e w8 ⟨he, hb8⟩; rw [HSV.out] at he; subst he; have HB8 : Hid (Below w7.heap.size w7 w8) := hb8; clear hb8) | (go_at_call 103; refine (HLD.out _).mono ?_; rintro e w' ⟨rfl, rfl⟩))
          go_ret
          exact ⟨by rw [← HF.out]; rfl, HB7.out.trans (HB8.out.mono HB7.out.size)⟩
      · have HSV : Hid ((if rr = 0 then (0 : Int) else if false = true then -1 else 1) = 1) := by show _ = _; rw [if_neg hr0]; rfl
        have HF : Hid (Ieee.double.nearest false (mm + 1) ((dn : Int) - sh) = min R 9218868437227405312) := by
          have := HFIN.out
          rw [HK.out, if_pos (.inr ⟨rfl, .inl (by omega)⟩)] at this; exact this
        have HLD : Hid (∀ W, Calls Tryd.prog 103 #[.float .f64 (floatOfInt .f64 ((mm : Int) + 1)), .int .i64 ((dn : Int) - sh)] W fun e' w' => e' = .returned (.float .f64 (Ieee.double.nearest false (mm + 1) ((dn : Int) - sh))) ∧ W = w') := fun W => ldexp_any (mm + 1) _ W (by omega) (by omega) (by omega)
        clear hr0
        go_wp2_with (first | (go_at_call 101; refine (len_any q _ HQS.out.2).mono ?_; rw [← HBL.out]; rintro e w' ⟨rfl, rfl⟩) | (go_at_call 102; refine (sign_any false _ rr _ HRN7.out).mono ?_; rintro e w8 ⟨he, hb8⟩; rw [HSV.out] at he; subst he; have HB8 : Hid (Below w7.heap.size w7 w8) := hb8; clear hb8) | (go_at_call 103; refine (HLD.out _).mono ?_; rintro e w' ⟨rfl, rfl⟩))
        go_ret
        exact ⟨by rw [← HF.out]; rfl, HB7.out.trans (HB8.out.mono HB7.out.size)⟩
    · have hcI : ¬ (hf : Int) < ov := by omega
      have hcE : ((ov : Int) == hf) = false := by simp; omega
      have HF : Hid (Ieee.double.nearest false mm ((dn : Int) - sh) = min R 9218868437227405312) := by
        have := HFIN.out
        rw [HK.out, if_neg (by omega)] at this; exact this
      have HLD : Hid (∀ W, Calls Tryd.prog 103 #[.float .f64 (floatOfInt .f64 (mm : Int)), .int .i64 ((dn : Int) - sh)] W fun e' w' => e' = .returned (.float .f64 (Ieee.double.nearest false mm ((dn : Int) - sh))) ∧ W = w') := fun W => ldexp_any mm _ W (by omega) (by omega) (by omega)
      clear hc
      go_wp2_with (first | (go_at_call 101; refine (len_any q _ HQS.out.2).mono ?_; rw [← HBL.out]; rintro e w' ⟨rfl, rfl⟩) | (go_at_call 103; refine (HLD.out _).mono ?_; rintro e w' ⟨rfl, rfl⟩))
      go_ret
      exact ⟨by rw [← HF.out]; rfl, HB7.out⟩
end Go.Proofs.YtiimjbpfdidgcaaDoor
