/- Parts Wn of the proof, in one text. -/
import Derived.Test.YtiimjbpfdidgcaaDoorHM
import Derived.Deep.CutBlock
import Derived.Deep.DeepCutAuto

/- Walks: wide.Int.Quo, by a word. -/
namespace Go.Proofs.YtiimjbpfdidgcaaDoor
open Go.RowKit

set_option maxHeartbeats 2000000 in
set_option maxRecDepth 100000 in
theorem quo_word (s t : Value) (M D : Nat) (w : World) (h : Num .u64 18446744073709551616 w s M) (h' : Num .u64 18446744073709551616 w t D) (hle : D ≤ M) (hD0 : 0 < D) (hD1 : D < 18446744073709551616) {bb : Nat} (hM : M < 2 ^ bb) (hbb : bb ≤ 4294967296) :
    Calls Tryd.prog 99 #[.agg #[.bool false, s], .agg #[.bool false, t]] w (QuoQ (M / D) (M % D) w) := by
  obtain ⟨a, m, c, rfl⟩ := h.shape
  have HM : Hid (Num .u64 18446744073709551616 w (.slice a m c) M) := h
  have HM' : Hid (Num .u64 18446744073709551616 w t D) := h'
  obtain ⟨ys, ⟨a', m', c', rfl, hl, -, -, hy, hcell⟩, hv, hn⟩ := h'
  have hm1 : m' = 1 := by
    by_cases h0 : m' = 0
    · subst h0
      rw [List.eq_nil_of_length_eq_zero hl] at hv
      simp [lval] at hv; omega
    · have := norm_length (s := 64) (xs := ys) hn (b := 64) (by rw [show (2 ^ 64 : Nat) = 18446744073709551616 from rfl, hv]; exact hD1) (by omega)
      omega
  subst hm1
  have hDe : ys.getD 0 0 = D := by
    match ys, hl with
    | [y], _ => simpa [lval] using hv
  obtain ⟨b, o, rfl, hb, hcc⟩ := hcell (by omega)
  have h1 : w.cell? ⟨b, o, none⟩ = some (.int .u64 (D : Nat)) := by
    have := hcc 0 (by omega)
    rw [hDe] at this
    exact this
  have HSH : Hid (∀ W, Below w.heap.size w W → Calls Tryd.prog 114 #[.agg #[.bool false, .slice a m c], .int .u64 (D : Nat)] W (ShortQ (M / D) (M % D) W)) :=
    fun W hW => short_any false _ M D W (Num.below HM.out (Nat.le_refl _) hW) hD0 hD1 hM hbb
  have HLE : Hid (D ≤ M) := hle
  have HD1 : Hid (D < 18446744073709551616) := hD1
  clear h hl hy hcell hv hn hDe hcc hle hM hbb hD1
  go_enter Tryd.func99, Tryd.ntmps99
  go_wp2_with fail
  have hb := below4 w (.cells #[.bool false, .slice a m c] 64) (.cells #[.bool false, .slice (some ⟨b, o, none⟩) 1 c'] 64) (.cells #[.bool false, .slice none 0 0] 64) (.cells #[.bool false, .slice none 0 0] 64)
  refine (compare_any _ _ M D _ (Num.below HM.out (Nat.le_refl _) hb) (Num.below HM'.out (Nat.le_refl _) hb)).mono ?_
  rintro e w5 ⟨r, rfl, hr, -, hb5⟩
  have hr0 : ¬ r < 0 := fun h => by have := hr.mp h; have := HLE.out; omega
  have HBB : Hid (Below w.heap.size w w5) := hb.trans (hb5.mono (by simp; omega))
  have r0 : Hid _ := hb5.blk (heap_alloc4_0 w _ _ _ _) (by simp; omega)
  have r1 : Hid _ := hb5.blk (heap_alloc4_1 w _ _ _ _) (by simp)
  have r2 : Hid _ := hb5.blk (heap_alloc4_2 w _ _ _ _) (by simp)
  have r3 : Hid _ := hb5.blk (heap_alloc4_3 w _ _ _ _) (by simp)
  have hsz : w.heap.size + 4 ≤ w5.heap.size := by have := hb5.size; simp at this; omega
  have h2 := (HBB.out.cell (p := ⟨b, o, none⟩) (by assumption)).trans h1
  obtain ⟨x0, x1, x2, x3, x4, x5⟩ := row2 r0.out
  obtain ⟨y0, y1, y2, y3, y4, y5⟩ := row2 r1.out
  have HSZ : Hid (w.heap.size + 4 ≤ w5.heap.size) := hsz
  have HSW : Hid (w.heap.size ≤ w5.heap.size) := HBB.out.size
  clear hb5 hr h1 hsz
  go_upto_region 4 with fail
  go_cut [6, 7] (fun p q wx => ∃ G s1 s2 s3, p = .pointer (some ⟨G, 0, none⟩) ∧ q = .int .u64 (M % D : Nat) ∧ wx.heap[G]? = some (.cells #[.bool false, .slice s1 s2 s3] 64 (0, 0)) ∧ Num .u64 18446744073709551616 wx (.slice s1 s2 s3) (M / D) ∧ Below w5.heap.size w5 wx ∧ w5.heap.size ≤ G)
  case first => as_aux_lemma =>
    obtain ⟨QQ, eQQ⟩ : ∃ QQ, QQ = M / D := ⟨_, rfl⟩
    obtain ⟨RR, eRR⟩ : ∃ RR, RR = M % D := ⟨_, rfl⟩
    rw [← eQQ, ← eRR] at HSH
    have HQQ : Hid (QQ = M / D) := eQQ
    have HRR : Hid (RR = M % D) := eRR
    clear eQQ eRR
    have al : ∀ g o v, g < w5.heap.size → w5.cell? ⟨g, o, none⟩ = some v → (w5.alloc (.cells #[.bool false, .slice none 0 0] 64)).cell? ⟨g, o, none⟩ = some v := fun g o v hg h => by
      rw [World.cell?_alloc_past _ _ _ hg]; exact h
    have ax2 := al _ _ _ (by have := HSZ.out; omega) x2
    have ax3 := al _ _ _ (by have := HSZ.out; omega) x3
    have ay3 := al _ _ _ (by have := HSZ.out; omega) y3
    have ah2 := al _ _ _ (by have := HSW.out; omega) h2
    clear al
    clear hb x0 x1 y0 y1 x4 x5 y4 y5 HM HM'
    go_region_with (go_at_call 114; refine (HSH.out _ (by first | exact HBB.out | exact HBB.out.drewN _ | exact HBB.out.alloc HSW.out _ | exact (HBB.out.alloc HSW.out _).drewN _)).mono ?_; rintro e w6 ⟨v, rfl, ⟨s, rfl, hnum, -⟩, hb6⟩; obtain ⟨s1, s2, s3, rfl⟩ := hnum.shape; try (have hq := hb6.blk (heap_alloc_new _ _) (by simp); obtain ⟨q0, q1, q2, q3, q4, q5⟩ := row2 hq))
    all_goals go_wp2
    all_goals go_meet
    all_goals
      have hA : Below w5.heap.size w5 w6 := by
        first
          | exact (Below.refl w5.heap.size w5).trans (hb6.mono (by simp))
          | exact ((Below.refl w5.heap.size w5).drew).trans (hb6.mono (by simp))
          | exact ((Below.refl w5.heap.size w5).alloc (Nat.le_refl _) _).trans (hb6.mono (by simp))
          | exact (((Below.refl w5.heap.size w5).alloc (Nat.le_refl _) _).drew).trans (hb6.mono (by simp))
      first
        | exact ⟨_, s1, s2, s3, rfl, by rw [HRR.out], heap_alloc_new w6 _, by rw [← HQQ.out]; exact hnum.below (Nat.le_refl _) ((Below.refl _ _).alloc (Nat.le_refl _) _), hA.alloc hA.size _, hA.size⟩
        | exact ⟨_, s1, s2, s3, rfl, by rw [HRR.out], row2_set hq _ _, by rw [← HQQ.out]; exact hnum.row hq _ _, below_row hA (Nat.le_refl _) _ _, Nat.le_refl _⟩
  case rest =>
  obtain ⟨G, s1, s2, s3, rfl, rfl, hgr, hgn, hbc, hG⟩ := hcut
  have HGR : Hid _ := hgr
  have HGN : Hid (Num .u64 18446744073709551616 wc (.slice s1 s2 s3) (M / D)) := hgn
  have HBC : Hid (Below w5.heap.size w5 wc) := hbc
  have HG : Hid (w5.heap.size ≤ G) := hG
  have R2 : Hid (wc.heap[w.heap.size + 2]? = _) := hbc.blk r2.out (by have := HSZ.out; omega)
  have R3 : Hid (wc.heap[w.heap.size + 3]? = _) := hbc.blk r3.out (by have := HSZ.out; omega)
  have hlt : ∀ {w : World} {g x}, w.heap[g]? = some x → g < w.heap.size := fun h => (Array.getElem?_eq_some_iff.mp h).1
  have HL1 : Hid (G < wc.heap.size) := hlt hgr
  have HL2 : Hid (w.heap.size + 2 < wc.heap.size) := hlt R2.out
  have HL3 : Hid (w.heap.size + 3 < wc.heap.size) := hlt R3.out
  obtain ⟨g0, g1, g2, g3, -, -⟩ := row2 hgr
  obtain ⟨RR, eRR⟩ : ∃ RR, RR = M % D := ⟨_, rfl⟩
  have HRR : Hid (RR = M % D) := eRR
  have HWD : Hid (∀ W, Calls Tryd.prog 73 #[.int .u64 (RR : Nat)] W (WideQ false RR W)) := fun W => word_any RR W (by rw [eRR]; exact Nat.lt_trans (Nat.mod_lt _ hD0) HD1.out)
  rw [← eRR]
  clear hgr hgn hbc hG hlt x0 x1 x2 x3 x4 x5 y0 y1 y2 y3 y4 y5 h2 hb HM HM' eRR r0 r1 r2 r3
  go_upto_region 5 with fail
  go_region_with (go_at_call 73; refine (HWD.out _).mono ?_; rintro e w7 ⟨v, rfl, ⟨s, rfl, hnum, -⟩, hb7⟩; obtain ⟨t1, t2, t3, rfl⟩ := hnum.shape; have k1 : Hid _ := hb7.blk HGR.out HL1.out; have k2 : Hid _ := hb7.blk R2.out HL2.out; have k3 : Hid _ := hb7.blk R3.out HL3.out; obtain ⟨b0, b1, b2, b3, b4, b5⟩ := row2 k1.out; obtain ⟨c0, c1, c2, c3, c4, c5⟩ := row2 k2.out; obtain ⟨d0, d1, d2, d3, d4, d5⟩ := row2 k3.out; have HN7 : Hid _ := hnum; have hA : Below wc.heap.size wc w7 := (by first | exact (Below.refl wc.heap.size wc).trans (hb7.mono (by simp)) | exact ((Below.refl wc.heap.size wc).drew).trans (hb7.mono (by simp))); have HA : Hid _ := hA; clear hnum hb7 hA)
  all_goals go_wp2
  all_goals
    obtain ⟨f1, f2, f3, f4⟩ := quo_store k2.out k3.out (by omega) (Num.below HGN.out (Nat.le_refl _) HA.out) HN7.out false false
    rw [← HRR.out]
    exact quo_end rfl rfl rfl f1 f2 f3 f4 (below_row (below_row (HBB.out.trans ((HBC.out.mono HSW.out).trans (HA.out.mono (Nat.le_trans HSW.out HBC.out.size)))) (by omega) _ _) (by omega) _ _)
end Go.Proofs.YtiimjbpfdidgcaaDoor
