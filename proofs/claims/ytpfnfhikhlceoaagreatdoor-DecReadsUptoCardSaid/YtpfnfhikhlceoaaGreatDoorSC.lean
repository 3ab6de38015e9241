/- Parts Hg, Hh, Hi of the proof, in one text. -/
import Derived.Test.YtpfnfhikhlceoaaGreatDoorSB
import Derived.Test.YtpfnfhikhlceoaaGreatDoorRV
import Derived.Test.YtpfnfhikhlceoaaGreatDoorRF

/- Walks: the laws' one, two. -/
namespace Go.Proofs.YtpfnfhikhlceoaaGreatDoor
open Go.RowKit

theorem add_both (a b : Dc) (ha : a.s.length ≤ 4611686018427387904) (hb : b.s.length ≤ 4611686018427387904) (w : World) (htab : Tab w) : ∃ (D : Dc) (X : Int),
    (∀ W, Below w.heap.size w W → Calls Tryz.prog 32 #[.agg #[.bool a.neg, .string (bs a.s), .int .i64 a.e], .agg #[.bool b.neg, .string (bs b.s), .int .i64 b.e]] W fun e w' => e = .returned (.tuple #[.agg #[.bool D.neg, .string (bs D.s), .int .i64 D.e], .int .i64 X]) ∧ Below W.heap.size W w') ∧
    (∀ W, Calls Tryz.prog 67 #[.agg #[.bool a.neg, .string (bs a.s), .int .i64 a.e], .agg #[.bool b.neg, .string (bs b.s), .int .i64 b.e]] W fun e w' => e = .returned (.tuple #[.agg #[.bool D.neg, .string (bs D.s), .int .i64 D.e], .int .i64 X]) ∧ Below W.heap.size W w') :=
  ⟨_, _, fun W hW => add_v a b W (by omega) (by omega) (htab.below hW), fun W => radd_v a b W (by omega) (by omega)⟩
theorem sub_both (a b : Dc) (ha : a.s.length ≤ 4611686018427387904) (hb : b.s.length ≤ 4611686018427387904) (w : World) (htab : Tab w) : ∃ (D : Dc) (X : Int),
    (∀ W, Below w.heap.size w W → Calls Tryz.prog 37 #[.agg #[.bool a.neg, .string (bs a.s), .int .i64 a.e], .agg #[.bool b.neg, .string (bs b.s), .int .i64 b.e]] W fun e w' => e = .returned (.tuple #[.agg #[.bool D.neg, .string (bs D.s), .int .i64 D.e], .int .i64 X]) ∧ Below W.heap.size W w') ∧
    (∀ W, Calls Tryz.prog 68 #[.agg #[.bool a.neg, .string (bs a.s), .int .i64 a.e], .agg #[.bool b.neg, .string (bs b.s), .int .i64 b.e]] W fun e w' => e = .returned (.tuple #[.agg #[.bool D.neg, .string (bs D.s), .int .i64 D.e], .int .i64 X]) ∧ Below W.heap.size W w') :=
  ⟨_, _, fun W hW => sub_v a b W (by omega) (by omega) (htab.below hW), fun W => rsub_v a b W (by omega) (by omega)⟩
theorem mul_both (a b : Dc) (ha : a.s.length ≤ 4611686018427387904) (hb : b.s.length ≤ 4611686018427387904) (w : World) (htab : Tab w) : ∃ (D : Dc) (X : Int),
    (∀ W, Below w.heap.size w W → Calls Tryz.prog 33 #[.agg #[.bool a.neg, .string (bs a.s), .int .i64 a.e], .agg #[.bool b.neg, .string (bs b.s), .int .i64 b.e]] W fun e w' => e = .returned (.tuple #[.agg #[.bool D.neg, .string (bs D.s), .int .i64 D.e], .int .i64 X]) ∧ Below W.heap.size W w') ∧
    (∀ W, Calls Tryz.prog 69 #[.agg #[.bool a.neg, .string (bs a.s), .int .i64 a.e], .agg #[.bool b.neg, .string (bs b.s), .int .i64 b.e]] W fun e w' => e = .returned (.tuple #[.agg #[.bool D.neg, .string (bs D.s), .int .i64 D.e], .int .i64 X]) ∧ Below W.heap.size W w') :=
  ⟨_, _, fun W hW => mul_v a b W (by omega) (by omega) (htab.below hW), fun W => rmul_v a b W (by omega) (by omega)⟩
theorem cmp_both (a b : Dc) (ha : a.s.length ≤ 4611686018427387904) (hb : b.s.length ≤ 4611686018427387904) : ∃ (n X : Int),
    (∀ W, Calls Tryz.prog 31 #[.agg #[.bool a.neg, .string (bs a.s), .int .i64 a.e], .agg #[.bool b.neg, .string (bs b.s), .int .i64 b.e]] W fun e w' => e = .returned (.tuple #[.int .i64 n, .int .i64 X]) ∧ Below W.heap.size W w') ∧
    (∀ W, Calls Tryz.prog 70 #[.agg #[.bool a.neg, .string (bs a.s), .int .i64 a.e], .agg #[.bool b.neg, .string (bs b.s), .int .i64 b.e]] W fun e w' => e = .returned (.tuple #[.int .i64 n, .int .i64 X]) ∧ Below W.heap.size W w') :=
  ⟨_, _, fun W => cmp_v a b W (by omega) (by omega), fun W => rcmp_v a b W (by omega) (by omega)⟩
theorem neg_both (a : Dc) (ha : a.s.length ≤ 4611686018427387904) : ∃ (D : Dc) (X : Int),
    (∀ W, Calls Tryz.prog 27 #[.agg #[.bool a.neg, .string (bs a.s), .int .i64 a.e]] W fun e w' => e = .returned (.tuple #[.agg #[.bool D.neg, .string (bs D.s), .int .i64 D.e], .int .i64 X]) ∧ Below W.heap.size W w') ∧
    (∀ W, Calls Tryz.prog 64 #[.agg #[.bool a.neg, .string (bs a.s), .int .i64 a.e]] W fun e w' => e = .returned (.tuple #[.agg #[.bool D.neg, .string (bs D.s), .int .i64 D.e], .int .i64 X]) ∧ Below W.heap.size W w') := by
  cases h : a.okB
  · exact ⟨_, _, fun W => neg_bad a W (by omega) h, fun W => rneg_bad a W (by omega) h⟩
  · exact ⟨_, _, fun W => neg_ok a W ((okB_iff a).1 h), fun W => rneg_ok a W ((okB_iff a).1 h)⟩
theorem text_both (a : Dc) (ha : a.s.length ≤ 4611686018427387904) (w : World) (htab : Tab w) : ∃ (t : ByteArray) (X : Int),
    (∀ W, Below w.heap.size w W → Calls Tryz.prog 24 #[.agg #[.bool a.neg, .string (bs a.s), .int .i64 a.e]] W fun e w' => e = .returned (.tuple #[.string t, .int .i64 X]) ∧ Below W.heap.size W w') ∧
    (∀ W, Calls Tryz.prog 65 #[.agg #[.bool a.neg, .string (bs a.s), .int .i64 a.e]] W fun e w' => e = .returned (.tuple #[.string t, .int .i64 X]) ∧ Below W.heap.size W w') := by
  cases h : a.okB
  · exact ⟨_, _, fun W _ => text_bad a W (by omega) h, fun W => rtext_bad a W (by omega) h⟩
  · exact ⟨_, _, fun W hW => text_ok a W ((okB_iff a).1 h) (htab.below hW), fun W => rtext_ok a W ((okB_iff a).1 h)⟩
/-- A decimal laid over another one. -/
theorem Kept.put {l r : List (Nat × Obj)} {W : World} (h : Kept l W) {g : Nat} {d0 : Dc} (hm : (g, decO d0) ∈ l) (d : Dc) (hs : ∀ p ∈ r, p ∈ l ∧ p.1 ≠ g) :
    Kept ((g, decO d) :: r) (((W.setCell ⟨g, 0, none⟩ (.bool d.neg)).setCell ⟨g, 1, none⟩ (.string (bs d.s))).setCell ⟨g, 2, none⟩ (.int .i64 d.e)) := by
  obtain ⟨_, _, _, _, _, _, r3⟩ := rw3 (h.drow hm)
  refine Kept.cons (fun p hp => ?_) (r3 _ _ _)
  exact row3_other (h p (hs p hp).1) (hs p hp).2 _ _ _

set_option maxHeartbeats 4000000 in
set_option maxRecDepth 100000 in
theorem two_v (a b : Dc) (ha : a.s.length ≤ 4611686018427387904) (hb : b.s.length ≤ 4611686018427387904) (w : World) (htab : Tab w) :
    Calls Tryz.prog 36 #[dcV a, dcV b] w fun e w' => e = .returned (.bool true) ∧ Below w.heap.size w w' := by
  obtain ⟨D1, X1, p1, q1⟩ := add_both a b ha hb w htab
  obtain ⟨D2, X2, p2, q2⟩ := sub_both a b ha hb w htab
  obtain ⟨D3, X3, p3, q3⟩ := mul_both a b ha hb w htab
  obtain ⟨n4, X4, p4, q4⟩ := cmp_both a b ha hb
  have P1 : Hid _ := p1
  have P2 : Hid _ := p2
  have P3 : Hid _ := p3
  have P4 : Hid _ := p4
  have Q1 : Hid _ := q1
  have Q2 : Hid _ := q2
  have Q3 : Hid _ := q3
  have Q4 : Hid _ := q4
  simp only [dcV]
  have HK0 : Hid (Kept [(w.heap.size, decO a), (w.heap.size + 1, decO b)] ((w.alloc (.cells #[.bool a.neg, .string (bs a.s), .int .i64 a.e] 25)).alloc (.cells #[.bool b.neg, .string (bs b.s), .int .i64 b.e] 25))) := ((Kept.nil _).cons (heap_alloc2_new w _ _)).cons (heap_alloc2_old w _ _)
  have HB0 : Hid (Below w.heap.size w ((w.alloc (.cells #[.bool a.neg, .string (bs a.s), .int .i64 a.e] 25)).alloc (.cells #[.bool b.neg, .string (bs b.s), .int .i64 b.e] 25))) := ((Below.refl _ _).alloc (Nat.le_refl _) _).alloc (by simp) _
  clear ha hb htab p1 p2 p3 p4 q1 q2 q3 q4
  go_enter Tryz.func36, Tryz.ntmps36
  obtain ⟨a0, a1, a2⟩ := HK0.out.decs (.head _)
  obtain ⟨b0, b1, b2⟩ := HK0.out.decs (.tail _ (.head _))
  go_wp2_with fail
  refine (P1.out _ HB0.out).mono ?_
  rintro e w1 ⟨rfl, hb⟩
  have HK1a : Hid (Kept _ w1) := HK0.out.below hb
  have HB1a : Hid (Below w.heap.size w w1) := HB0.out.thru hb
  clear hb
  clear a0 a1 a2 b0 b1 b2 HK0 HB0
  have hg1 : w.heap.size + 2 ≤ w1.heap.size := by have := blk_lt (HK1a.out.drow (.tail _ (.head _))); omega
  go_upto_region 2 with fail
  have HK1 : Hid (Kept [(w1.heap.size, decO D1), (w.heap.size, decO a), (w.heap.size + 1, decO b)] (w1.alloc (.cells #[.bool D1.neg, .string (bs D1.s), .int .i64 D1.e] 25))) := HK1a.out.dec D1
  have HB1 : Hid (Below w.heap.size w (w1.alloc (.cells #[.bool D1.neg, .string (bs D1.s), .int .i64 D1.e] 25))) := HB1a.out.alloc HB1a.out.size _
  have hz1 : w1.heap.size < (w1.alloc (.cells #[.bool D1.neg, .string (bs D1.s), .int .i64 D1.e] 25)).heap.size := by simp
  obtain ⟨g5, hg5⟩ : ∃ g, g = w1.heap.size := ⟨_, rfl⟩
  obtain ⟨v1, hv1⟩ : ∃ v, v = w1.alloc (.cells #[.bool D1.neg, .string (bs D1.s), .int .i64 D1.e] 25) := ⟨_, rfl⟩
  rw [← hg5] at hg1 hz1
  rw [← hv1] at hz1
  rw [← hg5, ← hv1] at HK1
  rw [← hv1] at HB1
  rw [← hg5, ← hv1]
  clear hg5 hv1 HK1a HB1a
  obtain ⟨a0, a1, a2⟩ := HK1.out.decs (.tail _ (.head _))
  obtain ⟨b0, b1, b2⟩ := HK1.out.decs (.tail _ (.tail _ (.head _)))
  go_wp2_with fail
  refine (Q1.out _).mono ?_
  rintro e w2 ⟨rfl, hb⟩
  have HK2a : Hid (Kept _ w2) := HK1.out.below hb
  have HB2a : Hid (Below w.heap.size w w2) := HB1.out.thru hb
  clear hb
  clear a0 a1 a2 b0 b1 b2 HK1 HB1
  have hg2 : g5 < w2.heap.size := blk_lt (HK2a.out.drow (.head _))
  go_upto_region 3 with fail
  have HK2 : Hid (Kept [(w2.heap.size, decO D1), (g5, decO D1), (w.heap.size, decO a), (w.heap.size + 1, decO b)] (w2.alloc (.cells #[.bool D1.neg, .string (bs D1.s), .int .i64 D1.e] 25))) := HK2a.out.dec D1
  have HB2 : Hid (Below w.heap.size w (w2.alloc (.cells #[.bool D1.neg, .string (bs D1.s), .int .i64 D1.e] 25))) := HB2a.out.alloc HB2a.out.size _
  obtain ⟨g7, hg7⟩ : ∃ g, g = w2.heap.size := ⟨_, rfl⟩
  obtain ⟨v2, hv2⟩ : ∃ v, v = w2.alloc (.cells #[.bool D1.neg, .string (bs D1.s), .int .i64 D1.e] 25) := ⟨_, rfl⟩
  rw [← hg7] at hg2
  rw [← hg7, ← hv2] at HK2
  rw [← hv2] at HB2
  rw [← hg7, ← hv2]
  clear hg7 hv2 HK2a HB2a hz1
  obtain ⟨a0, a1, a2⟩ := HK2.out.decs (.tail _ (.head _))
  obtain ⟨b0, b1, b2⟩ := HK2.out.decs (.head _)
  go_wp2_with fail
  refine (agree_same D1 X1 _).mono ?_
  rintro e w3 ⟨rfl, hb⟩
  have HK3a : Hid (Kept _ w3) := HK2.out.below hb
  have HB3a : Hid (Below w.heap.size w w3) := HB2.out.thru hb
  clear hb a0 a1 a2 b0 b1 b2 HK2 HB2
  obtain ⟨a0, a1, a2⟩ := HK3a.out.decs (.tail _ (.tail _ (.head _)))
  obtain ⟨b0, b1, b2⟩ := HK3a.out.decs (.tail _ (.tail _ (.tail _ (.head _))))
  go_wp2_with fail
  refine (P2.out _ HB3a.out).mono ?_
  rintro e w4 ⟨rfl, hb⟩
  have HK4a : Hid (Kept _ w4) := HK3a.out.below hb
  have HB4a : Hid (Below w.heap.size w w4) := HB3a.out.thru hb
  clear hb
  clear a0 a1 a2 b0 b1 b2 HK3a HB3a
  obtain ⟨f0, c0, f1, c1, f2, c2, r3⟩ := rw3 (HK4a.out.drow (.tail _ (.head _)))
  clear r3
  go_upto_region 6 with fail
  have HK4 : Hid (Kept [(g7, decO D1), (g5, decO D2), (w.heap.size, decO a), (w.heap.size + 1, decO b)] (((w4.setCell ⟨g5, 0, none⟩ (.bool D2.neg)).setCell ⟨g5, 1, none⟩ (.string (bs D2.s))).setCell ⟨g5, 2, none⟩ (.int .i64 D2.e))) := (HK4a.out.put (d0 := D1) (.tail _ (.head _)) D2 (r := [(g7, decO D1), (w.heap.size, decO a), (w.heap.size + 1, decO b)]) (by intro p hp; simp only [List.mem_cons, List.not_mem_nil, or_false] at hp ⊢; rcases hp with rfl | rfl | rfl <;> simp <;> omega)).sub (by intro p hp; simp only [List.mem_cons, List.not_mem_nil, or_false] at hp ⊢; rcases hp with rfl | rfl | rfl | rfl <;> simp)
  have HB4 : Hid (Below w.heap.size w (((w4.setCell ⟨g5, 0, none⟩ (.bool D2.neg)).setCell ⟨g5, 1, none⟩ (.string (bs D2.s))).setCell ⟨g5, 2, none⟩ (.int .i64 D2.e))) := below_row3 HB4a.out (by omega) _ _ _
  clear f0 c0 f1 c1 f2 c2
  obtain ⟨v4, hv4⟩ : ∃ v, v = (((w4.setCell ⟨g5, 0, none⟩ (.bool D2.neg)).setCell ⟨g5, 1, none⟩ (.string (bs D2.s))).setCell ⟨g5, 2, none⟩ (.int .i64 D2.e)) := ⟨_, rfl⟩
  rw [← hv4] at HK4
  rw [← hv4] at HB4
  rw [← hv4]
  clear hv4 HK4a HB4a
  obtain ⟨a0, a1, a2⟩ := HK4.out.decs (.tail _ (.tail _ (.head _)))
  obtain ⟨b0, b1, b2⟩ := HK4.out.decs (.tail _ (.tail _ (.tail _ (.head _))))
  go_wp2_with fail
  refine (Q2.out _).mono ?_
  rintro e w5 ⟨rfl, hb⟩
  have HK5a : Hid (Kept _ w5) := HK4.out.below hb
  have HB5a : Hid (Below w.heap.size w w5) := HB4.out.thru hb
  clear hb
  clear a0 a1 a2 b0 b1 b2 HK4 HB4
  obtain ⟨f0, c0, f1, c1, f2, c2, r3⟩ := rw3 (HK5a.out.drow (.head _))
  clear r3
  go_upto_region 7 with fail
  have HK5 : Hid (Kept [(g7, decO D2), (g5, decO D2), (w.heap.size, decO a), (w.heap.size + 1, decO b)] (((w5.setCell ⟨g7, 0, none⟩ (.bool D2.neg)).setCell ⟨g7, 1, none⟩ (.string (bs D2.s))).setCell ⟨g7, 2, none⟩ (.int .i64 D2.e))) := (HK5a.out.put (d0 := D1) (.head _) D2 (r := [(g5, decO D2), (w.heap.size, decO a), (w.heap.size + 1, decO b)]) (by intro p hp; simp only [List.mem_cons, List.not_mem_nil, or_false] at hp ⊢; rcases hp with rfl | rfl | rfl <;> simp <;> omega)).sub (by intro p hp; simp only [List.mem_cons, List.not_mem_nil, or_false] at hp ⊢; rcases hp with rfl | rfl | rfl | rfl <;> simp)
  have HB5 : Hid (Below w.heap.size w (((w5.setCell ⟨g7, 0, none⟩ (.bool D2.neg)).setCell ⟨g7, 1, none⟩ (.string (bs D2.s))).setCell ⟨g7, 2, none⟩ (.int .i64 D2.e))) := below_row3 HB5a.out (by omega) _ _ _
  clear f0 c0 f1 c1 f2 c2
  obtain ⟨v5, hv5⟩ : ∃ v, v = (((w5.setCell ⟨g7, 0, none⟩ (.bool D2.neg)).setCell ⟨g7, 1, none⟩ (.string (bs D2.s))).setCell ⟨g7, 2, none⟩ (.int .i64 D2.e)) := ⟨_, rfl⟩
  rw [← hv5] at HK5
  rw [← hv5] at HB5
  rw [← hv5]
  clear hv5 HK5a HB5a
  obtain ⟨a0, a1, a2⟩ := HK5.out.decs (.tail _ (.head _))
  obtain ⟨b0, b1, b2⟩ := HK5.out.decs (.head _)
  go_wp2_with fail
  refine (agree_same D2 X2 _).mono ?_
  rintro e w6 ⟨rfl, hb⟩
  have HK6a : Hid (Kept _ w6) := HK5.out.below hb
  have HB6a : Hid (Below w.heap.size w w6) := HB5.out.thru hb
  clear hb a0 a1 a2 b0 b1 b2 HK5 HB5
  obtain ⟨a0, a1, a2⟩ := HK6a.out.decs (.tail _ (.tail _ (.head _)))
  obtain ⟨b0, b1, b2⟩ := HK6a.out.decs (.tail _ (.tail _ (.tail _ (.head _))))
  go_wp2_with fail
  refine (P3.out _ HB6a.out).mono ?_
  rintro e w7 ⟨rfl, hb⟩
  have HK7a : Hid (Kept _ w7) := HK6a.out.below hb
  have HB7a : Hid (Below w.heap.size w w7) := HB6a.out.thru hb
  clear hb
  clear a0 a1 a2 b0 b1 b2 HK6a HB6a
  obtain ⟨f0, c0, f1, c1, f2, c2, r3⟩ := rw3 (HK7a.out.drow (.tail _ (.head _)))
  clear r3
  go_upto_region 10 with fail
  have HK7 : Hid (Kept [(g7, decO D2), (g5, decO D3), (w.heap.size, decO a), (w.heap.size + 1, decO b)] (((w7.setCell ⟨g5, 0, none⟩ (.bool D3.neg)).setCell ⟨g5, 1, none⟩ (.string (bs D3.s))).setCell ⟨g5, 2, none⟩ (.int .i64 D3.e))) := (HK7a.out.put (d0 := D2) (.tail _ (.head _)) D3 (r := [(g7, decO D2), (w.heap.size, decO a), (w.heap.size + 1, decO b)]) (by intro p hp; simp only [List.mem_cons, List.not_mem_nil, or_false] at hp ⊢; rcases hp with rfl | rfl | rfl <;> simp <;> omega)).sub (by intro p hp; simp only [List.mem_cons, List.not_mem_nil, or_false] at hp ⊢; rcases hp with rfl | rfl | rfl | rfl <;> simp)
  have HB7 : Hid (Below w.heap.size w (((w7.setCell ⟨g5, 0, none⟩ (.bool D3.neg)).setCell ⟨g5, 1, none⟩ (.string (bs D3.s))).setCell ⟨g5, 2, none⟩ (.int .i64 D3.e))) := below_row3 HB7a.out (by omega) _ _ _
  clear f0 c0 f1 c1 f2 c2
  obtain ⟨v7, hv7⟩ : ∃ v, v = (((w7.setCell ⟨g5, 0, none⟩ (.bool D3.neg)).setCell ⟨g5, 1, none⟩ (.string (bs D3.s))).setCell ⟨g5, 2, none⟩ (.int .i64 D3.e)) := ⟨_, rfl⟩
  rw [← hv7] at HK7
  rw [← hv7] at HB7
  rw [← hv7]
  clear hv7 HK7a HB7a
  obtain ⟨a0, a1, a2⟩ := HK7.out.decs (.tail _ (.tail _ (.head _)))
  obtain ⟨b0, b1, b2⟩ := HK7.out.decs (.tail _ (.tail _ (.tail _ (.head _))))
  go_wp2_with fail
  refine (Q3.out _).mono ?_
  rintro e w8 ⟨rfl, hb⟩
  have HK8a : Hid (Kept _ w8) := HK7.out.below hb
  have HB8a : Hid (Below w.heap.size w w8) := HB7.out.thru hb
  clear hb
  clear a0 a1 a2 b0 b1 b2 HK7 HB7
  obtain ⟨f0, c0, f1, c1, f2, c2, r3⟩ := rw3 (HK8a.out.drow (.head _))
  clear r3
  go_upto_region 11 with fail
  have HK8 : Hid (Kept [(g7, decO D3), (g5, decO D3), (w.heap.size, decO a), (w.heap.size + 1, decO b)] (((w8.setCell ⟨g7, 0, none⟩ (.bool D3.neg)).setCell ⟨g7, 1, none⟩ (.string (bs D3.s))).setCell ⟨g7, 2, none⟩ (.int .i64 D3.e))) := (HK8a.out.put (d0 := D2) (.head _) D3 (r := [(g5, decO D3), (w.heap.size, decO a), (w.heap.size + 1, decO b)]) (by intro p hp; simp only [List.mem_cons, List.not_mem_nil, or_false] at hp ⊢; rcases hp with rfl | rfl | rfl <;> simp <;> omega)).sub (by intro p hp; simp only [List.mem_cons, List.not_mem_nil, or_false] at hp ⊢; rcases hp with rfl | rfl | rfl | rfl <;> simp)
  have HB8 : Hid (Below w.heap.size w (((w8.setCell ⟨g7, 0, none⟩ (.bool D3.neg)).setCell ⟨g7, 1, none⟩ (.string (bs D3.s))).setCell ⟨g7, 2, none⟩ (.int .i64 D3.e))) := below_row3 HB8a.out (by omega) _ _ _
  clear f0 c0 f1 c1 f2 c2
  obtain ⟨v8, hv8⟩ : ∃ v, v = (((w8.setCell ⟨g7, 0, none⟩ (.bool D3.neg)).setCell ⟨g7, 1, none⟩ (.string (bs D3.s))).setCell ⟨g7, 2, none⟩ (.int .i64 D3.e)) := ⟨_, rfl⟩
  rw [← hv8] at HK8
  rw [← hv8] at HB8
  rw [← hv8]
  clear hv8 HK8a HB8a
  obtain ⟨a0, a1, a2⟩ := HK8.out.decs (.tail _ (.head _))
  obtain ⟨b0, b1, b2⟩ := HK8.out.decs (.head _)
  go_wp2_with fail
  refine (agree_same D3 X3 _).mono ?_
  rintro e w9 ⟨rfl, hb⟩
  have HK9a : Hid (Kept _ w9) := HK8.out.below hb
  have HB9a : Hid (Below w.heap.size w w9) := HB8.out.thru hb
  clear hb a0 a1 a2 b0 b1 b2 HK8 HB8
  obtain ⟨a0, a1, a2⟩ := HK9a.out.decs (.tail _ (.tail _ (.head _)))
  obtain ⟨b0, b1, b2⟩ := HK9a.out.decs (.tail _ (.tail _ (.tail _ (.head _))))
  go_wp2_with fail
  refine (P4.out _).mono ?_
  rintro e w10 ⟨rfl, hb⟩
  have HK10a : Hid (Kept _ w10) := HK9a.out.below hb
  have HB10a : Hid (Below w.heap.size w w10) := HB9a.out.thru hb
  clear hb
  clear a0 a1 a2 b0 b1 b2 HK9a HB9a
  obtain ⟨a0, a1, a2⟩ := HK10a.out.decs (.tail _ (.tail _ (.head _)))
  obtain ⟨b0, b1, b2⟩ := HK10a.out.decs (.tail _ (.tail _ (.tail _ (.head _))))
  go_wp2_with fail
  refine (Q4.out _).mono ?_
  rintro e w11 ⟨rfl, hb⟩
  have HK11a : Hid (Kept _ w11) := HK10a.out.below hb
  have HB11a : Hid (Below w.heap.size w w11) := HB10a.out.thru hb
  clear hb
  clear a0 a1 a2 b0 b1 b2 HK10a HB10a
  go_wp2
  go_ret
  exact ⟨rfl, HB11a.out⟩

set_option maxHeartbeats 4000000 in
set_option maxRecDepth 100000 in
theorem one_v (a : Dc) (ha : a.s.length ≤ 4611686018427387904) (w : World) (htab : Tab w) :
    Calls Tryz.prog 35 #[dcV a] w fun e w' => e = .returned (.bool true) ∧ Below w.heap.size w w' := by
  obtain ⟨D1, X1, p1, q1⟩ := neg_both a ha
  obtain ⟨t, X2, p2, q2⟩ := text_both a ha w htab
  have P1 : Hid _ := p1
  have P2 : Hid _ := p2
  have Q1 : Hid _ := q1
  have Q2 : Hid _ := q2
  obtain ⟨V, hV⟩ : ∃ V, V = a.okB := ⟨_, rfl⟩
  have CV : Hid (∀ W, Calls Tryz.prog 25 #[.agg #[.bool a.neg, .string (bs a.s), .int .i64 a.e]] W fun e w' => e = .returned (.bool V) ∧ Below W.heap.size W w') := fun W => by rw [hV]; exact valid_v a W (by omega)
  have CR : Hid (∀ W, Calls Tryz.prog 66 #[.agg #[.bool a.neg, .string (bs a.s), .int .i64 a.e]] W fun e w' => e = .returned (.bool V) ∧ Below W.heap.size W w') := fun W => by rw [hV]; exact rvalid_v a W (by omega)
  simp only [dcV]
  have HK0 : Hid (Kept [(w.heap.size, decO a)] (w.alloc (.cells #[.bool a.neg, .string (bs a.s), .int .i64 a.e] 25))) := (Kept.nil _).cons (new_blk w _)
  have HB0 : Hid (Below w.heap.size w (w.alloc (.cells #[.bool a.neg, .string (bs a.s), .int .i64 a.e] 25))) := (Below.refl _ _).alloc (Nat.le_refl _) _
  clear ha htab p1 p2 q1 q2 hV
  go_enter Tryz.func35, Tryz.ntmps35
  obtain ⟨a0, a1, a2⟩ := HK0.out.decs (.head _)
  go_wp2_with fail
  refine (P1.out _).mono ?_
  rintro e w1 ⟨rfl, hb⟩
  have HK1a : Hid (Kept _ w1) := HK0.out.below hb
  have HB1a : Hid (Below w.heap.size w w1) := HB0.out.thru hb
  clear hb
  clear a0 a1 a2 HK0 HB0
  go_upto_region 2 with fail
  have HK1 : Hid (Kept (_ :: [(w.heap.size, decO a)]) (w1.alloc (.cells #[.bool D1.neg, .string (bs D1.s), .int .i64 D1.e] 25))) := HK1a.out.dec D1
  have HB1 : Hid (Below w.heap.size w (w1.alloc (.cells #[.bool D1.neg, .string (bs D1.s), .int .i64 D1.e] 25))) := HB1a.out.alloc HB1a.out.size _
  obtain ⟨g3, hg3⟩ : ∃ g, g = w1.heap.size := ⟨_, rfl⟩
  obtain ⟨v1, hv1⟩ : ∃ v, v = w1.alloc (.cells #[.bool D1.neg, .string (bs D1.s), .int .i64 D1.e] 25) := ⟨_, rfl⟩
  rw [← hg3, ← hv1] at HK1
  rw [← hv1] at HB1
  rw [← hg3, ← hv1]
  clear hg3 hv1 HK1a HB1a
  obtain ⟨a0, a1, a2⟩ := HK1.out.decs (.tail _ (.head _))
  go_wp2_with fail
  refine (Q1.out _).mono ?_
  rintro e w2 ⟨rfl, hb⟩
  have HK2a : Hid (Kept _ w2) := HK1.out.below hb
  have HB2a : Hid (Below w.heap.size w w2) := HB1.out.thru hb
  clear hb
  clear a0 a1 a2 HK1 HB1
  go_upto_region 3 with fail
  have HK2 : Hid (Kept (_ :: [(g3, decO D1), (w.heap.size, decO a)]) (w2.alloc (.cells #[.bool D1.neg, .string (bs D1.s), .int .i64 D1.e] 25))) := HK2a.out.dec D1
  have HB2 : Hid (Below w.heap.size w (w2.alloc (.cells #[.bool D1.neg, .string (bs D1.s), .int .i64 D1.e] 25))) := HB2a.out.alloc HB2a.out.size _
  obtain ⟨g5, hg5⟩ : ∃ g, g = w2.heap.size := ⟨_, rfl⟩
  obtain ⟨v2, hv2⟩ : ∃ v, v = w2.alloc (.cells #[.bool D1.neg, .string (bs D1.s), .int .i64 D1.e] 25) := ⟨_, rfl⟩
  rw [← hg5, ← hv2] at HK2
  rw [← hv2] at HB2
  rw [← hg5, ← hv2]
  clear hg5 hv2 HK2a HB2a
  obtain ⟨a0, a1, a2⟩ := HK2.out.decs (.tail _ (.tail _ (.head _)))
  go_wp2_with fail
  refine (P2.out _ HB2.out).mono ?_
  rintro e w3 ⟨rfl, hb⟩
  have HK3a : Hid (Kept _ w3) := HK2.out.below hb
  have HB3a : Hid (Below w.heap.size w w3) := HB2.out.thru hb
  clear hb
  clear a0 a1 a2 HK2 HB2
  obtain ⟨a0, a1, a2⟩ := HK3a.out.decs (.tail _ (.tail _ (.head _)))
  go_wp2_with fail
  refine (Q2.out _).mono ?_
  rintro e w4 ⟨rfl, hb⟩
  have HK4a : Hid (Kept _ w4) := HK3a.out.below hb
  have HB4a : Hid (Below w.heap.size w w4) := HB3a.out.thru hb
  clear hb
  clear a0 a1 a2 HK3a HB3a
  have HK4 : Hid (Kept [(g5, decO D1), (g3, decO D1), (w.heap.size, decO a)] w4) := HK4a.out
  have HB4 : Hid (Below w.heap.size w w4) := HB4a.out
  clear HK4a HB4a
  go_upto_region 5 with fail
  have h1 : once [(31, 0), (32, 1), (33, 2), (34, 3), (35, 4), (36, 5), (37, 6), (38, 7), (39, 8), (40, 9), (41, 10), (42, 11), (43, 12), (44, 13), (45, 14), (46, 15), (47, 16), (48, 17), (49, 18), (50, 19), (51, 20), (52, 21)] = true := by kernel_rfl
  have h2 : within [(31, 0), (32, 1), (33, 2), (34, 3), (35, 4), (36, 5), (37, 6), (38, 7), (39, 8), (40, 9), (41, 10), (42, 11), (43, 12), (44, 13), (45, 14), (46, 15), (47, 16), (48, 17), (49, 18), (50, 19), (51, 20), (52, 21)] 53 = true := by kernel_rfl
  refine wp_region_flow 22 23 [(31, 0), (32, 1), (33, 2), (34, 3), (35, 4), (36, 5), (37, 6), (38, 7), (39, 8), (40, 9), (41, 10), (42, 11), (43, 12), (44, 13), (45, 14), (46, 15), (47, 16), (48, 17), (49, 18), (50, 19), (51, 20), (52, 21)] [] (fun i v W => match i with
    | 0 => v = .agg #[.bool a.neg, .string (bs a.s), .int .i64 a.e]
    | 1 => v = .bool V
    | 2 => v = .agg #[.bool a.neg, .string (bs a.s), .int .i64 a.e]
    | 3 => v = .bool V
    | 4 => v = .bool true
    | 5 => v = .bool true
    | 6 => v = .agg #[.bool D1.neg, .string (bs D1.s), .int .i64 D1.e]
    | 7 => v = .int .i64 X1
    | 8 => v = .agg #[.bool D1.neg, .string (bs D1.s), .int .i64 D1.e]
    | 9 => v = .int .i64 X1
    | 10 => v = .bool true
    | 11 => v = .bool true
    | 12 => v = .bool true
    | 13 => v = .string t
    | 14 => v = .string t
    | 15 => v = .bool true
    | 16 => v = .bool true
    | 17 => v = .bool true
    | 18 => v = .int .i64 X2
    | 19 => v = .int .i64 X2
    | 20 => v = .bool true
    | _ => v = .bool true) w4.heap.size (Nat.le_refl _) (by kernel_rfl) (by kernel_rfl) (by kernel_rfl) (by decide) (by kernel_rfl) h1 (by kernel_rfl) ?_ ?_ ?_ ?_
  · intro j v W W' h hb
    match j, h with
    | 0, h => exact h
    | 1, h => exact h
    | 2, h => exact h
    | 3, h => exact h
    | 4, h => exact h
    | 5, h => exact h
    | 6, h => exact h
    | 7, h => exact h
    | 8, h => exact h
    | 9, h => exact h
    | 10, h => exact h
    | 11, h => exact h
    | 12, h => exact h
    | 13, h => exact h
    | 14, h => exact h
    | 15, h => exact h
    | 16, h => exact h
    | 17, h => exact h
    | 18, h => exact h
    | 19, h => exact h
    | 20, h => exact h
    | _ + 21, h => exact h
  · exact fun j hj => by cases hj
  · refine ⟨⟨⟨⟨⟨⟨⟨⟨⟨⟨⟨⟨⟨⟨⟨⟨⟨⟨⟨⟨⟨⟨trivial, ?_⟩, ?_⟩, ?_⟩, ?_⟩, ?_⟩, ?_⟩, ?_⟩, ?_⟩, ?_⟩, ?_⟩, ?_⟩, ?_⟩, ?_⟩, ?_⟩, ?_⟩, ?_⟩, ?_⟩, ?_⟩, ?_⟩, ?_⟩, ?_⟩, ?_⟩
    · refine flow_step _ 31 rfl rfl (fun d h => by simpa using h) h1 h2 fun ac xs W he hb hS K hK => ?_
      exact wp_load_row 25 (.tmp 1) rfl w.heap.size (he 1) _ _ _ _ (hb.blk (HK4.out.drow (.tail _ (.tail _ (.head _)))) (blk_lt (HK4.out.drow (.tail _ (.tail _ (.head _)))))) Tryz.underlying25 rfl (by kernel_rfl) (hK _ _ rfl (Below.refl _ _) (fun h => absurd h (by decide)))
    · refine flow_step _ 32 rfl rfl (fun d h => by simpa using h) h1 h2 fun ac xs W he hb hS K hK => ?_
      have e0 : ac.eval (.tmp 31) = _ := (he 31).trans (hS 0 (by kernel_rfl))
      refine op_call 25 _ _ rfl _ (by simp only [List.map, e0]) (by go_simp) (CV.out W) ?_
      rintro e' W' ⟨rfl, hb'⟩
      exact ⟨_, rfl, hK _ _ (rfl) hb' (fun h => absurd h (by decide))⟩
    · refine flow_step _ 33 rfl rfl (fun d h => by simpa using h) h1 h2 fun ac xs W he hb hS K hK => ?_
      exact wp_load_row 25 (.tmp 1) rfl w.heap.size (he 1) _ _ _ _ (hb.blk (HK4.out.drow (.tail _ (.tail _ (.head _)))) (blk_lt (HK4.out.drow (.tail _ (.tail _ (.head _)))))) Tryz.underlying25 rfl (by kernel_rfl) (hK _ _ rfl (Below.refl _ _) (fun h => absurd h (by decide)))
    · refine flow_step _ 34 rfl rfl (fun d h => by simpa using h) h1 h2 fun ac xs W he hb hS K hK => ?_
      have e0 : ac.eval (.tmp 33) = _ := (he 33).trans (hS 2 (by kernel_rfl))
      refine op_call 66 _ _ rfl _ (by simp only [List.map, e0]) (by go_simp) (CR.out W) ?_
      rintro e' W' ⟨rfl, hb'⟩
      exact ⟨_, rfl, hK _ _ (rfl) hb' (fun h => absurd h (by decide))⟩
    · refine flow_step _ 35 rfl rfl (fun d h => by simpa using h) h1 h2 fun ac xs W he hb hS K hK => ?_
      have e0 : ac.eval (.tmp 32) = _ := (he 32).trans (hS 1 (by kernel_rfl))
      have e1 : ac.eval (.tmp 34) = _ := (he 34).trans (hS 3 (by kernel_rfl))
      refine op_any (.binOp .eql 4 (.tmp 32) (.tmp 34) 4) rfl (.bool true) (fun o' ho' => ?_) (hK _ _ rfl (Below.refl _ _) (fun h => absurd h (by decide)))
      simp only [execOp, ho', e0, e1]
      go_simp
    · refine flow_step _ 36 rfl rfl (fun d h => by simpa using h) h1 h2 fun ac xs W he hb hS K hK => ?_
      exact op_move (.tmp 35) (.inl rfl) (hK _ _ ((he 35).trans (hS 4 (by kernel_rfl))) (Below.refl _ _) (fun h => absurd h (by decide)))
    · refine flow_stepG _ 37 5 36 true rfl rfl rfl (by kernel_rfl) (fun _ => rfl) (fun v W h => h) (fun d h => by simpa using h) h1 h2 fun ac xs W he hb hS K hK => ?_
      exact wp_load_row 25 (.tmp 3) rfl g3 (he 3) _ _ _ _ (hb.blk (HK4.out.drow (.tail _ (.head _))) (blk_lt (HK4.out.drow (.tail _ (.head _))))) Tryz.underlying25 rfl (by kernel_rfl) (hK _ _ rfl (Below.refl _ _) (fun h => absurd h (by decide)))
    · refine flow_stepG _ 38 5 36 true rfl rfl rfl (by kernel_rfl) (fun _ => rfl) (fun v W h => h) (fun d h => by simpa using h) h1 h2 fun ac xs W he hb hS K hK => ?_
      exact op_move (.tmp 4) (.inl rfl) (hK _ _ (he 4) (Below.refl _ _) (fun h => absurd h (by decide)))
    · refine flow_stepG _ 39 5 36 true rfl rfl rfl (by kernel_rfl) (fun _ => rfl) (fun v W h => h) (fun d h => by simpa using h) h1 h2 fun ac xs W he hb hS K hK => ?_
      exact wp_load_row 25 (.tmp 5) rfl g5 (he 5) _ _ _ _ (hb.blk (HK4.out.drow (.head _)) (blk_lt (HK4.out.drow (.head _)))) Tryz.underlying25 rfl (by kernel_rfl) (hK _ _ rfl (Below.refl _ _) (fun h => absurd h (by decide)))
    · refine flow_stepG _ 40 5 36 true rfl rfl rfl (by kernel_rfl) (fun _ => rfl) (fun v W h => h) (fun d h => by simpa using h) h1 h2 fun ac xs W he hb hS K hK => ?_
      exact op_move (.tmp 6) (.inl rfl) (hK _ _ (he 6) (Below.refl _ _) (fun h => absurd h (by decide)))
    · refine flow_stepG _ 41 5 36 true rfl rfl rfl (by kernel_rfl) (fun _ => rfl) (fun v W h => h) (fun d h => by simpa using h) h1 h2 fun ac xs W he hb hS K hK => ?_
      have e0 : ac.eval (.tmp 37) = _ := (he 37).trans (hS 6 (by kernel_rfl))
      have e1 : ac.eval (.tmp 38) = _ := (he 38).trans (hS 7 (by kernel_rfl))
      have e2 : ac.eval (.tmp 39) = _ := (he 39).trans (hS 8 (by kernel_rfl))
      have e3 : ac.eval (.tmp 40) = _ := (he 40).trans (hS 9 (by kernel_rfl))
      refine op_call 18 _ _ rfl _ (by simp only [List.map, e0, e1, e2, e3]) (by go_simp) (agree_same D1 X1 W) ?_
      rintro e' W' ⟨rfl, hb'⟩
      exact ⟨_, rfl, hK _ _ (rfl) hb' (fun h => absurd h (by decide))⟩
    · refine flow_step _ 42 rfl rfl (fun d h => by simpa using h) h1 h2 fun ac xs W he hb hS K hK => ?_
      have e0 : ac.eval (.tmp 36) = _ := (he 36).trans (hS 5 (by kernel_rfl))
      have e1 : ac.eval (.tmp 41) = _ := (he 41).trans (hS 10 (by kernel_rfl))
      refine op_any (.pick (.tmp 36) (.tmp 41) (.const (.bool false))) rfl (.bool true) (fun o' ho' => ?_) (hK _ _ rfl (Below.refl _ _) (fun h => absurd h (by decide)))
      simp only [execOp, ho', e0, e1]
      go_simp
    · refine flow_step _ 43 rfl rfl (fun d h => by simpa using h) h1 h2 fun ac xs W he hb hS K hK => ?_
      exact op_move (.tmp 42) (.inl rfl) (hK _ _ ((he 42).trans (hS 11 (by kernel_rfl))) (Below.refl _ _) (fun h => absurd h (by decide)))
    · refine flow_stepG _ 44 12 43 true rfl rfl rfl (by kernel_rfl) (fun _ => rfl) (fun v W h => h) (fun d h => by simpa using h) h1 h2 fun ac xs W he hb hS K hK => ?_
      exact op_move (.tmp 7) (.inl rfl) (hK _ _ (he 7) (Below.refl _ _) (fun h => absurd h (by decide)))
    · refine flow_stepG _ 45 12 43 true rfl rfl rfl (by kernel_rfl) (fun _ => rfl) (fun v W h => h) (fun d h => by simpa using h) h1 h2 fun ac xs W he hb hS K hK => ?_
      exact op_move (.tmp 9) (.inl rfl) (hK _ _ (he 9) (Below.refl _ _) (fun h => absurd h (by decide)))
    · refine flow_stepG _ 46 12 43 true rfl rfl rfl (by kernel_rfl) (fun _ => rfl) (fun v W h => h) (fun d h => by simpa using h) h1 h2 fun ac xs W he hb hS K hK => ?_
      have e0 : ac.eval (.tmp 44) = _ := (he 44).trans (hS 13 (by kernel_rfl))
      have e1 : ac.eval (.tmp 45) = _ := (he 45).trans (hS 14 (by kernel_rfl))
      refine op_any (.binOp .eql 9 (.tmp 44) (.tmp 45) 9) rfl (.bool true) (fun o' ho' => ?_) (hK _ _ rfl (Below.refl _ _) (fun h => absurd h (by decide)))
      simp only [execOp, ho', e0, e1]
      go_simp
    · refine flow_step _ 47 rfl rfl (fun d h => by simpa using h) h1 h2 fun ac xs W he hb hS K hK => ?_
      have e0 : ac.eval (.tmp 43) = _ := (he 43).trans (hS 12 (by kernel_rfl))
      have e1 : ac.eval (.tmp 46) = _ := (he 46).trans (hS 15 (by kernel_rfl))
      refine op_any (.pick (.tmp 43) (.tmp 46) (.const (.bool false))) rfl (.bool true) (fun o' ho' => ?_) (hK _ _ rfl (Below.refl _ _) (fun h => absurd h (by decide)))
      simp only [execOp, ho', e0, e1]
      go_simp
    · refine flow_step _ 48 rfl rfl (fun d h => by simpa using h) h1 h2 fun ac xs W he hb hS K hK => ?_
      exact op_move (.tmp 47) (.inl rfl) (hK _ _ ((he 47).trans (hS 16 (by kernel_rfl))) (Below.refl _ _) (fun h => absurd h (by decide)))
    · refine flow_stepG _ 49 17 48 true rfl rfl rfl (by kernel_rfl) (fun _ => rfl) (fun v W h => h) (fun d h => by simpa using h) h1 h2 fun ac xs W he hb hS K hK => ?_
      exact op_move (.tmp 8) (.inl rfl) (hK _ _ (he 8) (Below.refl _ _) (fun h => absurd h (by decide)))
    · refine flow_stepG _ 50 17 48 true rfl rfl rfl (by kernel_rfl) (fun _ => rfl) (fun v W h => h) (fun d h => by simpa using h) h1 h2 fun ac xs W he hb hS K hK => ?_
      exact op_move (.tmp 10) (.inl rfl) (hK _ _ (he 10) (Below.refl _ _) (fun h => absurd h (by decide)))
    · refine flow_stepG _ 51 17 48 true rfl rfl rfl (by kernel_rfl) (fun _ => rfl) (fun v W h => h) (fun d h => by simpa using h) h1 h2 fun ac xs W he hb hS K hK => ?_
      have e0 : ac.eval (.tmp 49) = _ := (he 49).trans (hS 18 (by kernel_rfl))
      have e1 : ac.eval (.tmp 50) = _ := (he 50).trans (hS 19 (by kernel_rfl))
      refine op_any (.binOp .eql 26 (.tmp 49) (.tmp 50) 26) rfl (.bool true) (fun o' ho' => ?_) (hK _ _ rfl (Below.refl _ _) (fun h => absurd h (by decide)))
      simp only [execOp, ho', e0, e1]
      go_simp
    · refine flow_step _ 52 rfl rfl (fun d h => by simpa using h) h1 h2 fun ac xs W he hb hS K hK => ?_
      have e0 : ac.eval (.tmp 48) = _ := (he 48).trans (hS 17 (by kernel_rfl))
      have e1 : ac.eval (.tmp 51) = _ := (he 51).trans (hS 20 (by kernel_rfl))
      refine op_any (.pick (.tmp 48) (.tmp 51) (.const (.bool false))) rfl (.bool true) (fun o' ho' => ?_) (hK _ _ rfl (Below.refl _ _) (fun h => absurd h (by decide)))
      simp only [execOp, ho', e0, e1]
      go_simp
  · intro xs W hb hS hD
    have s21 : xs 21 = _ := hS 21 (by decide)
    generalize xs 0 = x0 at *
    generalize xs 1 = x1 at *
    generalize xs 2 = x2 at *
    generalize xs 3 = x3 at *
    generalize xs 4 = x4 at *
    generalize xs 5 = x5 at *
    generalize xs 6 = x6 at *
    generalize xs 7 = x7 at *
    generalize xs 8 = x8 at *
    generalize xs 9 = x9 at *
    generalize xs 10 = x10 at *
    generalize xs 11 = x11 at *
    generalize xs 12 = x12 at *
    generalize xs 13 = x13 at *
    generalize xs 14 = x14 at *
    generalize xs 15 = x15 at *
    generalize xs 16 = x16 at *
    generalize xs 17 = x17 at *
    generalize xs 18 = x18 at *
    generalize xs 19 = x19 at *
    generalize xs 20 = x20 at *
    simp only [layAll, s21]
    have HBB : Hid (Below w.heap.size w W) := HB4.out.thru hb
    clear hS hD s21 hb
    go_wp2
    go_ret
    exact ⟨rfl, HBB.out⟩
end Go.Proofs.YtpfnfhikhlceoaaGreatDoor

/- Walks: the law DecTells. -/
namespace Go.Proofs.YtpfnfhikhlceoaaGreatDoor
open Go.RowKit
set_option maxHeartbeats 4000000 in
set_option maxRecDepth 100000 in
theorem decTells_walk (a : Option Addr) (n cp : Nat) (dd : Nat → Dc) (w : World) (hn : n ≤ 9223372036854775807) (hz : ∀ i, i < n → (dd i).s.length ≤ 4611686018427387904)
    (hc : 0 < n → ∃ b o, a = some ⟨b, o, none⟩ ∧ ∀ i, i < n → w.cell? ⟨b, o + i * 3, none⟩ = some (.bool (dd i).neg) ∧ w.cell? ⟨b, o + i * 3 + 1, none⟩ = some (.string (bs (dd i).s)) ∧ w.cell? ⟨b, o + i * 3 + 2, none⟩ = some (.int .i64 (dd i).e)) (htab : Tab w) :
    Calls Tryz.prog 10 #[.slice a n cp] w fun e w' => e = .returned (.bool true) ∧ Below w.heap.size w w' := by
  have KN : Hid (∀ W, Below w.heap.size w W → Calls Tryz.prog 14 #[] W fun e w' => e = .returned (.bool true) ∧ Below W.heap.size W w') := fun W hW => known_any W (htab.below hW)
  have HO1 : Hid (∀ i, i < n → ∀ W, Below w.heap.size w W → Calls Tryz.prog 35 #[dcV (dd i)] W fun e w' => e = .returned (.bool true) ∧ Below W.heap.size W w') := fun i hi W hW => one_v (dd i) (hz i hi) W (htab.below hW)
  have HT2 : Hid (∀ i j, i < n → j < n → ∀ W, Below w.heap.size w W → Calls Tryz.prog 36 #[dcV (dd i), dcV (dd j)] W fun e w' => e = .returned (.bool true) ∧ Below W.heap.size W w') := fun i j hi hj W hW => two_v (dd i) (dd j) (hz i hi) (hz j hj) W (htab.below hW)
  clear hz htab
  go_enter Tryz.func10, Tryz.ntmps10
  go_upto_region 2 with fail
  go_loopw [3] (fun v wr => ∃ i : Nat, i ≤ n ∧ i ≤ 8 ∧ v = .int .i64 (i : Nat) ∧ Below w.heap.size w wr) (fun v _ => n - (intOf v).toNat)
  case atStart => exact ⟨0, Nat.zero_le _, Nat.zero_le _, rfl, Below.refl _ _⟩
  case round =>
    obtain ⟨q, hi, hi8, rfl, hb⟩ := hrel
    have HB0 : Hid (Below w.heap.size w wr) := hb
    clear hb
    by_cases hin : q < n ∧ q < 8
    · obtain ⟨hin, hin8⟩ := hin
      obtain ⟨b, o, rfl, hcell⟩ := hc (by omega)
      obtain ⟨p, hp⟩ : ∃ p, p = (q + 1) % n := ⟨_, rfl⟩
      have hpn : p < n := by rw [hp]; exact Nat.mod_lt _ (by omega)
      have HPN : Hid (p < n) := hpn
      have HN0 : Hid (¬ n = 0) := by show ¬ _; omega
      have HW1 : Hid (IntKind.i64.wrap ((q : Int) + 1) = (q : Int) + 1) := IntWalk.i64_in _ (by omega)
      have HW2 : Hid (((q : Int) + 1).tmod (n : Int) = (p : Int)) := by show _ = _; rw [Int.tmod_eq_emod_of_nonneg (by omega), hp]; rfl
      have key : ∀ j, j < n → ∀ W, Below w.heap.size w W → W.cell? ⟨b, o + j * 3, none⟩ = some (.bool (dd j).neg) ∧ W.cell? ⟨b, o + j * 3 + 1, none⟩ = some (.string (bs (dd j).s)) ∧ W.cell? ⟨b, o + j * 3 + 2, none⟩ = some (.int .i64 (dd j).e) := fun j hj W hW => by
        have hci := hcell j hj
        exact ⟨(hW.cell (cell_lt hci.1)).trans hci.1, (hW.cell (cell_lt hci.2.1)).trans hci.2.1, (hW.cell (cell_lt hci.2.2)).trans hci.2.2⟩
      have HCA : Hid _ := key q hin
      have HCB : Hid _ := key p hpn
      have HONE : Hid (∀ W, Below w.heap.size w W → Calls Tryz.prog 35 #[.agg #[.bool (dd q).neg, .string (bs (dd q).s), .int .i64 (dd q).e]] W fun e w' => e = .returned (.bool true) ∧ Below W.heap.size W w') := HO1.out q hin
      have HTWB : Hid (∀ W, Below w.heap.size w W → Calls Tryz.prog 36 #[.agg #[.bool (dd q).neg, .string (bs (dd q).s), .int .i64 (dd q).e], .agg #[.bool (dd p).neg, .string (bs (dd p).s), .int .i64 (dd p).e]] W fun e w' => e = .returned (.bool true) ∧ Below W.heap.size W w') := HT2.out q p hin hpn
      have HTWA : Hid (∀ W, Below w.heap.size w W → Calls Tryz.prog 36 #[.agg #[.bool (dd q).neg, .string (bs (dd q).s), .int .i64 (dd q).e], .agg #[.bool (dd q).neg, .string (bs (dd q).s), .int .i64 (dd q).e]] W fun e w' => e = .returned (.bool true) ∧ Below W.heap.size W w') := HT2.out q q hin hin
      generalize dd q = DA at *
      generalize dd p = DB at *
      clear hp hcell hc key HO1 HT2 hpn
      go_upto_region 4 with fail
      generalize wr = w5 at *
      have h1 : once [(14, 0), (15, 1), (16, 2), (17, 3), (18, 4), (19, 5), (20, 6), (21, 7), (22, 8), (23, 9), (24, 10), (25, 11), (26, 12), (27, 13), (28, 14), (29, 15), (30, 16), (31, 17), (32, 18), (33, 19), (34, 20), (35, 21), (36, 22), (37, 23), (38, 24), (39, 25), (40, 26), (41, 27), (42, 28), (43, 29), (44, 30), (45, 31), (46, 32), (47, 33)] = true := by kernel_rfl
      have h2 : within [(14, 0), (15, 1), (16, 2), (17, 3), (18, 4), (19, 5), (20, 6), (21, 7), (22, 8), (23, 9), (24, 10), (25, 11), (26, 12), (27, 13), (28, 14), (29, 15), (30, 16), (31, 17), (32, 18), (33, 19), (34, 20), (35, 21), (36, 22), (37, 23), (38, 24), (39, 25), (40, 26), (41, 27), (42, 28), (43, 29), (44, 30), (45, 31), (46, 32), (47, 33)] 49 = true := by kernel_rfl
      refine wp_region_flow 34 34 [(14, 0), (15, 1), (16, 2), (17, 3), (18, 4), (19, 5), (20, 6), (21, 7), (22, 8), (23, 9), (24, 10), (25, 11), (26, 12), (27, 13), (28, 14), (29, 15), (30, 16), (31, 17), (32, 18), (33, 19), (34, 20), (35, 21), (36, 22), (37, 23), (38, 24), (39, 25), (40, 26), (41, 27), (42, 28), (43, 29), (44, 30), (45, 31), (46, 32), (47, 33)] [] (fun i v W => match i with
        | 0 => v = .slice (some ⟨b, o, none⟩) n cp
        | 1 => v = .int .i64 (q : Nat)
        | 2 => v = .pointer (some ⟨b, o + q * 3, none⟩)
        | 3 => v = .agg #[.bool DA.neg, .string (bs DA.s), .int .i64 DA.e]
        | 4 => v = .bool true
        | 5 => v = .bool false
        | 6 => v = .bool false
        | 7 => v = .slice (some ⟨b, o, none⟩) n cp
        | 8 => v = .int .i64 (q : Nat)
        | 9 => v = .pointer (some ⟨b, o + q * 3, none⟩)
        | 10 => v = .agg #[.bool DA.neg, .string (bs DA.s), .int .i64 DA.e]
        | 11 => v = .slice (some ⟨b, o, none⟩) n cp
        | 12 => v = .int .i64 (q : Nat)
        | 13 => v = .int .i64 ((q : Int) + 1)
        | 14 => v = .slice (some ⟨b, o, none⟩) n cp
        | 15 => v = .int .i64 (n : Nat)
        | 16 => v = .int .i64 (p : Nat)
        | 17 => v = .pointer (some ⟨b, o + p * 3, none⟩)
        | 18 => v = .agg #[.bool DB.neg, .string (bs DB.s), .int .i64 DB.e]
        | 19 => v = .bool true
        | 20 => v = .bool false
        | 21 => v = .bool false
        | 22 => v = .bool false
        | 23 => v = .slice (some ⟨b, o, none⟩) n cp
        | 24 => v = .int .i64 (q : Nat)
        | 25 => v = .pointer (some ⟨b, o + q * 3, none⟩)
        | 26 => v = .agg #[.bool DA.neg, .string (bs DA.s), .int .i64 DA.e]
        | 27 => v = .slice (some ⟨b, o, none⟩) n cp
        | 28 => v = .int .i64 (q : Nat)
        | 29 => v = .pointer (some ⟨b, o + q * 3, none⟩)
        | 30 => v = .agg #[.bool DA.neg, .string (bs DA.s), .int .i64 DA.e]
        | 31 => v = .bool true
        | 32 => v = .bool false
        | _ => v = .bool false) w5.heap.size (Nat.le_refl _) (by kernel_rfl) (by kernel_rfl) (by kernel_rfl) (by decide) (by kernel_rfl) h1 (by kernel_rfl) ?_ ?_ ?_ ?_
      · intro j v W W' h hb
        match j, h with
        | 0, h => exact h
        | 1, h => exact h
        | 2, h => exact h
        | 3, h => exact h
        | 4, h => exact h
        | 5, h => exact h
        | 6, h => exact h
        | 7, h => exact h
        | 8, h => exact h
        | 9, h => exact h
        | 10, h => exact h
        | 11, h => exact h
        | 12, h => exact h
        | 13, h => exact h
        | 14, h => exact h
        | 15, h => exact h
        | 16, h => exact h
        | 17, h => exact h
        | 18, h => exact h
        | 19, h => exact h
        | 20, h => exact h
        | 21, h => exact h
        | 22, h => exact h
        | 23, h => exact h
        | 24, h => exact h
        | 25, h => exact h
        | 26, h => exact h
        | 27, h => exact h
        | 28, h => exact h
        | 29, h => exact h
        | 30, h => exact h
        | 31, h => exact h
        | 32, h => exact h
        | _ + 33, h => exact h
      · exact fun j hj => by cases hj
      · refine ⟨⟨⟨⟨⟨⟨⟨⟨⟨⟨⟨⟨⟨⟨⟨⟨⟨⟨⟨⟨⟨⟨⟨⟨⟨⟨⟨⟨⟨⟨⟨⟨⟨⟨trivial, ?_⟩, ?_⟩, ?_⟩, ?_⟩, ?_⟩, ?_⟩, ?_⟩, ?_⟩, ?_⟩, ?_⟩, ?_⟩, ?_⟩, ?_⟩, ?_⟩, ?_⟩, ?_⟩, ?_⟩, ?_⟩, ?_⟩, ?_⟩, ?_⟩, ?_⟩, ?_⟩, ?_⟩, ?_⟩, ?_⟩, ?_⟩, ?_⟩, ?_⟩, ?_⟩, ?_⟩, ?_⟩, ?_⟩, ?_⟩
        · refine flow_step _ 14 rfl rfl (fun d h => by simpa using h) h1 h2 fun ac xs W he hb hS K hK => ?_
          exact op_move (.tmp 0) (.inl rfl) (hK _ _ (he 0) (Below.refl _ _) (fun h => absurd h (by decide)))
        · refine flow_step _ 15 rfl rfl (fun d h => by simpa using h) h1 h2 fun ac xs W he hb hS K hK => ?_
          exact op_move (.tmp 3) (.inl rfl) (hK _ _ (he 3) (Below.refl _ _) (fun h => absurd h (by decide)))
        · refine flow_step _ 16 rfl rfl (fun d h => by simpa using h) h1 h2 fun ac xs W he hb hS K hK => ?_
          have e0 : ac.eval (.tmp 14) = _ := (he 14).trans (hS 0 (by kernel_rfl))
          have e1 : ac.eval (.tmp 15) = _ := (he 15).trans (hS 1 (by kernel_rfl))
          refine op_any (.indexAddr 56 (.tmp 14) (.tmp 15)) rfl (.pointer (some ⟨b, o + q * 3, none⟩)) (fun o' ho' => ?_) (hK _ _ rfl (Below.refl _ _) (fun h => absurd h (by decide)))
          simp only [execOp, ho', e0, e1]
          go_simp
        · refine flow_step _ 17 rfl rfl (fun d h => by simpa using h) h1 h2 fun ac xs W he hb hS K hK => ?_
          have e0 : ac.eval (.tmp 16) = _ := (he 16).trans (hS 2 (by kernel_rfl))
          refine op_any (.load 25 (.tmp 16)) rfl (.agg #[.bool DA.neg, .string (bs DA.s), .int .i64 DA.e]) (fun o' ho' => ?_) (hK _ _ rfl (Below.refl _ _) (fun h => absurd h (by decide)))
          simp only [execOp, ho', e0]
          obtain ⟨k0, k1, k2⟩ := HCA.out W (HB0.out.thru hb)
          go_simp
        · refine flow_step _ 18 rfl rfl (fun d h => by simpa using h) h1 h2 fun ac xs W he hb hS K hK => ?_
          have e0 : ac.eval (.tmp 17) = _ := (he 17).trans (hS 3 (by kernel_rfl))
          refine op_call 35 _ _ rfl _ (by simp only [List.map, e0]) (by go_simp) (HONE.out W (HB0.out.thru hb)) ?_
          rintro e' W' ⟨rfl, hb'⟩
          exact ⟨_, rfl, hK _ _ (rfl) hb' (fun h => absurd h (by decide))⟩
        · refine flow_step _ 19 rfl rfl (fun d h => by simpa using h) h1 h2 fun ac xs W he hb hS K hK => ?_
          have e0 : ac.eval (.tmp 18) = _ := (he 18).trans (hS 4 (by kernel_rfl))
          refine op_any (.unOp .not 4 (.tmp 18)) rfl (.bool false) (fun o' ho' => ?_) (hK _ _ rfl (Below.refl _ _) (fun h => absurd h (by decide)))
          simp only [execOp, ho', e0]
          go_simp
        · refine flow_step _ 20 rfl rfl (fun d h => by simpa using h) h1 h2 fun ac xs W he hb hS K hK => ?_
          exact op_move (.tmp 19) (.inl rfl) (hK _ _ ((he 19).trans (hS 5 (by kernel_rfl))) (Below.refl _ _) (fun h => absurd h (by decide)))
        · refine flow_stepG _ 21 6 20 false rfl rfl rfl (by kernel_rfl) (fun _ => rfl) (fun v W h => h) (fun d h => by simpa using h) h1 h2 fun ac xs W he hb hS K hK => ?_
          exact op_move (.tmp 0) (.inl rfl) (hK _ _ (he 0) (Below.refl _ _) (fun h => absurd h (by decide)))
        · refine flow_stepG _ 22 6 20 false rfl rfl rfl (by kernel_rfl) (fun _ => rfl) (fun v W h => h) (fun d h => by simpa using h) h1 h2 fun ac xs W he hb hS K hK => ?_
          exact op_move (.tmp 3) (.inl rfl) (hK _ _ (he 3) (Below.refl _ _) (fun h => absurd h (by decide)))
        · refine flow_stepG _ 23 6 20 false rfl rfl rfl (by kernel_rfl) (fun _ => rfl) (fun v W h => h) (fun d h => by simpa using h) h1 h2 fun ac xs W he hb hS K hK => ?_
          have e0 : ac.eval (.tmp 21) = _ := (he 21).trans (hS 7 (by kernel_rfl))
          have e1 : ac.eval (.tmp 22) = _ := (he 22).trans (hS 8 (by kernel_rfl))
          refine op_any (.indexAddr 56 (.tmp 21) (.tmp 22)) rfl (.pointer (some ⟨b, o + q * 3, none⟩)) (fun o' ho' => ?_) (hK _ _ rfl (Below.refl _ _) (fun h => absurd h (by decide)))
          simp only [execOp, ho', e0, e1]
          go_simp
        · refine flow_stepG _ 24 6 20 false rfl rfl rfl (by kernel_rfl) (fun _ => rfl) (fun v W h => h) (fun d h => by simpa using h) h1 h2 fun ac xs W he hb hS K hK => ?_
          have e0 : ac.eval (.tmp 23) = _ := (he 23).trans (hS 9 (by kernel_rfl))
          refine op_any (.load 25 (.tmp 23)) rfl (.agg #[.bool DA.neg, .string (bs DA.s), .int .i64 DA.e]) (fun o' ho' => ?_) (hK _ _ rfl (Below.refl _ _) (fun h => absurd h (by decide)))
          simp only [execOp, ho', e0]
          obtain ⟨k0, k1, k2⟩ := HCA.out W (HB0.out.thru hb)
          go_simp
        · refine flow_stepG _ 25 6 20 false rfl rfl rfl (by kernel_rfl) (fun _ => rfl) (fun v W h => h) (fun d h => by simpa using h) h1 h2 fun ac xs W he hb hS K hK => ?_
          exact op_move (.tmp 0) (.inl rfl) (hK _ _ (he 0) (Below.refl _ _) (fun h => absurd h (by decide)))
        · refine flow_stepG _ 26 6 20 false rfl rfl rfl (by kernel_rfl) (fun _ => rfl) (fun v W h => h) (fun d h => by simpa using h) h1 h2 fun ac xs W he hb hS K hK => ?_
          exact op_move (.tmp 3) (.inl rfl) (hK _ _ (he 3) (Below.refl _ _) (fun h => absurd h (by decide)))
        · refine flow_stepG _ 27 6 20 false rfl rfl rfl (by kernel_rfl) (fun _ => rfl) (fun v W h => h) (fun d h => by simpa using h) h1 h2 fun ac xs W he hb hS K hK => ?_
          have e0 : ac.eval (.tmp 26) = _ := (he 26).trans (hS 12 (by kernel_rfl))
          refine op_any (.binOp .add 3 (.tmp 26) (.const (.int .i64 1)) 3) rfl (.int .i64 ((q : Int) + 1)) (fun o' ho' => ?_) (hK _ _ rfl (Below.refl _ _) (fun h => absurd h (by decide)))
          simp only [execOp, ho', e0]
          have k0 := HW1.out
          go_simp
        · refine flow_stepG _ 28 6 20 false rfl rfl rfl (by kernel_rfl) (fun _ => rfl) (fun v W h => h) (fun d h => by simpa using h) h1 h2 fun ac xs W he hb hS K hK => ?_
          exact op_move (.tmp 0) (.inl rfl) (hK _ _ (he 0) (Below.refl _ _) (fun h => absurd h (by decide)))
        · refine flow_stepG _ 29 6 20 false rfl rfl rfl (by kernel_rfl) (fun _ => rfl) (fun v W h => h) (fun d h => by simpa using h) h1 h2 fun ac xs W he hb hS K hK => ?_
          refine op_any (.call { callee := .builtin .len, args := #[.tmp 28], argTypes := #[56] }) rfl (.int .i64 (n : Nat)) (fun o' ho' => ?_) (hK _ _ rfl (Below.refl _ _) (fun h => absurd h (by decide)))
          simp only [execOp, ho']
          have f1 : ac.tmps[28]?.getD undef = .slice (some ⟨b, o, none⟩) n cp := by rw [← Array.getD_eq_getD_getElem?]; exact (he 28).trans (hS 14 (by kernel_rfl))
          go_simp
        · refine flow_stepG _ 30 6 20 false rfl rfl rfl (by kernel_rfl) (fun _ => rfl) (fun v W h => h) (fun d h => by simpa using h) h1 h2 fun ac xs W he hb hS K hK => ?_
          have e0 : ac.eval (.tmp 27) = _ := (he 27).trans (hS 13 (by kernel_rfl))
          have e1 : ac.eval (.tmp 29) = _ := (he 29).trans (hS 15 (by kernel_rfl))
          refine op_any (.binOp .rem 3 (.tmp 27) (.tmp 29) 3) rfl (.int .i64 (p : Nat)) (fun o' ho' => ?_) (hK _ _ rfl (Below.refl _ _) (fun h => absurd h (by decide)))
          simp only [execOp, ho', e0, e1]
          have k0 := HW2.out
          have k1 := HN0.out
          go_simp
        · refine flow_stepG _ 31 6 20 false rfl rfl rfl (by kernel_rfl) (fun _ => rfl) (fun v W h => h) (fun d h => by simpa using h) h1 h2 fun ac xs W he hb hS K hK => ?_
          have e0 : ac.eval (.tmp 25) = _ := (he 25).trans (hS 11 (by kernel_rfl))
          have e1 : ac.eval (.tmp 30) = _ := (he 30).trans (hS 16 (by kernel_rfl))
          refine op_any (.indexAddr 56 (.tmp 25) (.tmp 30)) rfl (.pointer (some ⟨b, o + p * 3, none⟩)) (fun o' ho' => ?_) (hK _ _ rfl (Below.refl _ _) (fun h => absurd h (by decide)))
          simp only [execOp, ho', e0, e1]
          have k1 := HPN.out
          go_simp
        · refine flow_stepG _ 32 6 20 false rfl rfl rfl (by kernel_rfl) (fun _ => rfl) (fun v W h => h) (fun d h => by simpa using h) h1 h2 fun ac xs W he hb hS K hK => ?_
          have e0 : ac.eval (.tmp 31) = _ := (he 31).trans (hS 17 (by kernel_rfl))
          refine op_any (.load 25 (.tmp 31)) rfl (.agg #[.bool DB.neg, .string (bs DB.s), .int .i64 DB.e]) (fun o' ho' => ?_) (hK _ _ rfl (Below.refl _ _) (fun h => absurd h (by decide)))
          simp only [execOp, ho', e0]
          obtain ⟨k0, k1, k2⟩ := HCB.out W (HB0.out.thru hb)
          go_simp
        · refine flow_stepG _ 33 6 20 false rfl rfl rfl (by kernel_rfl) (fun _ => rfl) (fun v W h => h) (fun d h => by simpa using h) h1 h2 fun ac xs W he hb hS K hK => ?_
          have e0 : ac.eval (.tmp 24) = _ := (he 24).trans (hS 10 (by kernel_rfl))
          have e1 : ac.eval (.tmp 32) = _ := (he 32).trans (hS 18 (by kernel_rfl))
          refine op_call 36 _ _ rfl _ (by simp only [List.map, e0, e1]) (by go_simp) (HTWB.out W (HB0.out.thru hb)) ?_
          rintro e' W' ⟨rfl, hb'⟩
          exact ⟨_, rfl, hK _ _ (rfl) hb' (fun h => absurd h (by decide))⟩
        · refine flow_stepG _ 34 6 20 false rfl rfl rfl (by kernel_rfl) (fun _ => rfl) (fun v W h => h) (fun d h => by simpa using h) h1 h2 fun ac xs W he hb hS K hK => ?_
          have e0 : ac.eval (.tmp 33) = _ := (he 33).trans (hS 19 (by kernel_rfl))
          refine op_any (.unOp .not 4 (.tmp 33)) rfl (.bool false) (fun o' ho' => ?_) (hK _ _ rfl (Below.refl _ _) (fun h => absurd h (by decide)))
          simp only [execOp, ho', e0]
          go_simp
        · refine flow_step _ 35 rfl rfl (fun d h => by simpa using h) h1 h2 fun ac xs W he hb hS K hK => ?_
          have e0 : ac.eval (.tmp 20) = _ := (he 20).trans (hS 6 (by kernel_rfl))
          have e1 : ac.eval (.tmp 34) = _ := (he 34).trans (hS 20 (by kernel_rfl))
          refine op_any (.pick (.tmp 20) (.const (.bool true)) (.tmp 34)) rfl (.bool false) (fun o' ho' => ?_) (hK _ _ rfl (Below.refl _ _) (fun h => absurd h (by decide)))
          simp only [execOp, ho', e0, e1]
          go_simp
        · refine flow_step _ 36 rfl rfl (fun d h => by simpa using h) h1 h2 fun ac xs W he hb hS K hK => ?_
          exact op_move (.tmp 35) (.inl rfl) (hK _ _ ((he 35).trans (hS 21 (by kernel_rfl))) (Below.refl _ _) (fun h => absurd h (by decide)))
        · refine flow_stepG _ 37 22 36 false rfl rfl rfl (by kernel_rfl) (fun _ => rfl) (fun v W h => h) (fun d h => by simpa using h) h1 h2 fun ac xs W he hb hS K hK => ?_
          exact op_move (.tmp 0) (.inl rfl) (hK _ _ (he 0) (Below.refl _ _) (fun h => absurd h (by decide)))
        · refine flow_stepG _ 38 22 36 false rfl rfl rfl (by kernel_rfl) (fun _ => rfl) (fun v W h => h) (fun d h => by simpa using h) h1 h2 fun ac xs W he hb hS K hK => ?_
          exact op_move (.tmp 3) (.inl rfl) (hK _ _ (he 3) (Below.refl _ _) (fun h => absurd h (by decide)))
        · refine flow_stepG _ 39 22 36 false rfl rfl rfl (by kernel_rfl) (fun _ => rfl) (fun v W h => h) (fun d h => by simpa using h) h1 h2 fun ac xs W he hb hS K hK => ?_
          have e0 : ac.eval (.tmp 37) = _ := (he 37).trans (hS 23 (by kernel_rfl))
          have e1 : ac.eval (.tmp 38) = _ := (he 38).trans (hS 24 (by kernel_rfl))
          refine op_any (.indexAddr 56 (.tmp 37) (.tmp 38)) rfl (.pointer (some ⟨b, o + q * 3, none⟩)) (fun o' ho' => ?_) (hK _ _ rfl (Below.refl _ _) (fun h => absurd h (by decide)))
          simp only [execOp, ho', e0, e1]
          go_simp
        · refine flow_stepG _ 40 22 36 false rfl rfl rfl (by kernel_rfl) (fun _ => rfl) (fun v W h => h) (fun d h => by simpa using h) h1 h2 fun ac xs W he hb hS K hK => ?_
          have e0 : ac.eval (.tmp 39) = _ := (he 39).trans (hS 25 (by kernel_rfl))
          refine op_any (.load 25 (.tmp 39)) rfl (.agg #[.bool DA.neg, .string (bs DA.s), .int .i64 DA.e]) (fun o' ho' => ?_) (hK _ _ rfl (Below.refl _ _) (fun h => absurd h (by decide)))
          simp only [execOp, ho', e0]
          obtain ⟨k0, k1, k2⟩ := HCA.out W (HB0.out.thru hb)
          go_simp
        · refine flow_stepG _ 41 22 36 false rfl rfl rfl (by kernel_rfl) (fun _ => rfl) (fun v W h => h) (fun d h => by simpa using h) h1 h2 fun ac xs W he hb hS K hK => ?_
          exact op_move (.tmp 0) (.inl rfl) (hK _ _ (he 0) (Below.refl _ _) (fun h => absurd h (by decide)))
        · refine flow_stepG _ 42 22 36 false rfl rfl rfl (by kernel_rfl) (fun _ => rfl) (fun v W h => h) (fun d h => by simpa using h) h1 h2 fun ac xs W he hb hS K hK => ?_
          exact op_move (.tmp 3) (.inl rfl) (hK _ _ (he 3) (Below.refl _ _) (fun h => absurd h (by decide)))
        · refine flow_stepG _ 43 22 36 false rfl rfl rfl (by kernel_rfl) (fun _ => rfl) (fun v W h => h) (fun d h => by simpa using h) h1 h2 fun ac xs W he hb hS K hK => ?_
          have e0 : ac.eval (.tmp 41) = _ := (he 41).trans (hS 27 (by kernel_rfl))
          have e1 : ac.eval (.tmp 42) = _ := (he 42).trans (hS 28 (by kernel_rfl))
          refine op_any (.indexAddr 56 (.tmp 41) (.tmp 42)) rfl (.pointer (some ⟨b, o + q * 3, none⟩)) (fun o' ho' => ?_) (hK _ _ rfl (Below.refl _ _) (fun h => absurd h (by decide)))
          simp only [execOp, ho', e0, e1]
          go_simp
        · refine flow_stepG _ 44 22 36 false rfl rfl rfl (by kernel_rfl) (fun _ => rfl) (fun v W h => h) (fun d h => by simpa using h) h1 h2 fun ac xs W he hb hS K hK => ?_
          have e0 : ac.eval (.tmp 43) = _ := (he 43).trans (hS 29 (by kernel_rfl))
          refine op_any (.load 25 (.tmp 43)) rfl (.agg #[.bool DA.neg, .string (bs DA.s), .int .i64 DA.e]) (fun o' ho' => ?_) (hK _ _ rfl (Below.refl _ _) (fun h => absurd h (by decide)))
          simp only [execOp, ho', e0]
          obtain ⟨k0, k1, k2⟩ := HCA.out W (HB0.out.thru hb)
          go_simp
        · refine flow_stepG _ 45 22 36 false rfl rfl rfl (by kernel_rfl) (fun _ => rfl) (fun v W h => h) (fun d h => by simpa using h) h1 h2 fun ac xs W he hb hS K hK => ?_
          have e0 : ac.eval (.tmp 40) = _ := (he 40).trans (hS 26 (by kernel_rfl))
          have e1 : ac.eval (.tmp 44) = _ := (he 44).trans (hS 30 (by kernel_rfl))
          refine op_call 36 _ _ rfl _ (by simp only [List.map, e0, e1]) (by go_simp) (HTWA.out W (HB0.out.thru hb)) ?_
          rintro e' W' ⟨rfl, hb'⟩
          exact ⟨_, rfl, hK _ _ (rfl) hb' (fun h => absurd h (by decide))⟩
        · refine flow_stepG _ 46 22 36 false rfl rfl rfl (by kernel_rfl) (fun _ => rfl) (fun v W h => h) (fun d h => by simpa using h) h1 h2 fun ac xs W he hb hS K hK => ?_
          have e0 : ac.eval (.tmp 45) = _ := (he 45).trans (hS 31 (by kernel_rfl))
          refine op_any (.unOp .not 4 (.tmp 45)) rfl (.bool false) (fun o' ho' => ?_) (hK _ _ rfl (Below.refl _ _) (fun h => absurd h (by decide)))
          simp only [execOp, ho', e0]
          go_simp
        · refine flow_step _ 47 rfl rfl (fun d h => by simpa using h) h1 h2 fun ac xs W he hb hS K hK => ?_
          have e0 : ac.eval (.tmp 36) = _ := (he 36).trans (hS 22 (by kernel_rfl))
          have e1 : ac.eval (.tmp 46) = _ := (he 46).trans (hS 32 (by kernel_rfl))
          refine op_any (.pick (.tmp 36) (.const (.bool true)) (.tmp 46)) rfl (.bool false) (fun o' ho' => ?_) (hK _ _ rfl (Below.refl _ _) (fun h => absurd h (by decide)))
          simp only [execOp, ho', e0, e1]
          go_simp
      · intro xs w6 hb hS hD
        have s33 : xs 33 = _ := hS 33 (by decide)
        generalize xs 0 = x0 at *
        generalize xs 1 = x1 at *
        generalize xs 2 = x2 at *
        generalize xs 3 = x3 at *
        generalize xs 4 = x4 at *
        generalize xs 5 = x5 at *
        generalize xs 6 = x6 at *
        generalize xs 7 = x7 at *
        generalize xs 8 = x8 at *
        generalize xs 9 = x9 at *
        generalize xs 10 = x10 at *
        generalize xs 11 = x11 at *
        generalize xs 12 = x12 at *
        generalize xs 13 = x13 at *
        generalize xs 14 = x14 at *
        generalize xs 15 = x15 at *
        generalize xs 16 = x16 at *
        generalize xs 17 = x17 at *
        generalize xs 18 = x18 at *
        generalize xs 19 = x19 at *
        generalize xs 20 = x20 at *
        generalize xs 21 = x21 at *
        generalize xs 22 = x22 at *
        generalize xs 23 = x23 at *
        generalize xs 24 = x24 at *
        generalize xs 25 = x25 at *
        generalize xs 26 = x26 at *
        generalize xs 27 = x27 at *
        generalize xs 28 = x28 at *
        generalize xs 29 = x29 at *
        generalize xs 30 = x30 at *
        generalize xs 31 = x31 at *
        generalize xs 32 = x32 at *
        simp only [layAll, s33]
        have HB1 : Hid (Below w.heap.size w w6) := HB0.out.thru hb
        clear hS hD s33 hb
        go_wp2_with fail
        go_roundw
        case rel => exact ⟨q + 1, by omega, by omega, by go_num, HB1.out⟩
        case measure => simp [intOf]; omega
    · clear hc
      by_cases hqn : q < n
      · have hq8 : ¬ q < 8 := fun h => hin ⟨hqn, h⟩
        clear hin
        go_wp2_with fail
        refine (KN.out _ HB0.out).mono ?_
        rintro e v3 ⟨rfl, hb⟩
        have HBZ : Hid (Below w.heap.size w v3) := HB0.out.thru hb
        clear hb
        go_wp2
        go_ret
        exact ⟨rfl, HBZ.out⟩
      · clear hin
        go_wp2_with fail
        refine (KN.out _ HB0.out).mono ?_
        rintro e v3 ⟨rfl, hb⟩
        have HBZ : Hid (Below w.heap.size w v3) := HB0.out.thru hb
        clear hb
        go_wp2
        go_ret
        exact ⟨rfl, HBZ.out⟩
end Go.Proofs.YtpfnfhikhlceoaaGreatDoor

/- Decimals that came in as a slice, opened at every index. -/
namespace Go.Proofs.YtpfnfhikhlceoaaGreatDoor
open Go.RowKit Go.Deep

section
variable {H : Type} {enc : TypeId × Value → H} {w : World} {base : Nat} {spare : Nat → Bool} {held : Bool}
set_option maxRecDepth 100000 in
theorem open_decw {n : Nat} {cs : List Value} {x : DataW H × List MemPlace} (h : DataW.trod enc Tryz.prog w base spare held n 25 cs = some x) :
    ∃ (g : Bool) (s : ByteArray) (e : Int), cs = [.bool g, .string s, .int .i64 e] ∧ x.1 = .agg [.lit (.bool g), .lit (.string s.data.toList), .lit (.int .i64 e)] := by
  obtain ⟨y0, y1, y2, m, hx, hl, h0, h1, h2⟩ := trod_struct3 Tryz.underlying25 h
  rw [show Tryz.prog.cellsOf 25 = 3 by kernel_rfl] at hl
  match cs, hl with
  | [c0, c1, c2], _ =>
    have k0 : DataW.trod enc Tryz.prog w base spare held m 4 [c0] = some y0 := by
      simpa [show Tryz.prog.cellsOf 4 = 1 by kernel_rfl] using h0
    have k1 : DataW.trod enc Tryz.prog w base spare held m 9 [c1] = some y1 := by
      simpa [show Tryz.prog.cellsOf 9 = 1 by kernel_rfl] using h1
    have k2 : DataW.trod enc Tryz.prog w base spare held m 3 [c2] = some y2 := by
      simpa [show Tryz.prog.cellsOf 3 = 1 by kernel_rfl] using h2
    obtain ⟨g, e0, rfl⟩ := DataW.trod_bool Tryz.underlying4 k0
    obtain ⟨s, e1, rfl, _⟩ := DataW.trod_string Tryz.underlying9 k1
    obtain ⟨e, e2, rfl, _⟩ := DataW.trod_int Tryz.underlying3 k2
    simp at e0 e1 e2
    subst e0 e1 e2
    exact ⟨g, s, e, rfl, by rw [hx]⟩
set_option maxRecDepth 100000 in
theorem open_decs {fuel : Nat} {v : Value} {x : DataW H × List MemPlace} (h : DataW.trod enc Tryz.prog w base spare held fuel 56 [v] = some x) :
    v = .slice none 0 0 ∨ ∃ (a : Addr) (len cap : Nat) (dd : Nat → Dc), v = .slice (some a) len cap ∧ len ≤ maxLen ∧ (∀ i, i < len → (dd i).s.length ∈ x.1.weights Tryz.prog 56) ∧
      (0 < len → ∃ b o, some a = some ⟨b, o, none⟩ ∧ ∀ i, i < len → w.cell? ⟨b, o + i * 3, none⟩ = some (.bool (dd i).neg) ∧ w.cell? ⟨b, o + i * 3 + 1, none⟩ = some (.string (bs (dd i).s)) ∧ w.cell? ⟨b, o + i * 3 + 2, none⟩ = some (.int .i64 (dd i).e)) := by
  rcases open_slice Tryz.underlying56 h with ⟨hcs, _⟩ | ⟨a, len, cap, m, n, D, Pl, hcs, _, hl, hm, hmm, hx, hel⟩
  · left; simpa using hcs
  right
  simp at hcs
  subst hcs
  have hlm : len ≤ m := by rw [hmm]; split <;> omega
  rw [show Tryz.prog.cellsOf 25 = 3 by kernel_rfl] at hel
  have each : ∀ i, ∃ q : Bool × ByteArray × Int, i < len → w.cells? base (a.add (i * 3)) 3 = some [.bool q.1, .string q.2.1, .int .i64 q.2.2] ∧ D i = .agg [.lit (.bool q.1), .lit (.string q.2.1.data.toList), .lit (.int .i64 q.2.2)] := fun i => by
    by_cases hi : i < len
    · obtain ⟨cs', h1, h2⟩ := hel i (by omega)
      obtain ⟨g, s, e, rfl, hd⟩ := open_decw h2
      exact ⟨(g, s, e), fun _ => ⟨h1, hd⟩⟩
    · exact ⟨(false, ⟨#[]⟩, 0), fun h => absurd h hi⟩
  obtain ⟨q, hq⟩ : ∃ q : Nat → Bool × ByteArray × Int, ∀ i, i < len → w.cells? base (a.add (i * 3)) 3 = some [.bool (q i).1, .string (q i).2.1, .int .i64 (q i).2.2] ∧ D i = .agg [.lit (.bool (q i).1), .lit (.string (q i).2.1.data.toList), .lit (.int .i64 (q i).2.2)] :=
    ⟨fun i => Classical.choose (each i), fun i => Classical.choose_spec (each i)⟩
  refine ⟨a, len, cap, fun i => ⟨(q i).1, bl (q i).2.1, (q i).2.2⟩, rfl, Nat.le_trans hl hm, fun i hi => ?_, fun h0 => ?_⟩
  · rw [hx]
    have h2 : (q i).2.1.size ∈ (D i).weights Tryz.prog 25 := by
      rw [(hq i hi).2]
      simp only [DataW.weights, Tryz.underlying25, DataW.weightsEach, List.map, List.nil_append, List.append_nil]
      exact List.mem_singleton.2 rfl
    have h1 := weights_in h2 (List.mem_map.2 ⟨i, List.mem_range.2 hi, rfl⟩ : D i ∈ (List.range len).map D)
    simp only [DataW.weights, Tryz.underlying56]
    exact List.mem_cons_of_mem _ (List.mem_append_left _ h1)
  · obtain ⟨b, o, sp⟩ := a
    have c := fun i hi j hj => (World.cells?_some (hq i hi).1).2.2 j hj
    have hsp : sp = none := by
      have := c 0 h0 0 (by decide)
      simpa [Addr.add] using World.cell?_spot (this.trans rfl)
    subst hsp
    refine ⟨b, o, rfl, fun i hi => ?_⟩
    have c0 := c i hi 0 (by decide)
    have c1 := c i hi 1 (by decide)
    have c2 := c i hi 2 (by decide)
    simp only [Go.WideShapes.add_plain] at c0 c1 c2
    exact ⟨c0, c1, c2⟩
end
end Go.Proofs.YtpfnfhikhlceoaaGreatDoor
