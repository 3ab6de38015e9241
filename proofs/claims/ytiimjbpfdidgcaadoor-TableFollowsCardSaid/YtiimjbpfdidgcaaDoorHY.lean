/- Parts Re of the proof, in one text. -/
import Derived.Test.YtiimjbpfdidgcaaDoorHW
import Derived.Test.YtiimjbpfdidgcaaDoorHA

/- Walks: the document's answer for layer 7: Sum. -/
namespace Go.Proofs.YtiimjbpfdidgcaaDoor
open Go.RowKit

set_option maxHeartbeats 2000000 in
set_option maxRecDepth 100000 in
theorem r7_sum (v v' : Value) (na nb : Bool) (M N : Nat) (E F G : Int) (w : World) (h : Term w v na M E) (h' : Term w v' nb N F) {bb : Nat} (hM : M < 2 ^ bb) (hN : N < 2 ^ bb) (hbb : bb ≤ 1000000) (hE : -1000000 ≤ E ∧ E ≤ 1000000) (hF : -1000000 ≤ F ∧ F ≤ 1000000) (hG : min E F = G) :
    Calls Tryd.prog 63 #[v, v'] w (TermQ (sumS na nb (M * 2 ^ (E - G).toNat) (N * 2 ^ (F - G).toNat)) (sumM na nb (M * 2 ^ (E - G).toNat) (N * 2 ^ (F - G).toNat)) G w) := by
  obtain ⟨s, rfl, hs⟩ := h
  obtain ⟨t, rfl, ht⟩ := h'
  obtain ⟨a, m, c, rfl⟩ := hs.shape
  obtain ⟨a', n, c', rfl⟩ := ht.shape
  obtain ⟨u, hu⟩ : ∃ u, u = (E - G).toNat := ⟨_, rfl⟩
  obtain ⟨z, hz⟩ : ∃ z, z = (F - G).toNat := ⟨_, rfl⟩
  have hEu : E - G = ((32 * (u / 32) + u % 32 : Nat) : Int) := by omega
  have hFz : F - G = ((32 * (z / 32) + z % 32 : Nat) : Int) := by omega
  have huq : 32 * (u / 32) + u % 32 = u := by omega
  have hzq : 32 * (z / 32) + z % 32 = z := by omega
  have hub : u ≤ 2000000 := by omega
  have hzb : z ≤ 2000000 := by omega
  have i1 : IntKind.i64.wrap (E - G) = E - G := IntWalk.i64_in _ (by omega)
  have i2 : IntKind.i64.wrap (F - G) = F - G := IntWalk.i64_in _ (by omega)
  rw [← hu, ← hz]
  have HL1 : Hid (∀ W, Below w.heap.size w W → Calls Tryd.prog 84 #[.slice a m c, .int .i64 (E - G)] W (NatQ (M * 2 ^ u) W)) := fun W hW => by
    have := nleft_any _ M (u / 32) (u % 32) (E - G) W (hs.below (Nat.le_refl _) hW) hEu (Nat.mod_lt _ (by decide)) (by omega) hM (by omega)
    rwa [huq] at this
  have HL2 : Hid (∀ W, Below w.heap.size w W → Calls Tryd.prog 84 #[.slice a' n c', .int .i64 (F - G)] W (NatQ (N * 2 ^ z) W)) := fun W hW => by
    have := nleft_any _ N (z / 32) (z % 32) (F - G) W (ht.below (Nat.le_refl _) hW) hFz (Nat.mod_lt _ (by decide)) (by omega) hN (by omega)
    rwa [hzq] at this
  obtain ⟨K, hK⟩ : ∃ K, K = 2000000 := ⟨_, rfl⟩
  rw [← hK] at hub hzb
  have hX : M * 2 ^ u < 2 ^ (bb + K) := by
    rw [Nat.pow_add]
    exact Nat.mul_lt_mul_of_lt_of_le hM (Nat.pow_le_pow_right (by decide) hub) (Nat.two_pow_pos _)
  have hY : N * 2 ^ z < 2 ^ (bb + K) := by
    rw [Nat.pow_add]
    exact Nat.mul_lt_mul_of_lt_of_le hN (Nat.pow_le_pow_right (by decide) hzb) (Nat.two_pow_pos _)
  obtain ⟨X, hXd⟩ : ∃ X, X = M * 2 ^ u := ⟨_, rfl⟩
  obtain ⟨Y, hYd⟩ : ∃ Y, Y = N * 2 ^ z := ⟨_, rfl⟩
  rw [← hXd] at HL1 hX ⊢
  rw [← hYd] at HL2 hY ⊢
  obtain ⟨B2, hB2⟩ : ∃ B2, B2 = bb + K := ⟨_, rfl⟩
  rw [← hB2] at hX hY
  have HXY : Hid (X < 2 ^ B2 ∧ Y < 2 ^ B2 ∧ B2 ≤ 4294967296) := ⟨hX, hY, by omega⟩
  have hb0 : Below w.heap.size w (((w.alloc (.cells #[.bool na, .slice a m c, .int .i64 E] 48)).alloc (.cells #[.bool nb, .slice a' n c', .int .i64 F] 48)).alloc (.cells #[.bool false, .slice none 0 0, .int .i64 0] 48)) := (((Below.refl _ _).alloc (Nat.le_refl _) _).alloc (by simp) _).alloc (by simp; omega) _
  have q0 := heap_alloc3_0 w (.cells #[.bool na, .slice a m c, .int .i64 E] 48) (.cells #[.bool nb, .slice a' n c', .int .i64 F] 48) (.cells #[.bool false, .slice none 0 0, .int .i64 0] 48)
  have q1 := heap_alloc3_1 w (.cells #[.bool na, .slice a m c, .int .i64 E] 48) (.cells #[.bool nb, .slice a' n c', .int .i64 F] 48) (.cells #[.bool false, .slice none 0 0, .int .i64 0] 48)
  have q2 := heap_alloc3_2 w (.cells #[.bool na, .slice a m c, .int .i64 E] 48) (.cells #[.bool nb, .slice a' n c', .int .i64 F] 48) (.cells #[.bool false, .slice none 0 0, .int .i64 0] 48)
  have hs4 : (((w.alloc (.cells #[.bool na, .slice a m c, .int .i64 E] 48)).alloc (.cells #[.bool nb, .slice a' n c', .int .i64 F] 48)).alloc (.cells #[.bool false, .slice none 0 0, .int .i64 0] 48)).heap.size = w.heap.size + 3 := by simp
  clear hs ht hM hN hbb hE hF hEu hFz huq hzq hub hzb hX hY hXd hYd hB2 hu hz hK
  go_enter Tryd.func63, Tryd.ntmps63
  go_upto_region 1 with fail
  generalize (((w.alloc (.cells #[.bool na, .slice a m c, .int .i64 E] 48)).alloc (.cells #[.bool nb, .slice a' n c', .int .i64 F] 48)).alloc (.cells #[.bool false, .slice none 0 0, .int .i64 0] 48)) = w4 at *
  have HC : Hid (∀ W, Below (w.heap.size + 2) w4 W → W.cell? ⟨w.heap.size, 0, none⟩ = some (.bool na) ∧ W.cell? ⟨w.heap.size, 1, none⟩ = some (.slice a m c) ∧ W.cell? ⟨w.heap.size, 2, none⟩ = some (.int .i64 E) ∧
      W.cell? ⟨w.heap.size + 1, 0, none⟩ = some (.bool nb) ∧ W.cell? ⟨w.heap.size + 1, 1, none⟩ = some (.slice a' n c') ∧ W.cell? ⟨w.heap.size + 1, 2, none⟩ = some (.int .i64 F)) :=
    fun W hW => ⟨cell_of_row W _ 0 _ _ _ (hW.blk q0 (by omega)), cell_of_row W _ 1 _ _ _ (hW.blk q0 (by omega)), cell_of_row W _ 2 _ _ _ (hW.blk q0 (by omega)), cell_of_row W _ 0 _ _ _ (hW.blk q1 (by omega)), cell_of_row W _ 1 _ _ _ (hW.blk q1 (by omega)), cell_of_row W _ 2 _ _ _ (hW.blk q1 (by omega))⟩
  have HQ2 : Hid _ := q2
  have HB0 : Hid (Below w.heap.size w w4) := hb0
  have HS4 : Hid (w4.heap.size = w.heap.size + 3) := hs4
  obtain ⟨x0, x1, x2, y0, y1, y2⟩ := HC.out w4 (Below.refl _ _)
  clear hb0 q0 q1 q2 hs4
  go_wp2_with fail
  refine (HL1.out _ HB0.out).mono ?_
  rintro e w5 ⟨v5, rfl, hx5, hb5⟩
  obtain ⟨p1, p2, p3, rfl⟩ := Num.shape hx5
  have HB5 : Hid (Below w4.heap.size w4 w5) := hb5
  have HX5 : Hid _ := hx5
  clear x0 x1 x2 y0 y1 y2 hb5 hx5
  obtain ⟨x0, x1, x2, y0, y1, y2⟩ := HC.out w5 (HB5.out.mono (by have := HS4.out; omega))
  go_wp2_with fail
  refine (HL2.out _ (HB0.out.trans (HB5.out.mono (by have := HS4.out; omega)))).mono ?_
  rintro e w6 ⟨v6, rfl, hy6, hb6⟩
  obtain ⟨r1, r2, r3, rfl⟩ := Num.shape hy6
  have HB6 : Hid (Below w4.heap.size w4 w6) := HB5.out.trans (hb6.mono HB5.out.size)
  have HX6 : Hid _ := Num.below HX5.out (Nat.le_refl _) hb6
  have HY6 : Hid _ := hy6
  have HBW : Hid (Below w.heap.size w w6) := HB0.out.trans (HB6.out.mono (by have := HS4.out; omega))
  have HSW : Hid (w.heap.size + 3 ≤ w6.heap.size) := by have := HB6.out.size; have h4 := HS4.out; show _ ≤ _; omega
  have HQ6 : Hid (w6.heap[w.heap.size + 2]? = _) := HB6.out.blk HQ2.out (by have := HS4.out; omega)
  have hbs : Below (w.heap.size + 2) w4 w6 := HB6.out.mono (by have := HS4.out; omega)
  have hb66 : Below w6.heap.size w6 w6 := Below.refl _ _
  clear x0 x1 x2 y0 y1 y2 hb6 hy6 i1 i2
  obtain ⟨x0, x1, x2, y0, y1, y2⟩ := HC.out w6 hbs
  have HADD : Hid (∀ W, Below w6.heap.size w6 W → Calls Tryd.prog 85 #[.slice p1 p2 p3, .slice r1 r2 r3] W (NatQ (X + Y) W)) := fun W hW => nadd_any _ _ X Y W (Num.below HX6.out (Nat.le_refl _) hW) (Num.below HY6.out (Nat.le_refl _) hW) HXY.out.1 HXY.out.2.1 HXY.out.2.2
  by_cases hab : na = nb
  · subst hab
    have HK : Hid (∀ W, Below (w.heap.size + 2) w4 W → Below (w.heap.size + 2) w4 W ∧ W.cell? ⟨w.heap.size, 0, none⟩ = some (.bool na)) := fun W hW => ⟨hW, (HC.out W hW).1⟩
    have e1 : sumS na na X Y = na := if_pos rfl
    have e2 : sumM na na X Y = X + Y := if_pos rfl
    have HE1 : Hid _ := e1
    have HE2 : Hid _ := e2
    clear e1 e2
    go_upto_region 5 with fail
    clear x0 x1 x2 y0 y1 y2
    go_region_held3 (fun W => Below (w.heap.size + 2) w4 W ∧ W.cell? ⟨w.heap.size, 0, none⟩ = some (.bool na))
      (first | exact HK.out _ ‹Below (w.heap.size + 2) w4 _› | exact HK.out _ (‹Below (w.heap.size + 2) w4 _›).drew | (refine HK.out _ ?_; exact Below.setCell (Below.setCell (Below.setCell (by first | assumption | exact (‹Below (w.heap.size + 2) w4 _ ∧ _›).1) (by simp) _) (by simp) _) (by simp) _))
      (first | (go_at_call 85; (with_reducible refine (HADD.out _ (by first | assumption | exact Below.drew (by assumption))).mono ?_); rintro e w7 ⟨v, rfl, hnum, hb⟩; obtain ⟨s1, s2, s3, rfl⟩ := Num.shape hnum; have hB2 : Below (w.heap.size + 2) w4 w7 := Below.trans (by first | assumption | exact Below.drew (by assumption) : Below (w.heap.size + 2) w4 _) (hb.mono (by have := HSW.out; simp; omega)); have hrow : w7.heap[w.heap.size + 2]? = some (.cells #[.bool false, .slice none 0 0, .int .i64 0] 48 (0, 0)) := hb.blk HQ6.out (by have := HSW.out; simp; omega); obtain ⟨⟨a0, a1⟩, a2, a3, a4⟩ := wr3' hrow; have b0 := fun u => (a2 u).1; have b1 := fun u => (a2 u).2; have b2 := fun u v => (a3 u v).1; have b3 := fun u v => (a3 u v).2; have A4 : Hid _ := a4; have HROW : Hid _ := hrow; have HNUM : Hid _ := hnum; have HBB : Hid (Below w6.heap.size w6 w7) := ⟨hb.os, hb.tape, hb.output, hb.size, hb.block⟩; clear a2 a3 a4 hrow hnum hb))
    go_wp2
    refine bodyPost_ret (term_row rfl _ _ (w.heap.size + 2) _ _ _ rfl (A4.out _ _ _)) rfl ⟨_, rfl, ⟨_, by rw [HE1.out], by rw [HE2.out]; exact Num.set3 HNUM.out HROW.out _ _ _⟩, ?_⟩
    exact (((HBW.out.trans (HBB.out.mono (by have := HSW.out; omega))).setCell (by simp; omega) _).setCell (by simp; omega) _).setCell (by simp; omega) _

  · have hab2 : (na == nb) = false := by cases na <;> cases nb <;> first | rfl | exact absurd rfl hab
    have HAB : Hid (¬ na = nb) := hab
    clear hab
    go_wp2_with fail
    refine (ncmp_any _ _ X Y w6 HX6.out HY6.out).mono ?_
    rintro e w9 ⟨rfl, hb9⟩
    have HX9 : Hid _ := Num.below HX6.out (Nat.le_refl _) hb9
    have HY9 : Hid _ := Num.below HY6.out (Nat.le_refl _) hb9
    have HB9 : Hid (Below w4.heap.size w4 w9) := HB6.out.trans (hb9.mono HB6.out.size)
    have HBW : Hid (Below w.heap.size w w9) := HB0.out.trans (HB9.out.mono (by have := HS4.out; omega))
    have HSW : Hid (w.heap.size + 3 ≤ w9.heap.size) := by have := HB9.out.size; have h4 := HS4.out; show _ ≤ _; omega
    have HQ6 : Hid (w9.heap[w.heap.size + 2]? = _) := HB9.out.blk HQ2.out (by have := HS4.out; omega)
    have hbs : Below (w.heap.size + 2) w4 w9 := HB9.out.mono (by have := HS4.out; omega)
    have hb66 : Below w9.heap.size w9 w9 := Below.refl _ _
    clear x0 x1 x2 y0 y1 y2 hb9 hab2
    by_cases hYX : Y ≤ X
    · have hc : (0 : Int) ≤ ncmp X Y := by unfold ncmp; split; omega; split; decide; decide
      obtain ⟨r, hr⟩ : ∃ r, r = ncmp X Y := ⟨_, rfl⟩
      rw [← hr] at hc ⊢
      have e1 : sumS na nb X Y = na := by unfold sumS; rw [if_neg HAB.out, if_pos hYX]
      have e2 : sumM na nb X Y = X - Y := by unfold sumM; rw [if_neg HAB.out, if_pos hYX]
      have HSUB : Hid (∀ W, Below w9.heap.size w9 W → Calls Tryd.prog 87 #[.slice p1 p2 p3, .slice r1 r2 r3] W (NatQ (X - Y) W)) := fun W hW => nsub_any _ _ X Y W (Num.below HX9.out (Nat.le_refl _) hW) (Num.below HY9.out (Nat.le_refl _) hW) HXY.out.1 hYX HXY.out.2.2
      have HK : Hid (∀ W, Below (w.heap.size + 2) w4 W → Below (w.heap.size + 2) w4 W ∧ W.cell? ⟨w.heap.size, 0, none⟩ = some (.bool na)) := fun W hW => ⟨hW, (HC.out W hW).1⟩
      have HE1 : Hid _ := e1
      have HE2 : Hid _ := e2
      clear e1 e2 hYX hr
      go_upto_region 7 with fail
      go_region_held3 (fun W => Below (w.heap.size + 2) w4 W ∧ W.cell? ⟨w.heap.size, 0, none⟩ = some (.bool na))
        (first | exact HK.out _ ‹Below (w.heap.size + 2) w4 _› | exact HK.out _ (‹Below (w.heap.size + 2) w4 _›).drew | (refine HK.out _ ?_; exact Below.setCell (Below.setCell (Below.setCell (by first | assumption | exact (‹Below (w.heap.size + 2) w4 _ ∧ _›).1) (by simp) _) (by simp) _) (by simp) _))
        (first | (go_at_call 87; (with_reducible refine (HSUB.out _ (by first | assumption | exact Below.drew (by assumption))).mono ?_); rintro e w7 ⟨v, rfl, hnum, hb⟩; obtain ⟨s1, s2, s3, rfl⟩ := Num.shape hnum; have hB2 : Below (w.heap.size + 2) w4 w7 := Below.trans (by first | assumption | exact Below.drew (by assumption) : Below (w.heap.size + 2) w4 _) (hb.mono (by have := HSW.out; simp; omega)); have hrow : w7.heap[w.heap.size + 2]? = some (.cells #[.bool false, .slice none 0 0, .int .i64 0] 48 (0, 0)) := hb.blk HQ6.out (by have := HSW.out; simp; omega); obtain ⟨⟨a0, a1⟩, a2, a3, a4⟩ := wr3' hrow; have b0 := fun u => (a2 u).1; have b1 := fun u => (a2 u).2; have b2 := fun u v => (a3 u v).1; have b3 := fun u v => (a3 u v).2; have A4 : Hid _ := a4; have HROW : Hid _ := hrow; have HNUM : Hid _ := hnum; have HBB : Hid (Below w9.heap.size w9 w7) := ⟨hb.os, hb.tape, hb.output, hb.size, hb.block⟩; clear a2 a3 a4 hrow hnum hb))
      go_wp2
      refine bodyPost_ret (term_row rfl _ _ (w.heap.size + 2) _ _ _ rfl (A4.out _ _ _)) rfl ⟨_, rfl, ⟨_, by rw [HE1.out], by rw [HE2.out]; exact Num.set3 HNUM.out HROW.out _ _ _⟩, ?_⟩
      exact (((HBW.out.trans (HBB.out.mono (by have := HSW.out; omega))).setCell (by simp; omega) _).setCell (by simp; omega) _).setCell (by simp; omega) _

    · have hc : ¬ (0 : Int) ≤ ncmp X Y := by unfold ncmp; rw [if_pos (by omega)]; decide
      obtain ⟨r, hr⟩ : ∃ r, r = ncmp X Y := ⟨_, rfl⟩
      rw [← hr] at hc ⊢
      have e1 : sumS na nb X Y = nb := by unfold sumS; rw [if_neg HAB.out, if_neg hYX]
      have e2 : sumM na nb X Y = Y - X := by unfold sumM; rw [if_neg HAB.out, if_neg hYX]
      have HSUB : Hid (∀ W, Below w9.heap.size w9 W → Calls Tryd.prog 87 #[.slice r1 r2 r3, .slice p1 p2 p3] W (NatQ (Y - X) W)) := fun W hW => nsub_any _ _ Y X W (Num.below HY9.out (Nat.le_refl _) hW) (Num.below HX9.out (Nat.le_refl _) hW) HXY.out.2.1 (by omega) HXY.out.2.2
      have HK : Hid (∀ W, Below (w.heap.size + 2) w4 W → Below (w.heap.size + 2) w4 W ∧ W.cell? ⟨w.heap.size + 1, 0, none⟩ = some (.bool nb)) := fun W hW => ⟨hW, (HC.out W hW).2.2.2.1⟩
      have HE1 : Hid _ := e1
      have HE2 : Hid _ := e2
      clear e1 e2 hYX hr
      go_upto_region 8 with fail
      go_region_held3 (fun W => Below (w.heap.size + 2) w4 W ∧ W.cell? ⟨w.heap.size + 1, 0, none⟩ = some (.bool nb))
        (first | exact HK.out _ ‹Below (w.heap.size + 2) w4 _› | exact HK.out _ (‹Below (w.heap.size + 2) w4 _›).drew | (refine HK.out _ ?_; exact Below.setCell (Below.setCell (Below.setCell (by first | assumption | exact (‹Below (w.heap.size + 2) w4 _ ∧ _›).1) (by simp) _) (by simp) _) (by simp) _))
        (first | (go_at_call 87; (with_reducible refine (HSUB.out _ (by first | assumption | exact Below.drew (by assumption))).mono ?_); rintro e w7 ⟨v, rfl, hnum, hb⟩; obtain ⟨s1, s2, s3, rfl⟩ := Num.shape hnum; have hB2 : Below (w.heap.size + 2) w4 w7 := Below.trans (by first | assumption | exact Below.drew (by assumption) : Below (w.heap.size + 2) w4 _) (hb.mono (by have := HSW.out; simp; omega)); have hrow : w7.heap[w.heap.size + 2]? = some (.cells #[.bool false, .slice none 0 0, .int .i64 0] 48 (0, 0)) := hb.blk HQ6.out (by have := HSW.out; simp; omega); obtain ⟨⟨a0, a1⟩, a2, a3, a4⟩ := wr3' hrow; have b0 := fun u => (a2 u).1; have b1 := fun u => (a2 u).2; have b2 := fun u v => (a3 u v).1; have b3 := fun u v => (a3 u v).2; have A4 : Hid _ := a4; have HROW : Hid _ := hrow; have HNUM : Hid _ := hnum; have HBB : Hid (Below w9.heap.size w9 w7) := ⟨hb.os, hb.tape, hb.output, hb.size, hb.block⟩; clear a2 a3 a4 hrow hnum hb))
      go_wp2
      refine bodyPost_ret (term_row rfl _ _ (w.heap.size + 2) _ _ _ rfl (A4.out _ _ _)) rfl ⟨_, rfl, ⟨_, by rw [HE1.out], by rw [HE2.out]; exact Num.set3 HNUM.out HROW.out _ _ _⟩, ?_⟩
      exact (((HBW.out.trans (HBB.out.mono (by have := HSW.out; omega))).setCell (by simp; omega) _).setCell (by simp; omega) _).setCell (by simp; omega) _

end Go.Proofs.YtiimjbpfdidgcaaDoor
