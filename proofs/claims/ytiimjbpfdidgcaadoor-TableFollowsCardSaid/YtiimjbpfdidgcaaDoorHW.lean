/- Parts Rd of the proof, in one text. -/
import Derived.Test.YtiimjbpfdidgcaaDoorHV
import Derived.Test.YtiimjbpfdidgcaaDoorHM
import Derived.Deep.RegionHeld3
import Derived.Deep.CutBlock
import Derived.Deep.DeepCutAuto

/- Walks: the document's answer for layer 7: Product. -/
namespace Go.Proofs.YtiimjbpfdidgcaaDoor
open Go.RowKit

set_option maxHeartbeats 1000000 in
set_option maxRecDepth 100000 in
theorem r7_product (v v' : Value) (na nb : Bool) (M N : Nat) (E F : Int) (w : World) (h : Term w v na M E) (h' : Term w v' nb N F) {bb : Nat} (hM : M < 2 ^ bb) (hN : N < 2 ^ bb) (hbb : bb ≤ 1000000) (hE : -1000000 ≤ E ∧ E ≤ 1000000) (hF : -1000000 ≤ F ∧ F ≤ 1000000) :
    Calls Tryd.prog 64 #[v, v'] w (TermQ (na != nb) (M * N) (E + F) w) := by
  obtain ⟨s, rfl, hs⟩ := h
  obtain ⟨t, rfl, ht⟩ := h'
  obtain ⟨a, m, c, rfl⟩ := hs.shape
  obtain ⟨a', n, c', rfl⟩ := ht.shape
  have HMUL : Hid (∀ W, Below w.heap.size w W → Calls Tryd.prog 81 #[.slice a m c, .slice a' n c'] W (NatQ (M * N) W)) := fun W hW => nmul_any _ _ M N W (hs.below (Nat.le_refl _) hW) (ht.below (Nat.le_refl _) hW) hM hN (by omega)
  obtain ⟨P, hP⟩ : ∃ P, P = M * N := ⟨_, rfl⟩
  rw [← hP] at HMUL ⊢
  have i1 : IntKind.i64.wrap (E + F) = E + F := IntWalk.i64_in _ (by omega)
  have hb0 : Below w.heap.size w (((w.alloc (.cells #[.bool na, .slice a m c, .int .i64 E] 48)).alloc (.cells #[.bool nb, .slice a' n c', .int .i64 F] 48)).alloc (.cells #[.bool false, .slice none 0 0, .int .i64 0] 48)) := (((Below.refl _ _).alloc (Nat.le_refl _) _).alloc (by simp) _).alloc (by simp; omega) _
  have q0 := heap_alloc3_0 w (.cells #[.bool na, .slice a m c, .int .i64 E] 48) (.cells #[.bool nb, .slice a' n c', .int .i64 F] 48) (.cells #[.bool false, .slice none 0 0, .int .i64 0] 48)
  have q1 := heap_alloc3_1 w (.cells #[.bool na, .slice a m c, .int .i64 E] 48) (.cells #[.bool nb, .slice a' n c', .int .i64 F] 48) (.cells #[.bool false, .slice none 0 0, .int .i64 0] 48)
  have q2 := heap_alloc3_2 w (.cells #[.bool na, .slice a m c, .int .i64 E] 48) (.cells #[.bool nb, .slice a' n c', .int .i64 F] 48) (.cells #[.bool false, .slice none 0 0, .int .i64 0] 48)
  have hs4 : (((w.alloc (.cells #[.bool na, .slice a m c, .int .i64 E] 48)).alloc (.cells #[.bool nb, .slice a' n c', .int .i64 F] 48)).alloc (.cells #[.bool false, .slice none 0 0, .int .i64 0] 48)).heap.size = w.heap.size + 3 := by simp
  clear hs ht hM hN hbb hE hF hP
  go_enter Tryd.func64, Tryd.ntmps64
  go_upto_region 1 with fail
  generalize (((w.alloc (.cells #[.bool na, .slice a m c, .int .i64 E] 48)).alloc (.cells #[.bool nb, .slice a' n c', .int .i64 F] 48)).alloc (.cells #[.bool false, .slice none 0 0, .int .i64 0] 48)) = w4 at *
  have HC : Hid (∀ W, Below (w.heap.size + 2) w4 W → Below (w.heap.size + 2) w4 W ∧ W.cell? ⟨w.heap.size, 0, none⟩ = some (.bool na) ∧ W.cell? ⟨w.heap.size, 1, none⟩ = some (.slice a m c) ∧ W.cell? ⟨w.heap.size, 2, none⟩ = some (.int .i64 E) ∧
      W.cell? ⟨w.heap.size + 1, 0, none⟩ = some (.bool nb) ∧ W.cell? ⟨w.heap.size + 1, 1, none⟩ = some (.slice a' n c') ∧ W.cell? ⟨w.heap.size + 1, 2, none⟩ = some (.int .i64 F)) :=
    fun W hW => ⟨hW, cell_of_row W _ 0 _ _ _ (hW.blk q0 (by omega)), cell_of_row W _ 1 _ _ _ (hW.blk q0 (by omega)), cell_of_row W _ 2 _ _ _ (hW.blk q0 (by omega)), cell_of_row W _ 0 _ _ _ (hW.blk q1 (by omega)), cell_of_row W _ 1 _ _ _ (hW.blk q1 (by omega)), cell_of_row W _ 2 _ _ _ (hW.blk q1 (by omega))⟩
  have HQ2 : Hid _ := q2
  have HB0 : Hid (Below w.heap.size w w4) := hb0
  have HS4 : Hid (w4.heap.size = w.heap.size + 3) := hs4
  have hbs : Below (w.heap.size + 2) w4 w4 := Below.refl _ _
  obtain ⟨⟨g0, g1⟩, -, -, -⟩ := wr3' q2
  clear hb0 q0 q1 q2 hs4
  go_region_held3 (fun W => Below (w.heap.size + 2) w4 W ∧ W.cell? ⟨w.heap.size, 0, none⟩ = some (.bool na) ∧ W.cell? ⟨w.heap.size, 1, none⟩ = some (.slice a m c) ∧ W.cell? ⟨w.heap.size, 2, none⟩ = some (.int .i64 E) ∧
      W.cell? ⟨w.heap.size + 1, 0, none⟩ = some (.bool nb) ∧ W.cell? ⟨w.heap.size + 1, 1, none⟩ = some (.slice a' n c') ∧ W.cell? ⟨w.heap.size + 1, 2, none⟩ = some (.int .i64 F))
    (first | exact HC.out _ ‹Below (w.heap.size + 2) w4 _› | exact HC.out _ (‹Below (w.heap.size + 2) w4 _›).drew | (refine HC.out _ ?_; exact Below.setCell (Below.setCell (Below.setCell (by first | assumption | exact (‹Below (w.heap.size + 2) w4 _ ∧ _›).1) (by simp) _) (by simp) _) (by simp) _))
    (first | (go_at_call 81; (with_reducible refine (HMUL.out _ (HB0.out.trans (Below.mono (by first | assumption | exact Below.drew (by assumption) : Below (w.heap.size + 2) w4 _) (by omega)))).mono ?_); rintro e w7 ⟨v, rfl, hnum, hb⟩; obtain ⟨s1, s2, s3, rfl⟩ := Num.shape hnum; have hB2 : Below (w.heap.size + 2) w4 w7 := Below.trans (by first | assumption | exact Below.drew (by assumption) : Below (w.heap.size + 2) w4 _) (hb.mono (by have := HS4.out; simp; omega)); have hrow : w7.heap[w.heap.size + 2]? = some (.cells #[.bool false, .slice none 0 0, .int .i64 0] 48 (0, 0)) := hb.blk HQ2.out (by have := HS4.out; simp; omega); obtain ⟨⟨a0, a1⟩, a2, a3, a4⟩ := wr3' hrow; have b0 := fun u => (a2 u).1; have b1 := fun u => (a2 u).2; have b2 := fun u v => (a3 u v).1; have b3 := fun u v => (a3 u v).2; have A4 : Hid _ := a4; have HROW : Hid _ := hrow; have HNUM : Hid _ := hnum; have HBB : Hid (Below w4.heap.size w4 w7) := ⟨hb.os, hb.tape, hb.output, hb.size, hb.block⟩; clear a2 a3 a4 hrow hnum hb))
  go_wp2

  refine bodyPost_ret (term_row rfl _ _ (w.heap.size + 2) _ _ _ rfl (A4.out _ _ _)) rfl ⟨_, rfl, ⟨_, ?_, Num.set3 HNUM.out HROW.out _ _ _⟩, ?_⟩
  · cases na <;> cases nb <;> rfl
  · exact (((HB0.out.trans (HBB.out.mono (by have := HS4.out; omega))).setCell (by simp; omega) _).setCell (by simp; omega) _).setCell (by simp; omega) _
end Go.Proofs.YtiimjbpfdidgcaaDoor
