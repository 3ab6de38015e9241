import Derived.Test.YtlbokicainimnaaGreatDoorPIH
import Derived.Test.YtlbokicainimnaaGreatDoorPJR
import Derived.Maps.AppendAt
set_option maxRecDepth 100000
namespace Go.Proofs.YtlbokicainimnaaGreatDoor
open Go Go.RowKit
open Go.Lib hiding intOf
def But9 (g : Nat) (w w' : World) : Prop := w.heap.size ≤ w'.heap.size ∧ ∀ b, b < w.heap.size → b ≠ g → w'.heap[b]? = w.heap[b]?
theorem But9.refl (g : Nat) (w : World) : But9 g w w := ⟨Nat.le_refl _, fun _ _ _ => rfl⟩
theorem But9.thru {g : Nat} {w wr w' : World} (h : But9 g w wr) (hb : Below wr.heap.size wr w') : But9 g w w' :=
 ⟨Nat.le_trans h.1 hb.size, fun b h1 h2 => (hb.block b (Nat.lt_of_lt_of_le h1 h.1)).trans (h.2 b h1 h2)⟩
theorem But9.set {g : Nat} {w wr : World} (h : But9 g w wr) (j : Nat) (v : Value) : But9 g w (wr.setCell ⟨g, j, none⟩ v) :=
 ⟨by simpa using h.1, fun b h1 h2 => (heap_setCell_other wr _ _ _ h2).trans (h.2 b h1 h2)⟩
theorem But9.grown {g : Nat} {w wr w' : World} {o : Obj} {row : Option Nat} (h : But9 g w wr) (hg : (wr.alloc o).grownBy w' row) (hr : ∀ b, row = some b → b = g ∨ w.heap.size ≤ b) : But9 g w w' := by
 have hs : wr.heap.size ≤ (wr.alloc o).heap.size := by simp
 refine ⟨Nat.le_trans h.1 (Nat.le_trans hs hg.size), fun b h1 h2 => ?_⟩
 have hlt : b < wr.heap.size := Nat.lt_of_lt_of_le h1 h.1
 rw [hg.block b (Nat.lt_of_lt_of_le hlt hs) (fun e => ?_), Below.heap_alloc wr o b hlt, h.2 b h1 h2]
 rcases hr b e.symm with e2 | e2
 ·exact h2 e2
 ·omega
theorem But9.cell {g b j : Nat} {w w' : World} (h : But9 g w w') (h1 : b < w.heap.size) (h2 : b ≠ g) : w'.cell? ⟨b, j, none⟩ = w.cell? ⟨b, j, none⟩ := World.cell?_of_block (w := w) (h.2 b h1 h2)
theorem FOn.keep {w W : World} {base g n c : Nat} {l : List Nat} (h : FOn w base (.slice (some ⟨g, 0, none⟩) n c) n l) (hb : Below w.heap.size w W) : FOn W base (.slice (some ⟨g, 0, none⟩) n c) n l := by
 obtain ⟨h1, h2⟩ := h
 refine ⟨h1, ?_⟩
 rcases h2 with h2 | ⟨g', c', cur, e, h3, h4, r⟩
 ·exact .inl h2
 ·exact .inr ⟨g', c', cur, e, h3, hb.blk h4 (blk_lt h4), r⟩
theorem uon9 {w : World} {base m : Nat} {v : Value} {K : List Nat} (h : UOn w base v m K) : ∃ a c, v = .slice a m c ∧ (0 < m → ∃ g, a = some ⟨g, 0, none⟩ ∧ base ≤ g ∧ g < w.heap.size ∧ ∀ k, k < m → w.cell? ⟨g, k, none⟩ = some (.int .u64 (K.getD k 0 : Nat))) := by
 rcases h.2 with ⟨h1, h2⟩ | ⟨g, c, cur, rfl, h3⟩
 ·subst h2
  exact ⟨none, 0, h1, fun h => absurd h (Nat.lt_irrefl 0)⟩
 ·exact ⟨_, c, rfl, fun _ => ⟨g, rfl, UOn.lt (c := c) h |>.1, UOn.lt (c := c) h |>.2, fun k hk => UOn.cell h hk⟩⟩
set_option maxHeartbeats 16000000 in
theorem orderPlaces_walk {a : Option Addr} {n c : Nat} {l : List Nat} (k : Int) (w : World) (hn : l.length = n) (hmax : n * 8 ≤ 140737488351232) (hl : ∀ x ∈ l, W64 x) (hcell : UIn w a n l) (_ : -9223372036854775808 ≤ k) (_ : k ≤ 9223372036854775807) (htab : Tab w) :
  Calls Tryz.prog 8 #[.slice a n c, .int .i64 k] w fun e w' => e = .returned (.bool true) ∧ Below w.heap.size w w' := by
 have HAW : Hid (Calls Tryz.prog 18 #[] w fun e w' => e = .returned (.bool true) ∧ Below w.heap.size w w') := awake9_v w htab
 have HFL : Hid (∀ W, Below w.heap.size w W → Calls Tryz.prog 19 #[.slice a n c] W fun e w' => (∃ g cp, e = .returned (.tuple #[.slice (some ⟨g, 0, none⟩) n cp, .slice (some ⟨g, 0, none⟩) (n + 8 : Nat) cp]) ∧ FOn w' W.heap.size (.slice (some ⟨g, 0, none⟩) (n + 8 : Nat) cp) (n + 8) (l ++ List.replicate 8 mark9)) ∧ Below W.heap.size W w') := fun W hW => floats9_v W hn hmax (hcell.below hW)
 have HIS : Hid (∀ x W, Calls Tryz.prog 25 #[.float .f64 x, .int .u64 (x : Nat)] W fun e w' => e = .returned (.bool true) ∧ W = w') := fun x W => by
  have := is9_v x x W
  rwa [decide_eq_true rfl] at this
 have HC0 : Hid (UIn w a n l ∧ (∀ x ∈ l, W64 x) ∧ l.length = n) := ⟨hcell, hl, hn⟩
 obtain ⟨A1, X1, hA1⟩ : ∃ u e, nthA l 1 = (u, e) := ⟨_, _, rfl⟩
 obtain ⟨A2, X2, hA2⟩ : ∃ u e, nthA l (n : Nat) = (u, e) := ⟨_, _, rfl⟩
 obtain ⟨A3, X3, hA3⟩ : ∃ u e, nthA l k = (u, e) := ⟨_, _, rfl⟩
 have hA4 : nthA l (max 1 (n : Int)) = (A2, X2) := by
  by_cases h0 : n = 0
  ·rw [← hA2]
   have z : ∀ k, nthA l k = (0, 4) := fun k => by unfold nthA; rw [if_pos (by omega)]
   rw [z, z]
  ·rw [show max 1 (n : Int) = ((n : Nat) : Int) by omega]; exact hA2
 obtain ⟨s, hs⟩ : ∃ s, s = ordL l := ⟨_, rfl⟩
 have HSL : Hid (s.length = n) := by show s.length = n; rw [hs, ordL_len, hn]
 obtain ⟨i0, hi, hz0, hz1, hz2⟩ := info_parts Tryz.infoF9
 clear hcell htab hl
 go_enter Tryz.func8, Tryz.ntmps8
 go_wp2_with fail
 refine Calls.mono HAW.out ?_
 rintro e w1 ⟨rfl, hb1⟩
 go_wp2_with fail
 refine (HFL.out _ hb1).mono ?_
 rintro e w2 ⟨⟨g, cp, rfl, ho⟩, hb2⟩
 have HBW : Hid (Below w.heap.size w w2) := hb1.thru hb2
 have HIN : Hid (∀ W, Below w2.heap.size w2 W → FIn W (some ⟨g, 0, none⟩) n l ∧ FIn W (some ⟨g, 0, none⟩) (n + 8) (l ++ List.replicate 8 mark9)) := fun W hW => by
  have h2 : FIn w2 (some ⟨g, 0, none⟩) (n + 8) (l ++ List.replicate 8 mark9) := by
   have hz : l ++ List.replicate 8 mark9 = (l ++ List.replicate 8 mark9) ++ [] := by simp
   rw [hz] at ho
   exact ho.fin (by simp [hn]) (Nat.le_refl _)
  exact ⟨(ho.fin (l := l) (r := List.replicate 8 mark9) hn.symm (by omega)).below hW, h2.below hW⟩
 have HB2 : Hid (Below w2.heap.size w2 w2) := Below.refl _ _
 clear hb1 hb2 ho HAW HFL
 have C1 : Hid (∀ W, Below w2.heap.size w2 W → Calls Tryz.prog 31 #[.slice (some ⟨g, 0, none⟩) n cp] W fun e w' => (∃ gs, e = .returned (.slice (some ⟨gs, 0, none⟩) n n) ∧ FOn w' W.heap.size (.slice (some ⟨gs, 0, none⟩) n n) n s) ∧ Below W.heap.size W w') := fun W hW => by have := sorted9_v (c := cp) W HC0.out.2.2 (by omega : n * 8 ≤ 140737488355328) HC0.out.2.1 (HIN.out W hW).1; rw [← hs] at this; exact this
 have C2 : Hid (∀ W, Below w2.heap.size w2 W → Calls Tryz.prog 26 #[.slice (some ⟨g, 0, none⟩) n cp] W fun e w' => e = .returned (.tuple #[.float .f64 A1, .int .i64 X1]) ∧ Below W.heap.size W w') := fun W hW => by have := least9_v (c := cp) W HC0.out.2.2 (by omega : n * 8 ≤ 140737488355328) HC0.out.2.1 (HIN.out W hW).1; rw [hA1] at this; exact this
 have C3 : Hid (∀ W, Below w2.heap.size w2 W → Calls Tryz.prog 27 #[.slice (some ⟨g, 0, none⟩) n cp] W fun e w' => e = .returned (.tuple #[.float .f64 A2, .int .i64 X2]) ∧ Below W.heap.size W w') := fun W hW => by have := greatest9_v (c := cp) W HC0.out.2.2 (by omega : n * 8 ≤ 140737488355328) HC0.out.2.1 (HIN.out W hW).1; rw [hA2] at this; exact this
 have C4 : Hid (∀ W, Below w2.heap.size w2 W → Calls Tryz.prog 32 #[.slice (some ⟨g, 0, none⟩) n cp, .int .i64 k] W fun e w' => e = .returned (.tuple #[.float .f64 A3, .int .i64 X3]) ∧ Below W.heap.size W w') := fun W hW => by have := nth9_v (c := cp) k W HC0.out.2.2 (by omega : n * 8 ≤ 140737488355328) HC0.out.2.1 (HIN.out W hW).1; rw [hA3] at this; exact this
 have C5 : Hid (∀ W, Below w2.heap.size w2 W → Calls Tryz.prog 36 #[.slice a n c] W fun e w' => (∃ v, e = .returned v ∧ UOn w' W.heap.size v n s) ∧ Below W.heap.size W w') := fun W hW => by have := rsorted9_v (c := c) W HC0.out.2.2 (by omega : n * 8 ≤ 140737488355328) HC0.out.2.1 (HC0.out.1.below (HBW.out.thru hW)); rw [← hs] at this; exact this
 have C6 : Hid (∀ W, Below w2.heap.size w2 W → Calls Tryz.prog 37 #[.slice a n c, .int .i64 1] W fun e w' => e = .returned (.tuple #[.int .u64 (A1 : Nat), .int .i64 X1]) ∧ Below W.heap.size W w') := fun W hW => by have := rnth9_v (c := c) 1 W HC0.out.2.2 (by omega : n * 8 ≤ 140737488355328) HC0.out.2.1 (HC0.out.1.below (HBW.out.thru hW)); rw [hA1] at this; exact this
 have C7 : Hid (∀ W, Below w2.heap.size w2 W → Calls Tryz.prog 37 #[.slice a n c, .int .i64 (max 1 (n : Int))] W fun e w' => e = .returned (.tuple #[.int .u64 (A2 : Nat), .int .i64 X2]) ∧ Below W.heap.size W w') := fun W hW => by have := rnth9_v (c := c) (max 1 (n : Int)) W HC0.out.2.2 (by omega : n * 8 ≤ 140737488355328) HC0.out.2.1 (HC0.out.1.below (HBW.out.thru hW)); rw [hA4] at this; exact this
 have C8 : Hid (∀ W, Below w2.heap.size w2 W → Calls Tryz.prog 37 #[.slice a n c, .int .i64 k] W fun e w' => e = .returned (.tuple #[.int .u64 (A3 : Nat), .int .i64 X3]) ∧ Below W.heap.size W w') := fun W hW => by have := rnth9_v (c := c) k W HC0.out.2.2 (by omega : n * 8 ≤ 140737488355328) HC0.out.2.1 (HC0.out.1.below (HBW.out.thru hW)); rw [hA3] at this; exact this
 have C9 : Hid (∀ W, Below w2.heap.size w2 W → Calls Tryz.prog 24 #[.slice (some ⟨g, 0, none⟩) (n + 8 : Nat) cp, .slice a n c] W fun e w' => e = .returned (.bool true) ∧ Below W.heap.size W w') := fun W hW => whole9_v W HC0.out.2.2 hmax (HC0.out.1.below (HBW.out.thru hW)) (HIN.out W hW).2
 have t4 : ((n : Int) != (n : Int)) = false := by simp
 clear hA1 hA2 hA3 hA4 hs HC0 HIN hn
 go_wp2_with fail
 refine (C1.out _ HB2.out).mono ?_
 rintro e w3 ⟨⟨gs, rfl, ho⟩, hb⟩
 have HO3 : Hid (FOn w3 w2.heap.size (.slice (some ⟨gs, 0, none⟩) n n) n s) := ho
 have HG3 : Hid (w2.heap.size ≤ gs ∧ gs < w3.heap.size) := ho.lt
 have HB3 : Hid (Below w2.heap.size w2 w3) := hb
 clear hb ho HB2
 go_wp2_with fail
 refine (C2.out _ HB3.out).mono ?_
 rintro e w4 ⟨rfl, hb⟩
 have HO4 : Hid (FOn w4 w2.heap.size (.slice (some ⟨gs, 0, none⟩) n n) n s) := HO3.out.keep hb
 have HS4 : Hid (gs < w4.heap.size) := HO4.out.lt.2
 have HB4 : Hid (Below w2.heap.size w2 w4) := HB3.out.thru hb
 clear hb HB3 HO3 C2
 go_wp2_with fail
 refine (C3.out _ HB4.out).mono ?_
 rintro e w5 ⟨rfl, hb⟩
 have HO5 : Hid (FOn w5 w2.heap.size (.slice (some ⟨gs, 0, none⟩) n n) n s) := HO4.out.keep hb
 have HS5 : Hid (gs < w5.heap.size) := HO5.out.lt.2
 have HB5 : Hid (Below w2.heap.size w2 w5) := HB4.out.thru hb
 clear hb HB4 HO4 C3
 go_wp2_with fail
 refine (C4.out _ HB5.out).mono ?_
 rintro e w6 ⟨rfl, hb⟩
 have HO6 : Hid (FOn w6 w2.heap.size (.slice (some ⟨gs, 0, none⟩) n n) n s) := HO5.out.keep hb
 have HS6 : Hid (gs < w6.heap.size) := HO6.out.lt.2
 have HB6 : Hid (Below w2.heap.size w2 w6) := HB5.out.thru hb
 clear hb HB5 HO5 C4
 go_wp2_with fail
 refine (C1.out _ HB6.out).mono ?_
 rintro e w7 ⟨⟨gt, rfl, ho⟩, hb⟩
 have HT7 : Hid (gt ≠ gs ∧ gt < w7.heap.size) := ⟨by have := ho.lt.1; have := HS6.out; omega, ho.lt.2⟩
 have HTC : Hid (∀ W, Below w7.heap.size w7 W → ∀ j, j < n → W.cell? ⟨gt, j, none⟩ = some (.float .f64 (s.getD j 0))) := fun W hW j hj => (hW.cell (p := ⟨gt, j, none⟩) ho.lt.2).trans (ho.cell hj)
 have HO7 : Hid (FOn w7 w2.heap.size (.slice (some ⟨gs, 0, none⟩) n n) n s) := HO6.out.keep hb
 have HS7 : Hid (gs < w7.heap.size) := HO7.out.lt.2
 have HB7 : Hid (Below w2.heap.size w2 w7) := HB6.out.thru hb
 clear hb ho HB6 HO6 HS4 HS5 HS6 C1
 go_wp2_with fail
 refine (C5.out _ HB7.out).mono ?_
 rintro e w8 ⟨⟨v, rfl, hu⟩, hb⟩
 obtain ⟨au, cu, rfl, hu2⟩ := uon9 hu
 have HU8 : Hid (∀ W, Below w8.heap.size w8 W → 0 < n → ∃ gu, au = some ⟨gu, 0, none⟩ ∧ gu ≠ gs ∧ gu < w8.heap.size ∧ ∀ j, j < n → W.cell? ⟨gu, j, none⟩ = some (.int .u64 (s.getD j 0 : Nat))) := fun W hW h0 => by
  obtain ⟨gu, h1, h2, h3, h4⟩ := hu2 h0
  exact ⟨gu, h1, by have := HS7.out; omega, h3, fun j hj => (hW.cell (p := ⟨gu, j, none⟩) h3).trans (h4 j hj)⟩
 have HO8 : Hid (FOn w8 w2.heap.size (.slice (some ⟨gs, 0, none⟩) n n) n s) := HO7.out.keep hb
 have HB8 : Hid (Below w2.heap.size w2 w8) := HB7.out.thru hb
 have HR8 : Hid (Below w7.heap.size w7 w8) := hb
 clear hb hu hu2 HB7 HO7 HS7 C5
 go_wp2_with fail
 refine (C6.out _ HB8.out).mono ?_
 rintro e w9 ⟨rfl, hb⟩
 have HO9 : Hid (FOn w9 w2.heap.size (.slice (some ⟨gs, 0, none⟩) n n) n s) := HO8.out.keep hb
 have HB9 : Hid (Below w2.heap.size w2 w9) := HB8.out.thru hb
 have HR9 : Hid (Below w8.heap.size w8 w9) := hb
 clear hb HB8 HO8 C6
 go_wp2_with fail
 refine (C7.out _ HB9.out).mono ?_
 rintro e w10 ⟨rfl, hb⟩
 have HO10 : Hid (FOn w10 w2.heap.size (.slice (some ⟨gs, 0, none⟩) n n) n s) := HO9.out.keep hb
 have HB10 : Hid (Below w2.heap.size w2 w10) := HB9.out.thru hb
 have HR10 : Hid (Below w8.heap.size w8 w10) := HR9.out.thru hb
 clear hb HB9 HO9 HR9 C7
 go_wp2_with fail
 refine (C8.out _ HB10.out).mono ?_
 rintro e w11 ⟨rfl, hb⟩
 have HO11 : Hid (FOn w11 w2.heap.size (.slice (some ⟨gs, 0, none⟩) n n) n s) := HO10.out.keep hb
 have HB11 : Hid (Below w2.heap.size w2 w11) := HB10.out.thru hb
 have HR11 : Hid (Below w8.heap.size w8 w11) := HR10.out.thru hb
 clear hb HB10 HO10 HR10 C8
 have HT11 : Hid (gt < w11.heap.size ∧ ∀ j, j < n → w11.cell? ⟨gt, j, none⟩ = some (.float .f64 (s.getD j 0))) := ⟨Nat.lt_of_lt_of_le HT7.out.2 (HR8.out.thru HR11.out).size, HTC.out _ (HR8.out.thru HR11.out)⟩
 have HU11 : Hid (0 < n → ∃ gu, au = some ⟨gu, 0, none⟩ ∧ gu ≠ gs ∧ gu < w11.heap.size ∧ ∀ j, j < n → w11.cell? ⟨gu, j, none⟩ = some (.int .u64 (s.getD j 0 : Nat))) := fun h0 => by
  obtain ⟨gu, h1, h2, h3, h4⟩ := HU8.out _ HR11.out h0
  exact ⟨gu, h1, h2, Nat.lt_of_lt_of_le h3 HR11.out.size, h4⟩
 have HGT : Hid (gt ≠ gs) := HT7.out.1
 clear HT7 HTC HU8 HR8 HR11
 go_wp2_with (first | (go_at_call 25; with_reducible refine (HIS.out _ _).mono ?_; rintro e w' ⟨rfl, rfl⟩))
 go_loopw [23] (fun iv wr => ∃ (q : Nat) (ys : List Nat), (q ≤ n ∧ iv = .int .i64 (q : Nat)) ∧ (FOn wr w2.heap.size (.slice (some ⟨gs, 0, none⟩) n n) n ys ∧ ∀ j, q ≤ j → j < n → ys.getD j 0 = s.getD j 0) ∧ But9 gs w11 wr ∧ Below w2.heap.size w2 wr) (fun iv _ => n - (intOf iv).toNat)
 case atStart => exact ⟨0, s, ⟨Nat.zero_le _, by first | rfl | go_num⟩, ⟨HO11.out, fun _ _ _ => rfl⟩, But9.refl _ _, HB11.out⟩
 case round =>
  obtain ⟨q, ys, ⟨hq, rfl⟩, ⟨hoy, hys⟩, hbt, hbq⟩ := hrel
  have HOY : Hid (FOn wr w2.heap.size (.slice (some ⟨gs, 0, none⟩) n n) n ys) := hoy
  have HYS : Hid (∀ j, q ≤ j → j < n → ys.getD j 0 = s.getD j 0) := hys
  have HBT : Hid (But9 gs w11 wr) := hbt
  have HBQ : Hid (Below w2.heap.size w2 wr) := hbq
  clear hoy hys hbt hbq
  by_cases hqn : q < n
  ·have q1 : (q : Int) < n := by omega
   have q2 : (0 : Int) ≤ (q : Int) := by omega
   have hw1 : IntKind.i64.wrap ((q : Int) + 1) = ((q + 1 : Nat) : Int) := by rw [IntWalk.i64_in _ (by omega)]; omega
   obtain ⟨gu, rfl, hne, hgu, hcu⟩ := HU11.out (by omega)
   obtain ⟨y, hy⟩ : ∃ y, y = s.getD q 0 := ⟨_, rfl⟩
   have HCU : Hid (∀ W, Below wr.heap.size wr W → W.cell? ⟨gu, q, none⟩ = some (.int .u64 (y : Nat))) := fun W hW => by
    rw [hW.cell (p := ⟨gu, q, none⟩) (Nat.lt_of_lt_of_le hgu HBT.out.1), HBT.out.cell hgu hne, hy]
    exact hcu q hqn
   have HCS : Hid (∀ W, Below wr.heap.size wr W → W.cell? ⟨gs, q, none⟩ = some (.float .f64 y)) := fun W hW => by
    rw [hW.cell (p := ⟨gs, q, none⟩) HOY.out.lt.2, HOY.out.cell hqn, HYS.out q (Nat.le_refl _) hqn, hy]
   clear hne hgu hcu hy
   go_upto_region 17 with fail
   have h1 : once [(131, 0), (132, 1), (133, 2), (134, 3), (135, 4), (136, 5), (137, 6), (138, 7), (139, 8)] = true := by kernel_rfl
   have h2 : within [(131, 0), (132, 1), (133, 2), (134, 3), (135, 4), (136, 5), (137, 6), (138, 7), (139, 8)] 173 = true := by kernel_rfl
   refine wp_region_flow 9 10 [(131, 0), (132, 1), (133, 2), (134, 3), (135, 4), (136, 5), (137, 6), (138, 7), (139, 8)] [] (fun ix v W => match ix with
    | 0 => v = .slice (some ⟨gs, 0, none⟩) n n
    | 1 => v = .int .i64 (q : Nat)
    | 2 => v = .pointer (some ⟨gs, q, none⟩)
    | 3 => v = .float .f64 y
    | 4 => v = .slice (some ⟨gu, 0, none⟩) n cu
    | 5 => v = .int .i64 (q : Nat)
    | 6 => v = .pointer (some ⟨gu, q, none⟩)
    | 7 => v = .int .u64 (y : Nat)
    | _ => v = .bool true) wr.heap.size (Nat.le_refl _) (by kernel_rfl) (by kernel_rfl) (by kernel_rfl) (by decide) (by kernel_rfl) h1 (by kernel_rfl) ?_ ?_ ?_ ?_
   ·intro j v W W' h hb
    match j, h with
    | 0, h => exact h
    | 1, h => exact h
    | 2, h => exact h
    | 3, h => exact h
    | 4, h => exact h
    | 5, h => exact h
    | 6, h => exact h
    | 7, h => exact h
    | _ + 8, h => exact h
   ·exact fun j hj => by cases hj
   ·refine ⟨⟨⟨⟨⟨⟨⟨⟨⟨trivial, ?_⟩, ?_⟩, ?_⟩, ?_⟩, ?_⟩, ?_⟩, ?_⟩, ?_⟩, ?_⟩
    ·refine flow_step _ 131 rfl rfl (fun d h => by simpa using h) h1 h2 fun ac xs W he hb hS K hK => ?_
     exact op_move (.tmp 8) (.inl rfl) (hK _ _ (he 8) bR nA)
    ·refine flow_step _ 132 rfl rfl (fun d h => by simpa using h) h1 h2 fun ac xs W he hb hS K hK => ?_
     exact op_move (.tmp 23) (.inl rfl) (hK _ _ (he 23) bR nA)
    ·refine flow_step _ 133 rfl rfl (fun d h => by simpa using h) h1 h2 fun ac xs W he hb hS K hK => ?_
     have e0 := (he 131).trans (hS 0 (by kernel_rfl))
     have e1 := (he 132).trans (hS 1 (by kernel_rfl))
     refine op_any (.indexAddr 40 (.tmp 131) (.tmp 132)) rfl (.pointer (some ⟨gs, q, none⟩)) (fun o' ho' => ?_) (hK _ _ rfl bR nA)
     simp only [execOp, ho', e0, e1]
     go_simp
    ·refine flow_step _ 134 rfl rfl (fun d h => by simpa using h) h1 h2 fun ac xs W he hb hS K hK => ?_
     have hc := HCS.out W hb
     have e0 := (he 133).trans (hS 2 (by kernel_rfl))
     refine op_any (.load 24 (.tmp 133)) rfl (.float .f64 y) (fun o' ho' => ?_) (hK _ _ rfl bR nA)
     simp only [execOp, ho', e0]
     go_simp
    ·refine flow_step _ 135 rfl rfl (fun d h => by simpa using h) h1 h2 fun ac xs W he hb hS K hK => ?_
     exact op_move (.tmp 16) (.inl rfl) (hK _ _ (he 16) bR nA)
    ·refine flow_step _ 136 rfl rfl (fun d h => by simpa using h) h1 h2 fun ac xs W he hb hS K hK => ?_
     exact op_move (.tmp 23) (.inl rfl) (hK _ _ (he 23) bR nA)
    ·refine flow_step _ 137 rfl rfl (fun d h => by simpa using h) h1 h2 fun ac xs W he hb hS K hK => ?_
     have e0 := (he 135).trans (hS 4 (by kernel_rfl))
     have e1 := (he 136).trans (hS 5 (by kernel_rfl))
     refine op_any (.indexAddr 39 (.tmp 135) (.tmp 136)) rfl (.pointer (some ⟨gu, q, none⟩)) (fun o' ho' => ?_) (hK _ _ rfl bR nA)
     simp only [execOp, ho', e0, e1]
     go_simp
    ·refine flow_step _ 138 rfl rfl (fun d h => by simpa using h) h1 h2 fun ac xs W he hb hS K hK => ?_
     have hc := HCU.out W hb
     have e0 := (he 137).trans (hS 6 (by kernel_rfl))
     refine op_any (.load 22 (.tmp 137)) rfl (.int .u64 (y : Nat)) (fun o' ho' => ?_) (hK _ _ rfl bR nA)
     simp only [execOp, ho', e0]
     go_simp
    ·refine flow_step _ 139 rfl rfl (fun d h => by simpa using h) h1 h2 fun ac xs W he hb hS K hK => ?_
     have e0 := (he 134).trans (hS 3 (by kernel_rfl))
     have e1 := (he 138).trans (hS 7 (by kernel_rfl))
     refine op_call 25 _ _ rfl _ (by simp only [List.map, e0, e1]) (by go_simp) ((HIS.out y W).mono (fun e w' h => (⟨h.1, by rw [← h.2]; exact Below.refl _ _⟩ : e = .returned (.bool true) ∧ Below W.heap.size W w'))) ?_
     rintro e' W' ⟨rfl, hb'⟩
     exact ⟨_, rfl, hK _ _ (rfl) hb' nA⟩
   ·intro xs w13 hb hS hD
    have s8 : xs 8 = _ := hS 8 (by decide)
    generalize xs 0 = z0 at *
    generalize xs 1 = z1 at *
    generalize xs 2 = z2 at *
    generalize xs 3 = z3 at *
    generalize xs 4 = z4 at *
    generalize xs 5 = z5 at *
    generalize xs 6 = z6 at *
    generalize xs 7 = z7 at *
    simp only [layAll, s8]
    have HB8 : Hid (Below wr.heap.size wr w13) := hb
    clear hS hD s8 hb
    have hO13 := HOY.out.keep HB8.out
    have HO13 : Hid (FOn w13 w2.heap.size (.slice (some ⟨gs, 0, none⟩) n n) n ys) := hO13
    have hc := HCS.out _ HB8.out
    have hf := hO13.fro q
    clear hO13
    go_wp2_with fail
    go_roundw
    case rel =>
     refine ⟨q + 1, ys.set q mark9, ⟨by omega, by first | rfl | rw [hw1] | go_num⟩, ⟨HO13.out.set q mark9, fun j h1 h2 => ?_⟩, (HBT.out.thru HB8.out).set q _, (HBQ.out.thru HB8.out).setCell HO13.out.lt.1 _⟩
     rw [← HYS.out j (by omega) h2, List.getD_eq_getElem?_getD, List.getElem?_set_ne (by omega), ← List.getD_eq_getElem?_getD]
    case measure => simp [intOf]; omega
  ·obtain rfl : q = n := by omega
   clear hq hqn HYS
   have HOS : Hid (wr.ownsRow w2.heap.size 24 1 (.slice (some ⟨gs, 0, none⟩) q q) q (flo ys)) := HOY.out
   go_wp2_with fail
   go_loopw [8, 25] (fun v iv wq => ∃ (j : Nat) (zs : List Value), (j ≤ 4 ∧ iv = .int .i64 (j : Nat)) ∧ (wq.ownsRow w2.heap.size 24 1 v (q + j) zs ∧ ∀ b, v.ownBlock = some b → b = gs ∨ w11.heap.size ≤ b) ∧ But9 gs w11 wq ∧ Below w2.heap.size w2 wq) (fun _ iv _ => 4 - (intOf iv).toNat)
   case atStart => exact ⟨0, flo ys, ⟨Nat.zero_le _, by first | rfl | go_num⟩, ⟨HOS.out, fun b hb => .inl (by cases hb; rfl)⟩, HBT.out, HBQ.out⟩
   case round =>
    rename_i wp
    obtain ⟨j, zs, ⟨hj, rfl⟩, ⟨hown, hrow⟩, hbt, hbq⟩ := hrel
    have HOJ : Hid _ := hown
    have HRJ : Hid (∀ b, u8.ownBlock = some b → b = gs ∨ w11.heap.size ≤ b) := hrow
    have HTJ : Hid (But9 gs w11 wr) := hbt
    have HBJ : Hid (Below w2.heap.size w2 wr) := hbq
    clear hown hrow hbt hbq HOS HBT HBQ HOY
    by_cases hj4 : j < 4
    ·have hw2 : IntKind.i64.wrap ((j : Int) + 1) = ((j + 1 : Nat) : Int) := by rw [IntWalk.i64_in _ (by omega)]; omega
     have j4 : (j : Int) < 4 := by omega
     go_wp2_with (at_builtin; (refine wpList_append_own_at _ rfl _ _ 40 rfl w2.heap.size 24 i0 (.float .f64 0) 1 8 Tryz.underlying40 hi hz0 hz1 hz2 rfl (by decide) _ _ _ rfl (World.ownsRow.alloc HOJ.out _) ⟨wr.heap.size, 0, none⟩ 1 1 [.float .f64 4620130267728707584] rfl rfl (by intro j z hj; match j with | 0 => (obtain rfl : z = .float .f64 4620130267728707584 := by simpa using hj.symm); exact cell_of_row _ _ _ _ _ _ (heap_alloc_new _ _) | j + 1 => simp at hj) (by intro z hz; simp at hz; subst hz; rfl) (by unfold maxLen; omega) (by omega) (by have := HBJ.out.size; simp at this ⊢; omega) ?_; intro v' w14 hown' hgrow _ hrow; have HOW2 : Hid (w14.ownsRow w2.heap.size 24 1 v' (q + (j + 1)) (zs ++ [.float .f64 4620130267728707584])) := hown'; have HB14 : Hid (Below w2.heap.size w2 w14) := (HBJ.out.alloc HBJ.out.size _).grown hgrow (by have := HBJ.out.size; simp at this ⊢; omega) (fun k hk => (World.ownsRow.lt HOJ.out k hk).1); have HBT2 : Hid (But9 gs w11 w14) := HTJ.out.grown hgrow HRJ.out; have HRW : Hid (∀ b, v'.ownBlock = some b → b = gs ∨ w11.heap.size ≤ b) := (fun b hb => by rcases hrow with e | e; exact HRJ.out b (e ▸ hb); exact .inr (by rw [e] at hb; cases hb; have := HTJ.out.1; simp at this ⊢; omega)); clear hown' hgrow hrow))
     go_roundw
     case rel => exact ⟨j + 1, _, ⟨by omega, by first | rfl | rw [hw2] | go_num⟩, ⟨HOW2.out, HRW.out⟩, HBT2.out, HB14.out⟩
     case measure => simp [intOf]; omega
    ·obtain rfl : j = 4 := by omega
     clear hj hj4 HOJ HRJ hi hz0 hz1 hz2 i0
     go_wp2_with fail
     go_loopw [26] (fun iv wz => ∃ z : Nat, (z ≤ q ∧ iv = .int .i64 (z : Nat)) ∧ But9 gs w11 wz ∧ Below w2.heap.size w2 wz) (fun iv _ => q - (intOf iv).toNat)
     case atStart => exact ⟨0, ⟨Nat.zero_le _, by first | rfl | go_num⟩, HTJ.out, HBJ.out⟩
     case round =>
      rename_i wo
      obtain ⟨z, ⟨hz, rfl⟩, hbt, hbz⟩ := hrel
      have HBT : Hid (But9 gs w11 wr) := hbt
      have HBZ : Hid (Below w2.heap.size w2 wr) := hbz
      clear hbt hbz HTJ HBJ
      by_cases hzn : z < q
      ·obtain ⟨q, rfl⟩ : ∃ q, z = q := ⟨_, rfl⟩
       have q1 : (z : Int) < q := by omega
       have q2 : (0 : Int) ≤ (z : Int) := by omega
       have hw1 : IntKind.i64.wrap ((z : Int) + 1) = ((z + 1 : Nat) : Int) := by rw [IntWalk.i64_in _ (by omega)]; omega
       obtain ⟨gu, rfl, hne, hgu, hcu⟩ := HU11.out (by omega)
       obtain ⟨y, hy⟩ : ∃ y, y = s.getD z 0 := ⟨_, rfl⟩
       have HCU : Hid (∀ W, Below wr.heap.size wr W → W.cell? ⟨gu, z, none⟩ = some (.int .u64 (y : Nat))) := fun W hW => by
        rw [hW.cell (p := ⟨gu, z, none⟩) (Nat.lt_of_lt_of_le hgu HBT.out.1), HBT.out.cell hgu hne, hy]
        exact hcu z hzn
       have HCS : Hid (∀ W, Below wr.heap.size wr W → W.cell? ⟨gt, z, none⟩ = some (.float .f64 y)) := fun W hW => by
        rw [hW.cell (p := ⟨gt, z, none⟩) (Nat.lt_of_lt_of_le HT11.out.1 HBT.out.1), HBT.out.cell HT11.out.1 HGT.out, hy]
        exact HT11.out.2 z hzn
       clear hne hgu hcu hy
       go_upto_region 28 with fail
       have h1 : once [(158, 0), (159, 1), (160, 2), (161, 3), (162, 4), (163, 5), (164, 6), (165, 7), (166, 8)] = true := by kernel_rfl
       have h2 : within [(158, 0), (159, 1), (160, 2), (161, 3), (162, 4), (163, 5), (164, 6), (165, 7), (166, 8)] 173 = true := by kernel_rfl
       refine wp_region_flow 9 10 [(158, 0), (159, 1), (160, 2), (161, 3), (162, 4), (163, 5), (164, 6), (165, 7), (166, 8)] [] (fun ix v W => match ix with
        | 0 => v = .slice (some ⟨gt, 0, none⟩) q q
        | 1 => v = .int .i64 (z : Nat)
        | 2 => v = .pointer (some ⟨gt, z, none⟩)
        | 3 => v = .float .f64 y
        | 4 => v = .slice (some ⟨gu, 0, none⟩) q cu
        | 5 => v = .int .i64 (z : Nat)
        | 6 => v = .pointer (some ⟨gu, z, none⟩)
        | 7 => v = .int .u64 (y : Nat)
        | _ => v = .bool true) wr.heap.size (Nat.le_refl _) (by kernel_rfl) (by kernel_rfl) (by kernel_rfl) (by decide) (by kernel_rfl) h1 (by kernel_rfl) ?_ ?_ ?_ ?_
       ·intro j v W W' h hb
        match j, h with
        | 0, h => exact h
        | 1, h => exact h
        | 2, h => exact h
        | 3, h => exact h
        | 4, h => exact h
        | 5, h => exact h
        | 6, h => exact h
        | 7, h => exact h
        | _ + 8, h => exact h
       ·exact fun j hj => by cases hj
       ·refine ⟨⟨⟨⟨⟨⟨⟨⟨⟨trivial, ?_⟩, ?_⟩, ?_⟩, ?_⟩, ?_⟩, ?_⟩, ?_⟩, ?_⟩, ?_⟩
        ·refine flow_step _ 158 rfl rfl (fun d h => by simpa using h) h1 h2 fun ac xs W he hb hS K hK => ?_
         exact op_move (.tmp 15) (.inl rfl) (hK _ _ (he 15) bR nA)
        ·refine flow_step _ 159 rfl rfl (fun d h => by simpa using h) h1 h2 fun ac xs W he hb hS K hK => ?_
         exact op_move (.tmp 26) (.inl rfl) (hK _ _ (he 26) bR nA)
        ·refine flow_step _ 160 rfl rfl (fun d h => by simpa using h) h1 h2 fun ac xs W he hb hS K hK => ?_
         have e0 := (he 158).trans (hS 0 (by kernel_rfl))
         have e1 := (he 159).trans (hS 1 (by kernel_rfl))
         refine op_any (.indexAddr 40 (.tmp 158) (.tmp 159)) rfl (.pointer (some ⟨gt, z, none⟩)) (fun o' ho' => ?_) (hK _ _ rfl bR nA)
         simp only [execOp, ho', e0, e1]
         go_simp
        ·refine flow_step _ 161 rfl rfl (fun d h => by simpa using h) h1 h2 fun ac xs W he hb hS K hK => ?_
         have hc := HCS.out W hb
         have e0 := (he 160).trans (hS 2 (by kernel_rfl))
         refine op_any (.load 24 (.tmp 160)) rfl (.float .f64 y) (fun o' ho' => ?_) (hK _ _ rfl bR nA)
         simp only [execOp, ho', e0]
         go_simp
        ·refine flow_step _ 162 rfl rfl (fun d h => by simpa using h) h1 h2 fun ac xs W he hb hS K hK => ?_
         exact op_move (.tmp 16) (.inl rfl) (hK _ _ (he 16) bR nA)
        ·refine flow_step _ 163 rfl rfl (fun d h => by simpa using h) h1 h2 fun ac xs W he hb hS K hK => ?_
         exact op_move (.tmp 26) (.inl rfl) (hK _ _ (he 26) bR nA)
        ·refine flow_step _ 164 rfl rfl (fun d h => by simpa using h) h1 h2 fun ac xs W he hb hS K hK => ?_
         have e0 := (he 162).trans (hS 4 (by kernel_rfl))
         have e1 := (he 163).trans (hS 5 (by kernel_rfl))
         refine op_any (.indexAddr 39 (.tmp 162) (.tmp 163)) rfl (.pointer (some ⟨gu, z, none⟩)) (fun o' ho' => ?_) (hK _ _ rfl bR nA)
         simp only [execOp, ho', e0, e1]
         go_simp
        ·refine flow_step _ 165 rfl rfl (fun d h => by simpa using h) h1 h2 fun ac xs W he hb hS K hK => ?_
         have hc := HCU.out W hb
         have e0 := (he 164).trans (hS 6 (by kernel_rfl))
         refine op_any (.load 22 (.tmp 164)) rfl (.int .u64 (y : Nat)) (fun o' ho' => ?_) (hK _ _ rfl bR nA)
         simp only [execOp, ho', e0]
         go_simp
        ·refine flow_step _ 166 rfl rfl (fun d h => by simpa using h) h1 h2 fun ac xs W he hb hS K hK => ?_
         have e0 := (he 161).trans (hS 3 (by kernel_rfl))
         have e1 := (he 165).trans (hS 7 (by kernel_rfl))
         refine op_call 25 _ _ rfl _ (by simp only [List.map, e0, e1]) (by go_simp) ((HIS.out y W).mono (fun e w' h => (⟨h.1, by rw [← h.2]; exact Below.refl _ _⟩ : e = .returned (.bool true) ∧ Below W.heap.size W w'))) ?_
         rintro e' W' ⟨rfl, hb'⟩
         exact ⟨_, rfl, hK _ _ (rfl) hb' nA⟩
       ·intro xs w13 hb hS hD
        have s8 : xs 8 = _ := hS 8 (by decide)
        generalize xs 0 = z0 at *
        generalize xs 1 = z1 at *
        generalize xs 2 = z2 at *
        generalize xs 3 = z3 at *
        generalize xs 4 = z4 at *
        generalize xs 5 = z5 at *
        generalize xs 6 = z6 at *
        generalize xs 7 = z7 at *
        simp only [layAll, s8]
        have HB8 : Hid (Below wr.heap.size wr w13) := hb
        clear hS hD s8 hb
        go_wp2_with fail
        go_roundw
        case rel =>
         repeat apply Exists.intro
         exact ⟨⟨z + 1, ⟨by omega, by first | rfl | rw [hw1] | go_num⟩, HBT.out.thru HB8.out, HBZ.out.thru HB8.out⟩, rfl⟩
        case measure => simp [intOf]; omega
      ·obtain rfl : z = q := by omega
       go_wp2_with fail
       refine (C9.out _ HBZ.out).mono ?_
       rintro e w15 ⟨rfl, hb⟩
       have HBX : Hid (Below w.heap.size w w15) := HBW.out.thru (HBZ.out.thru hb)
       clear hb
       go_wp2_with fail
       go_ret
       exact ⟨rfl, HBX.out⟩
end Go.Proofs.YtlbokicainimnaaGreatDoor
