import Derived.Test.YtlbokicainimnaaGreatDoorPIG
import Derived.Test.YtlbokicainimnaaGreatDoorPIH
set_option maxRecDepth 100000
namespace Go.Proofs.YtlbokicainimnaaGreatDoor
open Go Go.RowKit
open Go.Lib hiding intOf
def PIn (w : World) (a : Option Addr) (n : Nat) (l : List Int) : Prop := 0 < n → ∃ b o, a = some ⟨b, o, none⟩ ∧ b < w.heap.size ∧ ∀ k, k < n → w.cell? ⟨b, o + k, none⟩ = some (.int .i64 (l.getD k 0))
theorem PIn.below {w w' : World} {a : Option Addr} {n : Nat} {l : List Int} (h : PIn w a n l) (hb : Below w.heap.size w w') : PIn w' a n l := fun hn => by
 obtain ⟨b, o, h1, h2, h3⟩ := h hn
 exact ⟨b, o, h1, Nat.lt_of_lt_of_le h2 hb.size, fun k hk => (hb.cell (p := ⟨b, o + k, none⟩) h2).trans (h3 k hk)⟩
theorem perm_same9 {l l' : List Nat} (hp : l'.Perm l) (hw : ∀ x ∈ l, W64 x) : ordL l' = ordL l ∧ (∀ p, shareA l' p = shareA l p) ∧ (∀ x up, rankA l' x up = rankA l x up) ∧ oftA l' = oftA l := by
 have h1 := ordL_same hp hw
 have h2 := hp.length_eq
 refine ⟨h1, fun p => ?_, fun x up => ?_, ?_⟩
 ·unfold shareA shF shQ shR
  rw [h1, h2]
 ·unfold rankA
  rw [h2, hp.countP_eq, hp.countP_eq]
 ·unfold oftA
  rw [h1, h2]
theorem swap_perm9 {ys : List Nat} {p q : Nat} (hp : p < ys.length) (hq : q < ys.length) : ((ys.set p (ys.getD q 0)).set q (ys.getD p 0)).Perm ys := by
 have e1 : ys.getD q 0 = ys[q] := by simp [List.getD, hq]
 have e2 : ys.getD p 0 = ys[p] := by simp [List.getD, hp]
 rw [e1, e2]
 exact List.set_set_perm hp hq
def Lent9 (w : World) (B g cp n : Nat) (ys : List Nat) : Prop := ys.length = n ∧ FOn w B (.slice (some ⟨g, 0, none⟩) (n + 8 : Nat) cp) (n + 8) (ys ++ List.replicate 8 mark9)
theorem Lent9.cell {w : World} {B g cp n : Nat} {ys : List Nat} (h : Lent9 w B g cp n ys) {j : Nat} (hj : j < n) : w.cell? ⟨g, j, none⟩ = some (.float .f64 (ys.getD j 0)) := by
 rw [h.2.cell (by omega)]
 simp [List.getD, List.getElem?_append_left (show j < ys.length by rw [h.1]; exact hj)]
theorem Lent9.set {w : World} {B g cp n : Nat} {ys : List Nat} (h : Lent9 w B g cp n ys) {j : Nat} (hj : j < n) (v : Nat) : Lent9 (w.setCell ⟨g, j, none⟩ (.float .f64 v)) B g cp n (ys.set j v) := by
 refine ⟨by rw [List.length_set]; exact h.1, ?_⟩
 have := h.2.set j v
 rwa [List.set_append_left _ _ (by rw [h.1]; exact hj)] at this
theorem Lent9.fin {w : World} {B g cp n : Nat} {ys : List Nat} (h : Lent9 w B g cp n ys) : FIn w (some ⟨g, 0, none⟩) n ys := h.2.fin h.1.symm (by omega)
theorem pick9_v (c : Int) (n : Nat) (hn : 0 < n) (hn2 : n < 4611686018427387904) (h1 : -9223372036854775808 ≤ c) (h2 : c ≤ 9223372036854775807) :
  ∃ p : Nat, p < n ∧ ∀ w : World, Calls Tryz.prog 42 #[.int .i64 c, .int .i64 (n : Nat)] w fun e w' => e = .returned (.int .i64 (p : Nat)) ∧ w = w' := by
 by_cases hc : c < 0
 ·obtain ⟨d, hd⟩ : ∃ d : Nat, (d : Int) = -(c + 1) := ⟨(-(c + 1)).toNat, by omega⟩
  refine ⟨d % n, Nat.mod_lt _ hn, fun w => ?_⟩
  have e1 : IntKind.i64.wrap (c + 1) = -(d : Int) := by rw [IntWalk.i64_in _ (by omega)]; omega
  have e2 : IntKind.i64.wrap (d : Int) = (d : Int) := by rw [IntWalk.i64_in _ (by omega)]
  have e3 : Int.tmod (d : Int) (n : Int) = ((d % n : Nat) : Int) := by rw [Int.tmod_eq_emod_of_nonneg (by omega)]; rfl
  have hn0 : ((n : Int) == 0) = false := by simp; omega
  have hm : d % n < n := Nat.mod_lt _ hn
  have e4 : IntKind.i64.wrap ((d % n : Nat) : Int) = ((d % n : Nat) : Int) := by rw [IntWalk.i64_in _ (by omega)]
  obtain ⟨r, hr⟩ : ∃ r, r = d % n := ⟨_, rfl⟩
  rw [← hr] at e3 e4 ⊢
  have e5 : -(c + 1).tmod (n : Int) = (r : Int) := by rw [← Int.neg_tmod, ← hd]; exact e3
  clear hr hm
  go_enter Tryz.func42, Tryz.ntmps42
  go_wp2
  go_ret
  exact ⟨rfl, rfl⟩
 ·obtain ⟨d, rfl⟩ : ∃ d : Nat, c = d := ⟨c.toNat, by omega⟩
  refine ⟨d % n, Nat.mod_lt _ hn, fun w => ?_⟩
  have e3 : Int.tmod (d : Int) (n : Int) = ((d % n : Nat) : Int) := by rw [Int.tmod_eq_emod_of_nonneg (by omega)]; rfl
  have hn0 : ((n : Int) == 0) = false := by simp; omega
  have hm : d % n < n := Nat.mod_lt _ hn
  have e4 : IntKind.i64.wrap ((d % n : Nat) : Int) = ((d % n : Nat) : Int) := by rw [IntWalk.i64_in _ (by omega)]
  obtain ⟨r, hr⟩ : ∃ r, r = d % n := ⟨_, rfl⟩
  rw [← hr] at e3 e4 ⊢
  clear hr hm
  go_enter Tryz.func42, Tryz.ntmps42
  go_wp2
  go_ret
  exact ⟨ret_int (by first | rfl | (simp only [e3, e4]) | omega), rfl⟩
set_option maxHeartbeats 16000000 in
theorem orderAny_walk {a a' : Option Addr} {n c n' c' : Nat} {l : List Nat} {l' : List Int} (x p : Nat) (w : World) (hn : l.length = n) (hmax : n * 8 ≤ 140737488351232) (hl : ∀ x ∈ l, W64 x) (hcell : UIn w a n l)
  (hn' : l'.length = n') (hmax' : n' * 8 ≤ 140737488351232) (hl' : ∀ x ∈ l', -9223372036854775808 ≤ x ∧ x ≤ 9223372036854775807) (hcell' : PIn w a' n' l') (hx : W64 x) (hp : W64 p) (htab : Tab w) :
  Calls Tryz.prog 10 #[.slice a n c, .slice a' n' c', .int .u64 (x : Nat), .int .u64 (p : Nat)] w fun e w' => e = .returned (.bool true) ∧ Below w.heap.size w w' := by
 have HAW : Hid (Calls Tryz.prog 18 #[] w fun e w' => e = .returned (.bool true) ∧ Below w.heap.size w w') := awake9_v w htab
 have HFL : Hid (∀ W, Below w.heap.size w W → Calls Tryz.prog 19 #[.slice a n c] W fun e w' => (∃ g cp, e = .returned (.tuple #[.slice (some ⟨g, 0, none⟩) n cp, .slice (some ⟨g, 0, none⟩) (n + 8 : Nat) cp]) ∧ FOn w' W.heap.size (.slice (some ⟨g, 0, none⟩) (n + 8 : Nat) cp) (n + 8) (l ++ List.replicate 8 mark9)) ∧ Below W.heap.size W w') := fun W hW => floats9_v W hn hmax (hcell.below hW)
 have HIS : Hid (∀ x W, Calls Tryz.prog 25 #[.float .f64 x, .int .u64 (x : Nat)] W fun e w' => e = .returned (.bool true) ∧ W = w') := fun x W => by
  have := is9_v x x W
  rwa [decide_eq_true rfl] at this
 have HPI : Hid (∀ i, i < n' → 0 < n → ∃ p : Nat, p < n ∧ ∀ W, Calls Tryz.prog 42 #[.int .i64 (l'.getD i 0), .int .i64 (n : Nat)] W fun e w' => e = .returned (.int .i64 (p : Nat)) ∧ W = w') := fun i hi h0 => by
  have hm : l'.getD i 0 ∈ l' := by
   have : l'.getD i 0 = l'[i]'(by omega) := by simp [List.getD, show i < l'.length by omega]
   rw [this]; exact List.getElem_mem _
  exact pick9_v (l'.getD i 0) n h0 (by omega) (hl' _ hm).1 (hl' _ hm).2
 have HC0 : Hid (PIn w a' n' l' ∧ Tab w ∧ (∀ x ∈ l, W64 x) ∧ W64 x ∧ W64 p ∧ l.length = n) := ⟨hcell', htab, hl, hx, hp, hn⟩
 clear hcell htab hl hx hp hn hn' hl' hcell'
 go_enter Tryz.func10, Tryz.ntmps10
 go_wp2_with fail
 refine Calls.mono HAW.out ?_
 rintro e w1 ⟨rfl, hb1⟩
 go_wp2_with fail
 refine (HFL.out _ hb1).mono ?_
 rintro e w2 ⟨⟨g, cp, rfl, ho⟩, hb2⟩
 have HBW : Hid (Below w.heap.size w w2) := hb1.thru hb2
 have HIN : Hid (∀ W, Below w2.heap.size w2 W → FIn W (some ⟨g, 0, none⟩) n l) := fun W hW => (ho.fin (l := l) (r := List.replicate 8 mark9) HC0.out.2.2.2.2.2.symm (by omega)).below hW
 clear hb1 hb2 ho HAW
 go_wp2_with fail
 refine (HFL.out _ HBW.out).mono ?_
 rintro e w3 ⟨⟨g2, cp2, rfl, ho⟩, hb3⟩
 have HL3 : Hid (Lent9 w3 w2.heap.size g2 cp2 n l) := ⟨HC0.out.2.2.2.2.2, ho⟩
 have HB3 : Hid (Below w2.heap.size w2 w3) := hb3
 have HCP : Hid (n ≤ cp2) := by
  obtain ⟨g9, c9, h1, -, -, h3, -⟩ := own_some9 ho (by omega)
  have h2 : cp2 = c9 := by injection h1
  show n ≤ cp2
  omega
 clear hb3 ho HFL
 go_wp2_with fail
 go_loopw [14] (fun i wr => ∃ (k : Nat) (ys : List Nat), k ≤ n' ∧ i = .int .i64 (k : Nat) ∧ (Lent9 wr w2.heap.size g2 cp2 n ys ∧ ys.Perm l) ∧ Below w2.heap.size w2 wr) (fun i _ => n' - (intOf i).toNat)
 case atStart => exact ⟨0, l, Nat.zero_le _, rfl, ⟨HL3.out, List.Perm.refl _⟩, HB3.out⟩
 case round =>
  obtain ⟨k, ys, hk, rfl, ⟨how, hys⟩, hbk⟩ := hrel
  have HO : Hid (Lent9 wr w2.heap.size g2 cp2 n ys) := how
  have HP : Hid (ys.Perm l) := hys
  have HB : Hid (Below w2.heap.size w2 wr) := hbk
  clear how hys hbk HL3 HB3
  have hw1 : IntKind.i64.wrap ((k : Int) + 1) = ((k + 1 : Nat) : Int) := by rw [IntWalk.i64_in _ (by omega)]; omega
  by_cases hkn : k < n' ∧ 0 < n
  ·obtain ⟨hkn, h0n⟩ := hkn
   obtain ⟨r, hr, hpk⟩ := HPI.out k (by omega) h0n
   obtain ⟨b, o, rfl, hb, hcc⟩ := HC0.out.1.below (HBW.out.thru HB.out) (by omega)
   have hcp := hcc k (by omega)
   obtain ⟨x1, hx1⟩ : ∃ z, z = l'.getD k 0 := ⟨_, rfl⟩
   rw [← hx1] at hpk hcp
   have HPK : Hid (∀ W, Calls Tryz.prog 42 #[.int .i64 x1, .int .i64 (n : Nat)] W fun e w' => e = .returned (.int .i64 (r : Nat)) ∧ W = w') := hpk
   obtain ⟨q, hq⟩ : ∃ q, q = k % n := ⟨_, rfl⟩
   have hqn : q < n := by rw [hq]; exact Nat.mod_lt _ h0n
   have e3 : Int.tmod (k : Int) (n : Int) = (q : Int) := by rw [Int.tmod_eq_emod_of_nonneg (by omega), hq]; rfl
   have e4 : IntKind.i64.wrap (q : Int) = (q : Int) := by rw [IntWalk.i64_in _ (by omega)]
   have e6 : (k : Int) % (n : Int) = (q : Int) := by rw [hq]; rfl
   have hn0 : ((n : Int) == 0) = false := by simp; omega
   have g2' : (k : Int) < (n' : Int) := by omega
   have g3 : (0 : Int) < (n : Int) := by omega
   have g4 : (0 : Int) ≤ (k : Int) := by omega
   clear hcc hb hx1 hpk hq
   go_wp2_with fail
   (with_reducible refine (HPK.out _).mono ?_)
   rintro e w' ⟨rfl, rfl⟩
   obtain ⟨y1, hy1⟩ : ∃ z, z = ys.getD r 0 := ⟨_, rfl⟩
   obtain ⟨y2, hy2⟩ : ∃ z, z = ys.getD q 0 := ⟨_, rfl⟩
   have HSP : Hid (((ys.set r y2).set q y1).Perm l) := by
    show List.Perm _ _
    rw [hy1, hy2]; exact (swap_perm9 (by rw [HO.out.1]; exact hr) (by rw [HO.out.1]; exact hqn)).trans HP.out
   have hc1 := HO.out.cell hr
   have hc2 := HO.out.cell hqn
   rw [← hy1] at hc1
   rw [← hy2] at hc2
   have hf1 := HO.out.2.fro r
   have hf2 := HO.out.2.fro q
   have k1 : (r : Int) < (n : Int) := by omega
   have k2 : (q : Int) < (n : Int) := by omega
   have k3 : (0 : Int) ≤ (r : Int) := by omega
   have k4 : (0 : Int) ≤ (q : Int) := by omega
   have HOS : Hid (Lent9 ((wr.setCell ⟨g2, r, none⟩ (.float .f64 y2)).setCell ⟨g2, q, none⟩ (.float .f64 y1)) w2.heap.size g2 cp2 n ((ys.set r y2).set q y1)) := (HO.out.set hr y2).set hqn y1
   have HBS : Hid (Below w2.heap.size w2 ((wr.setCell ⟨g2, r, none⟩ (.float .f64 y2)).setCell ⟨g2, q, none⟩ (.float .f64 y1))) := (HB.out.setCell HO.out.2.lt.1 _).setCell HO.out.2.lt.1 _
   clear HPK hcp
   by_cases hpq : r = q
   ·subst hpq
    obtain rfl : y2 = y1 := hy2.trans hy1.symm
    clear hy1 hy2
    go_wp2_with fail
    go_region
    go_wp2
    go_roundw
    case rel => exact ⟨k + 1, _, by omega, by first | rfl | rw [hw1], ⟨⟨HOS.out.1, World.ownsRow.drew HOS.out.2⟩, HSP.out⟩, HBS.out.drew⟩
    case measure => simp [intOf]; omega
   ·have hpq2 : ¬ q = r := fun h => hpq h.symm
    clear hy1 hy2
    go_wp2_with fail
    go_region
    go_wp2
    go_roundw
    case rel => exact ⟨k + 1, _, by omega, by first | rfl | rw [hw1], ⟨⟨HOS.out.1, World.ownsRow.drew HOS.out.2⟩, HSP.out⟩, HBS.out.drew⟩
    case measure => simp [intOf]; omega
  ·obtain ⟨w4, hw4⟩ : ∃ W : World, W = wr := ⟨_, rfl⟩
   subst hw4
   have HWW : Hid (∀ W, Below w4.heap.size w4 W → Below w.heap.size w W) := fun W hW => (HBW.out.thru HB.out).thru hW
   have HFX : Hid (∀ W, Below w4.heap.size w4 W → FIn W (some ⟨g, 0, none⟩) n l) := fun W hW => HIN.out W (HB.out.thru hW)
   have HFY : Hid (∀ W, Below w4.heap.size w4 W → FIn W (some ⟨g2, 0, none⟩) n ys) := fun W hW => HO.out.fin.below hW
   obtain ⟨ps, psh, prk, pof⟩ := perm_same9 HP.out HC0.out.2.2.1
   have hyl : ys.length = n := HO.out.1
   have hyw : ∀ x ∈ ys, W64 x := fun x hx => HC0.out.2.2.1 x (HP.out.mem_iff.1 hx)
   have hln := HC0.out.2.2.2.2.2
   obtain ⟨A1, X1, hA1⟩ : ∃ u e, shareA l 4602678819172646912 = (u, e) := ⟨_, _, rfl⟩
   obtain ⟨A2, X2, hA2⟩ : ∃ u e, shareA l p = (u, e) := ⟨_, _, rfl⟩
   obtain ⟨A3, X3, hA3⟩ : ∃ u e, rankA l x true = (u, e) := ⟨_, _, rfl⟩
   obtain ⟨A4, M4, X4, hA4⟩ : ∃ u m e, oftA l = (u, m, e) := ⟨_, _, _, rfl⟩
   obtain ⟨s, hs⟩ : ∃ s, s = ordL l := ⟨_, rfl⟩
   have C11 : Hid (∀ W, Below w4.heap.size w4 W → Calls Tryz.prog 21 #[.slice (some ⟨g, 0, none⟩) n cp] W fun e w' => e = .returned (.tuple #[.float .f64 A1, .int .i64 X1]) ∧ Below W.heap.size W w') := fun W hW => by have := middle9_v (c := cp) W hln (by omega : n * 8 ≤ 140737488355328) HC0.out.2.2.1 (HFX.out W hW) (HC0.out.2.1.below (HWW.out W hW)); rw [hA1] at this; exact this
   have C21 : Hid (∀ W, Below w4.heap.size w4 W → Calls Tryz.prog 20 #[.slice (some ⟨g, 0, none⟩) n cp, .float .f64 p] W fun e w' => e = .returned (.tuple #[.float .f64 A2, .int .i64 X2]) ∧ Below W.heap.size W w') := fun W hW => by have := share9_v (c := cp) p W hln (by omega : n * 8 ≤ 140737488355328) HC0.out.2.2.1 (HFX.out W hW) HC0.out.2.2.2.2.1 (HC0.out.2.1.below (HWW.out W hW)); rw [hA2] at this; exact this
   have C31 : Hid (∀ W, Below w4.heap.size w4 W → Calls Tryz.prog 35 #[.slice (some ⟨g, 0, none⟩) n cp, .float .f64 x, .bool true] W fun e w' => e = .returned (.tuple #[.int .i64 (A3 : Nat), .int .i64 X3]) ∧ Below W.heap.size W w') := fun W hW => by have := rank9_v (c := cp) x true W hln (by omega : n * 8 ≤ 140737488355328) HC0.out.2.2.1 (HFX.out W hW) HC0.out.2.2.2.1; rw [hA3] at this; exact this
   have C41 : Hid (∀ W, Below w4.heap.size w4 W → Calls Tryz.prog 38 #[.slice (some ⟨g, 0, none⟩) n cp] W fun e w' => e = .returned (.tuple #[.float .f64 A4, .int .i64 (M4 : Nat), .int .i64 X4]) ∧ Below W.heap.size W w') := fun W hW => by have := often9_v (c := cp) W hln (by omega : n * 8 ≤ 140737488355328) HC0.out.2.2.1 (HFX.out W hW); rw [hA4] at this; exact this
   have C51 : Hid (∀ W, Below w4.heap.size w4 W → Calls Tryz.prog 31 #[.slice (some ⟨g, 0, none⟩) n cp] W fun e w' => (∃ gs, e = .returned (.slice (some ⟨gs, 0, none⟩) n n) ∧ FOn w' W.heap.size (.slice (some ⟨gs, 0, none⟩) n n) n s) ∧ Below W.heap.size W w') := fun W hW => by have := sorted9_v (c := cp) W hln (by omega : n * 8 ≤ 140737488355328) HC0.out.2.2.1 (HFX.out W hW); rw [← hs] at this; exact this
   have C12 : Hid (∀ W, Below w4.heap.size w4 W → Calls Tryz.prog 21 #[.slice (some ⟨g2, 0, none⟩) n cp2] W fun e w' => e = .returned (.tuple #[.float .f64 A1, .int .i64 X1]) ∧ Below W.heap.size W w') := fun W hW => by have := middle9_v (c := cp2) W hyl (by omega : n * 8 ≤ 140737488355328) hyw (HFY.out W hW) (HC0.out.2.1.below (HWW.out W hW)); rw [psh, hA1] at this; exact this
   have C22 : Hid (∀ W, Below w4.heap.size w4 W → Calls Tryz.prog 20 #[.slice (some ⟨g2, 0, none⟩) n cp2, .float .f64 p] W fun e w' => e = .returned (.tuple #[.float .f64 A2, .int .i64 X2]) ∧ Below W.heap.size W w') := fun W hW => by have := share9_v (c := cp2) p W hyl (by omega : n * 8 ≤ 140737488355328) hyw (HFY.out W hW) HC0.out.2.2.2.2.1 (HC0.out.2.1.below (HWW.out W hW)); rw [psh, hA2] at this; exact this
   have C32 : Hid (∀ W, Below w4.heap.size w4 W → Calls Tryz.prog 35 #[.slice (some ⟨g2, 0, none⟩) n cp2, .float .f64 x, .bool true] W fun e w' => e = .returned (.tuple #[.int .i64 (A3 : Nat), .int .i64 X3]) ∧ Below W.heap.size W w') := fun W hW => by have := rank9_v (c := cp2) x true W hyl (by omega : n * 8 ≤ 140737488355328) hyw (HFY.out W hW) HC0.out.2.2.2.1; rw [prk, hA3] at this; exact this
   have C42 : Hid (∀ W, Below w4.heap.size w4 W → Calls Tryz.prog 38 #[.slice (some ⟨g2, 0, none⟩) n cp2] W fun e w' => e = .returned (.tuple #[.float .f64 A4, .int .i64 (M4 : Nat), .int .i64 X4]) ∧ Below W.heap.size W w') := fun W hW => by have := often9_v (c := cp2) W hyl (by omega : n * 8 ≤ 140737488355328) hyw (HFY.out W hW); rw [pof, hA4] at this; exact this
   have C52 : Hid (∀ W, Below w4.heap.size w4 W → Calls Tryz.prog 31 #[.slice (some ⟨g2, 0, none⟩) n cp2] W fun e w' => (∃ gs, e = .returned (.slice (some ⟨gs, 0, none⟩) n n) ∧ FOn w' W.heap.size (.slice (some ⟨gs, 0, none⟩) n n) n s) ∧ Below W.heap.size W w') := fun W hW => by have := sorted9_v (c := cp2) W hyl (by omega : n * 8 ≤ 140737488355328) hyw (HFY.out W hW); rw [ps, ← hs] at this; exact this
   have HEX : (¬ (k : Int) < n') ∨ ((k : Int) < n' ∧ ¬ (0 : Int) < n) := by omega
   have HBW4 : Hid (Below w.heap.size w w4) := HBW.out.thru HB.out
   have HSL : Hid (s.length = n) := by show s.length = n; rw [hs, ordL_len, hln]
   have g9 : (n : Int) ≤ cp2 := by have := HCP.out; omega
   have HR0 : Hid (Below w4.heap.size w4 w4) := Below.refl _ _
   have t4 : ((n : Int) != (n : Int)) = false := by simp
   clear hkn HWW HFX HFY ps psh prk pof hyl hyw hln hA1 hA2 hA3 hA4 hs HC0 HB HO HP HIN HPI HBW hw1 HCP
   rcases HEX with h1 | ⟨h1, h2⟩
   all_goals
    go_wp2_with fail
    refine (C11.out _ HR0.out).mono ?_
    rintro e v1 ⟨rfl, hb⟩
    have HR1 : Hid (Below w4.heap.size w4 v1) := HR0.out.thru hb
    clear hb HR0 C11
    go_wp2_with fail
    refine (C12.out _ HR1.out).mono ?_
    rintro e v2 ⟨rfl, hb⟩
    have HR2 : Hid (Below w4.heap.size w4 v2) := HR1.out.thru hb
    clear hb HR1 C12
    go_wp2_with fail
    refine (C21.out _ HR2.out).mono ?_
    rintro e v3 ⟨rfl, hb⟩
    have HR3 : Hid (Below w4.heap.size w4 v3) := HR2.out.thru hb
    clear hb HR2 C21
    go_wp2_with fail
    refine (C22.out _ HR3.out).mono ?_
    rintro e v4 ⟨rfl, hb⟩
    have HR4 : Hid (Below w4.heap.size w4 v4) := HR3.out.thru hb
    clear hb HR3 C22
    go_wp2_with fail
    refine (C31.out _ HR4.out).mono ?_
    rintro e v5 ⟨rfl, hb⟩
    have HR5 : Hid (Below w4.heap.size w4 v5) := HR4.out.thru hb
    clear hb HR4 C31
    go_wp2_with fail
    refine (C32.out _ HR5.out).mono ?_
    rintro e v6 ⟨rfl, hb⟩
    have HR6 : Hid (Below w4.heap.size w4 v6) := HR5.out.thru hb
    clear hb HR5 C32
    go_wp2_with fail
    refine (C41.out _ HR6.out).mono ?_
    rintro e v7 ⟨rfl, hb⟩
    have HR7 : Hid (Below w4.heap.size w4 v7) := HR6.out.thru hb
    clear hb HR6 C41
    go_wp2_with fail
    refine (C42.out _ HR7.out).mono ?_
    rintro e v8 ⟨rfl, hb⟩
    have HR8 : Hid (Below w4.heap.size w4 v8) := HR7.out.thru hb
    clear hb HR7 C42
    go_wp2_with fail
    refine (C51.out _ HR8.out).mono ?_
    rintro e v9 ⟨⟨gs, rfl, ho⟩, hb⟩
    have HR9 : Hid (Below w4.heap.size w4 v9) := HR8.out.thru hb
    have HS1 : Hid (∀ W, Below v9.heap.size v9 W → ∀ j, j < n → W.cell? ⟨gs, j, none⟩ = some (.float .f64 (s.getD j 0))) := fun W hW j hj => (hW.cell (p := ⟨gs, j, none⟩) ho.lt.2).trans (ho.cell hj)
    clear hb HR8 C51 ho
    go_wp2_with fail
    refine (C52.out _ HR9.out).mono ?_
    rintro e v10 ⟨⟨gt, rfl, ho⟩, hb⟩
    have HR10 : Hid (Below v9.heap.size v9 v10) := hb
    have HS2 : Hid (∀ W, Below v10.heap.size v10 W → ∀ j, j < n → W.cell? ⟨gt, j, none⟩ = some (.float .f64 (s.getD j 0))) := fun W hW j hj => (hW.cell (p := ⟨gt, j, none⟩) ho.lt.2).trans (ho.cell hj)
    clear hb C52 ho
    go_wp2_with (first | (go_at_call 25; with_reducible refine (HIS.out _ _).mono ?_; rintro e w' ⟨rfl, rfl⟩))
    go_loopw [39] (fun i wz => ∃ z : Nat, (z ≤ n ∧ i = .int .i64 (z : Nat)) ∧ Below v10.heap.size v10 wz) (fun i _ => n - (intOf i).toNat)
    case atStart => exact ⟨0, ⟨Nat.zero_le _, by first | rfl | go_num⟩, Below.refl _ _⟩
    case round =>
     rename_i wo
     obtain ⟨z, ⟨hz, rfl⟩, hbz⟩ := hrel
     have HBZ : Hid (Below v10.heap.size v10 wr) := hbz
     clear hbz
     by_cases hzn : z < n
     ·have q1 : (z : Int) < n := by omega
      have q2 : (0 : Int) ≤ (z : Int) := by omega
      have hw5 : IntKind.i64.wrap ((z : Int) + 1) = ((z + 1 : Nat) : Int) := by rw [IntWalk.i64_in _ (by omega)]; omega
      obtain ⟨y, hy⟩ : ∃ y, y = s.getD z 0 := ⟨_, rfl⟩
      have HY : Hid (y = s.getD z 0) := hy
      clear hy
      go_upto_region 27 with fail
      have h1 : once [(208, 0), (209, 1), (210, 2), (211, 3), (212, 4), (213, 5), (214, 6), (215, 7), (216, 8), (217, 9)] = true := by kernel_rfl
      have h2 : within [(208, 0), (209, 1), (210, 2), (211, 3), (212, 4), (213, 5), (214, 6), (215, 7), (216, 8), (217, 9)] 220 = true := by kernel_rfl
      refine wp_region_flow 10 11 [(208, 0), (209, 1), (210, 2), (211, 3), (212, 4), (213, 5), (214, 6), (215, 7), (216, 8), (217, 9)] [] (fun ix v W => match ix with
       | 0 => v = .slice (some ⟨gs, 0, none⟩) n n
       | 1 => v = .int .i64 (z : Nat)
       | 2 => v = .pointer (some ⟨gs, z, none⟩)
       | 3 => v = .float .f64 y
       | 4 => v = .slice (some ⟨gt, 0, none⟩) n n
       | 5 => v = .int .i64 (z : Nat)
       | 6 => v = .pointer (some ⟨gt, z, none⟩)
       | 7 => v = .float .f64 y
       | 8 => v = .int .u64 (y : Nat)
       | _ => v = .bool true) wr.heap.size (Nat.le_refl _) (by kernel_rfl) (by kernel_rfl) (by kernel_rfl) (by decide) (by kernel_rfl) h1 (by kernel_rfl) ?_ ?_ ?_ ?_
      ·intro j v W W' h hb
       match j, h with
       | 0, h => exact h
       | 1, h => exact h
       | 2, h => exact h
       | 3, h => exact h
       | 4, h => exact h
       | 5, h => exact h
       | 6, h => exact h
       | 7, h => exact h
       | 8, h => exact h
       | _ + 9, h => exact h
      ·exact fun j hj => by cases hj
      ·refine ⟨⟨⟨⟨⟨⟨⟨⟨⟨⟨trivial, ?_⟩, ?_⟩, ?_⟩, ?_⟩, ?_⟩, ?_⟩, ?_⟩, ?_⟩, ?_⟩, ?_⟩
       ·refine flow_step _ 208 rfl rfl (fun d h => by simpa using h) h1 h2 fun ac xs W he hb hS K hK => ?_
        exact op_move (.tmp 37) (.inl rfl) (hK _ _ (he 37) bR nA)
       ·refine flow_step _ 209 rfl rfl (fun d h => by simpa using h) h1 h2 fun ac xs W he hb hS K hK => ?_
        exact op_move (.tmp 39) (.inl rfl) (hK _ _ (he 39) bR nA)
       ·refine flow_step _ 210 rfl rfl (fun d h => by simpa using h) h1 h2 fun ac xs W he hb hS K hK => ?_
        have e0 := (he 208).trans (hS 0 (by kernel_rfl))
        have e1 := (he 209).trans (hS 1 (by kernel_rfl))
        refine op_any (.indexAddr 40 (.tmp 208) (.tmp 209)) rfl (.pointer (some ⟨gs, z, none⟩)) (fun o' ho' => ?_) (hK _ _ rfl bR nA)
        simp only [execOp, ho', e0, e1]
        go_simp
       ·refine flow_step _ 211 rfl rfl (fun d h => by simpa using h) h1 h2 fun ac xs W he hb hS K hK => ?_
        have hc := (HS1.out W (HR10.out.thru (HBZ.out.thru hb)) z hzn).trans (by rw [← HY.out])
        have e0 := (he 210).trans (hS 2 (by kernel_rfl))
        refine op_any (.load 24 (.tmp 210)) rfl (.float .f64 y) (fun o' ho' => ?_) (hK _ _ rfl bR nA)
        simp only [execOp, ho', e0]
        go_simp
       ·refine flow_step _ 212 rfl rfl (fun d h => by simpa using h) h1 h2 fun ac xs W he hb hS K hK => ?_
        exact op_move (.tmp 38) (.inl rfl) (hK _ _ (he 38) bR nA)
       ·refine flow_step _ 213 rfl rfl (fun d h => by simpa using h) h1 h2 fun ac xs W he hb hS K hK => ?_
        exact op_move (.tmp 39) (.inl rfl) (hK _ _ (he 39) bR nA)
       ·refine flow_step _ 214 rfl rfl (fun d h => by simpa using h) h1 h2 fun ac xs W he hb hS K hK => ?_
        have e0 := (he 212).trans (hS 4 (by kernel_rfl))
        have e1 := (he 213).trans (hS 5 (by kernel_rfl))
        refine op_any (.indexAddr 40 (.tmp 212) (.tmp 213)) rfl (.pointer (some ⟨gt, z, none⟩)) (fun o' ho' => ?_) (hK _ _ rfl bR nA)
        simp only [execOp, ho', e0, e1]
        go_simp
       ·refine flow_step _ 215 rfl rfl (fun d h => by simpa using h) h1 h2 fun ac xs W he hb hS K hK => ?_
        have hc := (HS2.out W (HBZ.out.thru hb) z hzn).trans (by rw [← HY.out])
        have e0 := (he 214).trans (hS 6 (by kernel_rfl))
        refine op_any (.load 24 (.tmp 214)) rfl (.float .f64 y) (fun o' ho' => ?_) (hK _ _ rfl bR nA)
        simp only [execOp, ho', e0]
        go_simp
       ·refine flow_step _ 216 rfl rfl (fun d h => by simpa using h) h1 h2 fun ac xs W he hb hS K hK => ?_
        have e0 : ac.tmps[215]?.getD undef = .float .f64 y := by rw [← Array.getD_eq_getD_getElem?]; exact (he 215).trans (hS 7 (by kernel_rfl))
        refine op_any (.call ⟨.value (.func 28), #[.tmp 215], #[24]⟩) rfl (.int .u64 (y : Nat)) (fun o' ho' => ?_) (hK _ _ rfl bR nA)
        simp only [execOp, ho']
        go_simp
       ·refine flow_step _ 217 rfl rfl (fun d h => by simpa using h) h1 h2 fun ac xs W he hb hS K hK => ?_
        have e0 := (he 211).trans (hS 3 (by kernel_rfl))
        have e1 := (he 216).trans (hS 8 (by kernel_rfl))
        refine op_call 25 _ _ rfl _ (by simp only [List.map, e0, e1]) (by go_simp) ((HIS.out y W).mono (fun e w' h => (⟨h.1, by rw [← h.2]; exact Below.refl _ _⟩ : e = .returned (.bool true) ∧ Below W.heap.size W w'))) ?_
        rintro e' W' ⟨rfl, hb'⟩
        exact ⟨_, rfl, hK _ _ (rfl) hb' nA⟩
      ·intro xs w8 hb hS hD
       have s9 : xs 9 = _ := hS 9 (by decide)
       generalize xs 0 = z0 at *
       generalize xs 1 = z1 at *
       generalize xs 2 = z2 at *
       generalize xs 3 = z3 at *
       generalize xs 4 = z4 at *
       generalize xs 5 = z5 at *
       generalize xs 6 = z6 at *
       generalize xs 7 = z7 at *
       generalize xs 8 = z8 at *
       simp only [layAll, s9]
       have HB8 : Hid (Below v10.heap.size v10 w8) := HBZ.out.thru hb
       clear hS hD s9 hb
       go_wp2_with fail
       go_roundw
       case rel => exact ⟨z + 1, ⟨by omega, by first | rfl | rw [hw5] | go_num⟩, HB8.out⟩
       case measure => simp [intOf]; omega
     ·obtain rfl : z = n := by omega
      go_wp2_with fail
      go_ret
      exact ⟨rfl, HBW4.out.thru (HR9.out.thru (HR10.out.thru HBZ.out))⟩
end Go.Proofs.YtlbokicainimnaaGreatDoor
