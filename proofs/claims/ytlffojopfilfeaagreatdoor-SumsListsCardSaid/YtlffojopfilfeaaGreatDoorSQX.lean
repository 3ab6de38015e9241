import Derived.Test.YtlffojopfilfeaaGreatDoorSQZ
import Derived.Test.YtlffojopfilfeaaGreatDoorSOA
import Derived.Test.YtlffojopfilfeaaGreatDoorSOU
namespace Go.Proofs.YtlffojopfilfeaaGreatDoor
open Go Go.RowKit
theorem Tryz.infoF8 : (Tryz.prog.info? 26).map (fun i => (i.zero, i.size, i.bytes)) = some (some (.float .f64 0), 1, 8) := by kernel_rfl
def FOwn (w : World) (g L : Nat) (ys : List Nat) : Prop := w.ownsRow g 26 1 (.slice (some ⟨g, 0, none⟩) L L) L (ys.map (Value.float .f64))
theorem FOwn.len {w : World} {g L : Nat} {ys : List Nat} (h : FOwn w g L ys) : ys.length = L := by simpa using h.1
theorem FOwn.cell {w : World} {g L : Nat} {ys : List Nat} (h : FOwn w g L ys) {j : Nat} (hj : j < L) : w.cell? ⟨g, j, none⟩ = some (.float .f64 (ys.getD j 0)) := by
 have hl := h.len
 rw [World.ownsRow.cellAt h j (by omega)]
 simp [List.getElem?_eq_getElem (show j < ys.length by omega)]
theorem FOwn.lt {w : World} {g L : Nat} {ys : List Nat} (h : FOwn w g L ys) : g < w.heap.size := (World.ownsRow.lt h g rfl).2
@[go_sem] theorem run_store_float {P : Program} {w : World} {a : Addr} {m : Mode} (k : FloatKind) (b : Nat) : (store a (.float k b) m).run P w = stored P w a (.float k b) m := run_store P w a _ m rfl
end Go.Proofs.YtlffojopfilfeaaGreatDoor
set_option maxRecDepth 100000
namespace Go.Proofs.YtlffojopfilfeaaGreatDoor
open Go Go.RowKit
def dbs (l : List Nat) : List Value := l.map (Value.float .f64)
theorem dbs_next {l : List Nat} {k : Nat} (h : k < l.length) : dbs (l.take k) ++ [.float .f64 (l.getD k 0)] = dbs (l.take (k + 1)) := by
 unfold dbs
 rw [List.take_succ_eq_append_getElem h, List.map_append]
 simp [List.getD, h]
set_option maxHeartbeats 4000000 in
theorem lent_v {a : Option Addr} {n c : Nat} {l : List Nat} (w : World) (hn : l.length = n) (hmax : n * 8 ≤ 140737488351232) (hl : ∀ x ∈ l, W64 x) (hcell : UCells w a n l) :
  Calls Tryz.prog 9 #[.slice a n c] w fun e w' => (∃ g, (e = .returned (.slice (some ⟨g, 0, none⟩) n (n + 1 : Nat)) ∧ w.heap.size ≤ g) ∧ FOwn w' g (n + 1) (l ++ [4619567317775286272])) ∧ Below w.heap.size w w' := by
 have HL : Hid (∀ x ∈ l, W64 x) := hl
 have HCELL : Hid (UCells w a n l) := hcell
 have HNX : Hid (∀ k, k < n → dbs (l.take k) ++ [.float .f64 (l.getD k 0)] = dbs (l.take (k + 1))) := fun k hk => dbs_next (by omega)
 obtain ⟨i0, hi, hz0, hz1, hz2⟩ := info_parts Tryz.infoF8
 have hw0 : IntKind.i64.wrap ((n : Int) + 1) = ((n + 1 : Nat) : Int) := by rw [IntWalk.i64_in _ (by omega)]; omega
 clear hl hcell
 go_enter Tryz.func9, Tryz.ntmps9
 go_wp2_with (at_make; refine wpList_make_own _ rfl _ _ 24 rfl w.heap.size 26 i0 (.float .f64 0) 1 Tryz.underlying24 hi hz0 hz1 .i64 .i64 _ (n + 1) rfl rfl (by first | rfl | exact hw0 | omega) (by rw [hz2]; omega) (by unfold maxLen; omega) (Nat.le_refl _) ?_; intro w1 hown hgrow; have HO1 : Hid (w1.ownsRow w.heap.size 26 1 (.slice (some ⟨w.heap.size, 0, none⟩) 0 (n + 1 : Nat)) 0 []) := hown; have HB1 : Hid (Below w.heap.size w w1) := (Below.refl _ w).grown hgrow (Nat.le_refl _) (by simp); clear hown hgrow)
 obtain ⟨g, hg⟩ : ∃ g, g = w.heap.size := ⟨_, rfl⟩
 rw [← hg] at HO1 ⊢
 have HG : Hid (w.heap.size = g) := hg.symm
 clear hg
 go_loopw [3, 4] (fun v i wr => ∃ k : Nat, k ≤ n ∧ (i = .int .i64 (k : Nat) ∧ v = .slice (some ⟨g, 0, none⟩) k (n + 1 : Nat)) ∧ wr.ownsRow g 26 1 (.slice (some ⟨g, 0, none⟩) k (n + 1 : Nat)) k (dbs (l.take k)) ∧ Below w.heap.size w wr) (fun _ i _ => n - (intOf i).toNat)
 case atStart => exact ⟨0, Nat.zero_le _, ⟨rfl, rfl⟩, HO1.out, HB1.out⟩
 case round =>
  obtain ⟨k, hk, ⟨rfl, rfl⟩, hown, hbk⟩ := hrel
  have HOW : Hid (wr.ownsRow g 26 1 (.slice (some ⟨g, 0, none⟩) k (n + 1 : Nat)) k (dbs (l.take k))) := hown
  have HBK : Hid (Below w.heap.size w wr) := hbk
  by_cases hkn : k < n
  ·obtain ⟨b, o, rfl, hb, hcc⟩ := HCELL.out (by omega)
   obtain ⟨x, hx⟩ : ∃ x, x = l.getD k 0 := ⟨_, rfl⟩
   have hck := (hbk.cell (p := ⟨b, o + k, none⟩) hb).trans (hcc k hkn)
   rw [← hx] at hck
   have hnx := HNX.out k hkn
   rw [← hx] at hnx
   have HN1 : Hid (dbs (l.take k) ++ [.float .f64 x] = dbs (l.take (k + 1))) := hnx
   have hw1 : IntKind.i64.wrap ((k : Int) + 1) = ((k + 1 : Nat) : Int) := by rw [IntWalk.i64_in _ (by omega)]; omega
   clear hcc hown hbk hx hnx
   go_wp2_with (at_builtin; (refine wpList_append_fits _ rfl _ _ 24 rfl g 26 i0 1 Tryz.underlying24 hi hz1 g k (n + 1) (dbs (l.take k)) rfl (World.ownsRow.alloc HOW.out _) ⟨wr.heap.size, 0, none⟩ 1 1 [.float .f64 x] rfl rfl (by intro j z hj; match j with | 0 => (obtain rfl : z = .float .f64 x := by simpa using hj.symm); exact cell_of_row _ _ _ _ _ _ (heap_alloc_new _ _) | j + 1 => simp at hj) (by intro z hz; simp at hz; subst hz; rfl) (by omega) ?_; intro w2 hown' hgrow; have HOW2 : Hid (w2.ownsRow g 26 1 (.slice (some ⟨g, 0, none⟩) (k + 1 : Nat) (n + 1 : Nat)) (k + 1) (dbs (l.take (k + 1)))) := (by rw [← HN1.out]; exact hown'); have HB2 : Hid (Below w.heap.size w w2) := (HBK.out.alloc HBK.out.size _).grown hgrow (by have := HBK.out.size; simp at this ⊢; omega) (fun q hq => by obtain rfl : g = q := (by simpa using hq); exact Nat.le_of_eq HG.out); clear hown' hgrow))
   go_roundw
   case rel => exact ⟨k + 1, by omega, ⟨by first | rfl | rw [hw1], rfl⟩, HOW2.out, HB2.out⟩
   case measure => simp [intOf]; omega
  ·obtain rfl : k = n := by omega
   have HTK : Hid (dbs (l.take k) ++ [.float .f64 4619567317775286272] = (l ++ [4619567317775286272]).map (Value.float .f64)) := by
    have h : l.take l.length = l := List.take_length
    rw [hn] at h
    show _ = _
    rw [h]; unfold dbs; simp
   have hg1 : ¬ ((k : Int) + 1 = 0) := by omega
   have hg2 : ¬ (k + 1 = 0) := by omega
   clear hown hbk hk hkn
   go_wp2_with (at_builtin; (refine wpList_append_fits _ rfl _ _ 24 rfl g 26 i0 1 Tryz.underlying24 hi hz1 g k (k + 1) (dbs (l.take k)) rfl (World.ownsRow.alloc HOW.out _) ⟨wr.heap.size, 0, none⟩ 1 1 [.float .f64 4619567317775286272] rfl rfl (by intro j z hj; match j with | 0 => (obtain rfl : z = .float .f64 4619567317775286272 := by simpa using hj.symm); exact cell_of_row _ _ _ _ _ _ (heap_alloc_new _ _) | j + 1 => simp at hj) (by intro z hz; simp at hz; subst hz; rfl) (by omega) ?_; intro w2 hown' hgrow; have HOW2 : Hid (FOwn w2 g (k + 1) (l ++ [4619567317775286272])) := (by unfold FOwn; rw [← HTK.out]; exact hown'); have HB2 : Hid (Below w.heap.size w w2) := (HBK.out.alloc HBK.out.size _).grown hgrow (by have := HBK.out.size; simp at this ⊢; omega) (fun q hq => by obtain rfl : g = q := (by simpa using hq); exact Nat.le_of_eq HG.out); clear hown' hgrow))
   go_ret
   exact ⟨⟨g, ⟨rfl, Nat.le_of_eq HG.out⟩, HOW2.out⟩, HB2.out⟩
set_option maxHeartbeats 4000000 in
theorem kept_v {a : Option Addr} {n c g : Nat} {l : List Nat} (w : World) (hn : l.length = n) (hmax : n * 8 ≤ 140737488351232) (hcell : UCells w a n l) (hown : FOwn w g (n + 1) (l ++ [4619567317775286272])) :
  Calls Tryz.prog 20 #[.slice (some ⟨g, 0, none⟩) n (n + 1 : Nat), .slice a n c] w fun e w' => e = .returned (.bool true) ∧ Below w.heap.size w w' := by
 have HCELL : Hid (UCells w a n l) := hcell
 have HG : Hid (g < w.heap.size) := hown.lt
 have h7 : w.cell? ⟨g, n, none⟩ = some (.float .f64 4619567317775286272) := by
  rw [hown.cell (by omega)]; simp [List.getD, hn]
 have HF : Hid (∀ j, j < n → w.cell? ⟨g, j, none⟩ = some (.float .f64 (l.getD j 0))) := fun j hj => by
  rw [hown.cell (by omega)]; simp [List.getD, List.getElem?_append_left (show j < l.length by omega)]
 have HIS : Hid (∀ x W, Calls Tryz.prog 23 #[.float .f64 x, .int .u64 (x : Nat)] W fun e w' => e = .returned (.bool true) ∧ w' = W) := fun x W => by
  have := is8_v x x W
  rw [decide_eq_true rfl] at this
  exact this.mono fun e w' ⟨h1, h2⟩ => ⟨h1, h2.symm⟩
 have hw0 : IntKind.i64.wrap ((n : Int) + 1) = ((n + 1 : Nat) : Int) := by rw [IntWalk.i64_in _ (by omega)]; omega
 have hn1 : (n : Int) < ((n + 1 : Nat) : Int) := by omega
 clear hown hcell
 go_enter Tryz.func20, Tryz.ntmps20
 go_wp2_with fail
 clear h7
 go_loopw [6, 7] (fun v i wr => ∃ k : Nat, k ≤ n ∧ (i = .int .i64 (k : Nat) ∧ v = .bool true) ∧ Below w.heap.size w wr) (fun _ i _ => n - (intOf i).toNat)
 case atStart => exact ⟨0, Nat.zero_le _, ⟨rfl, by first | rfl | kernel_rfl⟩, Below.refl _ _⟩
 case round =>
  obtain ⟨k, hk, ⟨rfl, rfl⟩, hbk⟩ := hrel
  have HBK : Hid (Below w.heap.size w wr) := hbk
  by_cases hkn : k < n
  ·obtain ⟨b, o, rfl, hb, hcc⟩ := HCELL.out (by omega)
   obtain ⟨x, hx⟩ : ∃ x, x = l.getD k 0 := ⟨_, rfl⟩
   have hck := (hbk.cell (p := ⟨b, o + k, none⟩) hb).trans (hcc k hkn)
   have hcf := (hbk.cell (p := ⟨g, k, none⟩) HG.out).trans (HF.out k hkn)
   rw [← hx] at hck hcf
   have hw1 : IntKind.i64.wrap ((k : Int) + 1) = ((k + 1 : Nat) : Int) := by rw [IntWalk.i64_in _ (by omega)]; omega
   have g1 : (k : Int) < ((n + 1 : Nat) : Int) := by omega
   have g2 : (k : Int) < (n : Int) := by omega
   have g3 : (0 : Int) ≤ (k : Int) := by omega
   clear hcc hbk hx
   go_wp2
   go_quiet ((go_at_call 23; with_reducible refine Calls.quiet_of_same (HIS.out _ _)))
   go_wp2
   go_roundw
   case rel => exact ⟨k + 1, by omega, ⟨by first | rfl | rw [hw1], rfl⟩, HBK.out.drewM _⟩
   case measure => simp [intOf]; omega
  ·obtain rfl : k = n := by omega
   clear hbk hk hkn
   go_wp2
   go_ret
   exact ⟨rfl, HBK.out⟩
theorem FOwn.below {w w' : World} {g n : Nat} {l : List Nat} (h : FOwn w g n l) (hb : Below w.heap.size w w') : FOwn w' g n l := by
 obtain ⟨h1, h2⟩ := h
 refine ⟨h1, ?_⟩
 rcases h2 with h2 | ⟨g', c, cur, e, h3, h4, h5⟩
 ·exact .inl h2
 ·exact .inr ⟨g', c, cur, e, h3, hb.blk h4 (blk_lt h4), h5⟩
theorem FOwn.lent {w : World} {g n : Nat} {l ys : List Nat} (h : FOwn w g (n + 1) (l ++ ys)) (hn : l.length = n) : FCells w (some ⟨g, 0, none⟩) n l := fun _ => ⟨g, 0, rfl, h.lt, fun k hk => by
 rw [Nat.zero_add, h.cell (by omega)]
 simp [List.getD, List.getElem?_append_left (show k < l.length by omega)]⟩
end Go.Proofs.YtlffojopfilfeaaGreatDoor
