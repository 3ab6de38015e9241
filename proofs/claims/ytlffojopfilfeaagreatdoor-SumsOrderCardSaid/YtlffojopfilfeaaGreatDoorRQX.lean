/- Parts Qc, Qd, Qe, Qf of the proof, in one text. -/
import Derived.Test.YtlffojopfilfeaaGreatDoorRQZ
import Derived.Test.YtlffojopfilfeaaGreatDoorROA
import Derived.Test.YtlffojopfilfeaaGreatDoorROV
import Derived.Test.YtlffojopfilfeaaGreatDoorROC

/- Walks: rows of floats that a law makes; the law SumsLong. -/
namespace Go.Proofs.YtlffojopfilfeaaGreatDoor
open Go Go.RowKit

theorem Tryz.infoF8 : (Tryz.prog.info? 26).map (fun i => (i.zero, i.size, i.bytes)) = some (some (.float .f64 0), 1, 8) := by kernel_rfl
/-- A row of floats that fills its block. -/
def FOwn (w : World) (g L : Nat) (ys : List Nat) : Prop := w.ownsRow g 26 1 (.slice (some ⟨g, 0, none⟩) L L) L (ys.map (Value.float .f64))
theorem FOwn.len {w : World} {g L : Nat} {ys : List Nat} (h : FOwn w g L ys) : ys.length = L := by simpa using h.1
theorem FOwn.made {w : World} {g L : Nat} (h : w.ownsRow g 26 1 (.slice (some ⟨g, 0, none⟩) L L) L (madeCells (Value.float .f64 0).cells (L * 1)).toList) : FOwn w g L (List.replicate L 0) := by
  have e1 : (madeCells (Value.float .f64 0).cells (L * 1)).toList = (List.replicate L 0).map (Value.float .f64) := by
    apply List.ext_getElem
    · simp [madeCells]
    · intro i h1 h2
      simp [madeCells, Value.cells, Nat.mod_one]
  unfold FOwn
  rwa [e1] at h
theorem FOwn.cell {w : World} {g L : Nat} {ys : List Nat} (h : FOwn w g L ys) {j : Nat} (hj : j < L) : w.cell? ⟨g, j, none⟩ = some (.float .f64 (ys.getD j 0)) := by
  have hl := h.len
  rw [World.ownsRow.cellAt h j (by omega)]
  simp [List.getElem?_eq_getElem (show j < ys.length by omega)]
theorem FOwn.frozen {w : World} {g L : Nat} {ys : List Nat} (h : FOwn w g L ys) (j : Nat) : w.frozen? ⟨g, j, none⟩ = false := World.ownsRow.frozenAt h j
theorem FOwn.set {w : World} {g L : Nat} {ys : List Nat} (h : FOwn w g L ys) (j v : Nat) : FOwn (w.setCell ⟨g, j, none⟩ (.float .f64 v)) g L (ys.set j v) := by
  have := (World.ownsRow.stored h j (.float .f64 v)).1
  unfold FOwn
  rwa [List.map_set]
theorem FOwn.lt {w : World} {g L : Nat} {ys : List Nat} (h : FOwn w g L ys) : g < w.heap.size := (World.ownsRow.lt h g rfl).2
theorem FOwn.fcells {w : World} {g L : Nat} {ys : List Nat} (h : FOwn w g L ys) : FCells w (some ⟨g, 0, none⟩) L ys := fun _ => ⟨g, 0, rfl, h.lt, fun k hk => by rw [Nat.zero_add]; exact h.cell hk⟩
@[go_sem] theorem run_store_float {P : Program} {w : World} {a : Addr} {m : Mode} (k : FloatKind) (b : Nat) : (store a (.float k b) m).run P w = stored P w a (.float k b) m := run_store P w a _ m rfl
end Go.Proofs.YtlffojopfilfeaaGreatDoor

/- Walks: lent and kept of the law's lists. -/
namespace Go.Proofs.YtlffojopfilfeaaGreatDoor
open Go Go.RowKit

/-- The floats of a list, as cells. -/
def dbs (l : List Nat) : List Value := l.map (Value.float .f64)
theorem dbs_next {l : List Nat} {k : Nat} (h : k < l.length) : dbs (l.take k) ++ [.float .f64 (l.getD k 0)] = dbs (l.take (k + 1)) := by
  unfold dbs
  rw [List.take_succ_eq_append_getElem h, List.map_append]
  simp [List.getD, h]
set_option maxHeartbeats 4000000 in
set_option maxRecDepth 100000 in
theorem lent_v {a : Option Addr} {n c : Nat} {l : List Nat} (w : World) (hn : l.length = n) (hmax : n * 8 ≤ 140737488351232) (hl : ∀ x ∈ l, W64 x) (hcell : UCells w a n l) :
    Calls Tryz.prog 9 #[.slice a n c] w fun e w' => (∃ g, (e = .returned (.slice (some ⟨g, 0, none⟩) n (n + 1 : Nat)) ∧ w.heap.size ≤ g) ∧ FOwn w' g (n + 1) (l ++ [4619567317775286272])) ∧ Below w.heap.size w w' := by
  have HL : Hid (∀ x ∈ l, W64 x) := hl
  have HCELL : Hid (UCells w a n l) := hcell
  have HNX : Hid (∀ k, k < n → dbs (l.take k) ++ [.float .f64 (l.getD k 0)] = dbs (l.take (k + 1))) := fun k hk => dbs_next (by omega)
  obtain ⟨i0, hi, hz0, hz1, hz2⟩ := info_parts Tryz.infoF8
  have hw0 : IntKind.i64.wrap ((n : Int) + 1) = ((n + 1 : Nat) : Int) := by rw [IntWalk.i64_in _ (by omega)]; omega
  clear hl hcell
  go_enter Tryz.func9, Tryz.ntmps9
  go_wp2_with (at_make; refine wpList_make_own _ rfl _ _ 24 rfl w.heap.size 26 i0 (.float .f64 0) 1 Tryz.underlying24 hi hz0 hz1 .i64 .i64 _ (n + 1) rfl rfl (by first | rfl | exact hw0 | omega) (by rw [hz2]; omega) (by unfold maxLen; omega) (Nat.le_refl _) ?_; intro w1 hown hgrow; have HO1 : Hid (w1.ownsRow w.heap.size 26 1 (.slice (some ⟨w.heap.size, 0, none⟩) 0 (n + 1 : Nat)) 0 []) := hown; have HB1 : Hid (Below w.heap.size w w1) := (Below.refl _ w).grown hgrow (Nat.le_refl _) (by simp); clear hown hgrow)
  obtain ⟨g, hg⟩ : ∃ g, g = w.heap.size := ⟨_, rfl⟩
  rw [← hg] at HO1 ⊢
  have HG : Hid (w.heap.size = g) := hg.symm
  clear hg
  go_loopw [3, 4] (fun v i wr => ∃ k : Nat, k ≤ n ∧ (i = .int .i64 (k : Nat) ∧ v = .slice (some ⟨g, 0, none⟩) k (n + 1 : Nat)) ∧ wr.ownsRow g 26 1 (.slice (some ⟨g, 0, none⟩) k (n + 1 : Nat)) k (dbs (l.take k)) ∧ Below w.heap.size w wr) (fun _ i _ => n - (intOf i).toNat)
  case atStart => exact ⟨0, Nat.zero_le _, ⟨rfl, rfl⟩, HO1.out, HB1.out⟩
  case round =>
    obtain ⟨k, hk, ⟨rfl, rfl⟩, hown, hbk⟩ := hrel
    have HOW : Hid (wr.ownsRow g 26 1 (.slice (some ⟨g, 0, none⟩) k (n + 1 : Nat)) k (dbs (l.take k))) := hown
    have HBK : Hid (Below w.heap.size w wr) := hbk
    by_cases hkn : k < n
    · obtain ⟨b, o, rfl, hb, hcc⟩ := HCELL.out (by omega)
      obtain ⟨x, hx⟩ : ∃ x, x = l.getD k 0 := ⟨_, rfl⟩
      have hck := (hbk.cell (p := ⟨b, o + k, none⟩) hb).trans (hcc k hkn)
      rw [← hx] at hck
      have hnx := HNX.out k hkn
      rw [← hx] at hnx
      have HN1 : Hid (dbs (l.take k) ++ [.float .f64 x] = dbs (l.take (k + 1))) := hnx
      have hw1 : IntKind.i64.wrap ((k : Int) + 1) = ((k + 1 : Nat) : Int) := by rw [IntWalk.i64_in _ (by omega)]; omega
      clear hcc hown hbk hx hnx
      go_wp2_with (at_builtin; (refine wpList_append_fits _ rfl _ _ 24 rfl g 26 i0 1 Tryz.underlying24 hi hz1 g k (n + 1) (dbs (l.take k)) rfl (World.ownsRow.alloc HOW.out _) ⟨wr.heap.size, 0, none⟩ 1 1 [.float .f64 x] rfl rfl (by intro j z hj; match j with | 0 => (obtain rfl : z = .float .f64 x := by simpa using hj.symm); exact cell_of_row _ _ _ _ _ _ (heap_alloc_new _ _) | j + 1 => simp at hj) (by intro z hz; simp at hz; subst hz; rfl) (by omega) ?_; intro w2 hown' hgrow; have HOW2 : Hid (w2.ownsRow g 26 1 (.slice (some ⟨g, 0, none⟩) (k + 1 : Nat) (n + 1 : Nat)) (k + 1) (dbs (l.take (k + 1)))) := (by rw [← HN1.out]; exact hown'); have HB2 : Hid (Below w.heap.size w w2) := (HBK.out.alloc HBK.out.size _).grown hgrow (by have := HBK.out.size; simp at this ⊢; omega) (fun q hq => by obtain rfl : g = q := (by simpa using hq); exact Nat.le_of_eq HG.out); clear hown' hgrow))
      go_roundw
      case rel => exact ⟨k + 1, by omega, ⟨by first | rfl | rw [hw1], rfl⟩, HOW2.out, HB2.out⟩
      case measure => simp [intOf]; omega
    · obtain rfl : k = n := by omega
      have HTK : Hid (dbs (l.take k) ++ [.float .f64 4619567317775286272] = (l ++ [4619567317775286272]).map (Value.float .f64)) := by
        have h : l.take l.length = l := List.take_length
        rw [hn] at h
        show _ = _
        rw [h]; unfold dbs; simp
      have hg1 : ¬ ((k : Int) + 1 = 0) := by omega
      have hg2 : ¬ (k + 1 = 0) := by omega
      clear hown hbk hk hkn
      go_wp2_with (at_builtin; (refine wpList_append_fits _ rfl _ _ 24 rfl g 26 i0 1 Tryz.underlying24 hi hz1 g k (k + 1) (dbs (l.take k)) rfl (World.ownsRow.alloc HOW.out _) ⟨wr.heap.size, 0, none⟩ 1 1 [.float .f64 4619567317775286272] rfl rfl (by intro j z hj; match j with | 0 => (obtain rfl : z = .float .f64 4619567317775286272 := by simpa using hj.symm); exact cell_of_row _ _ _ _ _ _ (heap_alloc_new _ _) | j + 1 => simp at hj) (by intro z hz; simp at hz; subst hz; rfl) (by omega) ?_; intro w2 hown' hgrow; have HOW2 : Hid (FOwn w2 g (k + 1) (l ++ [4619567317775286272])) := (by unfold FOwn; rw [← HTK.out]; exact hown'); have HB2 : Hid (Below w.heap.size w w2) := (HBK.out.alloc HBK.out.size _).grown hgrow (by have := HBK.out.size; simp at this ⊢; omega) (fun q hq => by obtain rfl : g = q := (by simpa using hq); exact Nat.le_of_eq HG.out); clear hown' hgrow))
      go_ret
      exact ⟨⟨g, ⟨rfl, Nat.le_of_eq HG.out⟩, HOW2.out⟩, HB2.out⟩
end Go.Proofs.YtlffojopfilfeaaGreatDoor

/- Walks: the law SumsBack. -/
namespace Go.Proofs.YtlffojopfilfeaaGreatDoor
open Go Go.RowKit

theorem FCells.but {w w' : World} {g g' n : Nat} {l : List Nat} (h : FCells w (some ⟨g, 0, none⟩) n l) (hne : g ≠ g') (hb : But g' w w') : FCells w' (some ⟨g, 0, none⟩) n l := fun hn => by
  obtain ⟨b, o, e, h2, h3⟩ := h hn
  obtain ⟨rfl, rfl⟩ : g = b ∧ 0 = o := by simpa using e
  exact ⟨g, 0, rfl, Nat.lt_of_lt_of_le h2 hb.size, fun k hk => (hb.cell (p := ⟨g, 0 + k, none⟩) h2 hne).trans (h3 k hk)⟩
theorem FOwn.below {w w' : World} {g n : Nat} {l : List Nat} (h : FOwn w g n l) (hb : Below w.heap.size w w') : FOwn w' g n l := by
  obtain ⟨h1, h2⟩ := h
  refine ⟨h1, ?_⟩
  rcases h2 with h2 | ⟨g', c, cur, e, h3, h4, h5⟩
  · exact .inl h2
  · exact .inr ⟨g', c, cur, e, h3, hb.blk h4 (blk_lt h4), h5⟩
theorem FOwn.lent {w : World} {g n : Nat} {l ys : List Nat} (h : FOwn w g (n + 1) (l ++ ys)) (hn : l.length = n) : FCells w (some ⟨g, 0, none⟩) n l := fun _ => ⟨g, 0, rfl, h.lt, fun k hk => by
  rw [Nat.zero_add, h.cell (by omega)]
  simp [List.getD, List.getElem?_append_left (show k < l.length by omega)]⟩
end Go.Proofs.YtlffojopfilfeaaGreatDoor

/- Walks: the law SumsOrder. -/
namespace Go.Proofs.YtlffojopfilfeaaGreatDoor
open Go Go.RowKit

/-- A list of ints, in cells. -/
def ICells (w : World) (a : Option Addr) (n : Nat) (l : List Int) : Prop := 0 < n → ∃ b o, a = some ⟨b, o, none⟩ ∧ b < w.heap.size ∧ ∀ k, k < n → w.cell? ⟨b, o + k, none⟩ = some (.int .i64 (l.getD k 0))
theorem ICells.below {w w' : World} {a : Option Addr} {n : Nat} {l : List Int} (h : ICells w a n l) (hb : Below w.heap.size w w') : ICells w' a n l := fun hn => by
  obtain ⟨b, o, h1, h2, h3⟩ := h hn
  exact ⟨b, o, h1, Nat.lt_of_lt_of_le h2 hb.size, fun k hk => (hb.cell (p := ⟨b, o + k, none⟩) h2).trans (h3 k hk)⟩
/-- A row of floats with room behind it. -/
def YOwn (w : World) (B g cap n : Nat) (ys : List Nat) : Prop := w.ownsRow B 26 1 (.slice (some ⟨g, 0, none⟩) n cap) n (dbs ys)
theorem YOwn.len {w : World} {B g cap n : Nat} {ys : List Nat} (h : YOwn w B g cap n ys) : ys.length = n := by
  have := h.1
  rw [Nat.mul_one] at this
  unfold dbs at this; simpa using this
theorem YOwn.cell {w : World} {B g cap n : Nat} {ys : List Nat} (h : YOwn w B g cap n ys) {j : Nat} (hj : j < n) : w.cell? ⟨g, j, none⟩ = some (.float .f64 (ys.getD j 0)) := by
  have hl := h.len
  rw [World.ownsRow.cellAt h j (by omega)]
  unfold dbs
  simp [List.getElem?_eq_getElem (show j < ys.length by omega)]
theorem YOwn.frozen {w : World} {B g cap n : Nat} {ys : List Nat} (h : YOwn w B g cap n ys) (j : Nat) : w.frozen? ⟨g, j, none⟩ = false := World.ownsRow.frozenAt h j
theorem YOwn.set {w : World} {B g cap n : Nat} {ys : List Nat} (h : YOwn w B g cap n ys) (j v : Nat) : YOwn (w.setCell ⟨g, j, none⟩ (.float .f64 v)) B g cap n (ys.set j v) := by
  have := (World.ownsRow.stored h j (.float .f64 v)).1
  unfold YOwn dbs
  rw [List.map_set]
  exact this
theorem YOwn.lt {w : World} {B g cap n : Nat} {ys : List Nat} (h : YOwn w B g cap n ys) : B ≤ g ∧ g < w.heap.size := World.ownsRow.lt h g rfl
theorem YOwn.fcells {w : World} {B g cap n : Nat} {ys : List Nat} (h : YOwn w B g cap n ys) : FCells w (some ⟨g, 0, none⟩) n ys := fun _ => ⟨g, 0, rfl, h.lt.2, fun k hk => by rw [Nat.zero_add]; exact h.cell hk⟩
theorem FCells.take {w : World} {g n at' : Nat} {ys : List Nat} (h : FCells w (some ⟨g, 0, none⟩) n ys) (ha : at' ≤ n) : FCells w (some ⟨g, 0, none⟩) at' (ys.take at') := fun h0 => by
  obtain ⟨b, o, e, h2, h3⟩ := h (by omega)
  refine ⟨b, o, e, h2, fun k hk => ?_⟩
  rw [h3 k (by omega)]
  simp [List.getD, hk]
theorem swap_perm {ys : List Nat} {p q : Nat} (hp : p < ys.length) (hq : q < ys.length) : ((ys.set p (ys.getD q 0)).set q (ys.getD p 0)).Perm ys := by
  have e1 : ys.getD q 0 = ys[q] := by simp [List.getD, hq]
  have e2 : ys.getD p 0 = ys[p] := by simp [List.getD, hp]
  rw [e1, e2]
  exact List.set_set_perm hp hq
theorem AccT.clear {w : World} {g : Nat} {T : List Term1} (h : AccT w g T) : Clear w g := by
  obtain ⟨a, m, k, h1, -⟩ := h
  exact clear_row h1
theorem tmL_app (l k : List Nat) : tmL (l ++ k) = tmL l ++ tmL k := by unfold tmL; simp
set_option maxHeartbeats 8000000 in
set_option maxRecDepth 100000 in
theorem sumsOrder_walk {a a' : Option Addr} {n c n' c' : Nat} {l : List Nat} {l' : List Int} (cut : Int) (s : Bool) (w : World) (hn : l.length = n) (hmax : n * 8 ≤ 140737488351232) (hl : ∀ x ∈ l, W64 x) (hcell : UCells w a n l)
    (hn' : l'.length = n') (hmax' : n' * 8 ≤ 140737488351232) (hl' : ∀ x ∈ l', -9223372036854775808 ≤ x ∧ x ≤ 9223372036854775807) (hcell' : ICells w a' n' l') (hc1 : -9223372036854775808 ≤ cut) (hc2 : cut ≤ 9223372036854775807) (htab : Tab w) (htw : TabW w) :
    Calls Tryz.prog 6 #[.slice a n c, .slice a' n' c', .int .i64 cut, .bool s] w fun e w' => e = .returned (.bool true) ∧ Below w.heap.size w w' := by
  have HW : Hid (Calls Tryz.prog 8 #[] w fun e w' => e = .returned (.bool true) ∧ Below w.heap.size w w') := awake8_v w htab htw
  have HNE : Hid (∀ W, Calls Tryz.prog 24 #[] W fun e w' => ∃ g, e = .returned (.pointer (some ⟨g, 0, none⟩)) ∧ W.heap.size ≤ g ∧ AccT w' g [] ∧ Below W.heap.size W w') := fun W => new8_v W
  have HLE : Hid (∀ W, Below w.heap.size w W → Calls Tryz.prog 9 #[.slice a n c] W fun e w' => (∃ g, (e = .returned (.slice (some ⟨g, 0, none⟩) n (n + 1 : Nat)) ∧ W.heap.size ≤ g) ∧ FOwn w' g (n + 1) (l ++ [4619567317775286272])) ∧ Below W.heap.size W w') := fun W hW => lent_v W hn hmax hl (hcell.below hW)
  have HT : Hid (∀ W, Below w.heap.size w W → Tab W ∧ TabW W) := fun W hW => ⟨htab.below hW, htw.below hW⟩
  have hpl : ∀ ys : List Nat, ys.Perm l → ys.length = n ∧ ∀ x ∈ ys, W64 x := fun ys hp => ⟨by rw [hp.length_eq]; exact hn, fun x hx => hl x (hp.mem_iff.1 hx)⟩
  obtain ⟨A1, hA1⟩ : ∃ z, z = lsB l := ⟨_, rfl⟩
  obtain ⟨X1, hX1⟩ : ∃ z, z = lsX l := ⟨_, rfl⟩
  obtain ⟨A2, hA2⟩ : ∃ z, z = mnB l := ⟨_, rfl⟩
  obtain ⟨X2, hX2⟩ : ∃ z, z = mnX l := ⟨_, rfl⟩
  obtain ⟨A3, hA3⟩ : ∃ z, z = vrB l s := ⟨_, rfl⟩
  obtain ⟨X3, hX3⟩ : ∃ z, z = vrX l s := ⟨_, rfl⟩
  obtain ⟨A4, hA4⟩ : ∃ z, z = dtB l l := ⟨_, rfl⟩
  obtain ⟨X4, hX4⟩ : ∃ z, z = dtX l l := ⟨_, rfl⟩
  have HSU : Hid (∀ (W : World) (a : Option Addr) (c : Nat) (ys : List Nat), Below w.heap.size w W → ys.Perm l → FCells W a n ys → Calls Tryz.prog 10 #[.slice a n c] W fun e w' => e = .returned (.tuple #[.float .f64 A1, .int .i64 X1]) ∧ Below W.heap.size W w') := fun W a c ys hW hp hc => by
    rw [hA1, hX1, ← (ls_perm hp.symm).1, ← (ls_perm hp.symm).2]; exact sum8_v W (hpl ys hp).1 (by omega) (hpl ys hp).2 hc (HT.out W hW).1 (HT.out W hW).2
  have HME : Hid (∀ (W : World) (a : Option Addr) (c : Nat) (ys : List Nat), Below w.heap.size w W → ys.Perm l → FCells W a n ys → Calls Tryz.prog 16 #[.slice a n c] W fun e w' => e = .returned (.tuple #[.float .f64 A2, .int .i64 X2]) ∧ Below W.heap.size W w') := fun W a c ys hW hp hc => by
    rw [hA2, hX2, ← (mn_perm hp.symm).1, ← (mn_perm hp.symm).2]; exact mean8_v W (hpl ys hp).1 (by omega) (hpl ys hp).2 hc (HT.out W hW).1 (HT.out W hW).2
  have HVA : Hid (∀ (W : World) (a : Option Addr) (c : Nat) (ys : List Nat), Below w.heap.size w W → ys.Perm l → FCells W a n ys → Calls Tryz.prog 18 #[.slice a n c, .bool s] W fun e w' => e = .returned (.tuple #[.float .f64 A3, .int .i64 X3]) ∧ Below W.heap.size W w') := fun W a c ys hW hp hc => by
    rw [hA3, hX3, ← (vr_perm hp.symm s).1, ← (vr_perm hp.symm s).2]; exact variance8_v s W (hpl ys hp).1 (by omega) (hpl ys hp).2 hc (HT.out W hW).1 (HT.out W hW).2
  have HSQ : Hid (∀ (W : World) (a : Option Addr) (c : Nat) (ys : List Nat), Below w.heap.size w W → ys.Perm l → FCells W a n ys → Calls Tryz.prog 15 #[.slice a n c] W fun e w' => e = .returned (.tuple #[.float .f64 A4, .int .i64 X4]) ∧ Below W.heap.size W w') := fun W a c ys hW hp hc => by
    rw [hA4, hX4, ← (dt_perm hp.symm).1, ← (dt_perm hp.symm).2]; exact squares8_v W (hpl ys hp).1 (by omega) (hpl ys hp).2 hc (HT.out W hW).1 (HT.out W hW).2
  have HTD : Hid (∀ A X W, Calls Tryz.prog 12 #[.float .f64 A, .int .i64 X, .int .u64 (A : Nat), .int .i64 X] W fun e w' => e = .returned (.bool true) ∧ W = w') := fun A X W => told8_v A A X X W rfl rfl
  have HADD : Hid (∀ (W : World) (ga g m cap : Nat) (T : List Term1) (ys : List Nat), AccT W ga T → (T ++ tmL ys).length ≤ n → FCells W (some ⟨g, 0, none⟩) m ys → ys.length = m → (∀ x ∈ ys, W64 x) → Five T ∧ Small T → g ≠ ga → Calls Tryz.prog 25 #[.pointer (some ⟨ga, 0, none⟩), .slice (some ⟨g, 0, none⟩) m cap] W fun e w' => e = .returned (.tuple #[]) ∧ AccT w' ga (T ++ tmL ys) ∧ But ga W w') := fun W ga g m cap T ys hA hlen hF hm hw hfs hne =>
    add8_v (g := ga) (T := T) (a := some ⟨g, 0, none⟩) (n := m) (cap := cap) (l := ys) W hA ⟨fun t ht => by
      rcases List.mem_append.1 ht with h | h
      · exact hfs.1 t h
      · exact five_L ys t h, fun t ht => by
      rcases List.mem_append.1 ht with h | h
      · exact hfs.2 t h
      · exact small_L ys t h, by omega⟩ hm hw (fun h => by
      obtain ⟨q, o, e, h2, h3⟩ := hF h
      obtain ⟨rfl, rfl⟩ : g = q ∧ 0 = o := by simpa using e
      exact ⟨g, 0, rfl, h2, hne, h3⟩)
  have HJN : Hid (∀ (W : World) (g h : Nat) (ys : List Nat) (k : Nat), AccT W g (tmL (ys.drop k)) → AccT W h (tmL (ys.take k)) → h ≠ g → ys.Perm l → Calls Tryz.prog 30 #[.pointer (some ⟨g, 0, none⟩), .pointer (some ⟨h, 0, none⟩)] W fun e w' => e = .returned (.tuple #[]) ∧ AccT w' g (tmL (ys.drop k ++ ys.take k)) ∧ But g W w') := fun W g h ys k h1 h2 hne hp => by
    rw [tmL_app]
    have hd : (ys.drop k ++ ys.take k).length = n := by
      have := (List.perm_append_comm (l₁ := ys.drop k) (l₂ := ys.take k)).length_eq
      rw [List.take_append_drop] at this
      rw [this]; exact (hpl ys hp).1
    exact join8_v W h1 h2 hne (by rw [← tmL_app]; exact fit_L (by omega))
  have HTC : Hid (∀ (W : World) (g : Nat) (ys : List Nat) (k : Nat), Below w.heap.size w W → AccT W g (tmL (ys.drop k ++ ys.take k)) → ys.Perm l → n ≤ 65536 → Calls Tryz.prog 26 #[.pointer (some ⟨g, 0, none⟩)] W fun e w' => e = .returned (.tuple #[.float .f64 A1, .int .i64 X1]) ∧ Below W.heap.size W w') := fun W g ys k hW hA hp h6 => by
    have hq : (ys.drop k ++ ys.take k).Perm l := (List.perm_append_comm.trans (by rw [List.take_append_drop])).trans hp
    have h1 := ls_perm hq.symm
    have hlen := (hpl _ hq).1
    rw [hA1, hX1, ← h1.1, ← h1.2]
    unfold lsB lsX
    rw [if_neg (by omega), if_neg (by omega)]
    exact total8_v W hA (fit_L (by omega)) (HT.out W hW).1 (HT.out W hW).2
  have HTL : Hid (∀ (W : World) (g : Nat) (ys : List Nat) (k : Nat), Below w.heap.size w W → AccT W g (tmL (ys.drop k ++ ys.take k)) → ys.Perm l → Calls Tryz.prog 26 #[.pointer (some ⟨g, 0, none⟩)] W fun e w' => (∃ A X, e = .returned (.tuple #[.float .f64 A, .int .i64 X])) ∧ Below W.heap.size W w') := fun W g ys k hW hA hp => by
    have hq : (ys.drop k ++ ys.take k).Perm l := (List.perm_append_comm.trans (by rw [List.take_append_drop])).trans hp
    have hlen := (hpl _ hq).1
    exact (total8_v W hA (fit_L (by omega)) (HT.out W hW).1 (HT.out W hW).2).mono fun e w' ⟨h1, h2⟩ => ⟨⟨_, _, h1⟩, h2⟩
  have HCN : Hid (∀ (W : World) (g : Nat) (ys : List Nat) (k : Nat), AccT W g (tmL (ys.drop k ++ ys.take k)) → ys.Perm l → Calls Tryz.prog 28 #[.pointer (some ⟨g, 0, none⟩)] W fun e w' => e = .returned (.int .i64 (n : Nat)) ∧ W = w') := fun W g ys k hA hp => by
    have hq : (ys.drop k ++ ys.take k).Perm l := (List.perm_append_comm.trans (by rw [List.take_append_drop])).trans hp
    have hlen := (hpl _ hq).1
    have := count8_v W hA (fit_L (by omega))
    rwa [tmL_len, hlen] at this
  have HPI : Hid (∀ i, i < n' → 0 < n → ∃ p : Nat, p < n ∧ ∀ W, Calls Tryz.prog 21 #[.int .i64 (l'.getD i 0), .int .i64 (n : Nat)] W fun e w' => e = .returned (.int .i64 (p : Nat)) ∧ W = w') := fun i hi h0 => by
    have hm : l'.getD i 0 ∈ l' := by
      have : l'.getD i 0 = l'[i]'(by omega) := by simp [List.getD, show i < l'.length by omega]
      rw [this]; exact List.getElem_mem _
    exact pick8_v (l'.getD i 0) n h0 (by omega) (hl' _ hm).1 (hl' _ hm).2
  obtain ⟨at', hat, hpc⟩ := pick8_v cut (n + 1) (by omega) (by omega) hc1 hc2
  have HPC : Hid (∀ W, Calls Tryz.prog 21 #[.int .i64 cut, .int .i64 ((n : Int) + 1)] W fun e w' => e = .returned (.int .i64 (at' : Nat)) ∧ W = w') := hpc
  have HAT : Hid (at' ≤ n) := by show _ ≤ _; omega
  have HPL : Hid (∀ ys : List Nat, ys.Perm l → ys.length = n ∧ ∀ x ∈ ys, W64 x) := hpl
  have HLN : Hid (l.length = n) := hn
  have HIC : Hid (∀ W, Below w.heap.size w W → ICells W a' n' l') := fun W hW => hcell'.below hW
  obtain ⟨i0, hi, hz0, hz1, hz2⟩ := info_parts Tryz.infoF8
  have hw0 : IntKind.i64.wrap ((n : Int) + 1) = ((n + 1 : Nat) : Int) := by rw [IntWalk.i64_in _ (by omega)]; omega
  clear hn hl hcell hn' hl' hcell' htab htw hA1 hX1 hA2 hX2 hA3 hX3 hA4 hX4 hpl hpc hat hc1 hc2
  go_enter Tryz.func6, Tryz.ntmps6
  go_wp2_with fail
  (with_reducible refine Calls.mono HW.out ?_)
  rintro e w1 ⟨rfl, hb1⟩
  have HB1 : Hid (Below w.heap.size w w1) := hb1
  clear hb1
  go_wp2_with fail
  (with_reducible refine (HLE.out _ HB1.out).mono ?_)
  rintro e w2 ⟨⟨g, ⟨rfl, hg⟩, hf⟩, hb2⟩
  have HB2 : Hid (Below w.heap.size w w2) := HB1.out.thru hb2
  have HF2 : Hid (FCells w2 (some ⟨g, 0, none⟩) n l) := hf.lent HLN.out
  have HG2 : Hid (g < w2.heap.size) := hf.lt
  clear hg hf hb2 HB1 HW HLE
  have HDL : Hid ((dbs l).length = n * 1) := by show _ = _; unfold dbs; simp [HLN.out]
  have HCL : Hid (∀ W, Below w2.heap.size w2 W → ∀ j u, (dbs l)[j]? = some u → W.cell? ((⟨g, 0, none⟩ : Addr).add j) = some u) := fun W hW j u hj => by
    have hd : (dbs l).length = n := by rw [HDL.out, Nat.mul_one]
    have hjk : j < n := by
      have := (List.getElem?_eq_some_iff.1 hj).1
      omega
    obtain ⟨q, o, e, h2, h3⟩ := HF2.out.below hW (show 0 < n by omega)
    obtain ⟨rfl, rfl⟩ : g = q ∧ 0 = o := by simpa using e
    have h4 := h3 j hjk
    unfold dbs at hj
    have hjl : j < l.length := by rw [HLN.out]; exact hjk
    have hu : u = .float .f64 (l.getD j 0) := by simpa [List.getD, hjl] using hj.symm
    rw [hu]
    by_cases hj0 : j = 0
    · subst hj0; exact h4
    · simpa [Addr.add, hj0] using h4
  have HON : Hid (∀ u ∈ dbs l, u.oneCell' = true) := fun u hu => by
    obtain ⟨y, -, rfl⟩ := List.mem_map.1 hu
    rfl
  go_wp2_with (at_builtin; (refine wpList_append_own _ rfl _ _ 24 rfl w2.heap.size 26 i0 (.float .f64 0) 1 8 Tryz.underlying24 hi hz0 hz1 hz2 rfl (by decide) _ 0 [] rfl (World.ownsRow_made _ #[] 0 (Nat.le_refl _) (Nat.zero_le _) rfl) ⟨g, 0, none⟩ n (n + 1) (dbs l) rfl HDL.out (HCL.out _ ((Below.refl _ w2).alloc (Nat.le_refl _) _)) HON.out (by unfold maxLen; omega) (by omega) (by simp) ?_; intro v' w3 hown' hgrow hnone; obtain ⟨g2, cap, rfl⟩ : ∃ g2 cap, v' = .slice (some ⟨g2, 0, none⟩) n cap := (by rcases hown'.2 with ⟨h1, h2⟩ | ⟨g2, cap, cur, h1, -⟩; (have h3 := (hnone.1 h1).1; cases h3); rw [Nat.zero_add] at h1; exact ⟨g2, cap, h1⟩); have HO3 : Hid (YOwn w3 w2.heap.size g2 cap n l) := (by show World.ownsRow _ _ _ _ _ _ _; simpa using hown'); have HB3 : Hid (Below w2.heap.size w2 w3) := ((Below.refl _ w2).alloc (Nat.le_refl _) _).grown hgrow (by simp) (fun q hq => Nat.le_of_eq (Option.some.inj (show some w2.heap.size = some q from hq))); clear hown' hgrow hnone))
  clear HCL HON HDL hi hz0 hz1 hz2
  go_loopw [12] (fun i wr => ∃ (k : Nat) (ys : List Nat), k ≤ n' + 1 ∧ i = .int .i64 (k : Nat) ∧ (YOwn wr w2.heap.size g2 cap n ys ∧ ys.Perm l) ∧ Below w2.heap.size w2 wr) (fun i _ => n' + 1 - (intOf i).toNat)
  case atStart => exact ⟨0, l, Nat.zero_le _, rfl, ⟨HO3.out, List.Perm.refl _⟩, HB3.out⟩
  case round =>
    obtain ⟨k, ys, hk, rfl, ⟨how, hys⟩, hbk⟩ := hrel
    have HO : Hid (YOwn wr w2.heap.size g2 cap n ys) := how
    have HP : Hid (ys.Perm l) := hys
    have HB : Hid (Below w2.heap.size w2 wr) := hbk
    have HLY : Hid (ys.length = n) := how.len
    have HCP : Hid (n ≤ cap) := by
      rcases how.2 with ⟨h1, -⟩ | ⟨g9, c9, cur9, h1, -, -, h3, -⟩
      · cases h1
      · have h2 : cap = c9 := by injection h1
        rw [h2]; exact h3
    clear how hys hbk HO3 HB3
    have hw1 : IntKind.i64.wrap ((k : Int) + 1) = ((k + 1 : Nat) : Int) := by rw [IntWalk.i64_in _ (by omega)]; omega
    by_cases hkn : k + 1 < n' ∧ 0 < n
    · obtain ⟨hkn, h0n⟩ := hkn
      obtain ⟨p, hp, hpk⟩ := HPI.out k (by omega) h0n
      obtain ⟨q, hq, hqk⟩ := HPI.out (k + 1) hkn h0n
      obtain ⟨b, o, rfl, hb, hcc⟩ := HIC.out wr (HB2.out.thru HB.out) (by omega)
      have hcp := hcc k (by omega)
      have hcq := hcc (k + 1) hkn
      obtain ⟨x1, hx1⟩ : ∃ z, z = l'.getD k 0 := ⟨_, rfl⟩
      obtain ⟨x2, hx2⟩ : ∃ z, z = l'.getD (k + 1) 0 := ⟨_, rfl⟩
      rw [← hx1] at hpk hcp
      rw [← hx2] at hqk hcq
      have HPK : Hid (∀ W, Calls Tryz.prog 21 #[.int .i64 x1, .int .i64 (n : Nat)] W fun e w' => e = .returned (.int .i64 (p : Nat)) ∧ W = w') := hpk
      have HQK : Hid (∀ W, Calls Tryz.prog 21 #[.int .i64 x2, .int .i64 (n : Nat)] W fun e w' => e = .returned (.int .i64 (q : Nat)) ∧ W = w') := hqk
      have hw2 : IntKind.i64.wrap ((k : Int) + 2) = ((k + 2 : Nat) : Int) := by rw [IntWalk.i64_in _ (by omega)]; omega
      have g1 : ((k + 1 : Nat) : Int) < (n' : Int) := by omega
      have g2' : (k : Int) < (n' : Int) := by omega
      have g3 : (0 : Int) < (n : Int) := by omega
      have g4 : (0 : Int) ≤ (k : Int) := by omega
      have g5 : (0 : Int) ≤ ((k + 1 : Nat) : Int) := by omega
      clear hcc hb hx1 hx2 hpk hqk
      go_wp2_with fail
      (with_reducible refine (HPK.out _).mono ?_)
      rintro e w' ⟨rfl, rfl⟩
      go_wp2_with fail
      (with_reducible refine (HQK.out _).mono ?_)
      rintro e w' ⟨rfl, rfl⟩
      obtain ⟨y1, hy1⟩ : ∃ z, z = ys.getD p 0 := ⟨_, rfl⟩
      obtain ⟨y2, hy2⟩ : ∃ z, z = ys.getD q 0 := ⟨_, rfl⟩
      have HSP : Hid (((ys.set p y2).set q y1).Perm l) := by
        show List.Perm _ _
        rw [hy1, hy2]; exact (swap_perm (by rw [HLY.out]; exact hp) (by rw [HLY.out]; exact hq)).trans HP.out
      have hc1 := HO.out.cell hp
      have hc2 := HO.out.cell hq
      rw [← hy1] at hc1
      rw [← hy2] at hc2
      have hf1 := HO.out.frozen p
      have hf2 := HO.out.frozen q
      have k1 : (p : Int) < (n : Int) := by omega
      have k2 : (q : Int) < (n : Int) := by omega
      have k3 : (0 : Int) ≤ (p : Int) := by omega
      have k4 : (0 : Int) ≤ (q : Int) := by omega
      have HOS : Hid (YOwn ((wr.setCell ⟨g2, p, none⟩ (.float .f64 y2)).setCell ⟨g2, q, none⟩ (.float .f64 y1)) w2.heap.size g2 cap n ((ys.set p y2).set q y1)) := (HO.out.set p y2).set q y1
      have HBS : Hid (Below w2.heap.size w2 ((wr.setCell ⟨g2, p, none⟩ (.float .f64 y2)).setCell ⟨g2, q, none⟩ (.float .f64 y1))) := (HB.out.setCell HO.out.lt.1 _).setCell HO.out.lt.1 _
      clear HPK HQK hcp hcq
      by_cases hpq : p = q
      · subst hpq
        obtain rfl : y2 = y1 := hy2.trans hy1.symm
        clear hy1 hy2
        go_wp2_with fail
        go_region
        go_wp2
        go_roundw
        case rel => exact ⟨k + 2, _, by omega, by first | rfl | rw [hw2], ⟨World.ownsRow.drew HOS.out, HSP.out⟩, HBS.out.drew⟩
        case measure => simp [intOf]; omega
      · have hpq2 : ¬ q = p := fun h => hpq h.symm
        clear hy1 hy2
        go_wp2_with fail
        go_region
        go_wp2
        go_roundw
        case rel => exact ⟨k + 2, _, by omega, by first | rfl | rw [hw2], ⟨World.ownsRow.drew HOS.out, HSP.out⟩, HBS.out.drew⟩
        case measure => simp [intOf]; omega
    · obtain ⟨wq, hwq⟩ : ∃ W : World, W = wr := ⟨_, rfl⟩
      subst hwq
      have HBW : Hid (∀ W, Below wq.heap.size wq W → Below w.heap.size w W) := fun W hW => (HB2.out.thru HB.out).thru hW
      have HFX : Hid (∀ W, Below wq.heap.size wq W → FCells W (some ⟨g, 0, none⟩) n l) := fun W hW => HF2.out.below (HB.out.thru hW)
      have HFY : Hid (∀ W, Below wq.heap.size wq W → FCells W (some ⟨g2, 0, none⟩) n ys) := fun W hW => HO.out.fcells.below hW
      have HGY : Hid (g2 < wq.heap.size) := HO.out.lt.2
      have HWY : Hid (∀ x ∈ ys, W64 x) := (HPL.out ys HP.out).2
      clear HO HB HF2 HG2 HB2 HIC HPI
      have hex : ¬ ((k : Int) + 1 < (n' : Int)) ∨ ((k : Int) + 1 < (n' : Int) ∧ ¬ 0 < n) := by omega
      clear hkn
      rcases hex with hex | ⟨hex, hex2⟩
      all_goals
        have HR0 : Hid (Below wq.heap.size wq wq) := Below.refl _ _
        go_wp2_with fail
        (with_reducible refine (HSU.out _ _ _ l (HBW.out _ HR0.out) (List.Perm.refl _) (HFX.out _ HR0.out)).mono ?_)
        rintro e wr1 ⟨rfl, hb⟩
        have HR1 : Hid (Below wq.heap.size wq wr1) := HR0.out.thru hb
        clear hb
        go_wp2_with fail
        (with_reducible refine (HSU.out _ _ _ ys (HBW.out _ HR1.out) HP.out (HFY.out _ HR1.out)).mono ?_)
        rintro e wr2 ⟨rfl, hb⟩
        have HR2 : Hid (Below wq.heap.size wq wr2) := HR1.out.thru hb
        clear hb
        go_wp2_with fail
        (with_reducible refine (HME.out _ _ _ l (HBW.out _ HR2.out) (List.Perm.refl _) (HFX.out _ HR2.out)).mono ?_)
        rintro e wr3 ⟨rfl, hb⟩
        have HR3 : Hid (Below wq.heap.size wq wr3) := HR2.out.thru hb
        clear hb
        go_wp2_with fail
        (with_reducible refine (HME.out _ _ _ ys (HBW.out _ HR3.out) HP.out (HFY.out _ HR3.out)).mono ?_)
        rintro e wr4 ⟨rfl, hb⟩
        have HR4 : Hid (Below wq.heap.size wq wr4) := HR3.out.thru hb
        clear hb
        go_wp2_with fail
        (with_reducible refine (HTD.out A1 X1 _).mono ?_)
        rintro e w' ⟨rfl, rfl⟩
        go_wp2_with fail
        (with_reducible refine (HTD.out A2 X2 _).mono ?_)
        rintro e w' ⟨rfl, rfl⟩
        go_wp2_with fail
        (with_reducible refine (HVA.out _ _ _ l (HBW.out _ HR4.out) (List.Perm.refl _) (HFX.out _ HR4.out)).mono ?_)
        rintro e wr5 ⟨rfl, hb⟩
        have HR5 : Hid (Below wq.heap.size wq wr5) := HR4.out.thru hb
        clear hb
        go_wp2_with fail
        (with_reducible refine (HVA.out _ _ _ ys (HBW.out _ HR5.out) HP.out (HFY.out _ HR5.out)).mono ?_)
        rintro e wr6 ⟨rfl, hb⟩
        have HR6 : Hid (Below wq.heap.size wq wr6) := HR5.out.thru hb
        clear hb
        go_wp2_with fail
        (with_reducible refine (HSQ.out _ _ _ l (HBW.out _ HR6.out) (List.Perm.refl _) (HFX.out _ HR6.out)).mono ?_)
        rintro e wr7 ⟨rfl, hb⟩
        have HR7 : Hid (Below wq.heap.size wq wr7) := HR6.out.thru hb
        clear hb
        go_wp2_with fail
        (with_reducible refine (HSQ.out _ _ _ ys (HBW.out _ HR7.out) HP.out (HFY.out _ HR7.out)).mono ?_)
        rintro e wr8 ⟨rfl, hb⟩
        have HR8 : Hid (Below wq.heap.size wq wr8) := HR7.out.thru hb
        clear hb
        go_wp2_with fail
        (with_reducible refine (HTD.out A3 X3 _).mono ?_)
        rintro e w' ⟨rfl, rfl⟩
        go_wp2_with fail
        (with_reducible refine (HTD.out A4 X4 _).mono ?_)
        rintro e w' ⟨rfl, rfl⟩
        go_wp2_with fail
        (with_reducible refine (HPC.out _).mono ?_)
        rintro e w' ⟨rfl, rfl⟩
        clear hex
        try clear hex2
        clear HR0 HR1 HR2 HR3 HR4 HR5 HR6 HR7 HME HVA HSQ HPC
        go_wp2_with fail
        (with_reducible refine (HNE.out _).mono ?_)
        rintro e wa ⟨gf, rfl, hgf, hacc, hb⟩
        have HAa : Hid (AccT wa gf []) := hacc
        have HRa : Hid (Below wq.heap.size wq wa) := HR8.out.thru hb
        have HGF : Hid (wq.heap.size ≤ gf) := Nat.le_trans HR8.out.size hgf
        clear hgf hacc hb
        go_wp2_with fail
        (with_reducible refine (HNE.out _).mono ?_)
        rintro e wb ⟨gt, rfl, hgt, hacc, hb⟩
        have HAb : Hid (AccT wb gf []) := HAa.out.below hb
        have HTb : Hid (AccT wb gt []) := hacc
        have HRb : Hid (Below wq.heap.size wq wb) := HRa.out.thru hb
        have hlt := HAa.out.lt
        have HGT : Hid (wq.heap.size ≤ gt ∧ gf ≠ gt) := ⟨Nat.le_trans HRa.out.size hgt, by omega⟩
        have HNY : Hid (g2 ≠ gf ∧ g2 ≠ gt) := ⟨by have := HGY.out; have := HGF.out; omega, by have := HGY.out; have := HGT.out.1; omega⟩
        clear hgt hacc hb hlt HAa
        have htl : (ys.take at').length = at' := by rw [List.length_take, HLY.out]; exact Nat.min_eq_left HAT.out
        have HTK : Hid ((ys.take at').length = at') := htl
        have HAD1 : Hid (∀ cap, Calls Tryz.prog 25 #[.pointer (some ⟨gf, 0, none⟩), .slice (some ⟨g2, 0, none⟩) at' cap] wb fun e w' => e = .returned (.tuple #[]) ∧ AccT w' gf ([] ++ tmL (ys.take at')) ∧ But gf wb w') := fun cap => HADD.out _ gf g2 at' cap [] (ys.take at') HAb.out (by rw [List.nil_append, tmL_len, HTK.out]; exact HAT.out) ((HFY.out _ HRb.out).take HAT.out) HTK.out (fun x hx => HWY.out x (List.mem_of_mem_take hx)) ⟨fun t h => (by cases h), fun t h => (by cases h)⟩ HNY.out.1
        have a1 : (at' : Int) ≤ (n : Int) := by have := HAT.out; omega
        have a2 : (0 : Int) ≤ (at' : Int) := by omega
        have a3 : at' ≤ n := HAT.out
        have a4 : n ≤ cap := HCP.out
        have a5 : (at' : Int) ≤ (cap : Int) := by omega
        clear htl
        go_wp2_with fail
        (with_reducible refine (HAD1.out cap).mono ?_)
        rintro e wc ⟨rfl, hacc, hbut⟩
        have HAc : Hid (AccT wc gf (tmL (ys.take at'))) := by
          have h := hacc
          rwa [List.nil_append] at h
        have HTc : Hid (AccT wc gt []) := HTb.out.but (Ne.symm HGT.out.2) HAb.out.clear hbut
        have HRc : Hid (Below wq.heap.size wq wc) := hbut.over HRb.out HGF.out HRb.out.size
        clear hacc hbut HAD1 HAb HTb HNE HRa HRb HR8
        have HST : Hid (∀ j, at' ≤ j → j < n → tmL ((ys.take j).drop at') ++ tmL [ys.getD j 0] = tmL ((ys.take (j + 1)).drop at') ∧ ((ys.take (j + 1)).drop at').length ≤ n) := fun j h1 h2 => by
          have hj : j < ys.length := by rw [HLY.out]; exact h2
          refine ⟨?_, by rw [List.length_drop, List.length_take]; omega⟩
          rw [← tmL_app, List.take_succ_eq_append_getElem hj, List.drop_append_of_le_length (by rw [List.length_take]; omega)]
          simp [List.getD, hj]
        have HFS : Hid (∀ j, Five (tmL ((ys.take j).drop at')) ∧ Small (tmL ((ys.take j).drop at'))) := fun j => ⟨five_L _, small_L _⟩
        have HY64 : Hid (∀ j, j < n → W64 (ys.getD j 0)) := fun j h => by
          have hj : j < ys.length := by rw [HLY.out]; exact h
          have : ys.getD j 0 = ys[j] := by simp [List.getD, hj]
          rw [this]; exact HWY.out _ (List.getElem_mem _)
        have HTS : Hid (AccT wc gt (tmL ((ys.take at').drop at'))) := by
          have h := HTc.out
          have e : (ys.take at').drop at' = [] := List.drop_eq_nil_of_le (by rw [HTK.out]; exact Nat.le_refl _)
          show AccT _ _ _
          rw [e]; exact h
        clear HTc HTK
        go_wp2_with fail
        go_loopw [28] (fun i wv => ∃ j : Nat, (at' ≤ j ∧ j ≤ n) ∧ i = .int .i64 (j : Nat) ∧ (AccT wv gt (tmL ((ys.take j).drop at')) ∧ AccT wv gf (tmL (ys.take at'))) ∧ Below wq.heap.size wq wv) (fun i _ => n - (intOf i).toNat)
        case atStart => exact ⟨at', ⟨Nat.le_refl _, a3⟩, rfl, ⟨HTS.out, HAc.out⟩, HRc.out⟩
        case round =>
          obtain ⟨j, ⟨hja, hjn⟩, rfl, ⟨ht1, ht2⟩, hbk⟩ := hrel
          have HA : Hid (AccT wr gt (tmL ((ys.take j).drop at'))) := ht1
          have HAF : Hid (AccT wr gf (tmL (ys.take at'))) := ht2
          have HK : Hid (Below wq.heap.size wq wr) := hbk
          clear ht1 ht2 hbk HTS HAc HRc
          by_cases hjk : j < n
          · have hcf := (HFY.out wr HK.out) (by omega)
            obtain ⟨q, o, e, h2, h3⟩ := hcf
            simp only [Option.some.injEq, Addr.mk.injEq, and_true] at e
            obtain ⟨rfl, rfl⟩ := e
            have hck := h3 j hjk
            rw [Nat.zero_add] at hck
            obtain ⟨y, hy⟩ : ∃ y, y = ys.getD j 0 := ⟨_, rfl⟩
            have hst := HST.out j hja hjk
            have hyw := HY64.out j hjk
            rw [← hy] at hck hst hyw
            have HNX : Hid (tmL ((ys.take j).drop at') ++ tmL [y] = tmL ((ys.take (j + 1)).drop at')) := hst.1
            have hlen : (tmL ((ys.take j).drop at') ++ tmL [y]).length ≤ n := by rw [hst.1, tmL_len]; exact hst.2
            have hw3 : IntKind.i64.wrap ((j : Int) + 1) = ((j + 1 : Nat) : Int) := by rw [IntWalk.i64_in _ (by omega)]; omega
            have b1 : (j : Int) < (n : Int) := by omega
            have b2 : (0 : Int) ≤ (j : Int) := by omega
            have HAL : Hid (∀ o, Below wr.heap.size wr (wr.alloc o)) := fun o => (Below.refl _ _).alloc (Nat.le_refl _) o
            have hne : wr.heap.size ≠ gt := Nat.ne_of_gt HA.out.lt
            have hfs := HFS.out j
            have HAD : Hid (∀ W, AccT W gt (tmL ((ys.take j).drop at')) → wr.heap.size < W.heap.size → W.cell? ⟨wr.heap.size, 0, none⟩ = some (.float .f64 y) → Calls Tryz.prog 25 #[.pointer (some ⟨gt, 0, none⟩), .slice (some ⟨wr.heap.size, 0, none⟩) 1 1] W fun e w' => e = .returned (.tuple #[]) ∧ AccT w' gt (tmL ((ys.take j).drop at') ++ tmL [y]) ∧ But gt W w') := fun W hA hlt hc =>
              HADD.out W gt wr.heap.size 1 1 _ [y] hA hlen (fun _ => ⟨wr.heap.size, 0, rfl, hlt, fun k hk => by
                obtain rfl : k = 0 := by omega
                exact hc⟩) rfl (by simpa using hyw) hfs hne
            clear h2 h3 hy hst hyw hlen hne hfs
            go_wp2_with fail
            (with_reducible refine (HAD.out (wr.alloc (.cells #[.float .f64 y] 26)) (HA.out.below (HAL.out _)) (by simp) (cell_of_row _ _ 0 _ _ _ (heap_alloc_new _ _))).mono ?_)
            rintro e wd ⟨rfl, hacc, hbut⟩
            have HAd : Hid (AccT wd gt (tmL ((ys.take (j + 1)).drop at'))) := by
              show AccT _ _ _
              rw [← HNX.out]; exact hacc
            have HFd : Hid (AccT wd gf (tmL (ys.take at'))) := (HAF.out.below (HAL.out _)).but HGT.out.2 (HA.out.below (HAL.out _)).clear hbut
            have HKd : Hid (Below wq.heap.size wq wd) := hbut.over (HK.out.thru (HAL.out _)) HGT.out.1 (HK.out.thru (HAL.out _)).size
            clear hacc hbut
            go_wp2
            go_roundw
            case rel => exact ⟨j + 1, ⟨by omega, by omega⟩, by first | rfl | rw [hw3], ⟨HAd.out, HFd.out⟩, HKd.out⟩
            case measure => simp [intOf]; omega
          · have hjn' : j = n := by omega
            have htk : ys.take j = ys := by
              rw [hjn']
              have h : ys.take ys.length = ys := List.take_length
              rwa [HLY.out] at h
            have ha := HA.out
            rw [htk] at ha
            have HA2 : Hid (AccT wr gt (tmL (ys.drop at'))) := ha
            have b3 : ¬ (j : Int) < (n : Int) := by omega
            clear ha htk hjk hjn hja HA HST HFS HY64
            go_wp2_with fail
            (with_reducible refine (HJN.out _ gt gf ys at' HA2.out HAF.out HGT.out.2 HP.out).mono ?_)
            rintro e we ⟨rfl, hacc, hbut⟩
            have HAe : Hid (AccT we gt (tmL (ys.drop at' ++ ys.take at'))) := hacc
            have HKe : Hid (Below wq.heap.size wq we) := hbut.over HK.out HGT.out.1 HK.out.size
            clear hacc hbut
            go_wp2_with fail
            (with_reducible refine (HSU.out _ _ _ l (HBW.out _ HKe.out) (List.Perm.refl _) (HFX.out _ HKe.out)).mono ?_)
            rintro e wf ⟨rfl, hb⟩
            have HAf : Hid (AccT wf gt (tmL (ys.drop at' ++ ys.take at'))) := HAe.out.below hb
            have HKf : Hid (Below wq.heap.size wq wf) := HKe.out.thru hb
            clear hb
            by_cases h6 : n ≤ 65536
            · have h6' : ¬ (65536 : Int) < (n : Int) := by omega
              go_wp2_with fail
              (with_reducible refine (HTC.out _ gt ys at' (HBW.out _ HKf.out) HAf.out HP.out h6).mono ?_)
              rintro e wg ⟨rfl, hb⟩
              have HAg : Hid (AccT wg gt (tmL (ys.drop at' ++ ys.take at'))) := HAf.out.below hb
              have HKg : Hid (Below wq.heap.size wq wg) := HKf.out.thru hb
              clear hb
              go_wp2_with fail
              (with_reducible refine (HTD.out A1 X1 _).mono ?_)
              rintro e w' ⟨rfl, rfl⟩
              go_wp2_with fail
              (with_reducible refine (HCN.out _ gt ys at' HAg.out HP.out).mono ?_)
              rintro e w' ⟨rfl, rfl⟩
              go_wp2
              go_ret
              exact ⟨rfl, HBW.out _ HKg.out⟩
            · have h6' : (65536 : Int) < (n : Int) := by omega
              go_wp2_with fail
              (with_reducible refine (HTL.out _ gt ys at' (HBW.out _ HKf.out) HAf.out HP.out).mono ?_)
              rintro e wg ⟨⟨A9, X9, rfl⟩, hb⟩
              have HKg : Hid (Below wq.heap.size wq wg) := HKf.out.thru hb
              clear hb
              go_wp2
              go_ret
              exact ⟨rfl, HBW.out _ HKg.out⟩
end Go.Proofs.YtlffojopfilfeaaGreatDoor
