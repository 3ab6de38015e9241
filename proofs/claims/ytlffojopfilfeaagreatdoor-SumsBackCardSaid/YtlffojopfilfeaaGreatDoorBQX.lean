/- Parts Qc, Qd, Qe of the proof, in one text. -/
import Derived.Test.YtlffojopfilfeaaGreatDoorBQZ
import Derived.Test.YtlffojopfilfeaaGreatDoorBOA
import Derived.Test.YtlffojopfilfeaaGreatDoorBOV

/- Walks: rows of floats that a law makes; the law SumsLong. -/
namespace Go.Proofs.YtlffojopfilfeaaGreatDoor
open Go Go.RowKit

theorem Tryz.infoF8 : (Tryz.prog.info? 26).map (fun i => (i.zero, i.size, i.bytes)) = some (some (.float .f64 0), 1, 8) := by kernel_rfl
/-- A row of floats that fills its block. -/
def FOwn (w : World) (g L : Nat) (ys : List Nat) : Prop := w.ownsRow g 26 1 (.slice (some ⟨g, 0, none⟩) L L) L (ys.map (Value.float .f64))
theorem FOwn.len {w : World} {g L : Nat} {ys : List Nat} (h : FOwn w g L ys) : ys.length = L := by simpa using h.1
theorem FOwn.made {w : World} {g L : Nat} (h : w.ownsRow g 26 1 (.slice (some ⟨g, 0, none⟩) L L) L (madeCells (Value.float .f64 0).cells (L * 1)).toList) : FOwn w g L (List.replicate L 0) := by
  have e1 : (madeCells (Value.float .f64 0).cells (L * 1)).toList = (List.replicate L 0).map (Value.float .f64) := by
    apply List.ext_getElem
    · simp [madeCells]
    · intro i h1 h2
      simp [madeCells, Value.cells, Nat.mod_one]
  unfold FOwn
  rwa [e1] at h
theorem FOwn.cell {w : World} {g L : Nat} {ys : List Nat} (h : FOwn w g L ys) {j : Nat} (hj : j < L) : w.cell? ⟨g, j, none⟩ = some (.float .f64 (ys.getD j 0)) := by
  have hl := h.len
  rw [World.ownsRow.cellAt h j (by omega)]
  simp [List.getElem?_eq_getElem (show j < ys.length by omega)]
theorem FOwn.frozen {w : World} {g L : Nat} {ys : List Nat} (h : FOwn w g L ys) (j : Nat) : w.frozen? ⟨g, j, none⟩ = false := World.ownsRow.frozenAt h j
theorem FOwn.set {w : World} {g L : Nat} {ys : List Nat} (h : FOwn w g L ys) (j v : Nat) : FOwn (w.setCell ⟨g, j, none⟩ (.float .f64 v)) g L (ys.set j v) := by
  have := (World.ownsRow.stored h j (.float .f64 v)).1
  unfold FOwn
  rwa [List.map_set]
theorem FOwn.lt {w : World} {g L : Nat} {ys : List Nat} (h : FOwn w g L ys) : g < w.heap.size := (World.ownsRow.lt h g rfl).2
theorem FOwn.fcells {w : World} {g L : Nat} {ys : List Nat} (h : FOwn w g L ys) : FCells w (some ⟨g, 0, none⟩) L ys := fun _ => ⟨g, 0, rfl, h.lt, fun k hk => by rw [Nat.zero_add]; exact h.cell hk⟩
@[go_sem] theorem run_store_float {P : Program} {w : World} {a : Addr} {m : Mode} (k : FloatKind) (b : Nat) : (store a (.float k b) m).run P w = stored P w a (.float k b) m := run_store P w a _ m rfl
end Go.Proofs.YtlffojopfilfeaaGreatDoor

/- Walks: lent and kept of the law's lists. -/
namespace Go.Proofs.YtlffojopfilfeaaGreatDoor
open Go Go.RowKit

/-- The floats of a list, as cells. -/
def dbs (l : List Nat) : List Value := l.map (Value.float .f64)
theorem dbs_next {l : List Nat} {k : Nat} (h : k < l.length) : dbs (l.take k) ++ [.float .f64 (l.getD k 0)] = dbs (l.take (k + 1)) := by
  unfold dbs
  rw [List.take_succ_eq_append_getElem h, List.map_append]
  simp [List.getD, h]
set_option maxHeartbeats 4000000 in
set_option maxRecDepth 100000 in
theorem lent_v {a : Option Addr} {n c : Nat} {l : List Nat} (w : World) (hn : l.length = n) (hmax : n * 8 ≤ 140737488351232) (hl : ∀ x ∈ l, W64 x) (hcell : UCells w a n l) :
    Calls Tryz.prog 9 #[.slice a n c] w fun e w' => (∃ g, (e = .returned (.slice (some ⟨g, 0, none⟩) n (n + 1 : Nat)) ∧ w.heap.size ≤ g) ∧ FOwn w' g (n + 1) (l ++ [4619567317775286272])) ∧ Below w.heap.size w w' := by
  have HL : Hid (∀ x ∈ l, W64 x) := hl
  have HCELL : Hid (UCells w a n l) := hcell
  have HNX : Hid (∀ k, k < n → dbs (l.take k) ++ [.float .f64 (l.getD k 0)] = dbs (l.take (k + 1))) := fun k hk => dbs_next (by omega)
  obtain ⟨i0, hi, hz0, hz1, hz2⟩ := info_parts Tryz.infoF8
  have hw0 : IntKind.i64.wrap ((n : Int) + 1) = ((n + 1 : Nat) : Int) := by rw [IntWalk.i64_in _ (by omega)]; omega
  clear hl hcell
  go_enter Tryz.func9, Tryz.ntmps9
  go_wp2_with (at_make; refine wpList_make_own _ rfl _ _ 24 rfl w.heap.size 26 i0 (.float .f64 0) 1 Tryz.underlying24 hi hz0 hz1 .i64 .i64 _ (n + 1) rfl rfl (by first | rfl | exact hw0 | omega) (by rw [hz2]; omega) (by unfold maxLen; omega) (Nat.le_refl _) ?_; intro w1 hown hgrow; have HO1 : Hid (w1.ownsRow w.heap.size 26 1 (.slice (some ⟨w.heap.size, 0, none⟩) 0 (n + 1 : Nat)) 0 []) := hown; have HB1 : Hid (Below w.heap.size w w1) := (Below.refl _ w).grown hgrow (Nat.le_refl _) (by simp); clear hown hgrow)
  obtain ⟨g, hg⟩ : ∃ g, g = w.heap.size := ⟨_, rfl⟩
  rw [← hg] at HO1 ⊢
  have HG : Hid (w.heap.size = g) := hg.symm
  clear hg
  go_loopw [3, 4] (fun v i wr => ∃ k : Nat, k ≤ n ∧ (i = .int .i64 (k : Nat) ∧ v = .slice (some ⟨g, 0, none⟩) k (n + 1 : Nat)) ∧ wr.ownsRow g 26 1 (.slice (some ⟨g, 0, none⟩) k (n + 1 : Nat)) k (dbs (l.take k)) ∧ Below w.heap.size w wr) (fun _ i _ => n - (intOf i).toNat)
  case atStart => exact ⟨0, Nat.zero_le _, ⟨rfl, rfl⟩, HO1.out, HB1.out⟩
  case round =>
    obtain ⟨k, hk, ⟨rfl, rfl⟩, hown, hbk⟩ := hrel
    have HOW : Hid (wr.ownsRow g 26 1 (.slice (some ⟨g, 0, none⟩) k (n + 1 : Nat)) k (dbs (l.take k))) := hown
    have HBK : Hid (Below w.heap.size w wr) := hbk
    by_cases hkn : k < n
    · obtain ⟨b, o, rfl, hb, hcc⟩ := HCELL.out (by omega)
      obtain ⟨x, hx⟩ : ∃ x, x = l.getD k 0 := ⟨_, rfl⟩
      have hck := (hbk.cell (p := ⟨b, o + k, none⟩) hb).trans (hcc k hkn)
      rw [← hx] at hck
      have hnx := HNX.out k hkn
      rw [← hx] at hnx
      have HN1 : Hid (dbs (l.take k) ++ [.float .f64 x] = dbs (l.take (k + 1))) := hnx
      have hw1 : IntKind.i64.wrap ((k : Int) + 1) = ((k + 1 : Nat) : Int) := by rw [IntWalk.i64_in _ (by omega)]; omega
      clear hcc hown hbk hx hnx
      go_wp2_with (at_builtin; (refine wpList_append_fits _ rfl _ _ 24 rfl g 26 i0 1 Tryz.underlying24 hi hz1 g k (n + 1) (dbs (l.take k)) rfl (World.ownsRow.alloc HOW.out _) ⟨wr.heap.size, 0, none⟩ 1 1 [.float .f64 x] rfl rfl (by intro j z hj; match j with | 0 => (obtain rfl : z = .float .f64 x := by simpa using hj.symm); exact cell_of_row _ _ _ _ _ _ (heap_alloc_new _ _) | j + 1 => simp at hj) (by intro z hz; simp at hz; subst hz; rfl) (by omega) ?_; intro w2 hown' hgrow; have HOW2 : Hid (w2.ownsRow g 26 1 (.slice (some ⟨g, 0, none⟩) (k + 1 : Nat) (n + 1 : Nat)) (k + 1) (dbs (l.take (k + 1)))) := (by rw [← HN1.out]; exact hown'); have HB2 : Hid (Below w.heap.size w w2) := (HBK.out.alloc HBK.out.size _).grown hgrow (by have := HBK.out.size; simp at this ⊢; omega) (fun q hq => by obtain rfl : g = q := (by simpa using hq); exact Nat.le_of_eq HG.out); clear hown' hgrow))
      go_roundw
      case rel => exact ⟨k + 1, by omega, ⟨by first | rfl | rw [hw1], rfl⟩, HOW2.out, HB2.out⟩
      case measure => simp [intOf]; omega
    · obtain rfl : k = n := by omega
      have HTK : Hid (dbs (l.take k) ++ [.float .f64 4619567317775286272] = (l ++ [4619567317775286272]).map (Value.float .f64)) := by
        have h : l.take l.length = l := List.take_length
        rw [hn] at h
        show _ = _
        rw [h]; unfold dbs; simp
      have hg1 : ¬ ((k : Int) + 1 = 0) := by omega
      have hg2 : ¬ (k + 1 = 0) := by omega
      clear hown hbk hk hkn
      go_wp2_with (at_builtin; (refine wpList_append_fits _ rfl _ _ 24 rfl g 26 i0 1 Tryz.underlying24 hi hz1 g k (k + 1) (dbs (l.take k)) rfl (World.ownsRow.alloc HOW.out _) ⟨wr.heap.size, 0, none⟩ 1 1 [.float .f64 4619567317775286272] rfl rfl (by intro j z hj; match j with | 0 => (obtain rfl : z = .float .f64 4619567317775286272 := by simpa using hj.symm); exact cell_of_row _ _ _ _ _ _ (heap_alloc_new _ _) | j + 1 => simp at hj) (by intro z hz; simp at hz; subst hz; rfl) (by omega) ?_; intro w2 hown' hgrow; have HOW2 : Hid (FOwn w2 g (k + 1) (l ++ [4619567317775286272])) := (by unfold FOwn; rw [← HTK.out]; exact hown'); have HB2 : Hid (Below w.heap.size w w2) := (HBK.out.alloc HBK.out.size _).grown hgrow (by have := HBK.out.size; simp at this ⊢; omega) (fun q hq => by obtain rfl : g = q := (by simpa using hq); exact Nat.le_of_eq HG.out); clear hown' hgrow))
      go_ret
      exact ⟨⟨g, ⟨rfl, Nat.le_of_eq HG.out⟩, HOW2.out⟩, HB2.out⟩
end Go.Proofs.YtlffojopfilfeaaGreatDoor

/- Walks: the law SumsBack. -/
namespace Go.Proofs.YtlffojopfilfeaaGreatDoor
open Go Go.RowKit

theorem dt_ones (l : List Nat) : dtB l (List.replicate l.length 4607182418800017408) = lsB l ∧ dtX l (List.replicate l.length 4607182418800017408) = lsX l := by
  unfold dtB dtX lsB lsX
  rw [List.length_replicate, dot_ones]
  by_cases h : 65536 < l.length
  · simp [h]
  · simp [h]
theorem sub_self_fin {x : Nat} (hf : finB x = true) : ∃ s, Go.floatBits .sub .f64 x x = some s ∧ (FloatKind.f64.format.order s 0 == some Ordering.eq) = true := by
  obtain ⟨R, g1, g2⟩ := sub_fin Ieee.double (by decide) x x ((fin_D x).2 hf) ((fin_D x).2 hf)
  rw [Int.sub_self] at g1 g2
  have hR : R = 0 := Near.uniq (by decide) g2 (Near.exact 52 0 1 (by decide))
  rw [hR, if_pos rfl] at g1
  refine ⟨_, g1, ?_⟩
  cases sgn Ieee.double x <;> kernel_rfl
theorem sub_self_bad {x : Nat} (hx : W64 x) (hf : finB x = false) : Go.floatBits .sub .f64 x x = none := by
  have e0 : Go.floatBits .sub .f64 x x = ((Ieee.double.read x).sum (Ieee.double.read x).opposite).map Ieee.double.write := rfl
  rcases kindD x with ⟨n1, -, -⟩ | ⟨i1, -, -, -⟩ | ⟨-, -, f1⟩
  · obtain ⟨s, t, hr⟩ := read_nanD n1
    rw [e0, hr]; rfl
  · rw [e0, read_infD hx i1]
    cases sgnB x <;> rfl
  · rw [f1] at hf; cases hf
theorem run_sub_nan {a b : Nat} (h : Go.floatBits .sub .f64 a b = none) (t : TypeId) (w : World) : ∃ v, (binOp .sub t (.float .f64 a) (.float .f64 b)).run Tryz.prog w = .ok (.float .f64 v) w.drew ∧ nanB v = true := by
  refine ⟨(Question.nanBits .f64 a b).cut (w.tape w.drawn (.nanBits .f64 a b)), ?_, ?_⟩
  · unfold Go.floatBits at h
    simp only at h
    simp [binOp, Op.floatArith, h, Question.forced]
  · unfold nanB absB
    simp only [Question.cut]
    generalize w.tape w.drawn (.nanBits .f64 a b) = t
    refine decide_eq_true ?_
    rcases Nat.mod_two_eq_zero_or_one t with h | h <;> rw [h] <;> omega
theorem FCells.but {w w' : World} {g g' n : Nat} {l : List Nat} (h : FCells w (some ⟨g, 0, none⟩) n l) (hne : g ≠ g') (hb : But g' w w') : FCells w' (some ⟨g, 0, none⟩) n l := fun hn => by
  obtain ⟨b, o, e, h2, h3⟩ := h hn
  obtain ⟨rfl, rfl⟩ : g = b ∧ 0 = o := by simpa using e
  exact ⟨g, 0, rfl, Nat.lt_of_lt_of_le h2 hb.size, fun k hk => (hb.cell (p := ⟨g, 0 + k, none⟩) h2 hne).trans (h3 k hk)⟩
theorem FOwn.below {w w' : World} {g n : Nat} {l : List Nat} (h : FOwn w g n l) (hb : Below w.heap.size w w') : FOwn w' g n l := by
  obtain ⟨h1, h2⟩ := h
  refine ⟨h1, ?_⟩
  rcases h2 with h2 | ⟨g', c, cur, e, h3, h4, h5⟩
  · exact .inl h2
  · exact .inr ⟨g', c, cur, e, h3, hb.blk h4 (blk_lt h4), h5⟩
theorem FOwn.lent {w : World} {g n : Nat} {l ys : List Nat} (h : FOwn w g (n + 1) (l ++ ys)) (hn : l.length = n) : FCells w (some ⟨g, 0, none⟩) n l := fun _ => ⟨g, 0, rfl, h.lt, fun k hk => by
  rw [Nat.zero_add, h.cell (by omega)]
  simp [List.getD, List.getElem?_append_left (show k < l.length by omega)]⟩
theorem own_fcells {w : World} {base n : Nat} {v : Value} {l : List Nat} (h : w.ownsRow base 26 1 v n (dbs l)) : ∃ ao c, v = .slice ao n c ∧ FCells w ao n l := by
  have hl : (dbs l).length = n := by have := h.1; rwa [Nat.mul_one] at this
  have hl : l.length = n := by unfold dbs at hl; simpa using hl
  obtain ⟨-, h2⟩ := id h
  rcases h2 with ⟨rfl, rfl⟩ | ⟨g, c, cur, rfl, h3, h4, h5, h6, -⟩
  · exact ⟨none, 0, rfl, fun h => absurd h (by decide)⟩
  · refine ⟨some ⟨g, 0, none⟩, c, rfl, fun _ => ⟨g, 0, rfl, blk_lt h4, fun k hk => ?_⟩⟩
    rw [Nat.zero_add, World.ownsRow.cellAt h k (by omega)]
    unfold dbs
    simp [List.getD, show k < l.length by omega]
theorem tmL_snoc (l : List Nat) (b : Nat) : tmL (l ++ [b]) = tmL l ++ [tmS b] := by unfold tmL; simp
theorem getD_map_opp {l : List Nat} {k : Nat} (h : k < l.length) : dbs (l ++ (l.take k).map oppB) ++ [.float .f64 (oppB (l.getD k 0))] = dbs (l ++ (l.take (k + 1)).map oppB) := by
  unfold dbs
  rw [List.take_succ_eq_append_getElem h, List.map_append, List.map_append, List.map_append, List.map_append]
  simp [List.getD, h]
set_option maxHeartbeats 8000000 in
set_option maxRecDepth 100000 in
theorem sumsBack_walk {a : Option Addr} {n c : Nat} {l : List Nat} (b : Nat) (w : World) (hn : l.length = n) (hmax : n * 8 ≤ 140737488351232) (hl : ∀ x ∈ l, W64 x) (hcell : UCells w a n l) (hb : W64 b) (htab : Tab w) (htw : TabW w) :
    Calls Tryz.prog 5 #[.slice a n c, .int .u64 (b : Nat)] w fun e w' => e = .returned (.bool true) ∧ Below w.heap.size w w' := by
  have HW : Hid (Calls Tryz.prog 8 #[] w fun e w' => e = .returned (.bool true) ∧ Below w.heap.size w w') := awake8_v w htab htw
  have HNE : Hid (∀ W, Calls Tryz.prog 24 #[] W fun e w' => ∃ g, e = .returned (.pointer (some ⟨g, 0, none⟩)) ∧ W.heap.size ≤ g ∧ AccT w' g [] ∧ Below W.heap.size W w') := fun W => new8_v W
  have HLE : Hid (∀ W, Below w.heap.size w W → Calls Tryz.prog 9 #[.slice a n c] W fun e w' => (∃ g, (e = .returned (.slice (some ⟨g, 0, none⟩) n (n + 1 : Nat)) ∧ W.heap.size ≤ g) ∧ FOwn w' g (n + 1) (l ++ [4619567317775286272])) ∧ Below W.heap.size W w') := fun W hW => lent_v W hn hmax hl (hcell.below hW)
  have HT : Hid (∀ W, Below w.heap.size w W → Tab W ∧ TabW W) := fun W hW => ⟨htab.below hW, htw.below hW⟩
  have hlb : ∀ x ∈ l ++ [b], W64 x := fun x hx => by
    rcases List.mem_append.1 hx with h | h
    · exact hl x h
    · rw [List.mem_singleton.1 h]; exact hb
  have hf1 : Fit (tmL l) := fit_L (by omega)
  have hf2 : Fit (tmL l ++ [tmS b]) := by rw [← tmL_snoc]; exact fit_L (by simp; omega)
  have HADD : Hid (∀ W ga g cap, AccT W ga [] → FCells W (some ⟨g, 0, none⟩) n l → g ≠ ga → Calls Tryz.prog 25 #[.pointer (some ⟨ga, 0, none⟩), .slice (some ⟨g, 0, none⟩) n cap] W fun e w' => e = .returned (.tuple #[]) ∧ AccT w' ga (tmL l) ∧ But ga W w') := fun W ga g cap hA hF hne => by
    have := add8_v (g := ga) (T := []) (a := some ⟨g, 0, none⟩) (n := n) (cap := cap) (l := l) W hA hf1 hn hl (fun h => by
      obtain ⟨q, o, e, h2, h3⟩ := hF h
      obtain ⟨rfl, rfl⟩ : g = q ∧ 0 = o := by simpa using e
      exact ⟨g, 0, rfl, h2, hne, h3⟩)
    rwa [List.nil_append] at this
  have HAD1 : Hid (∀ W ga g, AccT W ga (tmL l) → g < W.heap.size → g ≠ ga → W.cell? ⟨g, 0, none⟩ = some (.float .f64 b) → Calls Tryz.prog 25 #[.pointer (some ⟨ga, 0, none⟩), .slice (some ⟨g, 0, none⟩) 1 1] W fun e w' => e = .returned (.tuple #[]) ∧ AccT w' ga (tmL l ++ [tmS b]) ∧ But ga W w') := fun W ga g hA hg hne hc => by
    have hcc : ∀ k, k < 1 → W.cell? ⟨g, 0 + k, none⟩ = some (.float .f64 ([b].getD k 0)) := by
      intro k hk
      obtain rfl : k = 0 := by omega
      exact hc
    exact add8_v (g := ga) (T := tmL l) (a := some ⟨g, 0, none⟩) (n := 1) (cap := 1) (l := [b]) W hA hf2 rfl (by simpa using hb) (fun _ => ⟨g, 0, rfl, hg, hne, hcc⟩)
  have HTK : Hid (∀ W ga, AccT W ga (tmL l ++ [tmS b]) → Calls Tryz.prog 27 #[.pointer (some ⟨ga, 0, none⟩), .float .f64 b] W fun e w' => e = .returned (.int .i64 0) ∧ AccT w' ga (tmL l) ∧ But ga W w') := fun W ga hA => take8_v W hA hf2 hb
  obtain ⟨A0, hA0⟩ : ∃ z, z = ansB (cntT (tmL l)) (sumT (tmL l)) 1 := ⟨_, rfl⟩
  obtain ⟨X0, hX0⟩ : ∃ z, z = ansX (cntT (tmL l)) (sumT (tmL l)) 1 := ⟨_, rfl⟩
  obtain ⟨A1, hA1⟩ : ∃ z, z = lsB l := ⟨_, rfl⟩
  obtain ⟨X1, hX1⟩ : ∃ z, z = lsX l := ⟨_, rfl⟩
  have HTO : Hid (∀ W ga, Below w.heap.size w W → AccT W ga (tmL l) → Calls Tryz.prog 26 #[.pointer (some ⟨ga, 0, none⟩)] W fun e w' => e = .returned (.tuple #[.float .f64 A0, .int .i64 X0]) ∧ Below W.heap.size W w') := fun W ga hW hA => by
    rw [hA0, hX0]; exact total8_v W hA hf1 (HT.out W hW).1 (HT.out W hW).2
  have HCN : Hid (∀ W ga, AccT W ga (tmL l) → Calls Tryz.prog 28 #[.pointer (some ⟨ga, 0, none⟩)] W fun e w' => e = .returned (.int .i64 (n : Nat)) ∧ W = w') := fun W ga hA => by
    have := count8_v W hA hf1
    rwa [tmL_len, hn] at this
  have HSU : Hid (∀ W a c, Below w.heap.size w W → FCells W a n l → Calls Tryz.prog 10 #[.slice a n c] W fun e w' => e = .returned (.tuple #[.float .f64 A1, .int .i64 X1]) ∧ Below W.heap.size W w') := fun W a c hW hc => by
    rw [hA1, hX1]; exact sum8_v W hn (by omega) hl hc (HT.out W hW).1 (HT.out W hW).2
  have HDO : Hid (∀ W a c g ys, Below w.heap.size w W → FCells W a n l → FCells W (some ⟨g, 0, none⟩) n ys → ys.length = n → (∀ j, j < n → ys.getD j 0 = 4607182418800017408) → Calls Tryz.prog 13 #[.slice a n c, .slice (some ⟨g, 0, none⟩) n n] W fun e w' => e = .returned (.tuple #[.float .f64 A1, .int .i64 X1]) ∧ Below W.heap.size W w') := fun W a c g ys hW hc hc2 hy1 hy2 => by
    have hys : ys = List.replicate l.length 4607182418800017408 := by
      refine List.ext_getElem (by simp [hy1, hn]) fun i hi hj => ?_
      have := hy2 i (by omega)
      simp only [List.getElem_replicate]
      simpa [List.getD, hi] using this
    have hd := dt_ones l
    rw [← hys] at hd
    rw [hA1, hX1, ← hd.1, ← hd.2]
    exact dot8_v W hn hy1 (by omega) (by omega) hl (fun y hy => by rw [hys] at hy; rw [List.eq_of_mem_replicate hy]; unfold W64; decide) hc hc2 (HT.out W hW).1 (HT.out W hW).2
  have HT0 : Hid (∀ W, Calls Tryz.prog 12 #[.float .f64 A0, .int .i64 X0, .int .u64 (A0 : Nat), .int .i64 X0] W fun e w' => e = .returned (.bool true) ∧ W = w') := fun W => told8_v A0 A0 X0 X0 W rfl rfl
  have HT1 : Hid (∀ W, Calls Tryz.prog 12 #[.float .f64 A1, .int .i64 X1, .int .u64 (A1 : Nat), .int .i64 X1] W fun e w' => e = .returned (.bool true) ∧ W = w') := fun W => told8_v A1 A1 X1 X1 W rfl rfl
  have HBO : Hid (∀ W v B, Below w.heap.size w W → n ≤ 32768 → allF l → W.ownsRow B 26 1 v (n + n) (dbs (l ++ l.map oppB)) → ∃ ao cc, v = .slice ao (n + n) cc ∧ Calls Tryz.prog 10 #[.slice ao (n + n) cc] W fun e w' => e = .returned (.tuple #[.float .f64 0, .int .i64 0]) ∧ Below W.heap.size W w') := fun W v B hW h32 hall hown => by
    obtain ⟨ao, cc, rfl, hF⟩ := own_fcells hown
    refine ⟨ao, cc, rfl, ?_⟩
    have hb := both_ans hl hall (by omega)
    rw [← hb.1, ← hb.2]
    exact sum8_v W (by simp; omega) (by omega) (fun x hx => by
      rcases List.mem_append.1 hx with h | h
      · exact hl x h
      · obtain ⟨y, hy, rfl⟩ := List.mem_map.1 h
        exact opp_W (hl y hy)) hF (HT.out W hW).1 (HT.out W hW).2
  have HIS : Hid (∀ W, Calls Tryz.prog 23 #[.float .f64 0, .int .u64 0] W fun e w' => e = .returned (.bool true) ∧ W = w') := fun W => by
    have := is8_v 0 0 W
    rwa [decide_eq_true rfl] at this
  have HFIN : Hid (∀ k, k < n → W64 (l.getD k 0)) := fun k hk => by
    have : l.getD k 0 = l[k]'(by omega) := by simp [List.getD, show k < l.length by omega]
    rw [this]; exact hl _ (List.getElem_mem _)
  have HALL : Hid ((∀ j, j < n → finB (l.getD j 0) = true) → allF l) := fun h x hx => by
    obtain ⟨i, hi, rfl⟩ := List.getElem_of_mem hx
    have := h i (by omega)
    simpa [List.getD, hi] using this
  have HNX : Hid (∀ k, k < n → dbs (l ++ (l.take k).map oppB) ++ [.float .f64 (oppB (l.getD k 0))] = dbs (l ++ (l.take (k + 1)).map oppB)) := fun k hk => getD_map_opp (by omega)
  have HLN : Hid (l.length = n) := hn
  obtain ⟨i0, hi, hz0, hz1, hz2⟩ := info_parts Tryz.infoF8
  clear hn hl hcell hb htab htw hlb hf1 hf2 hA0 hX0 hA1 hX1
  go_enter Tryz.func5, Tryz.ntmps5
  go_wp2_with fail
  (with_reducible refine Calls.mono HW.out ?_)
  rintro e w1 ⟨rfl, hb1⟩
  have HB1 : Hid (Below w.heap.size w w1) := hb1
  clear hb1
  go_wp2_with fail
  (with_reducible refine (HNE.out _).mono ?_)
  rintro e w2 ⟨ga, rfl, hga, hacc, hb2⟩
  have HA2 : Hid (AccT w2 ga []) := hacc
  have HB2 : Hid (Below w.heap.size w w2) := HB1.out.thru hb2
  have HG : Hid (w.heap.size ≤ ga) := Nat.le_trans HB1.out.size hga
  clear hga hacc hb2
  go_wp2_with fail
  (with_reducible refine (HLE.out _ HB2.out).mono ?_)
  rintro e w3 ⟨⟨g, ⟨rfl, hg⟩, hf⟩, hb3⟩
  have hne : g ≠ ga := by have := HA2.out.lt; omega
  have HNEQ : Hid (g ≠ ga) := hne
  have HG3 : Hid (w.heap.size ≤ g) := Nat.le_trans HB2.out.size hg
  have HA3 : Hid (AccT w3 ga []) := HA2.out.below hb3
  have HF3 : Hid (FCells w3 (some ⟨g, 0, none⟩) n l) := hf.lent HLN.out
  have HB3 : Hid (Below w.heap.size w w3) := HB2.out.thru hb3
  clear hg hf hb3 hne
  go_wp2_with fail
  (with_reducible refine (HADD.out _ _ _ _ HA3.out HF3.out HNEQ.out).mono ?_)
  rintro e w4 ⟨rfl, hacc, hbut⟩
  have HA4 : Hid (AccT w4 ga (tmL l)) := hacc
  have HF4 : Hid (FCells w4 (some ⟨g, 0, none⟩) n l) := HF3.out.but HNEQ.out hbut
  have HB4 : Hid (Below w.heap.size w w4) := hbut.over HB3.out HG.out HB3.out.size
  clear hacc hbut
  go_wp2_with fail
  (with_reducible refine (HTO.out _ _ HB4.out HA4.out).mono ?_)
  rintro e w5 ⟨rfl, hb5⟩
  have HA5 : Hid (AccT w5 ga (tmL l)) := HA4.out.below hb5
  have HF5 : Hid (FCells w5 (some ⟨g, 0, none⟩) n l) := HF4.out.below hb5
  have HB5 : Hid (Below w.heap.size w w5) := HB4.out.thru hb5
  clear hb5
  go_wp2_with fail
  have hsz5 : w5.heap.size ≠ ga := Nat.ne_of_gt HA5.out.lt
  have HAL : Hid (∀ o, Below w5.heap.size w5 (w5.alloc o)) := fun o => (Below.refl _ _).alloc (Nat.le_refl _) o
  (with_reducible refine (HAD1.out _ ga w5.heap.size (HA5.out.below (HAL.out _)) (by simp) hsz5 (cell_of_row _ _ 0 _ _ _ (heap_alloc_new _ _))).mono ?_)
  rintro e w6 ⟨rfl, hacc, hbut⟩
  have HA6 : Hid (AccT w6 ga (tmL l ++ [tmS b])) := hacc
  have HF6 : Hid (FCells w6 (some ⟨g, 0, none⟩) n l) := (HF5.out.below (HAL.out _)).but HNEQ.out hbut
  have HB6 : Hid (Below w.heap.size w w6) := hbut.over (HB5.out.thru (HAL.out _)) HG.out (HB5.out.thru (HAL.out _)).size
  clear hacc hbut hsz5
  go_wp2_with fail
  (with_reducible refine (HTK.out _ _ HA6.out).mono ?_)
  rintro e w7 ⟨rfl, hacc, hbut⟩
  have HA7 : Hid (AccT w7 ga (tmL l)) := hacc
  have HF7 : Hid (FCells w7 (some ⟨g, 0, none⟩) n l) := HF6.out.but HNEQ.out hbut
  have HB7 : Hid (Below w.heap.size w w7) := hbut.over HB6.out HG.out HB6.out.size
  clear hacc hbut
  go_wp2_with fail
  (with_reducible refine (HTO.out _ _ HB7.out HA7.out).mono ?_)
  rintro e w8 ⟨rfl, hb8⟩
  have HA8 : Hid (AccT w8 ga (tmL l)) := HA7.out.below hb8
  have HF8 : Hid (FCells w8 (some ⟨g, 0, none⟩) n l) := HF7.out.below hb8
  have HB8 : Hid (Below w.heap.size w w8) := HB7.out.thru hb8
  clear hb8
  go_wp2_with fail
  (with_reducible refine (HCN.out _ _ HA8.out).mono ?_)
  rintro e w' ⟨rfl, rfl⟩
  go_wp2_with fail
  (with_reducible refine (HT0.out _).mono ?_)
  rintro e w' ⟨rfl, rfl⟩
  go_wp2_with (at_make; refine wpList_make_full _ rfl _ _ 24 rfl w8.heap.size 26 i0 (.float .f64 0) 1 Tryz.underlying24 hi hz0 hz1 .i64 .i64 _ _ n rfl rfl (by omega) (by omega) (by rw [hz2]; omega) (by unfold maxLen; omega) (by simp) ?_; intro w9 hown hgrow; have HO9 : Hid (FOwn w9 w8.heap.size n (List.replicate n 0)) := FOwn.made hown; have HB9 : Hid (Below w8.heap.size w8 w9) := (Below.refl _ w8).grown hgrow (Nat.le_refl _) (by simp); clear hown hgrow)
  obtain ⟨g2, hg2⟩ : ∃ g, g = w8.heap.size := ⟨_, rfl⟩
  rw [← hg2] at HO9 ⊢
  have HG2 : Hid (w8.heap.size = g2) := hg2.symm
  clear hg2 HA2 HA3 HA4 HA5 HA6 HA7 HA8 HF3 HF4 HF5 HF6 HF7 HB1 HB2 HB3 HB4 HB5 HB6 HB7 HADD HAD1 HTK HTO HCN HT0 HNE HLE HW HAL
  go_loopw [15, 16] (fun v i wr => ∃ (k : Nat) (ys : List Nat) (fl : Bool), k ≤ n ∧ (i = .int .i64 (k : Nat) ∧ v = .bool fl) ∧ (FOwn wr g2 n ys ∧ ∀ j, j < k → ys.getD j 0 = 4607182418800017408) ∧ (fl = true → ∀ j, j < k → finB (l.getD j 0) = true) ∧ Below w8.heap.size w8 wr) (fun _ i _ => n - (intOf i).toNat)
  case atStart => exact ⟨0, _, true, Nat.zero_le _, ⟨rfl, rfl⟩, ⟨HO9.out, fun j hj => absurd hj (Nat.not_lt_zero _)⟩, fun _ j hj => absurd hj (Nat.not_lt_zero _), HB9.out⟩
  case round =>
    obtain ⟨k, ys, fl, hk, ⟨rfl, rfl⟩, ⟨how, hys⟩, hfl, hbk⟩ := hrel
    have HO : Hid (FOwn wr g2 n ys) := how
    have HY : Hid (∀ j, j < k → ys.getD j 0 = 4607182418800017408) := hys
    have HFL : Hid (fl = true → ∀ j, j < k → finB (l.getD j 0) = true) := hfl
    have HB : Hid (Below w8.heap.size w8 wr) := hbk
    clear how hys hfl hbk HO9 HB9
    by_cases hkn : k < n
    · have hc1 := HO.out.cell hkn
      have hf1 := HO.out.frozen k
      have hkn2 : (k : Int) < (n : Int) := by omega
      have hk0 : (0 : Int) ≤ (k : Int) := by omega
      have hw1 : IntKind.i64.wrap ((k : Int) + 1) = ((k + 1 : Nat) : Int) := by rw [IntWalk.i64_in _ (by omega)]; omega
      go_wp2
      obtain ⟨w10, hw10⟩ : ∃ W, W = wr.setCell ⟨g2, k, none⟩ (.float .f64 4607182418800017408) := ⟨_, rfl⟩
      have HO10 : Hid (FOwn w10 g2 n (ys.set k 4607182418800017408) ∧ ∀ j, j < k + 1 → (ys.set k 4607182418800017408).getD j 0 = 4607182418800017408) := by
        refine ⟨by rw [hw10]; exact HO.out.set k _, fun j hj => ?_⟩
        have hl := HO.out.len
        by_cases h : j = k
        · subst h; simp [List.getD, show j < ys.length by omega]
        · rw [← HY.out j (by omega)]
          simp [List.getD, List.getElem?_set_ne (show k ≠ j by omega)]
      have HB10 : Hid (Below w8.heap.size w8 w10) := by
        show Below _ _ _
        rw [hw10]; exact HB.out.setCell (Nat.le_of_eq HG2.out) _
      rw [← hw10]
      obtain ⟨x, hx⟩ : ∃ x, x = l.getD k 0 := ⟨_, rfl⟩
      have hxw : W64 x := by rw [hx]; exact HFIN.out k hkn
      have HC : Hid (∀ W, Below w10.heap.size w10 W → W.cell? ⟨g, k, none⟩ = some (.float .f64 x)) := fun W hW => by
        have := (HF8.out.below (HB10.out.thru hW)) (by omega)
        obtain ⟨q, o, e, h2, h3⟩ := this
        obtain ⟨rfl, rfl⟩ : g = q ∧ 0 = o := by simpa using e
        rw [hx]
        have := h3 k hkn
        rwa [Nat.zero_add] at this
      have g1 : (k : Int) < ((n + 1 : Nat) : Int) := by omega
      have HFK : Hid (finB x = true → fl = true → ∀ j, j < k + 1 → finB (l.getD j 0) = true) := fun h1 h2 j hj => by
        by_cases h : j = k
        · rw [h, ← hx]; exact h1
        · exact HFL.out h2 j (by omega)
      clear hw10 hx HO HY HFL HB hc1 hf1
      cases fl
      · go_quiet (fail)
        go_wp2
        go_roundw
        case rel => exact ⟨k + 1, _, false, by omega, ⟨by first | rfl | rw [hw1], rfl⟩, ⟨HO10.out.1.below ((Below.refl _ _).drewM _), HO10.out.2⟩, fun h => by (cases h), HB10.out.drewM _⟩
        case measure => simp [intOf]; omega
      · by_cases hfx : finB x = true
        · obtain ⟨s, hs1, hs2⟩ := sub_self_fin hfx
          have hcx := HC.out w10 (Below.refl _ _)
          have k1 := fun W => run_float_arith (P := Tryz.prog) W .sub 26 .f64 x x _ hs1
          go_quiet (fail)
          go_wp2
          go_roundw
          case rel => exact ⟨k + 1, _, true, by omega, ⟨by first | rfl | rw [hw1], rfl⟩, ⟨HO10.out.1.below ((Below.refl _ _).drewM _), HO10.out.2⟩, HFK.out hfx, HB10.out.drewM _⟩
          case measure => simp [intOf]; omega
        · have HSB : Hid (Go.floatBits .sub .f64 x x = none) := sub_self_bad hxw (by simpa using hfx)
          have HNN : Hid (∀ z, nanB z = true → (FloatKind.f64.format.order z 0 == some Ordering.eq) = false) := fun z hz => by
            show (Ieee.double.order z 0 == some Ordering.eq) = false
            rw [ord_D_nan_left z 0 hz]; rfl
          clear hfx hxw HFK
          have h1 : once [(87, 0), (88, 1), (89, 2), (90, 3), (91, 4), (92, 5), (93, 6), (94, 7), (95, 8), (96, 9), (97, 10), (98, 11), (99, 12)] = true := by kernel_rfl
          have h2 : within [(87, 0), (88, 1), (89, 2), (90, 3), (91, 4), (92, 5), (93, 6), (94, 7), (95, 8), (96, 9), (97, 10), (98, 11), (99, 12)] 153 = true := by kernel_rfl
          let S : Nat → (Nat → Value) → World → Prop := fun i xs W => match i with
            | 0 => (xs 0) = .bool true
            | 1 => (xs 1) = .bool true
            | 2 => (xs 2) = .slice (some ⟨g, 0, none⟩) n (n + 1 : Nat)
            | 3 => (xs 3) = .int .i64 (k : Nat)
            | 4 => (xs 4) = .pointer (some ⟨g, k, none⟩)
            | 5 => (xs 5) = .float .f64 x
            | 6 => (xs 6) = .slice (some ⟨g, 0, none⟩) n (n + 1 : Nat)
            | 7 => (xs 7) = .int .i64 (k : Nat)
            | 8 => (xs 8) = .pointer (some ⟨g, k, none⟩)
            | 9 => (xs 9) = .float .f64 x
            | 10 => ∃ z, (xs 10) = .float .f64 z ∧ nanB z = true
            | 11 => (xs 11) = .bool false
            | 12 => (xs 12) = .bool false
            | _ => True
          have hstab : ∀ j ys W W', S j ys W → Below W.heap.size W W' → S j ys W' := by
            intro j ys W W' h hb
            match j, h with
            | 0, h => exact h
            | 1, h => exact h
            | 2, h => exact h
            | 3, h => exact h
            | 4, h => exact h
            | 5, h => exact h
            | 6, h => exact h
            | 7, h => exact h
            | 8, h => exact h
            | 9, h => exact h
            | 10, h => exact h
            | 11, h => exact h
            | 12, h => exact h
            | _ + 13, h => exact trivial
          refine wp_region_flow3 13 14 [(87, 0), (88, 1), (89, 2), (90, 3), (91, 4), (92, 5), (93, 6), (94, 7), (95, 8), (96, 9), (97, 10), (98, 11), (99, 12)] [] S (fun _ W => Below w10.heap.size w10 W) ((Below.refl _ _).drew) (by kernel_rfl) (by kernel_rfl) (by kernel_rfl) (by decide) (by kernel_rfl) h1 (by kernel_rfl) (fun j hj => by cases hj) ?_ ?_ ?_
          · intro j xs ys W e h
            match j, e, h with
            | 0, e, h => exact (e 0 (.inl rfl)).symm.trans h
            | 1, e, h => exact (e 1 (.inl rfl)).symm.trans h
            | 2, e, h => exact (e 2 (.inl rfl)).symm.trans h
            | 3, e, h => exact (e 3 (.inl rfl)).symm.trans h
            | 4, e, h => exact (e 4 (.inl rfl)).symm.trans h
            | 5, e, h => exact (e 5 (.inl rfl)).symm.trans h
            | 6, e, h => exact (e 6 (.inl rfl)).symm.trans h
            | 7, e, h => exact (e 7 (.inl rfl)).symm.trans h
            | 8, e, h => exact (e 8 (.inl rfl)).symm.trans h
            | 9, e, h => exact (e 9 (.inl rfl)).symm.trans h
            | 10, e, ⟨z, r1, r2⟩ => exact ⟨z, (e 10 (.inl rfl)).symm.trans r1, r2⟩
            | 11, e, h => exact (e 11 (.inl rfl)).symm.trans h
            | 12, e, h => exact (e 12 (.inl rfl)).symm.trans h
            | _ + 13, e, h => exact trivial
          · refine ⟨⟨⟨⟨⟨⟨⟨⟨⟨⟨⟨⟨⟨trivial, ?_⟩, ?_⟩, ?_⟩, ?_⟩, ?_⟩, ?_⟩, ?_⟩, ?_⟩, ?_⟩, ?_⟩, ?_⟩, ?_⟩, ?_⟩
            · refine flow3_step _ (some 87) rfl rfl rfl h1 h2 (fun D W _ h => h) (fun D W W' h hb => h.thru hb) hstab fun ac xs W Dn he hni hG hS K hK => ?_
              exact op_move (.tmp 15) (.inl rfl) (hK _ _ (he 15) (Below.refl _ _) (fun h => absurd h (by decide)))
            · refine flow3_step _ (some 88) rfl rfl rfl h1 h2 (fun D W _ h => h) (fun D W W' h hb => h.thru hb) hstab fun ac xs W Dn he hni hG hS K hK => ?_
              exact op_move (.tmp 87) (.inl rfl) (hK _ _ ((he 87).trans (hS 0 (by kernel_rfl))) (Below.refl _ _) (fun h => absurd h (by decide)))
            · refine flow3_stepG _ 89 1 88 true rfl rfl rfl (by kernel_rfl) (fun _ => rfl) (fun xs W h => h) (fun d h => by simpa using h) rfl h1 h2 (fun D W _ h => h) (fun D W W' h hb => h.thru hb) hstab fun ac xs W Dn he hni hG hS K hK => ?_
              exact op_move (.tmp 7) (.inl rfl) (hK _ _ (he 7) (Below.refl _ _) (fun h => absurd h (by decide)))
            · refine flow3_stepG _ 90 1 88 true rfl rfl rfl (by kernel_rfl) (fun _ => rfl) (fun xs W h => h) (fun d h => by simpa using h) rfl h1 h2 (fun D W _ h => h) (fun D W W' h hb => h.thru hb) hstab fun ac xs W Dn he hni hG hS K hK => ?_
              exact op_move (.tmp 16) (.inl rfl) (hK _ _ (he 16) (Below.refl _ _) (fun h => absurd h (by decide)))
            · refine flow3_stepG _ 91 1 88 true rfl rfl rfl (by kernel_rfl) (fun _ => rfl) (fun xs W h => h) (fun d h => by simpa using h) rfl h1 h2 (fun D W _ h => h) (fun D W W' h hb => h.thru hb) hstab fun ac xs W Dn he hni hG hS K hK => ?_
              have hk0 : (0 : Int) ≤ (k : Int) := by omega
              have g1 : (k : Int) < (n : Int) := by omega
              have e0 : ac.eval (.tmp 89) = _ := (he 89).trans (hS 2 (by kernel_rfl))
              have e1 : ac.eval (.tmp 90) = _ := (he 90).trans (hS 3 (by kernel_rfl))
              refine op_any (.indexAddr 24 (.tmp 89) (.tmp 90)) rfl (.pointer (some ⟨g, k, none⟩)) (fun o' ho' => ?_) (hK _ _ rfl (Below.refl _ _) (fun h => absurd h (by decide)))
              simp only [execOp, ho', e0, e1]
              go_simp
            · refine flow3_stepG _ 92 1 88 true rfl rfl rfl (by kernel_rfl) (fun _ => rfl) (fun xs W h => h) (fun d h => by simpa using h) rfl h1 h2 (fun D W _ h => h) (fun D W W' h hb => h.thru hb) hstab fun ac xs W Dn he hni hG hS K hK => ?_
              have e0 : ac.eval (.tmp 91) = _ := (he 91).trans (hS 4 (by kernel_rfl))
              refine op_any (.load 26 (.tmp 91)) rfl (.float .f64 x) (fun o' ho' => ?_) (hK _ _ rfl (Below.refl _ _) (fun h => absurd h (by decide)))
              simp only [execOp, ho', e0]
              have hc := HC.out W hG
              go_simp
            · refine flow3_stepG _ 93 1 88 true rfl rfl rfl (by kernel_rfl) (fun _ => rfl) (fun xs W h => h) (fun d h => by simpa using h) rfl h1 h2 (fun D W _ h => h) (fun D W W' h hb => h.thru hb) hstab fun ac xs W Dn he hni hG hS K hK => ?_
              exact op_move (.tmp 7) (.inl rfl) (hK _ _ (he 7) (Below.refl _ _) (fun h => absurd h (by decide)))
            · refine flow3_stepG _ 94 1 88 true rfl rfl rfl (by kernel_rfl) (fun _ => rfl) (fun xs W h => h) (fun d h => by simpa using h) rfl h1 h2 (fun D W _ h => h) (fun D W W' h hb => h.thru hb) hstab fun ac xs W Dn he hni hG hS K hK => ?_
              exact op_move (.tmp 16) (.inl rfl) (hK _ _ (he 16) (Below.refl _ _) (fun h => absurd h (by decide)))
            · refine flow3_stepG _ 95 1 88 true rfl rfl rfl (by kernel_rfl) (fun _ => rfl) (fun xs W h => h) (fun d h => by simpa using h) rfl h1 h2 (fun D W _ h => h) (fun D W W' h hb => h.thru hb) hstab fun ac xs W Dn he hni hG hS K hK => ?_
              have hk0 : (0 : Int) ≤ (k : Int) := by omega
              have g1 : (k : Int) < (n : Int) := by omega
              have e0 : ac.eval (.tmp 93) = _ := (he 93).trans (hS 6 (by kernel_rfl))
              have e1 : ac.eval (.tmp 94) = _ := (he 94).trans (hS 7 (by kernel_rfl))
              refine op_any (.indexAddr 24 (.tmp 93) (.tmp 94)) rfl (.pointer (some ⟨g, k, none⟩)) (fun o' ho' => ?_) (hK _ _ rfl (Below.refl _ _) (fun h => absurd h (by decide)))
              simp only [execOp, ho', e0, e1]
              go_simp
            · refine flow3_stepG _ 96 1 88 true rfl rfl rfl (by kernel_rfl) (fun _ => rfl) (fun xs W h => h) (fun d h => by simpa using h) rfl h1 h2 (fun D W _ h => h) (fun D W W' h hb => h.thru hb) hstab fun ac xs W Dn he hni hG hS K hK => ?_
              have e0 : ac.eval (.tmp 95) = _ := (he 95).trans (hS 8 (by kernel_rfl))
              refine op_any (.load 26 (.tmp 95)) rfl (.float .f64 x) (fun o' ho' => ?_) (hK _ _ rfl (Below.refl _ _) (fun h => absurd h (by decide)))
              simp only [execOp, ho', e0]
              have hc := HC.out W hG
              go_simp
            · refine flow3_stepG _ 97 1 88 true rfl rfl rfl (by kernel_rfl) (fun _ => rfl) (fun xs W h => h) (fun d h => by simpa using h) rfl h1 h2 (fun D W _ h => h) (fun D W W' h hb => h.thru hb) hstab fun ac xs W Dn he hni hG hS K hK => ?_
              have e0 : ac.eval (.tmp 92) = _ := (he 92).trans (hS 5 (by kernel_rfl))
              have e1 : ac.eval (.tmp 96) = _ := (he 96).trans (hS 9 (by kernel_rfl))
              obtain ⟨z, k1, k2⟩ := run_sub_nan HSB.out 26 W
              refine op_anyw (.binOp .sub 26 (.tmp 92) (.tmp 96) 26) rfl (.float .f64 z) W.drew (fun o' ho' => ?_) (hK _ _ ⟨z, rfl, k2⟩ ((Below.refl _ _).drew) (fun h => absurd h (by decide)))
              simp only [execOp, ho', e0, e1]
              go_simp
            · refine flow3_stepG _ 98 1 88 true rfl rfl rfl (by kernel_rfl) (fun _ => rfl) (fun xs W h => h) (fun d h => by simpa using h) rfl h1 h2 (fun D W _ h => h) (fun D W W' h hb => h.thru hb) hstab fun ac xs W Dn he hni hG hS K hK => ?_
              obtain ⟨z, s1, s2⟩ := hS 10 (by kernel_rfl)
              have e0 : ac.eval (.tmp 97) = _ := (he 97).trans s1
              have hq := HNN.out z s2
              refine op_any (.binOp .eql 26 (.tmp 97) (.const (.float .f64 0)) 26) rfl (.bool false) (fun o' ho' => ?_) (hK _ _ rfl (Below.refl _ _) (fun h => absurd h (by decide)))
              simp only [execOp, ho', e0]
              go_simp
            · refine flow3_step _ (some 99) rfl rfl rfl h1 h2 (fun D W _ h => h) (fun D W W' h hb => h.thru hb) hstab fun ac xs W Dn he hni hG hS K hK => ?_
              have e0 : ac.eval (.tmp 88) = _ := (he 88).trans (hS 1 (by kernel_rfl))
              have e1 : ac.eval (.tmp 98) = _ := (he 98).trans (hS 11 (by kernel_rfl))
              refine op_any (.pick (.tmp 88) (.tmp 98) (.const (.bool false))) rfl (.bool false) (fun o' ho' => ?_) (hK _ _ rfl (Below.refl _ _) (fun h => absurd h (by decide)))
              simp only [execOp, ho', e0, e1]
              go_simp
          · intro xs w11 Dn hall hG hS hD
            have s12 : xs 12 = _ := hS 12 (by decide)
            have HBG : Hid (Below w10.heap.size w10 w11) := hG
            generalize xs 0 = x0 at *
            generalize xs 1 = x1 at *
            generalize xs 2 = x2 at *
            generalize xs 3 = x3 at *
            generalize xs 4 = x4 at *
            generalize xs 5 = x5 at *
            generalize xs 6 = x6 at *
            generalize xs 7 = x7 at *
            generalize xs 8 = x8 at *
            generalize xs 9 = x9 at *
            generalize xs 10 = x10 at *
            generalize xs 11 = x11 at *
            simp only [layAll, s12, List.setIfInBounds_toArray, List.set_cons_succ, List.set_cons_zero]
            clear hS hD hall hstab S s12 hG h1 h2
            go_wp2
            go_roundw
            case rel => exact ⟨k + 1, _, false, by omega, ⟨by first | rfl | rw [hw1], rfl⟩, ⟨HO10.out.1.below HBG.out, HO10.out.2⟩, fun h => by (cases h), HB10.out.thru HBG.out⟩
            case measure => simp [intOf]; omega
    · obtain rfl : k = n := by omega
      have HFO : Hid (∀ W, Below wr.heap.size wr W → FCells W (some ⟨g2, 0, none⟩) k ys) := fun W hW => HO.out.fcells.below hW
      have HYL : Hid (ys.length = k) := HO.out.len
      have HBW : Hid (Below w.heap.size w wr) := HB8.out.thru HB.out
      clear hk hkn
      go_wp2_with fail
      (with_reducible refine (HDO.out _ _ _ _ ys HBW.out (HF8.out.below HB.out) (HFO.out _ (Below.refl _ _)) HYL.out HY.out).mono ?_)
      rintro e w12 ⟨rfl, hb⟩
      have HB12 : Hid (Below w8.heap.size w8 w12) := HB.out.thru hb
      clear hb
      go_wp2_with fail
      (with_reducible refine (HSU.out _ _ _ (HB8.out.thru HB12.out) (HF8.out.below HB12.out)).mono ?_)
      rintro e w13 ⟨rfl, hb⟩
      have HB13 : Hid (Below w8.heap.size w8 w13) := HB12.out.thru hb
      clear hb HB12
      go_wp2_with fail
      (with_reducible refine (HT1.out _).mono ?_)
      rintro e w' ⟨rfl, rfl⟩
      clear HT1 HSU HDO HFO HYL HY HO HBW
      cases fl
      · go_wp2
        go_ret
        exact ⟨rfl, HB8.out.thru HB13.out⟩
      · by_cases h32 : 32768 < k
        · have h32' : (32768 : Int) < (k : Int) := by omega
          go_wp2
          go_ret
          exact ⟨rfl, HB8.out.thru HB13.out⟩
        · have h32' : ¬ (32768 : Int) < (k : Int) := by omega
          have HAF : Hid (allF l) := HALL.out (HFL.out rfl)
          have h32k : k ≤ 32768 := by omega
          have HF13 : Hid (FCells w13 (some ⟨g, 0, none⟩) k l) := HF8.out.below HB13.out
          have HBW : Hid (Below w.heap.size w w13) := HB8.out.thru HB13.out
          have HDL : Hid ((dbs l).length = k * 1) := by show _ = _; unfold dbs; simp [HLN.out]
          have HCL : Hid (∀ W, Below w13.heap.size w13 W → ∀ j u, (dbs l)[j]? = some u → W.cell? ((⟨g, 0, none⟩ : Addr).add j) = some u) := fun W hW j u hj => by
            have hd : (dbs l).length = k := by rw [HDL.out, Nat.mul_one]
            have hjk : j < k := by
              have := (List.getElem?_eq_some_iff.1 hj).1
              omega
            obtain ⟨q, o, e, h2, h3⟩ := HF13.out.below hW (show 0 < k by omega)
            obtain ⟨rfl, rfl⟩ : g = q ∧ 0 = o := by simpa using e
            have h4 := h3 j hjk
            unfold dbs at hj
            have hjl : j < l.length := by rw [HLN.out]; exact hjk
            have hu : u = .float .f64 (l.getD j 0) := by simpa [List.getD, hjl] using hj.symm
            rw [hu]
            by_cases hj0 : j = 0
            · subst hj0; exact h4
            · simpa [Addr.add, hj0] using h4
          have HON : Hid (∀ u ∈ dbs l, u.oneCell' = true) := fun u hu => by
            obtain ⟨y, -, rfl⟩ := List.mem_map.1 hu
            rfl
          clear HFL HALL
          go_wp2_with (at_builtin; (refine wpList_append_own _ rfl _ _ 24 rfl w13.heap.size 26 i0 (.float .f64 0) 1 8 Tryz.underlying24 hi hz0 hz1 hz2 rfl (by decide) _ 0 [] rfl (World.ownsRow_made _ #[] 0 (Nat.le_refl _) (Nat.zero_le _) rfl) ⟨g, 0, none⟩ k (k + 1) (dbs l) rfl HDL.out (HCL.out _ ((Below.refl _ w13).alloc (Nat.le_refl _) _)) HON.out (by unfold maxLen; omega) (by omega) (by simp) ?_; intro v' w14 hown' hgrow _; have HO14 : Hid (w14.ownsRow w13.heap.size 26 1 v' (k + 0) (dbs (l ++ (l.take 0).map oppB))) := (by show World.ownsRow _ _ _ _ _ _ _; simpa using hown'); have HB14 : Hid (Below w13.heap.size w13 w14) := ((Below.refl _ w13).alloc (Nat.le_refl _) _).grown hgrow (by simp) (fun q hq => Nat.le_of_eq (Option.some.inj (show some w13.heap.size = some q from hq))); clear hown' hgrow))
          go_loopw [21, 22] (fun v i wr => ∃ j : Nat, j ≤ k ∧ i = .int .i64 (j : Nat) ∧ wr.ownsRow w13.heap.size 26 1 v (k + j) (dbs (l ++ (l.take j).map oppB)) ∧ Below w13.heap.size w13 wr) (fun _ i _ => k - (intOf i).toNat)
          case atStart => exact ⟨0, Nat.zero_le _, rfl, HO14.out, HB14.out⟩
          case round =>
            obtain ⟨j, hj, rfl, hown, hbk⟩ := hrel
            have HOW : Hid _ := hown
            have HBK : Hid (Below w13.heap.size w13 wr) := hbk
            clear hown hbk HO14 HB14
            by_cases hjk : j < k
            · obtain ⟨q, o, e, h2, h3⟩ := HF13.out.below HBK.out (show 0 < k by omega)
              obtain ⟨rfl, rfl⟩ : g = q ∧ 0 = o := by simpa using e
              have hck := h3 j hjk
              rw [Nat.zero_add] at hck
              obtain ⟨x, hx⟩ : ∃ x, x = l.getD j 0 := ⟨_, rfl⟩
              have hnx := HNX.out j hjk
              rw [← hx] at hck hnx
              have HN1 : Hid (dbs (l ++ (l.take j).map oppB) ++ [.float .f64 (Go.Op.negFloat .f64 x)] = dbs (l ++ (l.take (j + 1)).map oppB)) := hnx
              have hw1 : IntKind.i64.wrap ((j : Int) + 1) = ((j + 1 : Nat) : Int) := by rw [IntWalk.i64_in _ (by omega)]; omega
              have g1 : (j : Int) < ((k + 1 : Nat) : Int) := by omega
              have g3 : (j : Int) < (k : Int) := by omega
              have g4 : (0 : Int) ≤ (j : Int) := by omega
              clear e h2 h3 hx hnx
              go_wp2_with (at_builtin; (refine wpList_append_own _ rfl _ _ 24 rfl w13.heap.size 26 i0 (.float .f64 0) 1 8 Tryz.underlying24 hi hz0 hz1 hz2 rfl (by decide) _ _ _ rfl (World.ownsRow.alloc HOW.out _) ⟨wr.heap.size, 0, none⟩ 1 1 [.float .f64 (Go.Op.negFloat .f64 x)] rfl rfl (by intro j z hj; match j with | 0 => (obtain rfl : z = .float .f64 (Go.Op.negFloat .f64 x) := by simpa using hj.symm); exact cell_of_row _ _ _ _ _ _ (heap_alloc_new _ _) | j + 1 => simp at hj) (by intro z hz; simp at hz; subst hz; rfl) (by unfold maxLen; omega) (by omega) (by have := HBK.out.size; simp at this ⊢; omega) ?_; intro v' w2 hown' hgrow _; have HOW2 : Hid (w2.ownsRow w13.heap.size 26 1 v' (k + (j + 1)) (dbs (l ++ (l.take (j + 1)).map oppB))) := (by rw [← HN1.out]; exact hown'); have HB2 : Hid (Below w13.heap.size w13 w2) := (HBK.out.alloc HBK.out.size _).grown hgrow (by have := HBK.out.size; simp at this ⊢; omega) (fun q hq => (World.ownsRow.lt HOW.out q hq).1); clear hown' hgrow))
              go_roundw
              case rel => exact ⟨j + 1, by omega, by first | rfl | rw [hw1], HOW2.out, HB2.out⟩
              case measure => simp [intOf]; omega
            · obtain rfl : j = k := by omega
              have htk : l.take j = l := by
                have h : l.take l.length = l := List.take_length
                rw [HLN.out] at h
                exact h
              have how := HOW.out
              rw [htk] at how
              obtain ⟨ao, cc, rfl, hs⟩ := HBO.out wr _ w13.heap.size (HBW.out.thru HBK.out) h32k HAF.out how
              have HS : Hid (Calls Tryz.prog 10 #[.slice ao (j + j) cc] wr fun e w' => e = .returned (.tuple #[.float .f64 0, .int .i64 0]) ∧ Below wr.heap.size wr w') := hs
              clear hs how htk hjk hj HOW HCL HON
              go_wp2_with fail
              (with_reducible refine Calls.mono HS.out ?_)
              rintro e w15 ⟨rfl, hb⟩
              have HB15 : Hid (Below w13.heap.size w13 w15) := HBK.out.thru hb
              clear hb
              go_wp2_with fail
              (with_reducible refine (HIS.out _).mono ?_)
              rintro e w' ⟨rfl, rfl⟩
              go_wp2
              go_ret
              exact ⟨rfl, HBW.out.thru HB15.out⟩
end Go.Proofs.YtlffojopfilfeaaGreatDoor
