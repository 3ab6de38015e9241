/- Parts Qc of the proof, in one text. -/
import Derived.Test.YtlffojopfilfeaaGreatDoorLQZ
import Derived.Test.YtlffojopfilfeaaGreatDoorLOB

/- Walks: rows of floats that a law makes; the law SumsLong. -/
namespace Go.Proofs.YtlffojopfilfeaaGreatDoor
open Go Go.RowKit

theorem Tryz.infoF8 : (Tryz.prog.info? 26).map (fun i => (i.zero, i.size, i.bytes)) = some (some (.float .f64 0), 1, 8) := by kernel_rfl
/-- A row of floats that fills its block. -/
def FOwn (w : World) (g L : Nat) (ys : List Nat) : Prop := w.ownsRow g 26 1 (.slice (some ⟨g, 0, none⟩) L L) L (ys.map (Value.float .f64))
theorem FOwn.len {w : World} {g L : Nat} {ys : List Nat} (h : FOwn w g L ys) : ys.length = L := by simpa using h.1
theorem FOwn.made {w : World} {g L : Nat} (h : w.ownsRow g 26 1 (.slice (some ⟨g, 0, none⟩) L L) L (madeCells (Value.float .f64 0).cells (L * 1)).toList) : FOwn w g L (List.replicate L 0) := by
  have e1 : (madeCells (Value.float .f64 0).cells (L * 1)).toList = (List.replicate L 0).map (Value.float .f64) := by
    apply List.ext_getElem
    · simp [madeCells]
    · intro i h1 h2
      simp [madeCells, Value.cells, Nat.mod_one]
  unfold FOwn
  rwa [e1] at h
theorem FOwn.cell {w : World} {g L : Nat} {ys : List Nat} (h : FOwn w g L ys) {j : Nat} (hj : j < L) : w.cell? ⟨g, j, none⟩ = some (.float .f64 (ys.getD j 0)) := by
  have hl := h.len
  rw [World.ownsRow.cellAt h j (by omega)]
  simp [List.getElem?_eq_getElem (show j < ys.length by omega)]
theorem FOwn.frozen {w : World} {g L : Nat} {ys : List Nat} (h : FOwn w g L ys) (j : Nat) : w.frozen? ⟨g, j, none⟩ = false := World.ownsRow.frozenAt h j
theorem FOwn.set {w : World} {g L : Nat} {ys : List Nat} (h : FOwn w g L ys) (j v : Nat) : FOwn (w.setCell ⟨g, j, none⟩ (.float .f64 v)) g L (ys.set j v) := by
  have := (World.ownsRow.stored h j (.float .f64 v)).1
  unfold FOwn
  rwa [List.map_set]
theorem FOwn.lt {w : World} {g L : Nat} {ys : List Nat} (h : FOwn w g L ys) : g < w.heap.size := (World.ownsRow.lt h g rfl).2
theorem FOwn.fcells {w : World} {g L : Nat} {ys : List Nat} (h : FOwn w g L ys) : FCells w (some ⟨g, 0, none⟩) L ys := fun _ => ⟨g, 0, rfl, h.lt, fun k hk => by rw [Nat.zero_add]; exact h.cell hk⟩
@[go_sem] theorem run_store_float {P : Program} {w : World} {a : Addr} {m : Mode} (k : FloatKind) (b : Nat) : (store a (.float k b) m).run P w = stored P w a (.float k b) m := run_store P w a _ m rfl
set_option maxHeartbeats 4000000 in
set_option maxRecDepth 100000 in
theorem sumsLong_walk (many : Int) (b : Nat) (w : World) (h1 : -9223372036854775808 ≤ many) (h2 : many ≤ 9223372036854775807) (hb : W64 b) (htab : Tab w) (htw : TabW w) :
    Calls Tryz.prog 4 #[.int .i64 many, .int .u64 b] w fun e w' => e = .returned (.bool true) ∧ Below w.heap.size w w' := by
  have HW : Hid (Calls Tryz.prog 8 #[] w fun e w' => e = .returned (.bool true) ∧ Below w.heap.size w w') := awake8_v w htab htw
  obtain ⟨n, hn, hpk⟩ := pick8_v many 65539 (by decide) (by decide) h1 h2
  have HPK : Hid (∀ w : World, Calls Tryz.prog 21 #[.int .i64 many, .int .i64 65539] w fun e w' => e = .returned (.int .i64 (n : Nat)) ∧ w = w') := hpk
  obtain ⟨x, hx⟩ : ∃ x, x = List.replicate n b := ⟨_, rfl⟩
  have hxl : x.length = n := by rw [hx]; exact List.length_replicate
  have hxw : ∀ y ∈ x, W64 y := fun y hy => by rw [hx] at hy; rw [List.eq_of_mem_replicate hy]; exact hb
  have HT : Hid (∀ W, Below w.heap.size w W → Tab W ∧ TabW W) := fun W hW => ⟨htab.below hW, htw.below hW⟩
  have HSU : Hid (∀ W a c, Below w.heap.size w W → FCells W a n x → Calls Tryz.prog 10 #[.slice a n c] W fun e w' => e = .returned (.tuple #[.float .f64 (lsB x), .int .i64 (lsX x)]) ∧ Below W.heap.size W w') := fun W a c hW hc => sum8_v W hxl (by omega) hxw hc (HT.out W hW).1 (HT.out W hW).2
  have HME : Hid (∀ W a c, Below w.heap.size w W → FCells W a n x → Calls Tryz.prog 16 #[.slice a n c] W fun e w' => e = .returned (.tuple #[.float .f64 (mnB x), .int .i64 (mnX x)]) ∧ Below W.heap.size W w') := fun W a c hW hc => mean8_v W hxl (by omega) hxw hc (HT.out W hW).1 (HT.out W hW).2
  have HSQ : Hid (∀ W a c, Below w.heap.size w W → FCells W a n x → Calls Tryz.prog 15 #[.slice a n c] W fun e w' => e = .returned (.tuple #[.float .f64 (dtB x x), .int .i64 (dtX x x)]) ∧ Below W.heap.size W w') := fun W a c hW hc => squares8_v W hxl (by omega) hxw hc (HT.out W hW).1 (HT.out W hW).2
  have HVA : Hid (∀ W a c, Below w.heap.size w W → FCells W a n x → Calls Tryz.prog 18 #[.slice a n c, .bool true] W fun e w' => e = .returned (.tuple #[.float .f64 (vrB x true), .int .i64 (vrX x true)]) ∧ Below W.heap.size W w') := fun W a c hW hc => variance8_v true W hxl (by omega) hxw hc (HT.out W hW).1 (HT.out W hW).2
  have HDO : Hid (∀ W a c, Below w.heap.size w W → FCells W a n x → Calls Tryz.prog 13 #[.slice a n c, .slice none 0 0] W fun e w' => e = .returned (.tuple #[.float .f64 (dtB x []), .int .i64 (dtX x [])]) ∧ Below W.heap.size W w') := fun W a c hW hc => dot8_v W hxl rfl (by omega) (by decide) hxw (fun y hy => by cases hy) hc (fun h => absurd h (by decide)) (HT.out W hW).1 (HT.out W hW).2
  obtain ⟨B1, hB1⟩ : ∃ z, z = lsB x := ⟨_, rfl⟩
  obtain ⟨X1, hX1⟩ : ∃ z, z = lsX x := ⟨_, rfl⟩
  obtain ⟨B2, hB2⟩ : ∃ z, z = mnB x := ⟨_, rfl⟩
  obtain ⟨X2, hX2⟩ : ∃ z, z = mnX x := ⟨_, rfl⟩
  obtain ⟨B3, hB3⟩ : ∃ z, z = dtB x x := ⟨_, rfl⟩
  obtain ⟨X3, hX3⟩ : ∃ z, z = dtX x x := ⟨_, rfl⟩
  obtain ⟨B4, hB4⟩ : ∃ z, z = vrB x true := ⟨_, rfl⟩
  obtain ⟨X4, hX4⟩ : ∃ z, z = vrX x true := ⟨_, rfl⟩
  obtain ⟨B5, hB5⟩ : ∃ z, z = dtB x [] := ⟨_, rfl⟩
  obtain ⟨X5, hX5⟩ : ∃ z, z = dtX x [] := ⟨_, rfl⟩
  rw [← hB1, ← hX1] at HSU
  rw [← hB2, ← hX2] at HME
  rw [← hB3, ← hX3] at HSQ
  rw [← hB4, ← hX4] at HVA
  rw [← hB5, ← hX5] at HDO
  have HL1 : Hid (65536 < n → (X1 = 2 ∧ X2 = 2) ∧ X3 = 2 ∧ X4 = 2 ∧ X5 = 2) := fun h => by
    rw [hX1, hX2, hX3, hX4, hX5]
    unfold lsX mnX dtX vrX
    rw [hxl]
    simp [h]
  have HL2 : Hid (n = 0 → (X1 = 0 ∧ X2 = 4) ∧ X3 = 0 ∧ X4 = 4 ∧ X5 = 0) := fun h => by
    rw [hX1, hX2, hX3, hX4, hX5, hx, h]
    exact ⟨⟨by kernel_rfl, by kernel_rfl⟩, by kernel_rfl, by kernel_rfl, by kernel_rfl⟩
  have HL3 : Hid (0 < n → n ≤ 65536 → (X1 ≠ 2 ∧ X2 = 0) ∧ X3 ≠ 2 ∧ X5 = 1) := fun h h' => by
    have hm := (same_mean hb h h').1
    rw [hX1, hX2, hX3, hX5]
    refine ⟨⟨?_, by rw [hx]; exact hm⟩, ?_, ?_⟩
    · unfold lsX; rw [hxl, if_neg (by omega)]; exact ansX_ne _ _ _
    · unfold dtX; rw [hxl, if_neg (by omega), if_neg (by omega)]; exact ansX_ne _ _ _
    · unfold dtX; rw [hxl, if_neg (by simp; omega), if_pos (by simp; omega)]
  have HL4 : Hid (0 < n → n ≤ 65536 → X4 ≠ 2) := fun h h' => by
    rw [hX4]
    unfold vrX totX
    rw [hxl, if_neg (by omega), if_neg (by omega)]
    repeat' split
    all_goals decide
  have HL5 : Hid (0 < n → n ≤ 65536 → (nanB b = true ∧ nanB B2 = true) ∨ (nanB b = false ∧ B2 = b)) := fun h h' => by
    rw [hB2, hx]; exact (same_mean hb h h').2
  have HXR : Hid (∀ ys : List Nat, ys.length = n → (∀ j, j < n → ys.getD j 0 = b) → ys = x) := fun ys h1 h2 => by
    rw [hx]
    refine List.ext_getElem (by simp [h1]) fun i hi hj => ?_
    have := h2 i (by omega)
    simp only [List.getElem_replicate]
    simpa [List.getD, hi] using this
  have HNB : Hid (n < 65539) := hn
  obtain ⟨i0, hi, hz0, hz1, hz2⟩ := info_parts Tryz.infoF8
  have hn2 : n ≤ 65539 := by omega
  clear hn hpk hx hxl hxw htab htw hB1 hX1 hB2 hX2 hB3 hX3 hB4 hX4 hB5 hX5 h1 h2
  go_enter Tryz.func4, Tryz.ntmps4
  go_wp2_with (first | (go_at_call 8; (with_reducible refine Calls.mono HW.out ?_); rintro e w1 ⟨rfl, hb1⟩; have HB1 : Hid (Below w.heap.size w w1) := hb1; clear hb1) | (go_at_call 21; (with_reducible refine (HPK.out _).mono ?_); rintro e w2 ⟨rfl, rfl⟩) | (at_make; refine wpList_make_full _ rfl _ _ 24 rfl w1.heap.size 26 i0 (.float .f64 0) 1 Tryz.underlying24 hi hz0 hz1 .i64 .i64 _ _ n rfl rfl (by omega) (by omega) (by rw [hz2]; omega) (by unfold maxLen; omega) (by simp) ?_; intro w2 hown hgrow; have HO2 : Hid (FOwn w2 w1.heap.size n (List.replicate n 0)) := FOwn.made hown; have HB2 : Hid (Below w.heap.size w w2) := HB1.out.grown hgrow HB1.out.size (by simp); clear hown hgrow))
  obtain ⟨g, hg⟩ : ∃ g, g = w1.heap.size := ⟨_, rfl⟩
  rw [← hg] at HO2 ⊢
  have HG : Hid (w.heap.size ≤ g) := by show _ ≤ _; rw [hg]; exact HB1.out.size
  clear hg HB1 hi hz0 hz1 hz2
  go_loopw [8] (fun i wr => ∃ (k : Nat) (ys : List Nat), k ≤ n ∧ i = .int .i64 (k : Nat) ∧ (FOwn wr g n ys ∧ ∀ j, j < k → ys.getD j 0 = b) ∧ Below w.heap.size w wr) (fun i _ => n - (intOf i).toNat)
  case atStart => exact ⟨0, _, Nat.zero_le _, rfl, ⟨HO2.out, fun j hj => absurd hj (Nat.not_lt_zero _)⟩, HB2.out⟩
  case round =>
    obtain ⟨k, ys, hk, rfl, ⟨how, hys⟩, hbk⟩ := hrel
    have HO : Hid (FOwn wr g n ys) := how
    have HY : Hid (∀ j, j < k → ys.getD j 0 = b) := hys
    have HB : Hid (Below w.heap.size w wr) := hbk
    clear how hys hbk HO2 HB2
    by_cases hkn : k < n
    · have hc1 := HO.out.cell hkn
      have hf1 := HO.out.frozen k
      have hkn2 : (k : Int) < (n : Int) := by omega
      have hk0 : (0 : Int) ≤ (k : Int) := by omega
      have hw1 : IntKind.i64.wrap ((k : Int) + 1) = ((k + 1 : Nat) : Int) := by rw [IntWalk.i64_in _ (by omega)]; omega
      go_wp2
      go_roundw
      case rel =>
        refine ⟨k + 1, ys.set k b, by omega, by first | rfl | rw [hw1], ⟨HO.out.set k b, fun j hj => ?_⟩, HB.out.setCell HG.out _⟩
        have hl := HO.out.len
        by_cases h : j = k
        · subst h; simp [List.getD, show j < ys.length by omega]
        · rw [← HY.out j (by omega)]
          simp [List.getD, List.getElem?_set_ne (show k ≠ j by omega)]
      case measure => simp [intOf]; omega
    · obtain rfl : k = n := by omega
      have hyx := HXR.out ys HO.out.len HY.out
      subst hyx
      have HF : Hid (∀ W, Below wr.heap.size wr W → FCells W (some ⟨g, 0, none⟩) k ys) := fun W hW => HO.out.fcells.below hW
      clear hk hkn hn2
      go_wp2_with fail
      (with_reducible refine (HSU.out _ _ _ HB.out (HF.out _ (Below.refl _ _))).mono ?_)
      rintro e w3 ⟨rfl, hb3⟩
      have HR3 : Hid (Below wr.heap.size wr w3) := hb3
      have HB3 : Hid (Below w.heap.size w w3) := HB.out.thru hb3
      clear hb3
      go_wp2_with fail
      (with_reducible refine (HME.out _ _ _ HB3.out (HF.out _ HR3.out)).mono ?_)
      rintro e w4 ⟨rfl, hb3⟩
      have HR4 : Hid (Below wr.heap.size wr w4) := HR3.out.thru hb3
      have HB4 : Hid (Below w.heap.size w w4) := HB3.out.thru hb3
      clear hb3
      go_wp2_with fail
      (with_reducible refine (HSQ.out _ _ _ HB4.out (HF.out _ HR4.out)).mono ?_)
      rintro e w5 ⟨rfl, hb3⟩
      have HR5 : Hid (Below wr.heap.size wr w5) := HR4.out.thru hb3
      have HB5 : Hid (Below w.heap.size w w5) := HB4.out.thru hb3
      clear hb3
      go_wp2_with fail
      (with_reducible refine (HVA.out _ _ _ HB5.out (HF.out _ HR5.out)).mono ?_)
      rintro e w6 ⟨rfl, hb3⟩
      have HR6 : Hid (Below wr.heap.size wr w6) := HR5.out.thru hb3
      have HB6 : Hid (Below w.heap.size w w6) := HB5.out.thru hb3
      clear hb3
      go_wp2_with fail
      (with_reducible refine (HDO.out _ _ _ HB6.out (HF.out _ HR6.out)).mono ?_)
      rintro e w7 ⟨rfl, hb3⟩
      have HB7 : Hid (Below w.heap.size w w7) := HB6.out.thru hb3
      clear hb3 HSU HME HSQ HVA HDO HF HR3 HR4 HR5 HR6 HB3 HB4 HB5 HB6 HO HY HXR HT
      by_cases hlong : 65536 < k
      · obtain ⟨⟨rfl, rfl⟩, rfl, rfl, rfl⟩ := HL1.out hlong
        have h1 : (65536 : Int) < (k : Int) := by omega
        clear hlong HL1 HL2 HL3 HL4 HL5
        go_wp2
        go_ret
        exact ⟨rfl, HB7.out⟩
      · have h1 : ¬ (65536 : Int) < (k : Int) := by omega
        by_cases h0 : k = 0
        · obtain ⟨⟨rfl, rfl⟩, rfl, rfl, rfl⟩ := HL2.out h0
          subst h0
          clear hlong HL1 HL2 HL3 HL4 HL5
          go_wp2
          go_ret
          exact ⟨rfl, HB7.out⟩
        · obtain ⟨⟨hx1, rfl⟩, hx3, rfl⟩ := HL3.out (by omega) (by omega)
          have hx4 := HL4.out (by omega) (by omega)
          have h2 : ((k : Int) == 0) = false := by simp; omega
          have d1 : (X1 == 2) = false := by simpa using hx1
          have d3 : (X3 == 2) = false := by simpa using hx3
          have d4 : (X4 == 2) = false := by simpa using hx4
          have d1' : (X1 != 2) = true := by simpa using hx1
          have d3' : (X3 != 2) = true := by simpa using hx3
          have d4' : (X4 != 2) = true := by simpa using hx4
          have h5 := HL5.out (by omega) (by omega)
          clear hlong HL1 HL2 HL3 HL4 HL5 h0
          have nn : ∀ z, nanB z = true → (FloatKind.f64.format.order z z == some Ordering.eq) = false := fun z hz => by
            show (Ieee.double.order z z == some Ordering.eq) = false
            rw [ord_D_nan_left z z hz]; rfl
          have nm : ∀ z, nanB z = true → (FloatKind.f64.format.order z z != some Ordering.eq) = true := fun z hz => by
            have := nn z hz
            unfold bne
            rw [this]; rfl
          have HIS : Hid (∀ W, Calls Tryz.prog 23 #[.float .f64 B2, .int .u64 (b : Nat)] W fun e w' => e = .returned (.bool (decide (B2 = b))) ∧ W = w') := fun W => is8_v B2 b W
          rcases h5 with ⟨n1, n2⟩ | ⟨n1, rfl⟩
          · have e1 := nn b n1
            have e2 := nn B2 n2
            have e3 := nm b n1
            have e4 := nm B2 n2
            clear nn nm
            obtain ⟨bb, hbb⟩ : ∃ z, z = decide (B2 = b) := ⟨_, rfl⟩
            rw [← hbb] at HIS
            clear hbb
            cases bb
            all_goals
              go_wp2_with (go_at_call 23; (with_reducible refine (HIS.out _).mono ?_); rintro e w' ⟨rfl, rfl⟩)
              go_ret
              exact ⟨rfl, HB7.out⟩
          · rw [decide_eq_true rfl] at HIS
            clear nn nm
            go_wp2_with (go_at_call 23; (with_reducible refine (HIS.out _).mono ?_); rintro e w' ⟨rfl, rfl⟩)
            go_ret
            exact ⟨rfl, HB7.out⟩
end Go.Proofs.YtlffojopfilfeaaGreatDoor
