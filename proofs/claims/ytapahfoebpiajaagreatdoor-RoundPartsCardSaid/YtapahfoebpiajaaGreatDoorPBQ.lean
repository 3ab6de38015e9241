/- Parts Bq, Br of the proof, in one text. -/
import Derived.Test.YtapahfoebpiajaaGreatDoorPAU

/- Walks: the document's Ratio. -/
namespace Go.Proofs.YtapahfoebpiajaaGreatDoor
open Go.RowKit

/-- A row of a float; of flags. -/
def FlR (W : World) (g : Nat) : Prop := ∃ x y z u, W.heap[g]? = some (.cells #[.bool x, .bool y, .int .u64 z, .int .i64 u] 62 (0, 0))
def FgR (W : World) (g : Nat) : Prop := ∃ x y z, W.heap[g]? = some (.cells #[.bool x, .bool y, .bool z] 27 (0, 0))
theorem FlR.below {W W' : World} {g : Nat} (h : FlR W g) (hb : Below W.heap.size W W') : FlR W' g := by obtain ⟨x, y, z, u, h⟩ := h; exact ⟨x, y, z, u, hb.blk h (blk_lt h)⟩
theorem FgR.below {W W' : World} {g : Nat} (h : FgR W g) (hb : Below W.heap.size W W') : FgR W' g := by obtain ⟨x, y, z, h⟩ := h; exact ⟨x, y, z, hb.blk h (blk_lt h)⟩
theorem fl_ne {W : World} {g g' : Nat} (h : FlR W g) (h' : FgR W g') : g' ≠ g := by
  rintro rfl
  obtain ⟨x, y, z, u, h⟩ := h
  obtain ⟨x', y', z', h'⟩ := h'
  rw [h] at h'
  simp at h'
theorem FlR.put {W : World} {g g' : Nat} (h : FlR W g') (hg : FlR W g) (x y : Bool) (z u : Int) : FlR (W.setRow g #[.bool x, .bool y, .int .u64 z, .int .i64 u]) g' := by
  by_cases he : g' = g
  · subst he
    obtain ⟨_, _, _, _, h⟩ := h
    exact ⟨_, _, _, _, setRow_heap W g' _ _ _ _ h⟩
  · obtain ⟨a, b, c, d, h⟩ := h
    exact ⟨a, b, c, d, (setRow_other W g g' _ he).trans h⟩
theorem FgR.put {W : World} {g g' : Nat} (h : FgR W g') (hg : FgR W g) (x y z : Bool) : FgR (W.setRow g #[.bool x, .bool y, .bool z]) g' := by
  by_cases he : g' = g
  · subst he
    obtain ⟨_, _, _, h⟩ := h
    exact ⟨_, _, _, setRow_heap W g' _ _ _ _ h⟩
  · obtain ⟨a, b, c, h⟩ := h
    exact ⟨a, b, c, (setRow_other W g g' _ he).trans h⟩
theorem FlR.off {W : World} {g g' : Nat} (h : FlR W g') (hg : FgR W g) (cs : Array Value) : FlR (W.setRow g cs) g' := by
  have hne : g' ≠ g := fun e => fl_ne h hg e.symm
  obtain ⟨a, b, c, d, h⟩ := h
  exact ⟨a, b, c, d, (setRow_other W g g' _ hne).trans h⟩
theorem FgR.off {W : World} {g g' : Nat} (h : FgR W g') (hg : FlR W g) (cs : Array Value) : FgR (W.setRow g cs) g' := by
  have hne := fl_ne hg h
  obtain ⟨a, b, c, h⟩ := h
  exact ⟨a, b, c, (setRow_other W g g' _ hne).trans h⟩
theorem FlR.no {x y : Bool} {z u : Int} : ∀ (i : Nat) k, (#[Value.bool x, Value.bool y, Value.int .u64 z, Value.int .i64 u] : Array Value)[i]? ≠ some (.int .u32 k) := by
  intro i k
  match i with
  | 0 => simp
  | 1 => simp
  | 2 => simp
  | 3 => simp
  | _ + 4 => simp
theorem FgR.no {x y z : Bool} : ∀ (i : Nat) k, (#[Value.bool x, Value.bool y, Value.bool z] : Array Value)[i]? ≠ some (.int .u32 k) := by
  intro i k
  match i with
  | 0 => simp
  | 1 => simp
  | 2 => simp
  | _ + 3 => simp
theorem FlR.val {W : World} {g M D : Nat} {v : Value} {n : Bool} {E : Int} (h : FlR W g) (cs : Array Value) (hv : Val W v n M D E) : Val (W.setRow g cs) v n M D E := by
  obtain ⟨x, y, z, u, h⟩ := h
  obtain ⟨s, t, rfl, h1, h2⟩ := hv
  exact ⟨s, t, rfl, num_setRow32 h1 h FlR.no, num_setRow32 h2 h FlR.no⟩
theorem FgR.val {W : World} {g M D : Nat} {v : Value} {n : Bool} {E : Int} (h : FgR W g) (cs : Array Value) (hv : Val W v n M D E) : Val (W.setRow g cs) v n M D E := by
  obtain ⟨x, y, z, h⟩ := h
  obtain ⟨s, t, rfl, h1, h2⟩ := hv
  exact ⟨s, t, rfl, num_setRow32 h1 h FgR.no, num_setRow32 h2 h FgR.no⟩
theorem val_below {W W' : World} {M D : Nat} {v : Value} {n : Bool} {E : Int} (hv : Val W v n M D E) (hb : Below W.heap.size W W') : Val W' v n M D E := by
  obtain ⟨s, t, rfl, h1, h2⟩ := hv
  exact ⟨s, t, rfl, h1.below (Nat.le_refl _) hb, h2.below (Nat.le_refl _) hb⟩
theorem row_keep {W : World} {g g' : Nat} {cs : Array Value} {t : TypeId} (h : W.heap[g']? = some (.cells cs t (0, 0))) : (W.setRow g cs).heap[g']? = some (.cells cs t (0, 0)) := by
  by_cases he : g' = g
  · subst he; exact setRow_heap W g' _ _ _ _ h
  · exact (setRow_other W g g' _ he).trans h
/-- What To is asked in the end. -/
theorem docR53 {a b : Dc} (ha : a.ok) (hb : b.ok) (h0 : a.s ≠ []) (h1 : b.s ≠ []) {mode : Int} (hm : 1 ≤ mode ∧ mode ≤ 6) {neg : Bool} {v : Value} {M D : Nat} {E : Int} {w : World} (hv : Val w v neg M D E) (hd : DV a b M D E) :
    Calls Tryz.prog 37 #[v, .agg #[.int .i64 53, .int .i64 (-1074), .int .i64 1023], .int .i64 mode] w (FlQ neg (outG 53 (-1074) 971 neg mode (quoG a b)) w) := by
  obtain ⟨bb, h2, h3, h4, h5⟩ := hd.bd ha hb
  obtain ⟨p1, p2, p3, p4⟩ := hd.pos ha hb h0 h1
  have hs : outG 53 (-1074) 971 neg mode (ratMag M D E) = outG 53 (-1074) 971 neg mode (quoG a b) := doc_same (c := 53) (T := 971) (l := 1074) (by decide) (by decide) (by decide) ha hb h0 h1 hd
  rw [← hs]
  exact to53_rat mode hm neg v M D E w hv h4 h5 (by omega) (by omega) (by omega) p1 p2

set_option maxHeartbeats 4000000 in
set_option maxRecDepth 100000 in
theorem rratio_v (a b : Dc) (m : Int) (w : World) (hsa : a.s.length ≤ 9223372036854775807) (hsb : b.s.length ≤ 9223372036854775807) : Calls Tryz.prog 18 #[.agg #[.bool a.neg, .string (bs a.s), .int .i64 a.e], .agg #[.bool b.neg, .string (bs b.s), .int .i64 b.e], .int .i64 m] w (RefQ .u64 (ratioA a b m) w) := by
  obtain ⟨R, hR⟩ : ∃ R, R = ratioA a b m := ⟨_, rfl⟩
  rw [← hR]
  have HR : Hid (R = ratioA a b m) := hR
  obtain ⟨w2, hw2⟩ : ∃ W, W = (((w.alloc (.cells #[.bool a.neg, .string (bs a.s), .int .i64 a.e] 23)).alloc (.cells #[.bool b.neg, .string (bs b.s), .int .i64 b.e] 23)).alloc (.cells #[.bool false, .bool false, .bool false] 27)) := ⟨_, rfl⟩
  have hba : Below w.heap.size w w2 := by rw [hw2]; exact (((Below.refl _ _).alloc (Nat.le_refl _) _).alloc (by simp) _).alloc (by simp; omega) _
  have hsz : w2.heap.size = w.heap.size + 3 := by rw [hw2]; simp
  have q0 : w2.heap[w.heap.size]? = some (.cells #[.bool a.neg, .string (bs a.s), .int .i64 a.e] 23 (0, 0)) := by rw [hw2]; exact (heap_alloc_old _ _ (by simp; omega)).trans (heap_alloc2_old w _ _)
  have q1 : w2.heap[w.heap.size + 1]? = some (.cells #[.bool b.neg, .string (bs b.s), .int .i64 b.e] 23 (0, 0)) := by rw [hw2]; exact (heap_alloc_old _ _ (by simp)).trans (heap_alloc2_new w _ _)
  have q2 : w2.heap[w.heap.size + 2]? = some (.cells #[.bool false, .bool false, .bool false] 27 (0, 0)) := by
    rw [hw2]
    have := heap_alloc_new ((w.alloc (.cells #[.bool a.neg, .string (bs a.s), .int .i64 a.e] 23)).alloc (.cells #[.bool b.neg, .string (bs b.s), .int .i64 b.e] 23)) (.cells #[.bool false, .bool false, .bool false] 27)
    simpa using this
  have HX : Hid (∀ W, Below w2.heap.size w2 W → W.heap[w.heap.size]? = some (.cells #[.bool a.neg, .string (bs a.s), .int .i64 a.e] 23 (0, 0)) ∧ W.heap[w.heap.size + 2]? = some (.cells #[.bool false, .bool false, .bool false] 27 (0, 0)) ∧ Below w.heap.size w W ∧ W.heap[w.heap.size + 1]? = some (.cells #[.bool b.neg, .string (bs b.s), .int .i64 b.e] 23 (0, 0))) := fun W hW =>
    ⟨hW.blk q0 (by omega), hW.blk q2 (by omega), hba.trans (hW.mono hba.size), hW.blk q1 (by omega)⟩
  have HSZ : Hid (w2.heap.size = w.heap.size + 3) := hsz
  obtain ⟨f, hf⟩ : ∃ f, f = a.okB := ⟨_, rfl⟩
  obtain ⟨f', hf'⟩ : ∃ f, f = b.okB := ⟨_, rfl⟩
  obtain ⟨g, hg⟩ : ∃ g, g = decide (1 ≤ m ∧ m ≤ 6) := ⟨_, rfl⟩
  have HV : Hid (∀ W, Calls Tryz.prog 21 #[.agg #[.bool a.neg, .string (bs a.s), .int .i64 a.e]] W fun e w' => e = .returned (.bool f) ∧ Below W.heap.size W w') := fun W => by rw [hf]; exact rvalid3_v a W hsa
  have HV' : Hid (∀ W, Calls Tryz.prog 21 #[.agg #[.bool b.neg, .string (bs b.s), .int .i64 b.e]] W fun e w' => e = .returned (.bool f') ∧ Below W.heap.size W w') := fun W => by rw [hf']; exact rvalid3_v b W hsb
  have HMD : Hid (∀ W, Calls Tryz.prog 36 #[.int .i64 m] W fun e w' => e = .returned (.bool g) ∧ Below W.heap.size W w') := fun W => by rw [hg]; exact rmode_v m W
  have HF : Hid (f = a.okB ∧ f' = b.okB ∧ g = decide (1 ≤ m ∧ m ≤ 6)) := ⟨hf, hf', hg⟩
  have ka := cell_of_row w2 w.heap.size 0 _ _ _ q0
  have kb := cell_of_row w2 w.heap.size 1 _ _ _ q0
  have kc := cell_of_row w2 w.heap.size 2 _ _ _ q0
  clear hba hsz q0 q1 q2 hf hf' hg hsa hsb hR
  go_enter Tryz.func18, Tryz.ntmps18
  go_upto_region 1 with fail
  rw [← hw2]
  clear hw2
  go_wp2_with fail
  refine (HV.out _).mono ?_
  rintro e w3 ⟨rfl, hb3⟩
  have HB3 : Hid (Below w2.heap.size w2 w3) := hb3
  clear hb3 ka kb kc
  have ka := cell_of_row w3 (w.heap.size + 1) 0 _ _ _ (HX.out w3 HB3.out).2.2.2
  have kb := cell_of_row w3 (w.heap.size + 1) 1 _ _ _ (HX.out w3 HB3.out).2.2.2
  have kc := cell_of_row w3 (w.heap.size + 1) 2 _ _ _ (HX.out w3 HB3.out).2.2.2
  go_wp2_with fail
  refine (HV'.out _).mono ?_
  rintro e w4 ⟨rfl, hb4⟩
  have HB4 : Hid (Below w2.heap.size w2 w4) := HB3.out.thru hb4
  clear hb4 HB3 ka kb kc
  cases f
  · skip
    obtain ⟨f0, c0, f1, c1, f2, c2, r3⟩ := rw3 (HX.out w4 HB4.out).2.1
    have HR3 : Hid _ := r3
    have HBW : Hid (Below w.heap.size w w4) := (HX.out _ HB4.out).2.2.1
    have HRN : Hid (R = RA.no 1) := by
      show _ = _
      rw [HR.out]; unfold ratioA; rw [if_pos (fun h => by have := HF.out.1; rw [(okB_iff a).2 h.1] at this; cases this)]
    clear r3
    go_wp2
    exact ref_end (p := 6) (u := 7) (q := 8) rfl rfl rfl rfl (HR3.out _ _ _) (below_row3 HBW.out (by omega) _ _ _) (by rw [HRN.out]; exact ⟨rfl, rfl, rfl, rfl, rfl⟩)
  cases f'
  · skip
    obtain ⟨f0, c0, f1, c1, f2, c2, r3⟩ := rw3 (HX.out w4 HB4.out).2.1
    have HR3 : Hid _ := r3
    have HBW : Hid (Below w.heap.size w w4) := (HX.out _ HB4.out).2.2.1
    have HRN : Hid (R = RA.no 1) := by
      show _ = _
      rw [HR.out]; unfold ratioA; rw [if_pos (fun h => by have := HF.out.2.1; rw [(okB_iff b).2 h.2.1] at this; cases this)]
    clear r3
    go_wp2
    exact ref_end (p := 6) (u := 7) (q := 8) rfl rfl rfl rfl (HR3.out _ _ _) (below_row3 HBW.out (by omega) _ _ _) (by rw [HRN.out]; exact ⟨rfl, rfl, rfl, rfl, rfl⟩)
  go_wp2_with fail
  refine (HMD.out _).mono ?_
  rintro e w5 ⟨rfl, hb5⟩
  have HB5 : Hid (Below w2.heap.size w2 w5) := HB4.out.thru hb5
  clear hb5 HB4
  cases g
  · skip
    obtain ⟨f0, c0, f1, c1, f2, c2, r3⟩ := rw3 (HX.out w5 HB5.out).2.1
    have HR3 : Hid _ := r3
    have HBW : Hid (Below w.heap.size w w5) := (HX.out _ HB5.out).2.2.1
    have HRN : Hid (R = RA.no 1) := by
      show _ = _
      rw [HR.out]; unfold ratioA; rw [if_pos (fun h => by have := HF.out.2.2; rw [decide_eq_true h.2.2] at this; cases this)]
    clear r3
    go_wp2
    exact ref_end (p := 6) (u := 7) (q := 8) rfl rfl rfl rfl (HR3.out _ _ _) (below_row3 HBW.out (by omega) _ _ _) (by rw [HRN.out]; exact ⟨rfl, rfl, rfl, rfl, rfl⟩)
  have HOA : Hid a.ok := (okB_iff a).1 HF.out.1.symm
  have HOB : Hid b.ok := (okB_iff b).1 HF.out.2.1.symm
  have HM6 : Hid (1 ≤ m ∧ m ≤ 6) := (of_decide_eq_true HF.out.2.2.symm : 1 ≤ m ∧ m ≤ 6)
  have kb := cell_of_row w5 w.heap.size 1 _ _ _ (HX.out w5 HB5.out).1
  have kd := cell_of_row w5 (w.heap.size + 1) 1 _ _ _ (HX.out w5 HB5.out).2.2.2
  by_cases hb0 : b.s = []
  · have he := emp_slice hb0
    have HB00 : Hid (b.s = []) := hb0
    clear hb0
    obtain ⟨f0, c0, f1, c1, f2, c2, r3⟩ := rw3 (HX.out w5 HB5.out).2.1
    have HR3 : Hid _ := r3
    have HBW : Hid (Below w.heap.size w w5) := (HX.out _ HB5.out).2.2.1
    have HRN : Hid (R = RA.no 13) := by
      show _ = _
      rw [HR.out]; unfold ratioA; rw [if_neg (fun h => h ⟨HOA.out, HOB.out, HM6.out⟩), if_pos HB00.out]
    clear r3
    go_wp2
    exact ref_end (p := 6) (u := 7) (q := 8) rfl rfl rfl rfl (HR3.out _ _ _) (below_row3 HBW.out (by omega) _ _ _) (by rw [HRN.out]; exact ⟨rfl, rfl, rfl, rfl, rfl⟩)
  have he' := emp_not hb0
  have HB0 : Hid (b.s ≠ []) := hb0
  clear hb0
  by_cases ha0 : a.s = []
  · have he := emp_slice ha0
    have HA00 : Hid (a.s = []) := ha0
    clear ha0
    obtain ⟨f0, c0, f1, c1, f2, c2, r3⟩ := rw3 (HX.out w5 HB5.out).2.1
    have HR3 : Hid _ := r3
    have HBW : Hid (Below w.heap.size w w5) := (HX.out _ HB5.out).2.2.1
    have HRN : Hid (R = RA.no 0) := by
      show _ = _
      rw [HR.out]; unfold ratioA; rw [if_neg (fun h => h ⟨HOA.out, HOB.out, HM6.out⟩), if_neg HB0.out, if_pos HA00.out]
    clear r3
    go_wp2
    exact ref_end (p := 6) (u := 7) (q := 8) rfl rfl rfl rfl (HR3.out _ _ _) (below_row3 HBW.out (by omega) _ _ _) (by rw [HRN.out]; exact ⟨rfl, rfl, rfl, rfl, rfl⟩)
  have he := emp_not ha0
  have HA0 : Hid (a.s ≠ []) := ha0
  obtain ⟨ng, hng⟩ : ∃ x, x = (a.neg != b.neg) := ⟨_, rfl⟩
  have HNG : Hid (ng = (a.neg != b.neg)) := hng
  obtain ⟨o, ho⟩ : ∃ o, o = outG 53 (-1074) 971 ng m (quoG a b) := ⟨_, rfl⟩
  have HO : Hid (o = outG 53 (-1074) 971 ng m (quoG a b)) := ho
  have HRM : Hid (R = ⟨bits64 ng o, o.ine, o.ov, o.un, 0⟩) := by
    show _ = _
    rw [HR.out]; unfold ratioA
    rw [if_neg (fun h => h ⟨HOA.out, HOB.out, HM6.out⟩), if_neg HB0.out, if_neg ha0, ← hng, ← ho]
  clear ha0 ho hng HF HR
  obtain ⟨na, hna⟩ : ∃ n, n = dval a.s := ⟨_, rfl⟩
  obtain ⟨nb, hnb⟩ : ∃ n, n = dval b.s := ⟨_, rfl⟩
  have HNA : Hid (na = dval a.s ∧ nb = dval b.s) := ⟨hna, hnb⟩
  have H1 : Hid (∀ W, Calls Tryz.prog 51 #[.int .u64 1] W (NatQ 1 W)) := fun W => of_any 1 W (by decide)
  have HDA : Hid (∀ W, Calls Tryz.prog 50 #[.string (bs a.s)] W (NatQ na W)) := fun W => by
    rw [hna]; exact ndigits_v (bs a.s) W (ok_dig HOA.out) (by have := ok_len HOA.out; show a.s.length ≤ _; omega)
  have HDB : Hid (∀ W, Calls Tryz.prog 50 #[.string (bs b.s)] W (NatQ nb W)) := fun W => by
    rw [hnb]; exact ndigits_v (bs b.s) W (ok_dig HOB.out) (by have := ok_len HOB.out; show b.s.length ≤ _; omega)
  go_upto_region 9 with fail
  clear hna hnb kb kd he he' 
  have h1 : once [(43, 0), (44, 1), (45, 2), (46, 3), (47, 4), (48, 5), (49, 6), (50, 7), (51, 8), (52, 9), (53, 10), (54, 11), (11, 12)] = true := by kernel_rfl
  have h2 : within [(43, 0), (44, 1), (45, 2), (46, 3), (47, 4), (48, 5), (49, 6), (50, 7), (51, 8), (52, 9), (53, 10), (54, 11), (11, 12)] 111 = true := by kernel_rfl
  let S : Nat → (Nat → Value) → World → Prop := fun i xs W => match i with
    | 0 => (xs 0) = .pointer (some ⟨w.heap.size, 0, none⟩)
    | 1 => (xs 1) = .bool a.neg
    | 2 => (xs 2) = .pointer (some ⟨w.heap.size + 1, 0, none⟩)
    | 3 => (xs 3) = .bool b.neg
    | 4 => (xs 4) = .bool ng
    | 5 => (xs 5) = .pointer (some ⟨w.heap.size, 1, none⟩)
    | 6 => (xs 6) = .string (bs a.s)
    | 7 => Num .u32 4294967296 W (xs 7) (na)
    | 8 => (xs 8) = .pointer (some ⟨w.heap.size + 1, 1, none⟩)
    | 9 => (xs 9) = .string (bs b.s)
    | 10 => Num .u32 4294967296 W (xs 10) (nb)
    | 11 => ∃ p1 p2 p3 q1 q2 q3, (xs 11) = .agg #[.bool ng, .slice p1 p2 p3, .slice q1 q2 q3, .int .i64 (0), .bool false] ∧ Num .u32 4294967296 W (.slice p1 p2 p3) (na) ∧ Num .u32 4294967296 W (.slice q1 q2 q3) (nb)
    | 12 => ∃ g, (xs 12) = .pointer (some ⟨g, 0, none⟩) ∧ w5.heap.size ≤ g ∧ g < W.heap.size ∧ W.heap[g]? = some (.cells #[.bool false, .slice none 0 0, .slice none 0 0, .int .i64 0, .bool false] 68 (0, 0))
    | _ => True
  have hstab : ∀ j ys W W', S j ys W → Below W.heap.size W W' → S j ys W' := by
    intro j ys W W' h hb
    match j, h with
    | 0, h => exact h
    | 1, h => exact h
    | 2, h => exact h
    | 3, h => exact h
    | 4, h => exact h
    | 5, h => exact h
    | 6, h => exact h
    | 7, h => exact h.below (Nat.le_refl _) hb
    | 8, h => exact h
    | 9, h => exact h
    | 10, h => exact h.below (Nat.le_refl _) hb
    | 11, ⟨p1, p2, p3, q1, q2, q3, e1, n1, n2⟩ => exact ⟨p1, p2, p3, q1, q2, q3, e1, n1.below (Nat.le_refl _) hb, n2.below (Nat.le_refl _) hb⟩
    | 12, ⟨g, s1, s2, s3, s4⟩ => exact ⟨g, s1, s2, Nat.lt_of_lt_of_le s3 hb.size, hb.blk s4 s3⟩
    | _ + 13, h => exact trivial
  refine wp_region_flow3T 13 14 4 [(43, 0), (44, 1), (45, 2), (46, 3), (47, 4), (48, 5), (49, 6), (50, 7), (51, 8), (52, 9), (53, 10), (54, 11), (11, 12)] [12] S (fun _ W => (fun W => Below w5.heap.size w5 W) W) ((Below.refl _ _).drew) (by kernel_rfl) (by kernel_rfl) (by kernel_rfl) (by decide) (by kernel_rfl) h1 (by kernel_rfl) ?_ ?_ ?_ ?_
  · intro j hj xs W h
    simp only [List.mem_cons, List.not_mem_nil, or_false] at hj
    rcases hj with rfl
    · obtain ⟨g, s1, s2, s3, s4⟩ := h; exact ⟨g, s1, s3⟩
  · intro j xs ys W e h
    match j, e, h with
    | 0, e, h => exact (e 0 (.inl rfl)).symm.trans h
    | 1, e, h => exact (e 1 (.inl rfl)).symm.trans h
    | 2, e, h => exact (e 2 (.inl rfl)).symm.trans h
    | 3, e, h => exact (e 3 (.inl rfl)).symm.trans h
    | 4, e, h => exact (e 4 (.inl rfl)).symm.trans h
    | 5, e, h => exact (e 5 (.inl rfl)).symm.trans h
    | 6, e, h => exact (e 6 (.inl rfl)).symm.trans h
    | 7, e, h => exact (congrArg (fun z => Num .u32 4294967296 W z _) (e 7 (.inl rfl))).mp h
    | 8, e, h => exact (e 8 (.inl rfl)).symm.trans h
    | 9, e, h => exact (e 9 (.inl rfl)).symm.trans h
    | 10, e, h => exact (congrArg (fun z => Num .u32 4294967296 W z _) (e 10 (.inl rfl))).mp h
    | 11, e, ⟨p1, p2, p3, q1, q2, q3, e1, r⟩ => exact ⟨p1, p2, p3, q1, q2, q3, (e 11 (.inl rfl)).symm.trans e1, r⟩
    | 12, e, ⟨g, s1, r⟩ => exact ⟨g, (e 12 (.inl rfl)).symm.trans s1, r⟩
    | _ + 13, e, h => exact trivial
  · refine ⟨⟨⟨⟨⟨⟨⟨⟨⟨⟨⟨⟨⟨trivial, ?_⟩, ?_⟩, ?_⟩, ?_⟩, ?_⟩, ?_⟩, ?_⟩, ?_⟩, ?_⟩, ?_⟩, ?_⟩, ?_⟩, ?_⟩
    · refine flow3_step _ (some 43) rfl rfl rfl h1 h2 (fun D W _ h => h) (fun D W W' h hb => h.thru hb) hstab fun ac xs W Dn he hni hb hS K hK => ?_
      have e0 : ac.eval (.tmp 3) = .pointer (some ⟨w.heap.size, 0, none⟩) := he 3
      refine op_any (.fieldAddr 23 (.tmp 3) 0) rfl (.pointer (some ⟨w.heap.size, 0, none⟩)) (fun o' ho' => ?_) (hK _ _ rfl (Below.refl _ _) (fun h => absurd h (by decide)))
      simp only [execOp, ho', e0]
      go_simp
    · refine flow3_step _ (some 44) rfl rfl rfl h1 h2 (fun D W _ h => h) (fun D W W' h hb => h.thru hb) hstab fun ac xs W Dn he hni hb hS K hK => ?_
      have e0 : ac.eval (.tmp 43) = _ := (he 43).trans (hS 0 (by kernel_rfl))
      refine op_any (.load 4 (.tmp 43)) rfl (.bool a.neg) (fun o' ho' => ?_) (hK _ _ rfl (Below.refl _ _) (fun h => absurd h (by decide)))
      simp only [execOp, ho', e0]
      have hc := cell_of_row W w.heap.size 0 _ _ _ (HX.out W (HB5.out.thru hb)).1
      go_simp
    · refine flow3_step _ (some 45) rfl rfl rfl h1 h2 (fun D W _ h => h) (fun D W W' h hb => h.thru hb) hstab fun ac xs W Dn he hni hb hS K hK => ?_
      have e0 : ac.eval (.tmp 4) = .pointer (some ⟨w.heap.size + 1, 0, none⟩) := he 4
      refine op_any (.fieldAddr 23 (.tmp 4) 0) rfl (.pointer (some ⟨w.heap.size + 1, 0, none⟩)) (fun o' ho' => ?_) (hK _ _ rfl (Below.refl _ _) (fun h => absurd h (by decide)))
      simp only [execOp, ho', e0]
      go_simp
    · refine flow3_step _ (some 46) rfl rfl rfl h1 h2 (fun D W _ h => h) (fun D W W' h hb => h.thru hb) hstab fun ac xs W Dn he hni hb hS K hK => ?_
      have e0 : ac.eval (.tmp 45) = _ := (he 45).trans (hS 2 (by kernel_rfl))
      refine op_any (.load 4 (.tmp 45)) rfl (.bool b.neg) (fun o' ho' => ?_) (hK _ _ rfl (Below.refl _ _) (fun h => absurd h (by decide)))
      simp only [execOp, ho', e0]
      have hc := cell_of_row W (w.heap.size + 1) 0 _ _ _ (HX.out W (HB5.out.thru hb)).2.2.2
      go_simp
    · refine flow3_step _ (some 47) rfl rfl rfl h1 h2 (fun D W _ h => h) (fun D W W' h hb => h.thru hb) hstab fun ac xs W Dn he hni hb hS K hK => ?_
      have k0 : (!(a.neg == b.neg)) = ng := by rw [HNG.out]; rfl
      have e0 : ac.eval (.tmp 44) = _ := (he 44).trans (hS 1 (by kernel_rfl))
      have e1 : ac.eval (.tmp 46) = _ := (he 46).trans (hS 3 (by kernel_rfl))
      refine op_any (.binOp .neq 4 (.tmp 44) (.tmp 46) 4) rfl (.bool ng) (fun o' ho' => ?_) (hK _ _ rfl (Below.refl _ _) (fun h => absurd h (by decide)))
      simp only [execOp, ho', e0, e1]
      go_simp
    · refine flow3_step _ (some 48) rfl rfl rfl h1 h2 (fun D W _ h => h) (fun D W W' h hb => h.thru hb) hstab fun ac xs W Dn he hni hb hS K hK => ?_
      have e0 : ac.eval (.tmp 3) = .pointer (some ⟨w.heap.size, 0, none⟩) := he 3
      refine op_any (.fieldAddr 23 (.tmp 3) 1) rfl (.pointer (some ⟨w.heap.size, 1, none⟩)) (fun o' ho' => ?_) (hK _ _ rfl (Below.refl _ _) (fun h => absurd h (by decide)))
      simp only [execOp, ho', e0]
      go_simp
    · refine flow3_step _ (some 49) rfl rfl rfl h1 h2 (fun D W _ h => h) (fun D W W' h hb => h.thru hb) hstab fun ac xs W Dn he hni hb hS K hK => ?_
      have e0 : ac.eval (.tmp 48) = _ := (he 48).trans (hS 5 (by kernel_rfl))
      refine op_any (.load 9 (.tmp 48)) rfl (.string (bs a.s)) (fun o' ho' => ?_) (hK _ _ rfl (Below.refl _ _) (fun h => absurd h (by decide)))
      simp only [execOp, ho', e0]
      have hc := cell_of_row W w.heap.size 1 _ _ _ (HX.out W (HB5.out.thru hb)).1
      go_simp
    · refine flow3_step _ (some 50) rfl rfl rfl h1 h2 (fun D W _ h => h) (fun D W W' h hb => h.thru hb) hstab fun ac xs W Dn he hni hb hS K hK => ?_
      have e0 : ac.eval (.tmp 49) = _ := (he 49).trans (hS 6 (by kernel_rfl))
      refine op_call 50 _ _ rfl _ (by simp only [List.map, e0]) (by go_simp) (HDA.out W) ?_
      rintro e' W' ⟨u, rfl, hi', hb'⟩
      exact ⟨_, rfl, hK _ _ (hi') hb' (fun h => absurd h (by decide))⟩
    · refine flow3_step _ (some 51) rfl rfl rfl h1 h2 (fun D W _ h => h) (fun D W W' h hb => h.thru hb) hstab fun ac xs W Dn he hni hb hS K hK => ?_
      have e0 : ac.eval (.tmp 4) = .pointer (some ⟨w.heap.size + 1, 0, none⟩) := he 4
      refine op_any (.fieldAddr 23 (.tmp 4) 1) rfl (.pointer (some ⟨w.heap.size + 1, 1, none⟩)) (fun o' ho' => ?_) (hK _ _ rfl (Below.refl _ _) (fun h => absurd h (by decide)))
      simp only [execOp, ho', e0]
      go_simp
    · refine flow3_step _ (some 52) rfl rfl rfl h1 h2 (fun D W _ h => h) (fun D W W' h hb => h.thru hb) hstab fun ac xs W Dn he hni hb hS K hK => ?_
      have e0 : ac.eval (.tmp 51) = _ := (he 51).trans (hS 8 (by kernel_rfl))
      refine op_any (.load 9 (.tmp 51)) rfl (.string (bs b.s)) (fun o' ho' => ?_) (hK _ _ rfl (Below.refl _ _) (fun h => absurd h (by decide)))
      simp only [execOp, ho', e0]
      have hc := cell_of_row W (w.heap.size + 1) 1 _ _ _ (HX.out W (HB5.out.thru hb)).2.2.2
      go_simp
    · refine flow3_step _ (some 53) rfl rfl rfl h1 h2 (fun D W _ h => h) (fun D W W' h hb => h.thru hb) hstab fun ac xs W Dn he hni hb hS K hK => ?_
      have e0 : ac.eval (.tmp 52) = _ := (he 52).trans (hS 9 (by kernel_rfl))
      refine op_call 50 _ _ rfl _ (by simp only [List.map, e0]) (by go_simp) (HDB.out W) ?_
      rintro e' W' ⟨u, rfl, hi', hb'⟩
      exact ⟨_, rfl, hK _ _ (hi') hb' (fun h => absurd h (by decide))⟩
    · refine flow3_step _ (some 54) rfl rfl rfl h1 h2 (fun D W _ h => h) (fun D W W' h hb => h.thru hb) hstab fun ac xs W Dn he hni hb hS K hK => ?_
      have n1 : Num .u32 4294967296 W (xs 7) (na) := hS 7 (by kernel_rfl)
      have n2 : Num .u32 4294967296 W (xs 10) (nb) := hS 10 (by kernel_rfl)
      obtain ⟨p1, p2, p3, e1⟩ := n1.shape
      obtain ⟨q1, q2, q3, e2⟩ := n2.shape
      rw [e1] at n1
      rw [e2] at n2
      have f0 : ac.tmps[47]?.getD undef = .bool ng := by rw [← Array.getD_eq_getD_getElem?]; exact (he 47).trans (hS 4 (by kernel_rfl))
      have f1 : ac.tmps[50]?.getD undef = .slice p1 p2 p3 := by rw [← Array.getD_eq_getD_getElem?]; exact (he 50).trans e1
      have f2 : ac.tmps[53]?.getD undef = .slice q1 q2 q3 := by rw [← Array.getD_eq_getD_getElem?]; exact (he 53).trans e2
      refine op_any (.build 68 #[(0, .tmp 47), (1, .tmp 50), (2, .tmp 53)]) rfl (.agg #[.bool ng, .slice p1 p2 p3, .slice q1 q2 q3, .int .i64 (0), .bool false]) (fun o' ho' => ?_) (hK _ _ ⟨_, _, _, _, _, _, rfl, n1, n2⟩ (Below.refl _ _) (fun h => absurd h (by decide)))
      simp only [execOp, ho']
      go_simp
    · refine flow3_step _ (some 11) rfl rfl rfl h1 h2 (fun D W _ h => h) (fun D W W' h hb => h.thru hb) hstab fun ac xs W Dn he hni hb hS K hK => ?_
      have hsz := hb.size
      refine op_anyw (.alloc 68) rfl (.pointer (some ⟨W.heap.size, 0, none⟩)) (W.alloc (.cells #[.bool false, .slice none 0 0, .slice none 0 0, .int .i64 0, .bool false] 68)) ?_ ?_
      · intro o' ho'
        simp only [execOp, ho']
        go_simp
      · exact hK _ _ ⟨_, rfl, by omega, by simp, heap_alloc_new _ _⟩ ((Below.refl _ _).alloc (Nat.le_refl _) _) (fun _ => rfl)
  · intro xs W4 Dn hall hb hS hD
    obtain ⟨p1, p2, p3, q1, q2, q3, s6, n1, n2⟩ := hS 11 (by decide)
    obtain ⟨g4, s7, hg4, hg5, hr4⟩ := hS 12 (by decide)
    simp only [layAll, s6, s7, List.setIfInBounds_toArray, List.set_cons_succ, List.set_cons_zero]
    clear hS hD hall hstab S s6 s7 h1 h2
    have hsz := HSZ.out
    have hs5 := HB5.out.size
    refine wpList_store_row rfl 68 (.tmp 11) (.tmp 54) rfl g4 #[.bool ng, .slice p1 p2 p3, .slice q1 q2 q3, .int .i64 0, .bool false] rfl rfl _ _ hr4 (by kernel_rfl) rfl (by simp [Value.oneCell']) ?_
    obtain ⟨w6, hw6⟩ : ∃ W, W = W4.setRow g4 #[.bool ng, .slice p1 p2 p3, .slice q1 q2 q3, .int .i64 0, .bool false] := ⟨_, rfl⟩
    obtain ⟨z1, z2, z3, z4⟩ := HX.out _ (HB5.out.thru hb)
    have HDR : Hid (DR w6 g4 ng na nb 0 false) := by show DR _ _ _ _ _ _ _; rw [hw6]; exact ⟨_, _, _, _, _, _, setRow_heap W4 g4 _ _ _ _ hr4, num_setRow32 n1 hr4 (no_u32v _ _ _ _ _ _ _ _ _), num_setRow32 n2 hr4 (no_u32v _ _ _ _ _ _ _ _ _)⟩
    have HF6 : Hid (Below w.heap.size w w6 ∧ w6.heap[w.heap.size + 2]? = some (.cells #[.bool false, .bool false, .bool false] 27 (0, 0))) := by show _ ∧ _; rw [hw6]; exact ⟨below_setRow z3 (by omega) _, (setRow_other W4 g4 _ _ (by omega)).trans z2⟩
    have hy1 : w6.heap[w.heap.size]? = some (.cells #[.bool a.neg, .string (bs a.s), .int .i64 a.e] 23 (0, 0)) := by rw [hw6]; exact (setRow_other W4 g4 _ _ (by omega)).trans z1
    have hy2 : w6.heap[w.heap.size + 1]? = some (.cells #[.bool b.neg, .string (bs b.s), .int .i64 b.e] 23 (0, 0)) := by rw [hw6]; exact (setRow_other W4 g4 _ _ (by omega)).trans z4
    have HG4 : Hid (w.heap.size + 3 ≤ g4) := by show _ ≤ _; omega
    rw [← hw6]
    clear hw6 n1 n2 hr4 hg4 hg5 hb HX hsz hs5 z1 z2 z3 z4 HB5
    obtain ⟨ex, hex⟩ : ∃ x, x = a.e - b.e := ⟨_, rfl⟩
    obtain ⟨far, hfar⟩ : ∃ x, x = farV a b := ⟨_, rfl⟩
    have HEX : Hid (ex = a.e - b.e) := hex
    have HFAR : Hid (far = farV a b) := hfar
    unfold farV at hfar
    have lA := ok_len HOA.out
    have lB := ok_len HOB.out
    have eA := ok_exp HOA.out
    have eB := ok_exp HOB.out
    have z1 : ((bs a.s).size : Int) = (a.s.length : Nat) := rfl
    have z2 : ((bs b.s).size : Int) = (b.s.length : Nat) := rfl
    have i1 : IntKind.i64.wrap (a.e - b.e) = ex := by rw [hex]; exact IntWalk.i64_in _ (by omega)
    have i2 : IntKind.i64.wrap ((a.s.length : Int) - b.s.length) = (a.s.length : Int) - b.s.length := IntWalk.i64_in _ (by omega)
    have i3 : IntKind.i64.wrap ((a.s.length : Int) - b.s.length + ex) = far := by rw [hfar, hex]; exact IntWalk.i64_in _ (by omega)
    have HEB : Hid (-40000 ≤ ex ∧ ex ≤ 40000) := by show _ ∧ _; omega
    have da := cell_of_row w6 w.heap.size 1 _ _ _ hy1
    have ca := cell_of_row w6 w.heap.size 2 _ _ _ hy1
    have db := cell_of_row w6 (w.heap.size + 1) 1 _ _ _ hy2
    have cb := cell_of_row w6 (w.heap.size + 1) 2 _ _ _ hy2
    clear hex hfar lA lB eA eB hy1 hy2
    go_upto_block 1 with fail
    clear da ca db cb i1 i2 i3 z1 z2
    go_cut [] (fun wx => ∃ M D E, DR wx g4 ng M D E false ∧ DV a b M D E ∧ Below w.heap.size w wx ∧ wx.heap[w.heap.size + 2]? = some (.cells #[.bool false, .bool false, .bool false] 27 (0, 0)))
    case first => as_aux_lemma =>
      by_cases hu : 400 < far
      · go_upto_region 14 with fail
        have h1 : once [(79, 0), (80, 1), (81, 2), (82, 3), (83, 4)] = true := by kernel_rfl
        have h2 : within [(79, 0), (80, 1), (81, 2), (82, 3), (83, 4)] 111 = true := by kernel_rfl
        let S : Nat → (Nat → Value) → World → Prop := fun i xs W => match i with
          | 0 => (xs 0) = .pointer (some ⟨g4, 0, none⟩)
          | 1 => (xs 1) = .bool ng
          | 2 => Num .u32 4294967296 W (xs 2) (1)
          | 3 => Num .u32 4294967296 W (xs 3) (1)
          | 4 => ∃ p1 p2 p3 q1 q2 q3, (xs 4) = .agg #[.bool ng, .slice p1 p2 p3, .slice q1 q2 q3, .int .i64 (1400), .bool false] ∧ Num .u32 4294967296 W (.slice p1 p2 p3) (1) ∧ Num .u32 4294967296 W (.slice q1 q2 q3) (1)
          | _ => True
        have hstab : ∀ j ys W W', S j ys W → Below W.heap.size W W' → S j ys W' := by
          intro j ys W W' h hb
          match j, h with
          | 0, h => exact h
          | 1, h => exact h
          | 2, h => exact h.below (Nat.le_refl _) hb
          | 3, h => exact h.below (Nat.le_refl _) hb
          | 4, ⟨p1, p2, p3, q1, q2, q3, e1, n1, n2⟩ => exact ⟨p1, p2, p3, q1, q2, q3, e1, n1.below (Nat.le_refl _) hb, n2.below (Nat.le_refl _) hb⟩
          | _ + 5, h => exact trivial
        refine wp_region_flow3T 5 6 4 [(79, 0), (80, 1), (81, 2), (82, 3), (83, 4)] [] S (fun _ W => (fun W => Below w6.heap.size w6 W) W) ((Below.refl _ _).drew) (by kernel_rfl) (by kernel_rfl) (by kernel_rfl) (by decide) (by kernel_rfl) h1 (by kernel_rfl) ?_ ?_ ?_ ?_
        · exact fun j hj => by cases hj
        · intro j xs ys W e h
          match j, e, h with
          | 0, e, h => exact (e 0 (.inl rfl)).symm.trans h
          | 1, e, h => exact (e 1 (.inl rfl)).symm.trans h
          | 2, e, h => exact (congrArg (fun z => Num .u32 4294967296 W z _) (e 2 (.inl rfl))).mp h
          | 3, e, h => exact (congrArg (fun z => Num .u32 4294967296 W z _) (e 3 (.inl rfl))).mp h
          | 4, e, ⟨p1, p2, p3, q1, q2, q3, e1, r⟩ => exact ⟨p1, p2, p3, q1, q2, q3, (e 4 (.inl rfl)).symm.trans e1, r⟩
          | _ + 5, e, h => exact trivial
        · refine ⟨⟨⟨⟨⟨trivial, ?_⟩, ?_⟩, ?_⟩, ?_⟩, ?_⟩
          · refine flow3_step _ (some 79) rfl rfl rfl h1 h2 (fun D W _ h => h) (fun D W W' h hb => h.thru hb) hstab fun ac xs W Dn he hni hb hS K hK => ?_
            have e0 : ac.eval (.tmp 11) = .pointer (some ⟨g4, 0, none⟩) := he 11
            refine op_any (.fieldAddr 68 (.tmp 11) 0) rfl (.pointer (some ⟨g4, 0, none⟩)) (fun o' ho' => ?_) (hK _ _ rfl (Below.refl _ _) (fun h => absurd h (by decide)))
            simp only [execOp, ho', e0]
            go_simp
          · refine flow3_step _ (some 80) rfl rfl rfl h1 h2 (fun D W _ h => h) (fun D W W' h hb => h.thru hb) hstab fun ac xs W Dn he hni hb hS K hK => ?_
            obtain ⟨b1, b2, b3, d1, d2, d3, r5, n5, n6⟩ := HDR.out.below hb
            have k0 := cell_of_row W g4 0 _ _ _ r5
            have e0 : ac.eval (.tmp 79) = _ := (he 79).trans (hS 0 (by kernel_rfl))
            refine op_any (.load 4 (.tmp 79)) rfl (.bool ng) (fun o' ho' => ?_) (hK _ _ rfl (Below.refl _ _) (fun h => absurd h (by decide)))
            simp only [execOp, ho', e0]
            go_simp
          · refine flow3_step _ (some 81) rfl rfl rfl h1 h2 (fun D W _ h => h) (fun D W W' h hb => h.thru hb) hstab fun ac xs W Dn he hni hb hS K hK => ?_
            refine op_call 51 _ _ rfl _ (by simp only [List.map, eval_const]) (by go_simp) (H1.out W) ?_
            rintro e' W' ⟨u, rfl, hi', hb'⟩
            exact ⟨_, rfl, hK _ _ (hi') hb' (fun h => absurd h (by decide))⟩
          · refine flow3_step _ (some 82) rfl rfl rfl h1 h2 (fun D W _ h => h) (fun D W W' h hb => h.thru hb) hstab fun ac xs W Dn he hni hb hS K hK => ?_
            refine op_call 51 _ _ rfl _ (by simp only [List.map, eval_const]) (by go_simp) (H1.out W) ?_
            rintro e' W' ⟨u, rfl, hi', hb'⟩
            exact ⟨_, rfl, hK _ _ (hi') hb' (fun h => absurd h (by decide))⟩
          · refine flow3_step _ (some 83) rfl rfl rfl h1 h2 (fun D W _ h => h) (fun D W W' h hb => h.thru hb) hstab fun ac xs W Dn he hni hb hS K hK => ?_
            have n1 : Num .u32 4294967296 W (xs 2) (1) := hS 2 (by kernel_rfl)
            have n2 : Num .u32 4294967296 W (xs 3) (1) := hS 3 (by kernel_rfl)
            obtain ⟨p1, p2, p3, e1⟩ := n1.shape
            obtain ⟨q1, q2, q3, e2⟩ := n2.shape
            rw [e1] at n1
            rw [e2] at n2
            have f0 : ac.tmps[80]?.getD undef = .bool ng := by rw [← Array.getD_eq_getD_getElem?]; exact (he 80).trans (hS 1 (by kernel_rfl))
            have f1 : ac.tmps[81]?.getD undef = .slice p1 p2 p3 := by rw [← Array.getD_eq_getD_getElem?]; exact (he 81).trans e1
            have f2 : ac.tmps[82]?.getD undef = .slice q1 q2 q3 := by rw [← Array.getD_eq_getD_getElem?]; exact (he 82).trans e2
            refine op_any (.build 68 #[(0, .tmp 80), (1, .tmp 81), (2, .tmp 82), (3, .const (.int .i64 (1400)))]) rfl (.agg #[.bool ng, .slice p1 p2 p3, .slice q1 q2 q3, .int .i64 (1400), .bool false]) (fun o' ho' => ?_) (hK _ _ ⟨_, _, _, _, _, _, rfl, n1, n2⟩ (Below.refl _ _) (fun h => absurd h (by decide)))
            simp only [execOp, ho']
            go_simp
        · intro xs WL Dn hall hb hS hD
          obtain ⟨p1, p2, p3, q1, q2, q3, s4, n1, n2⟩ := hS 4 (by decide)
          obtain ⟨b1, b2, b3, d1, d2, d3, r5, n5, n6⟩ := HDR.out.below hb
          simp only [layAll, s4, List.setIfInBounds_toArray, List.set_cons_succ, List.set_cons_zero]
          refine wpList_store_row rfl 68 (.tmp 11) (.tmp 83) rfl g4 #[.bool ng, .slice p1 p2 p3, .slice q1 q2 q3, .int .i64 (1400), .bool false] rfl rfl _ _ r5 (by kernel_rfl) rfl (by simp [Value.oneCell']) ?_
          have HFIN : Hid (DR (WL.setRow g4 #[.bool ng, .slice p1 p2 p3, .slice q1 q2 q3, .int .i64 (1400), .bool false]) g4 ng 1 1 (1400) false ∧ Below w.heap.size w (WL.setRow g4 #[.bool ng, .slice p1 p2 p3, .slice q1 q2 q3, .int .i64 (1400), .bool false]) ∧ (WL.setRow g4 #[.bool ng, .slice p1 p2 p3, .slice q1 q2 q3, .int .i64 (1400), .bool false]).heap[w.heap.size + 2]? = some (.cells #[.bool false, .bool false, .bool false] 27 (0, 0))) := ⟨⟨_, _, _, _, _, _, setRow_heap WL g4 _ _ _ _ r5, num_setRow32 n1 r5 (no_u32v _ _ _ _ _ _ _ _ _), num_setRow32 n2 r5 (no_u32v _ _ _ _ _ _ _ _ _)⟩, below_setRow (HF6.out.1.thru hb) (by have := HG4.out; omega) _, (setRow_other WL g4 _ _ (by have := HG4.out; omega)).trans (hb.blk HF6.out.2 (blk_lt HF6.out.2))⟩
          clear hS hD hall hstab S s4 h1 h2 n1 n2 hb n5 n6 r5
          show wpList Tryz.prog _ _ [] _ _
          repeat (first | go_values | go_skip | go_guarded | go_step | go_upon | go_in | go_back)
          go_meet
          exact ⟨1, 1, 1400, HFIN.out.1, .inl ⟨by have := HFAR.out; omega, rfl, rfl, rfl⟩, HFIN.out.2.1, HFIN.out.2.2⟩
      by_cases hd : far < -400
      · go_upto_region 16 with fail
        have h1 : once [(87, 0), (88, 1), (89, 2), (90, 3), (91, 4)] = true := by kernel_rfl
        have h2 : within [(87, 0), (88, 1), (89, 2), (90, 3), (91, 4)] 111 = true := by kernel_rfl
        let S : Nat → (Nat → Value) → World → Prop := fun i xs W => match i with
          | 0 => (xs 0) = .pointer (some ⟨g4, 0, none⟩)
          | 1 => (xs 1) = .bool ng
          | 2 => Num .u32 4294967296 W (xs 2) (1)
          | 3 => Num .u32 4294967296 W (xs 3) (1)
          | 4 => ∃ p1 p2 p3 q1 q2 q3, (xs 4) = .agg #[.bool ng, .slice p1 p2 p3, .slice q1 q2 q3, .int .i64 (-1400), .bool false] ∧ Num .u32 4294967296 W (.slice p1 p2 p3) (1) ∧ Num .u32 4294967296 W (.slice q1 q2 q3) (1)
          | _ => True
        have hstab : ∀ j ys W W', S j ys W → Below W.heap.size W W' → S j ys W' := by
          intro j ys W W' h hb
          match j, h with
          | 0, h => exact h
          | 1, h => exact h
          | 2, h => exact h.below (Nat.le_refl _) hb
          | 3, h => exact h.below (Nat.le_refl _) hb
          | 4, ⟨p1, p2, p3, q1, q2, q3, e1, n1, n2⟩ => exact ⟨p1, p2, p3, q1, q2, q3, e1, n1.below (Nat.le_refl _) hb, n2.below (Nat.le_refl _) hb⟩
          | _ + 5, h => exact trivial
        refine wp_region_flow3T 5 6 4 [(87, 0), (88, 1), (89, 2), (90, 3), (91, 4)] [] S (fun _ W => (fun W => Below w6.heap.size w6 W) W) ((Below.refl _ _).drew) (by kernel_rfl) (by kernel_rfl) (by kernel_rfl) (by decide) (by kernel_rfl) h1 (by kernel_rfl) ?_ ?_ ?_ ?_
        · exact fun j hj => by cases hj
        · intro j xs ys W e h
          match j, e, h with
          | 0, e, h => exact (e 0 (.inl rfl)).symm.trans h
          | 1, e, h => exact (e 1 (.inl rfl)).symm.trans h
          | 2, e, h => exact (congrArg (fun z => Num .u32 4294967296 W z _) (e 2 (.inl rfl))).mp h
          | 3, e, h => exact (congrArg (fun z => Num .u32 4294967296 W z _) (e 3 (.inl rfl))).mp h
          | 4, e, ⟨p1, p2, p3, q1, q2, q3, e1, r⟩ => exact ⟨p1, p2, p3, q1, q2, q3, (e 4 (.inl rfl)).symm.trans e1, r⟩
          | _ + 5, e, h => exact trivial
        · refine ⟨⟨⟨⟨⟨trivial, ?_⟩, ?_⟩, ?_⟩, ?_⟩, ?_⟩
          · refine flow3_step _ (some 87) rfl rfl rfl h1 h2 (fun D W _ h => h) (fun D W W' h hb => h.thru hb) hstab fun ac xs W Dn he hni hb hS K hK => ?_
            have e0 : ac.eval (.tmp 11) = .pointer (some ⟨g4, 0, none⟩) := he 11
            refine op_any (.fieldAddr 68 (.tmp 11) 0) rfl (.pointer (some ⟨g4, 0, none⟩)) (fun o' ho' => ?_) (hK _ _ rfl (Below.refl _ _) (fun h => absurd h (by decide)))
            simp only [execOp, ho', e0]
            go_simp
          · refine flow3_step _ (some 88) rfl rfl rfl h1 h2 (fun D W _ h => h) (fun D W W' h hb => h.thru hb) hstab fun ac xs W Dn he hni hb hS K hK => ?_
            obtain ⟨b1, b2, b3, d1, d2, d3, r5, n5, n6⟩ := HDR.out.below hb
            have k0 := cell_of_row W g4 0 _ _ _ r5
            have e0 : ac.eval (.tmp 87) = _ := (he 87).trans (hS 0 (by kernel_rfl))
            refine op_any (.load 4 (.tmp 87)) rfl (.bool ng) (fun o' ho' => ?_) (hK _ _ rfl (Below.refl _ _) (fun h => absurd h (by decide)))
            simp only [execOp, ho', e0]
            go_simp
          · refine flow3_step _ (some 89) rfl rfl rfl h1 h2 (fun D W _ h => h) (fun D W W' h hb => h.thru hb) hstab fun ac xs W Dn he hni hb hS K hK => ?_
            refine op_call 51 _ _ rfl _ (by simp only [List.map, eval_const]) (by go_simp) (H1.out W) ?_
            rintro e' W' ⟨u, rfl, hi', hb'⟩
            exact ⟨_, rfl, hK _ _ (hi') hb' (fun h => absurd h (by decide))⟩
          · refine flow3_step _ (some 90) rfl rfl rfl h1 h2 (fun D W _ h => h) (fun D W W' h hb => h.thru hb) hstab fun ac xs W Dn he hni hb hS K hK => ?_
            refine op_call 51 _ _ rfl _ (by simp only [List.map, eval_const]) (by go_simp) (H1.out W) ?_
            rintro e' W' ⟨u, rfl, hi', hb'⟩
            exact ⟨_, rfl, hK _ _ (hi') hb' (fun h => absurd h (by decide))⟩
          · refine flow3_step _ (some 91) rfl rfl rfl h1 h2 (fun D W _ h => h) (fun D W W' h hb => h.thru hb) hstab fun ac xs W Dn he hni hb hS K hK => ?_
            have n1 : Num .u32 4294967296 W (xs 2) (1) := hS 2 (by kernel_rfl)
            have n2 : Num .u32 4294967296 W (xs 3) (1) := hS 3 (by kernel_rfl)
            obtain ⟨p1, p2, p3, e1⟩ := n1.shape
            obtain ⟨q1, q2, q3, e2⟩ := n2.shape
            rw [e1] at n1
            rw [e2] at n2
            have f0 : ac.tmps[88]?.getD undef = .bool ng := by rw [← Array.getD_eq_getD_getElem?]; exact (he 88).trans (hS 1 (by kernel_rfl))
            have f1 : ac.tmps[89]?.getD undef = .slice p1 p2 p3 := by rw [← Array.getD_eq_getD_getElem?]; exact (he 89).trans e1
            have f2 : ac.tmps[90]?.getD undef = .slice q1 q2 q3 := by rw [← Array.getD_eq_getD_getElem?]; exact (he 90).trans e2
            refine op_any (.build 68 #[(0, .tmp 88), (1, .tmp 89), (2, .tmp 90), (3, .const (.int .i64 (-1400)))]) rfl (.agg #[.bool ng, .slice p1 p2 p3, .slice q1 q2 q3, .int .i64 (-1400), .bool false]) (fun o' ho' => ?_) (hK _ _ ⟨_, _, _, _, _, _, rfl, n1, n2⟩ (Below.refl _ _) (fun h => absurd h (by decide)))
            simp only [execOp, ho']
            go_simp
        · intro xs WL Dn hall hb hS hD
          obtain ⟨p1, p2, p3, q1, q2, q3, s4, n1, n2⟩ := hS 4 (by decide)
          obtain ⟨b1, b2, b3, d1, d2, d3, r5, n5, n6⟩ := HDR.out.below hb
          simp only [layAll, s4, List.setIfInBounds_toArray, List.set_cons_succ, List.set_cons_zero]
          refine wpList_store_row rfl 68 (.tmp 11) (.tmp 91) rfl g4 #[.bool ng, .slice p1 p2 p3, .slice q1 q2 q3, .int .i64 (-1400), .bool false] rfl rfl _ _ r5 (by kernel_rfl) rfl (by simp [Value.oneCell']) ?_
          have HFIN : Hid (DR (WL.setRow g4 #[.bool ng, .slice p1 p2 p3, .slice q1 q2 q3, .int .i64 (-1400), .bool false]) g4 ng 1 1 (-1400) false ∧ Below w.heap.size w (WL.setRow g4 #[.bool ng, .slice p1 p2 p3, .slice q1 q2 q3, .int .i64 (-1400), .bool false]) ∧ (WL.setRow g4 #[.bool ng, .slice p1 p2 p3, .slice q1 q2 q3, .int .i64 (-1400), .bool false]).heap[w.heap.size + 2]? = some (.cells #[.bool false, .bool false, .bool false] 27 (0, 0))) := ⟨⟨_, _, _, _, _, _, setRow_heap WL g4 _ _ _ _ r5, num_setRow32 n1 r5 (no_u32v _ _ _ _ _ _ _ _ _), num_setRow32 n2 r5 (no_u32v _ _ _ _ _ _ _ _ _)⟩, below_setRow (HF6.out.1.thru hb) (by have := HG4.out; omega) _, (setRow_other WL g4 _ _ (by have := HG4.out; omega)).trans (hb.blk HF6.out.2 (blk_lt HF6.out.2))⟩
          clear hS hD hall hstab S s4 h1 h2 n1 n2 hb n5 n6 r5
          show wpList Tryz.prog _ _ [] _ _
          repeat (first | go_values | go_skip | go_guarded | go_step | go_upon | go_in | go_back)
          go_meet
          exact ⟨1, 1, -1400, HFIN.out.1, .inr (.inl ⟨by have := HFAR.out; omega, rfl, rfl, rfl⟩), HFIN.out.2.1, HFIN.out.2.2⟩
      by_cases hx : 0 ≤ ex
      · obtain ⟨k, hk⟩ : ∃ k : Nat, ex = k := ⟨ex.toNat, by omega⟩
        have HKX : Hid (ex = (k : Int)) := hk
        have hkb : k ≤ 40000 := by have := HEB.out; omega
        have HT : Hid (∀ W, Calls Tryz.prog 53 #[.int .i64 ex] W (NatQ (10 ^ k) W)) := fun W => by rw [hk]; exact nten_v k W (by omega)
        obtain ⟨b2, hb2⟩ : ∃ b, b = 4 * 50000 + 1 := ⟨_, rfl⟩
        have HM : Hid (∀ W x y, Num .u32 4294967296 W x na → Num .u32 4294967296 W y (10 ^ k) → Calls Tryz.prog 52 #[x, y] W (NatQ (na * 10 ^ k) W)) := fun W x y hx hy =>
          nmul_any x y na (10 ^ k) W hx hy (bb := b2) (by rw [HNA.out.1]; exact Nat.lt_of_lt_of_le (ok_val HOA.out) (Nat.le_trans (Nat.le_of_lt (ten_lt2 _)) (Nat.pow_le_pow_right (by decide) (by have := ok_len HOA.out; omega)))) (Nat.lt_of_lt_of_le (ten_lt2 k) (Nat.pow_le_pow_right (by decide) (by omega))) (by omega)
        clear hk hkb hb2
        go_upto_region 18 with fail
        have h1 : once [(95, 0), (96, 1), (97, 2), (98, 3), (99, 4), (100, 5)] = true := by kernel_rfl
        have h2 : within [(95, 0), (96, 1), (97, 2), (98, 3), (99, 4), (100, 5)] 111 = true := by kernel_rfl
        let S : Nat → (Nat → Value) → World → Prop := fun i xs W => match i with
          | 0 => (xs 0) = .pointer (some ⟨g4, 1, none⟩)
          | 1 => Num .u32 4294967296 W (xs 1) (na)
          | 2 => (xs 2) = .int .i64 ex
          | 3 => Num .u32 4294967296 W (xs 3) (10 ^ k)
          | 4 => Num .u32 4294967296 W (xs 4) (na * 10 ^ k)
          | 5 => (xs 5) = .pointer (some ⟨g4, 1, none⟩)
          | _ => True
        have hstab : ∀ j ys W W', S j ys W → Below W.heap.size W W' → S j ys W' := by
          intro j ys W W' h hb
          match j, h with
          | 0, h => exact h
          | 1, h => exact h.below (Nat.le_refl _) hb
          | 2, h => exact h
          | 3, h => exact h.below (Nat.le_refl _) hb
          | 4, h => exact h.below (Nat.le_refl _) hb
          | 5, h => exact h
          | _ + 6, h => exact trivial
        refine wp_region_flow3T 6 7 4 [(95, 0), (96, 1), (97, 2), (98, 3), (99, 4), (100, 5)] [] S (fun _ W => (fun W => DR W g4 ng na nb 0 false ∧ Below w.heap.size w W ∧ W.heap[w.heap.size + 2]? = some (.cells #[.bool false, .bool false, .bool false] 27 (0, 0))) W) ⟨HDR.out.below ((Below.refl _ _).drew), HF6.out.1.thru ((Below.refl _ _).drew), (Below.refl _ _).drew.blk HF6.out.2 (blk_lt HF6.out.2)⟩ (by kernel_rfl) (by kernel_rfl) (by kernel_rfl) (by decide) (by kernel_rfl) h1 (by kernel_rfl) ?_ ?_ ?_ ?_
        · exact fun j hj => by cases hj
        · intro j xs ys W e h
          match j, e, h with
          | 0, e, h => exact (e 0 (.inl rfl)).symm.trans h
          | 1, e, h => exact (congrArg (fun z => Num .u32 4294967296 W z _) (e 1 (.inl rfl))).mp h
          | 2, e, h => exact (e 2 (.inl rfl)).symm.trans h
          | 3, e, h => exact (congrArg (fun z => Num .u32 4294967296 W z _) (e 3 (.inl rfl))).mp h
          | 4, e, h => exact (congrArg (fun z => Num .u32 4294967296 W z _) (e 4 (.inl rfl))).mp h
          | 5, e, h => exact (e 5 (.inl rfl)).symm.trans h
          | _ + 6, e, h => exact trivial
        · refine ⟨⟨⟨⟨⟨⟨trivial, ?_⟩, ?_⟩, ?_⟩, ?_⟩, ?_⟩, ?_⟩
          · refine flow3_step _ (some 95) rfl rfl rfl h1 h2 (fun D W _ h => h) (fun D W W' h hb => ⟨h.1.below hb, h.2.1.thru hb, hb.blk h.2.2 (blk_lt h.2.2)⟩) hstab fun ac xs W Dn he hni hG hS K hK => ?_
            have e0 : ac.eval (.tmp 11) = .pointer (some ⟨g4, 0, none⟩) := he 11
            refine op_any (.fieldAddr 68 (.tmp 11) 1) rfl (.pointer (some ⟨g4, 1, none⟩)) (fun o' ho' => ?_) (hK _ _ rfl (Below.refl _ _) (fun h => absurd h (by decide)))
            simp only [execOp, ho', e0]
            go_simp
          · refine flow3_step _ (some 96) rfl rfl rfl h1 h2 (fun D W _ h => h) (fun D W W' h hb => ⟨h.1.below hb, h.2.1.thru hb, hb.blk h.2.2 (blk_lt h.2.2)⟩) hstab fun ac xs W Dn he hni hG hS K hK => ?_
            obtain ⟨p1, p2, p3, p4, p5, p6, r5, n5, n6⟩ := hG.1
            have k2 := cell_of_row W g4 1 _ _ _ r5
            have e0 : ac.eval (.tmp 95) = _ := (he 95).trans (hS 0 (by kernel_rfl))
            refine op_any (.load 66 (.tmp 95)) rfl (.slice p1 p2 p3) (fun o' ho' => ?_) (hK _ _ n5 (Below.refl _ _) (fun h => absurd h (by decide)))
            simp only [execOp, ho', e0]
            go_simp
          · refine flow3_step _ (some 97) rfl rfl rfl h1 h2 (fun D W _ h => h) (fun D W W' h hb => ⟨h.1.below hb, h.2.1.thru hb, hb.blk h.2.2 (blk_lt h.2.2)⟩) hstab fun ac xs W Dn he hni hG hS K hK => ?_
            exact op_move (.tmp 12) (.inl rfl) (hK _ _ (he 12) (Below.refl _ _) (fun h => absurd h (by decide)))
          · refine flow3_step _ (some 98) rfl rfl rfl h1 h2 (fun D W _ h => h) (fun D W W' h hb => ⟨h.1.below hb, h.2.1.thru hb, hb.blk h.2.2 (blk_lt h.2.2)⟩) hstab fun ac xs W Dn he hni hG hS K hK => ?_
            have e0 : ac.eval (.tmp 97) = _ := (he 97).trans (hS 2 (by kernel_rfl))
            refine op_call 53 _ _ rfl _ (by simp only [List.map, e0]) (by go_simp) (HT.out W) ?_
            rintro e' W' ⟨u, rfl, hi', hb'⟩
            exact ⟨_, rfl, hK _ _ (hi') hb' (fun h => absurd h (by decide))⟩
          · refine flow3_step _ (some 99) rfl rfl rfl h1 h2 (fun D W _ h => h) (fun D W W' h hb => ⟨h.1.below hb, h.2.1.thru hb, hb.blk h.2.2 (blk_lt h.2.2)⟩) hstab fun ac xs W Dn he hni hG hS K hK => ?_
            have e0 : ac.eval (.tmp 96) = xs 1 := he 96
            have e1 : ac.eval (.tmp 98) = xs 3 := he 98
            refine op_call 52 _ _ rfl _ (by simp only [List.map, e0, e1]) (by go_simp) (HM.out W _ _ (hS 1 (by kernel_rfl)) (hS 3 (by kernel_rfl))) ?_
            rintro e' W' ⟨u, rfl, hi', hb'⟩
            exact ⟨_, rfl, hK _ _ (hi') hb' (fun h => absurd h (by decide))⟩
          · refine flow3_step _ (some 100) rfl rfl rfl h1 h2 (fun D W _ h => h) (fun D W W' h hb => ⟨h.1.below hb, h.2.1.thru hb, hb.blk h.2.2 (blk_lt h.2.2)⟩) hstab fun ac xs W Dn he hni hG hS K hK => ?_
            have e0 : ac.eval (.tmp 11) = .pointer (some ⟨g4, 0, none⟩) := he 11
            refine op_any (.fieldAddr 68 (.tmp 11) 1) rfl (.pointer (some ⟨g4, 1, none⟩)) (fun o' ho' => ?_) (hK _ _ rfl (Below.refl _ _) (fun h => absurd h (by decide)))
            simp only [execOp, ho', e0]
            go_simp
        · intro xs W9 Dn hall hG hS hD
          obtain ⟨y1, y2, y3, ey⟩ := Num.shape (hS 4 (by decide))
          have hn : Num .u32 4294967296 W9 (.slice y1 y2 y3) (na * 10 ^ k) := by rw [← ey]; exact hS 4 (by decide)
          have s5 : xs 5 = _ := hS 5 (by decide)
          obtain ⟨b1, b2, b3, d1, d2, d3, r5, n5, n6⟩ := id hG.1
          have f1 := frozen_of_row W9 g4 1 _ _ r5
          have c1 := cell_of_row W9 g4 1 _ _ _ r5
          have HD : Hid (DR (W9.setCell ⟨g4, 1, none⟩ (.slice y1 y2 y3)) _ _ _ _ _ _) := hG.1.putN hn
          have HF9 : Hid _ := hG.1.far (k := 1) (x := .slice y1 y2 y3) hG.2.1 (by have := HG4.out; omega) hG.2.2 (by have := HG4.out; omega)
          simp only [layAll, ey, s5, List.setIfInBounds_toArray, List.set_cons_succ, List.set_cons_zero]
          clear hS hD hall hstab S h1 h2 s5 ey hn n5 n6 r5 hG
          go_wp2
          go_meet
          exact ⟨_, _, _, HD.out, .inr (.inr ⟨by have := HFAR.out; omega, by have := HFAR.out; omega, by unfold qM quoM; rw [← HEX.out, HKX.out, Int.toNat_natCast, HNA.out.1], by unfold qD quoD; rw [← HEX.out, HKX.out, show (-(k : Int)).toNat = 0 by omega, HNA.out.2]; exact (Nat.mul_one _).symm, rfl⟩), HF9.out.1, HF9.out.2⟩
      · obtain ⟨k, hk⟩ : ∃ k : Nat, ex = -(k : Int) := ⟨(-ex).toNat, by omega⟩
        have HKX : Hid (ex = -(k : Int)) := hk
        have hkb : k ≤ 40000 := by have := HEB.out; omega
        have HKE : Hid (IntKind.i64.wrap (-ex) = (k : Int)) := by show _ = _; rw [hk, Int.neg_neg]; exact IntWalk.i64_in _ (by omega)
        have HT : Hid (∀ W, Calls Tryz.prog 53 #[.int .i64 (k : Nat)] W (NatQ (10 ^ k) W)) := fun W => nten_v k W (by omega)
        obtain ⟨b2, hb2⟩ : ∃ b, b = 4 * 50000 + 1 := ⟨_, rfl⟩
        have HM : Hid (∀ W x y, Num .u32 4294967296 W x nb → Num .u32 4294967296 W y (10 ^ k) → Calls Tryz.prog 52 #[x, y] W (NatQ (nb * 10 ^ k) W)) := fun W x y hx hy =>
          nmul_any x y nb (10 ^ k) W hx hy (bb := b2) (by rw [HNA.out.2]; exact Nat.lt_of_lt_of_le (ok_val HOB.out) (Nat.le_trans (Nat.le_of_lt (ten_lt2 _)) (Nat.pow_le_pow_right (by decide) (by have := ok_len HOB.out; omega)))) (Nat.lt_of_lt_of_le (ten_lt2 k) (Nat.pow_le_pow_right (by decide) (by omega))) (by omega)
        clear hk hkb hb2
        go_upto_region 12 with fail
        have h1 : once [(69, 0), (70, 1), (71, 2), (72, 3), (73, 4), (74, 5), (75, 6)] = true := by kernel_rfl
        have h2 : within [(69, 0), (70, 1), (71, 2), (72, 3), (73, 4), (74, 5), (75, 6)] 111 = true := by kernel_rfl
        let S : Nat → (Nat → Value) → World → Prop := fun i xs W => match i with
          | 0 => (xs 0) = .pointer (some ⟨g4, 2, none⟩)
          | 1 => Num .u32 4294967296 W (xs 1) (nb)
          | 2 => (xs 2) = .int .i64 ex
          | 3 => (xs 3) = .int .i64 (k : Nat)
          | 4 => Num .u32 4294967296 W (xs 4) (10 ^ k)
          | 5 => Num .u32 4294967296 W (xs 5) (nb * 10 ^ k)
          | 6 => (xs 6) = .pointer (some ⟨g4, 2, none⟩)
          | _ => True
        have hstab : ∀ j ys W W', S j ys W → Below W.heap.size W W' → S j ys W' := by
          intro j ys W W' h hb
          match j, h with
          | 0, h => exact h
          | 1, h => exact h.below (Nat.le_refl _) hb
          | 2, h => exact h
          | 3, h => exact h
          | 4, h => exact h.below (Nat.le_refl _) hb
          | 5, h => exact h.below (Nat.le_refl _) hb
          | 6, h => exact h
          | _ + 7, h => exact trivial
        refine wp_region_flow3T 7 8 4 [(69, 0), (70, 1), (71, 2), (72, 3), (73, 4), (74, 5), (75, 6)] [] S (fun _ W => (fun W => DR W g4 ng na nb 0 false ∧ Below w.heap.size w W ∧ W.heap[w.heap.size + 2]? = some (.cells #[.bool false, .bool false, .bool false] 27 (0, 0))) W) ⟨HDR.out.below ((Below.refl _ _).drew), HF6.out.1.thru ((Below.refl _ _).drew), (Below.refl _ _).drew.blk HF6.out.2 (blk_lt HF6.out.2)⟩ (by kernel_rfl) (by kernel_rfl) (by kernel_rfl) (by decide) (by kernel_rfl) h1 (by kernel_rfl) ?_ ?_ ?_ ?_
        · exact fun j hj => by cases hj
        · intro j xs ys W e h
          match j, e, h with
          | 0, e, h => exact (e 0 (.inl rfl)).symm.trans h
          | 1, e, h => exact (congrArg (fun z => Num .u32 4294967296 W z _) (e 1 (.inl rfl))).mp h
          | 2, e, h => exact (e 2 (.inl rfl)).symm.trans h
          | 3, e, h => exact (e 3 (.inl rfl)).symm.trans h
          | 4, e, h => exact (congrArg (fun z => Num .u32 4294967296 W z _) (e 4 (.inl rfl))).mp h
          | 5, e, h => exact (congrArg (fun z => Num .u32 4294967296 W z _) (e 5 (.inl rfl))).mp h
          | 6, e, h => exact (e 6 (.inl rfl)).symm.trans h
          | _ + 7, e, h => exact trivial
        · refine ⟨⟨⟨⟨⟨⟨⟨trivial, ?_⟩, ?_⟩, ?_⟩, ?_⟩, ?_⟩, ?_⟩, ?_⟩
          · refine flow3_step _ (some 69) rfl rfl rfl h1 h2 (fun D W _ h => h) (fun D W W' h hb => ⟨h.1.below hb, h.2.1.thru hb, hb.blk h.2.2 (blk_lt h.2.2)⟩) hstab fun ac xs W Dn he hni hG hS K hK => ?_
            have e0 : ac.eval (.tmp 11) = .pointer (some ⟨g4, 0, none⟩) := he 11
            refine op_any (.fieldAddr 68 (.tmp 11) 2) rfl (.pointer (some ⟨g4, 2, none⟩)) (fun o' ho' => ?_) (hK _ _ rfl (Below.refl _ _) (fun h => absurd h (by decide)))
            simp only [execOp, ho', e0]
            go_simp
          · refine flow3_step _ (some 70) rfl rfl rfl h1 h2 (fun D W _ h => h) (fun D W W' h hb => ⟨h.1.below hb, h.2.1.thru hb, hb.blk h.2.2 (blk_lt h.2.2)⟩) hstab fun ac xs W Dn he hni hG hS K hK => ?_
            obtain ⟨p4, p5, p6, p1, p2, p3, r5, n6, n5⟩ := hG.1
            have k2 := cell_of_row W g4 2 _ _ _ r5
            have e0 : ac.eval (.tmp 69) = _ := (he 69).trans (hS 0 (by kernel_rfl))
            refine op_any (.load 66 (.tmp 69)) rfl (.slice p1 p2 p3) (fun o' ho' => ?_) (hK _ _ n5 (Below.refl _ _) (fun h => absurd h (by decide)))
            simp only [execOp, ho', e0]
            go_simp
          · refine flow3_step _ (some 71) rfl rfl rfl h1 h2 (fun D W _ h => h) (fun D W W' h hb => ⟨h.1.below hb, h.2.1.thru hb, hb.blk h.2.2 (blk_lt h.2.2)⟩) hstab fun ac xs W Dn he hni hG hS K hK => ?_
            exact op_move (.tmp 12) (.inl rfl) (hK _ _ (he 12) (Below.refl _ _) (fun h => absurd h (by decide)))
          · refine flow3_step _ (some 72) rfl rfl rfl h1 h2 (fun D W _ h => h) (fun D W W' h hb => ⟨h.1.below hb, h.2.1.thru hb, hb.blk h.2.2 (blk_lt h.2.2)⟩) hstab fun ac xs W Dn he hni hG hS K hK => ?_
            have k0 := HKE.out
            have e0 : ac.eval (.tmp 71) = _ := (he 71).trans (hS 2 (by kernel_rfl))
            refine op_any (.unOp .neg 3 (.tmp 71)) rfl (.int .i64 (k : Nat)) (fun o' ho' => ?_) (hK _ _ rfl (Below.refl _ _) (fun h => absurd h (by decide)))
            simp only [execOp, ho', e0]
            go_simp
          · refine flow3_step _ (some 73) rfl rfl rfl h1 h2 (fun D W _ h => h) (fun D W W' h hb => ⟨h.1.below hb, h.2.1.thru hb, hb.blk h.2.2 (blk_lt h.2.2)⟩) hstab fun ac xs W Dn he hni hG hS K hK => ?_
            have e0 : ac.eval (.tmp 72) = _ := (he 72).trans (hS 3 (by kernel_rfl))
            refine op_call 53 _ _ rfl _ (by simp only [List.map, e0]) (by go_simp) (HT.out W) ?_
            rintro e' W' ⟨u, rfl, hi', hb'⟩
            exact ⟨_, rfl, hK _ _ (hi') hb' (fun h => absurd h (by decide))⟩
          · refine flow3_step _ (some 74) rfl rfl rfl h1 h2 (fun D W _ h => h) (fun D W W' h hb => ⟨h.1.below hb, h.2.1.thru hb, hb.blk h.2.2 (blk_lt h.2.2)⟩) hstab fun ac xs W Dn he hni hG hS K hK => ?_
            have e0 : ac.eval (.tmp 70) = xs 1 := he 70
            have e1 : ac.eval (.tmp 73) = xs 4 := he 73
            refine op_call 52 _ _ rfl _ (by simp only [List.map, e0, e1]) (by go_simp) (HM.out W _ _ (hS 1 (by kernel_rfl)) (hS 4 (by kernel_rfl))) ?_
            rintro e' W' ⟨u, rfl, hi', hb'⟩
            exact ⟨_, rfl, hK _ _ (hi') hb' (fun h => absurd h (by decide))⟩
          · refine flow3_step _ (some 75) rfl rfl rfl h1 h2 (fun D W _ h => h) (fun D W W' h hb => ⟨h.1.below hb, h.2.1.thru hb, hb.blk h.2.2 (blk_lt h.2.2)⟩) hstab fun ac xs W Dn he hni hG hS K hK => ?_
            have e0 : ac.eval (.tmp 11) = .pointer (some ⟨g4, 0, none⟩) := he 11
            refine op_any (.fieldAddr 68 (.tmp 11) 2) rfl (.pointer (some ⟨g4, 2, none⟩)) (fun o' ho' => ?_) (hK _ _ rfl (Below.refl _ _) (fun h => absurd h (by decide)))
            simp only [execOp, ho', e0]
            go_simp
        · intro xs W9 Dn hall hG hS hD
          obtain ⟨y1, y2, y3, ey⟩ := Num.shape (hS 5 (by decide))
          have hn : Num .u32 4294967296 W9 (.slice y1 y2 y3) (nb * 10 ^ k) := by rw [← ey]; exact hS 5 (by decide)
          have s6 : xs 6 = _ := hS 6 (by decide)
          obtain ⟨b1, b2, b3, d1, d2, d3, r5, n5, n6⟩ := id hG.1
          have f1 := frozen_of_row W9 g4 2 _ _ r5
          have c1 := cell_of_row W9 g4 2 _ _ _ r5
          have HD : Hid (DR (W9.setCell ⟨g4, 2, none⟩ (.slice y1 y2 y3)) _ _ _ _ _ _) := hG.1.putD hn
          have HF9 : Hid _ := hG.1.far (k := 2) (x := .slice y1 y2 y3) hG.2.1 (by have := HG4.out; omega) hG.2.2 (by have := HG4.out; omega)
          simp only [layAll, ey, s6, List.setIfInBounds_toArray, List.set_cons_succ, List.set_cons_zero]
          clear hS hD hall hstab S h1 h2 s6 ey hn n5 n6 r5 hG
          go_wp2
          go_meet
          exact ⟨_, _, _, HD.out, .inr (.inr ⟨by have := HFAR.out; omega, by have := HFAR.out; omega, by unfold qM quoM; rw [← HEX.out, HKX.out, show (-(k : Int)).toNat = 0 by omega, HNA.out.1]; exact (Nat.mul_one _).symm, by unfold qD quoD; rw [← HEX.out, HKX.out, Int.neg_neg, Int.toNat_natCast, HNA.out.2], rfl⟩), HF9.out.1, HF9.out.2⟩
    case rest =>
    obtain ⟨M, D, E, hdr, hdv, hbw, hfl⟩ := hcut
    have HTO : Hid (∀ W v, Val W v ng M D E → Calls Tryz.prog 37 #[v, .agg #[.int .i64 53, .int .i64 (-1074), .int .i64 1023], .int .i64 m] W (FlQ ng o W)) := fun W v hv => by
      rw [HO.out]; exact docR53 HOA.out HOB.out HA0.out HB0.out HM6.out hv hdv
    have HDC : Hid (DR wc g4 ng M D E false) := hdr
    have HFC : Hid (Below w.heap.size w wc ∧ wc.heap[w.heap.size + 2]? = some (.cells #[.bool false, .bool false, .bool false] 27 (0, 0))) := ⟨hbw, hfl⟩
    clear hdr hdv hbw hfl HDR HF6
    go_upto_region 19 with fail
    have h1 : once [(102, 0), (103, 1), (104, 2), (105, 3), (101, 4), (106, 5), (107, 6), (14, 7), (15, 8)] = true := by kernel_rfl
    have h2 : within [(102, 0), (103, 1), (104, 2), (105, 3), (101, 4), (106, 5), (107, 6), (14, 7), (15, 8)] 111 = true := by kernel_rfl
    let S : Nat → (Nat → Value) → World → Prop := fun i xs W => match i with
      | 0 => Val W (xs 0) ng M D E
      | 1 => (xs 1) = .agg #[.int .i64 53, .int .i64 (-1074), .int .i64 1023]
      | 2 => (xs 2) = .int .i64 m
      | 3 => (xs 3) = .tuple #[.agg #[.bool ng, .bool o.inf, .int .u64 (o.m : Nat), .int .i64 o.e], .agg #[.bool o.ine, .bool o.ov, .bool o.un]]
      | 4 => (xs 4) = .tuple #[.agg #[.bool ng, .bool o.inf, .int .u64 (o.m : Nat), .int .i64 o.e], .agg #[.bool o.ine, .bool o.ov, .bool o.un]]
      | 5 => (xs 5) = .agg #[.bool ng, .bool o.inf, .int .u64 (o.m : Nat), .int .i64 o.e]
      | 6 => (xs 6) = .agg #[.bool o.ine, .bool o.ov, .bool o.un]
      | 7 => ∃ g, (xs 7) = .pointer (some ⟨g, 0, none⟩) ∧ wc.heap.size ≤ g ∧ g < W.heap.size ∧ FlR W g
      | 8 => ∃ g, (xs 8) = .pointer (some ⟨g, 0, none⟩) ∧ wc.heap.size ≤ g ∧ g < W.heap.size ∧ FgR W g
      | 9 => ∃ g, xs 7 = .pointer (some ⟨g, 0, none⟩) ∧ wc.heap.size ≤ g ∧ W.heap[g]? = some (.cells #[.bool ng, .bool o.inf, .int .u64 (o.m : Nat), .int .i64 o.e] 62 (0, 0))
      | 10 => ∃ g, xs 8 = .pointer (some ⟨g, 0, none⟩) ∧ wc.heap.size ≤ g ∧ W.heap[g]? = some (.cells #[.bool o.ine, .bool o.ov, .bool o.un] 27 (0, 0))
      | _ => True
    have hstab : ∀ j ys W W', S j ys W → Below W.heap.size W W' → S j ys W' := by
      intro j ys W W' h hb
      match j, h with
      | 0, h => exact val_below h hb
      | 1, h => exact h
      | 2, h => exact h
      | 3, h => exact h
      | 4, h => exact h
      | 5, h => exact h
      | 6, h => exact h
      | 7, ⟨g, s1, s2, s3, s4⟩ => exact ⟨g, s1, s2, Nat.lt_of_lt_of_le s3 hb.size, s4.below hb⟩
      | 8, ⟨g, s1, s2, s3, s4⟩ => exact ⟨g, s1, s2, Nat.lt_of_lt_of_le s3 hb.size, s4.below hb⟩
      | 9, ⟨g, s1, s2, s4⟩ => exact ⟨g, s1, s2, hb.blk s4 (blk_lt s4)⟩
      | 10, ⟨g, s1, s2, s4⟩ => exact ⟨g, s1, s2, hb.blk s4 (blk_lt s4)⟩
      | _ + 11, h => exact trivial
    refine wp_region_flow3T 11 11 4 [(102, 0), (103, 1), (104, 2), (105, 3), (101, 4), (106, 5), (107, 6), (14, 7), (15, 8)] [7, 8] S (fun _ W => (fun W => Below wc.heap.size wc W) W) ((Below.refl _ _).drew) (by kernel_rfl) (by kernel_rfl) (by kernel_rfl) (by decide) (by kernel_rfl) h1 (by kernel_rfl) ?_ ?_ ?_ ?_
    · intro j hj xs W h
      simp only [List.mem_cons, List.not_mem_nil, or_false] at hj
      rcases hj with rfl | rfl
      · obtain ⟨g, s1, s2, s3, s4⟩ := h; exact ⟨g, s1, s3⟩
      · obtain ⟨g, s1, s2, s3, s4⟩ := h; exact ⟨g, s1, s3⟩
    · intro j xs ys W e h
      match j, e, h with
      | 0, e, h => exact (congrArg (fun z => Val W z ng M D E) (e 0 (.inl rfl))).mp h
      | 1, e, h => exact (e 1 (.inl rfl)).symm.trans h
      | 2, e, h => exact (e 2 (.inl rfl)).symm.trans h
      | 3, e, h => exact (e 3 (.inl rfl)).symm.trans h
      | 4, e, h => exact (e 4 (.inl rfl)).symm.trans h
      | 5, e, h => exact (e 5 (.inl rfl)).symm.trans h
      | 6, e, h => exact (e 6 (.inl rfl)).symm.trans h
      | 7, e, ⟨g, s1, r⟩ => exact ⟨g, (e 7 (.inl rfl)).symm.trans s1, r⟩
      | 8, e, ⟨g, s1, r⟩ => exact ⟨g, (e 8 (.inl rfl)).symm.trans s1, r⟩
      | 9, e, ⟨g, s1, r⟩ => exact ⟨g, (e 7 (.inr (by kernel_rfl))).symm.trans s1, r⟩
      | 10, e, ⟨g, s1, r⟩ => exact ⟨g, (e 8 (.inr (by kernel_rfl))).symm.trans s1, r⟩
      | _ + 11, e, h => exact trivial
    · refine ⟨⟨⟨⟨⟨⟨⟨⟨⟨⟨⟨trivial, ?_⟩, ?_⟩, ?_⟩, ?_⟩, ?_⟩, ?_⟩, ?_⟩, ?_⟩, ?_⟩, ?_⟩, ?_⟩
      · refine flow3_step _ (some 102) rfl rfl rfl h1 h2 (fun D W _ h => h) (fun D W W' h hb => h.thru hb) hstab fun ac xs W Dn he hni hb hS K hK => ?_
        obtain ⟨b1, b2, b3, d1, d2, d3, r5, n5, n6⟩ := HDC.out.below hb
        exact wp_load_row 68 (.tmp 11) rfl g4 (he 11) _ _ _ _ r5 Tryz.underlying68 rfl (by kernel_rfl) (hK _ _ ⟨_, _, rfl, n5, n6⟩ (Below.refl _ _) (fun h => absurd h (by decide)))
      · refine flow3_step _ (some 103) rfl rfl rfl h1 h2 (fun D W _ h => h) (fun D W W' h hb => h.thru hb) hstab fun ac xs W Dn he hni hb hS K hK => ?_
        refine op_call 39 _ _ rfl _ (by simp only [List.map]) (by go_simp) (sixty_any W) ?_
        rintro e' W' ⟨rfl, hb'⟩
        exact ⟨_, rfl, hK _ _ (rfl) hb' (fun h => absurd h (by decide))⟩
      · refine flow3_step _ (some 104) rfl rfl rfl h1 h2 (fun D W _ h => h) (fun D W W' h hb => h.thru hb) hstab fun ac xs W Dn he hni hb hS K hK => ?_
        exact op_move (.tmp 2) (.inl rfl) (hK _ _ (he 2) (Below.refl _ _) (fun h => absurd h (by decide)))
      · refine flow3_step _ (some 105) rfl rfl rfl h1 h2 (fun D W _ h => h) (fun D W W' h hb => h.thru hb) hstab fun ac xs W Dn he hni hb hS K hK => ?_
        have e0 : ac.eval (.tmp 102) = xs 0 := he 102
        have e1 : ac.eval (.tmp 103) = _ := (he 103).trans (hS 1 (by kernel_rfl))
        have e2 : ac.eval (.tmp 104) = _ := (he 104).trans (hS 2 (by kernel_rfl))
        refine op_call 37 _ _ rfl _ (by simp only [List.map, e0, e1, e2]) (by go_simp) (HTO.out W _ (hS 0 (by kernel_rfl))) ?_
        rintro e' W' ⟨rfl, hb'⟩
        exact ⟨_, rfl, hK _ _ (rfl) hb' (fun h => absurd h (by decide))⟩
      · refine flow3_step _ (some 101) rfl rfl rfl h1 h2 (fun D W _ h => h) (fun D W W' h hb => h.thru hb) hstab fun ac xs W Dn he hni hb hS K hK => ?_
        exact op_move (.tmp 105) (.inl rfl) (hK _ _ ((he 105).trans (hS 3 (by kernel_rfl))) (Below.refl _ _) (fun h => absurd h (by decide)))
      · refine flow3_step _ (some 106) rfl rfl rfl h1 h2 (fun D W _ h => h) (fun D W W' h hb => h.thru hb) hstab fun ac xs W Dn he hni hb hS K hK => ?_
        have e0 : ac.eval (.tmp 101) = _ := (he 101).trans (hS 4 (by kernel_rfl))
        refine op_any (.extract (.tmp 101) 0) rfl (.agg #[.bool ng, .bool o.inf, .int .u64 (o.m : Nat), .int .i64 o.e]) (fun o' ho' => ?_) (hK _ _ rfl (Below.refl _ _) (fun h => absurd h (by decide)))
        simp only [execOp, ho', e0]
        go_simp
      · refine flow3_step _ (some 107) rfl rfl rfl h1 h2 (fun D W _ h => h) (fun D W W' h hb => h.thru hb) hstab fun ac xs W Dn he hni hb hS K hK => ?_
        have e0 : ac.eval (.tmp 101) = _ := (he 101).trans (hS 4 (by kernel_rfl))
        refine op_any (.extract (.tmp 101) 1) rfl (.agg #[.bool o.ine, .bool o.ov, .bool o.un]) (fun o' ho' => ?_) (hK _ _ rfl (Below.refl _ _) (fun h => absurd h (by decide)))
        simp only [execOp, ho', e0]
        go_simp
      · refine flow3_step _ (some 14) rfl rfl rfl h1 h2 (fun D W _ h => h) (fun D W W' h hb => h.thru hb) hstab fun ac xs W Dn he hni hb hS K hK => ?_
        have hsz := hb.size
        refine op_anyw (.alloc 62) rfl (.pointer (some ⟨W.heap.size, 0, none⟩)) (W.alloc (.cells #[.bool false, .bool false, .int .u64 0, .int .i64 0] 62)) ?_ ?_
        · intro o' ho'
          simp only [execOp, ho']
          go_simp
        · exact hK _ _ ⟨_, rfl, by omega, by simp, ⟨_, _, _, _, heap_alloc_new _ _⟩⟩ ((Below.refl _ _).alloc (Nat.le_refl _) _) (fun _ => rfl)
      · refine flow3_step _ (some 15) rfl rfl rfl h1 h2 (fun D W _ h => h) (fun D W W' h hb => h.thru hb) hstab fun ac xs W Dn he hni hb hS K hK => ?_
        have hsz := hb.size
        refine op_anyw (.alloc 27) rfl (.pointer (some ⟨W.heap.size, 0, none⟩)) (W.alloc (.cells #[.bool false, .bool false, .bool false] 27)) ?_ ?_
        · intro o' ho'
          simp only [execOp, ho']
          go_simp
        · exact hK _ _ ⟨_, rfl, by omega, by simp, ⟨_, _, _, heap_alloc_new _ _⟩⟩ ((Below.refl _ _).alloc (Nat.le_refl _) _) (fun _ => rfl)
      · refine flow3_store _ rfl rfl rfl h1 h2 (by decide) fun ac xs W Dn he hni hb hS K hK => ?_
        obtain ⟨g, s1, s2, s3, s4⟩ := hS 7 (by kernel_rfl)
        obtain ⟨x1, x2, x3, x4, s5⟩ := id s4
        have hvy := hS 5 (by kernel_rfl)
        refine wp_store_row 62 (.tmp 14) (.tmp 106) rfl g #[.bool ng, .bool o.inf, .int .u64 (o.m : Nat), .int .i64 o.e] ((he 14).trans s1) ((he 106).trans hvy) _ _ s5 (by kernel_rfl) rfl (by simp [Value.oneCell']) ?_
        have hself0 := setRow_heap W g _ #[.bool ng, .bool o.inf, .int .u64 (o.m : Nat), .int .i64 o.e] _ _ s5
        have hself : ∃ g', xs 7 = .pointer (some ⟨g', 0, none⟩) ∧ wc.heap.size ≤ g' ∧ (W.setRow g #[.bool ng, .bool o.inf, .int .u64 (o.m : Nat), .int .i64 o.e]).heap[g']? = some (.cells #[.bool ng, .bool o.inf, .int .u64 (o.m : Nat), .int .i64 o.e] 62 (0, 0)) := ⟨g, s1, s2, hself0⟩
        have hG2 : Below wc.heap.size wc (W.setRow g #[.bool ng, .bool o.inf, .int .u64 (o.m : Nat), .int .i64 o.e]) := below_setRow hb s2 _
        refine hK _ hself hG2 ?_
        intro j ys h
        match j, h with
        | 0, h => exact s4.val _ h
        | 1, h => exact h
        | 2, h => exact h
        | 3, h => exact h
        | 4, h => exact h
        | 5, h => exact h
        | 6, h => exact h
        | 7, ⟨g1, u1, u2, u3, u4⟩ => exact ⟨g1, u1, u2, by rw [setRow_size]; exact u3, u4.put s4 _ _ _ _⟩
        | 8, ⟨g1, u1, u2, u3, u4⟩ => exact ⟨g1, u1, u2, by rw [setRow_size]; exact u3, u4.off s4 _⟩
        | 9, ⟨g1, u1, u2, u4⟩ => exact ⟨g1, u1, u2, row_keep u4⟩
        | 10, ⟨g1, u1, u2, u4⟩ => exact ⟨g1, u1, u2, (setRow_other W g g1 _ (fl_ne s4 ⟨_, _, _, u4⟩)).trans u4⟩
        | _ + 11, h => exact trivial
      · refine flow3_store _ rfl rfl rfl h1 h2 (by decide) fun ac xs W Dn he hni hb hS K hK => ?_
        obtain ⟨g, s1, s2, s3, s4⟩ := hS 8 (by kernel_rfl)
        obtain ⟨x1, x2, x3, s5⟩ := id s4
        have hvy := hS 6 (by kernel_rfl)
        refine wp_store_row 27 (.tmp 15) (.tmp 107) rfl g #[.bool o.ine, .bool o.ov, .bool o.un] ((he 15).trans s1) ((he 107).trans hvy) _ _ s5 (by kernel_rfl) rfl (by simp [Value.oneCell']) ?_
        have hself0 := setRow_heap W g _ #[.bool o.ine, .bool o.ov, .bool o.un] _ _ s5
        have hself : ∃ g', xs 8 = .pointer (some ⟨g', 0, none⟩) ∧ wc.heap.size ≤ g' ∧ (W.setRow g #[.bool o.ine, .bool o.ov, .bool o.un]).heap[g']? = some (.cells #[.bool o.ine, .bool o.ov, .bool o.un] 27 (0, 0)) := ⟨g, s1, s2, hself0⟩
        have hG2 : Below wc.heap.size wc (W.setRow g #[.bool o.ine, .bool o.ov, .bool o.un]) := below_setRow hb s2 _
        refine hK _ hself hG2 ?_
        intro j ys h
        match j, h with
        | 0, h => exact s4.val _ h
        | 1, h => exact h
        | 2, h => exact h
        | 3, h => exact h
        | 4, h => exact h
        | 5, h => exact h
        | 6, h => exact h
        | 7, ⟨g1, u1, u2, u3, u4⟩ => exact ⟨g1, u1, u2, by rw [setRow_size]; exact u3, u4.off s4 _⟩
        | 8, ⟨g1, u1, u2, u3, u4⟩ => exact ⟨g1, u1, u2, by rw [setRow_size]; exact u3, u4.put s4 _ _ _⟩
        | 9, ⟨g1, u1, u2, u4⟩ => exact ⟨g1, u1, u2, (setRow_other W g g1 _ (fun e => fl_ne ⟨_, _, _, _, u4⟩ s4 e.symm)).trans u4⟩
        | 10, ⟨g1, u1, u2, u4⟩ => exact ⟨g1, u1, u2, row_keep u4⟩
        | _ + 11, h => exact trivial
    · intro xs w8 Dn hall hb hS hD
      obtain ⟨g1, s7, hg1, r1⟩ := hS 9 (by decide)
      obtain ⟨g2, s8, hg2, r2⟩ := hS 10 (by decide)
      simp only [layAll, s7, s8, List.setIfInBounds_toArray, List.set_cons_succ, List.set_cons_zero]
      have HB8 : Hid (Below wc.heap.size wc w8) := hb
      have HR0 : Hid (∀ W, Below w8.heap.size w8 W → W.heap[g1]? = some (.cells #[.bool ng, .bool o.inf, .int .u64 (o.m : Nat), .int .i64 o.e] 62 (0, 0)) ∧ W.heap[g2]? = some (.cells #[.bool o.ine, .bool o.ov, .bool o.un] 27 (0, 0))) := fun W hW => ⟨hW.blk r1 (blk_lt r1), hW.blk r2 (blk_lt r2)⟩
      clear hS hD hall hstab S s7 s8 h1 h2 hg1 hg2 r1 r2 hb
      show wpList Tryz.prog _ _ [] _ _
      obtain ⟨BB, hBB⟩ : ∃ x, x = bits64 ng o := ⟨_, rfl⟩
      have HBT : Hid (∀ W, Calls Tryz.prog 40 #[.agg #[.bool ng, .bool o.inf, .int .u64 (o.m : Nat), .int .i64 o.e]] W fun e w' => e = .returned (.int .u64 (BB : Nat)) ∧ Below W.heap.size W w') := fun W => by
        rw [hBB, HO.out]; exact bits64_out ng m (quoG a b) (quoG_ok HOB.out HB0.out) W
      have HRB : Hid (R = ⟨BB, o.ine, o.ov, o.un, 0⟩) := by show _ = _; rw [HRM.out, hBB]
      clear hBB HTO
      go_upto_region 20 with fail
      have h1 : once [(108, 0), (109, 1), (110, 2), (6, 3)] = true := by kernel_rfl
      have h2 : within [(108, 0), (109, 1), (110, 2), (6, 3)] 111 = true := by kernel_rfl
      refine wp_region_flow 4 6 [(108, 0), (109, 1), (110, 2), (6, 3)] [] (fun i v W => match i with
        | 0 => v = .agg #[.bool ng, .bool o.inf, .int .u64 (o.m : Nat), .int .i64 o.e]
        | 1 => v = .int .u64 (BB : Nat)
        | 2 => v = .agg #[.bool o.ine, .bool o.ov, .bool o.un]
        | _ => v = .int .u64 (BB : Nat)) w8.heap.size (Nat.le_refl _) (by kernel_rfl) (by kernel_rfl) (by kernel_rfl) (by decide) (by kernel_rfl) h1 (by kernel_rfl) ?_ ?_ ?_ ?_
      · intro j v W W' h hb
        match j, h with
        | 0, h => exact h
        | 1, h => exact h
        | 2, h => exact h
        | _ + 3, h => exact h
      · exact fun j hj => by cases hj
      · refine ⟨⟨⟨⟨trivial, ?_⟩, ?_⟩, ?_⟩, ?_⟩
        · refine flow_step _ 108 rfl rfl (fun d h => by simpa using h) h1 h2 fun ac xs W he hb hS K hK => ?_
          exact wp_load_row 62 (.tmp 14) rfl g1 (he 14) _ _ _ _ ((HR0.out W hb).1) Tryz.underlying62 rfl (by kernel_rfl) (hK _ _ rfl (Below.refl _ _) (fun h => absurd h (by decide)))
        · refine flow_step _ 109 rfl rfl (fun d h => by simpa using h) h1 h2 fun ac xs W he hb hS K hK => ?_
          have e0 : ac.eval (.tmp 108) = _ := (he 108).trans (hS 0 (by kernel_rfl))
          refine op_call 40 _ _ rfl _ (by simp only [List.map, e0]) (by go_simp) (HBT.out W) ?_
          rintro e' W' ⟨rfl, hb'⟩
          exact ⟨_, rfl, hK _ _ (rfl) hb' (fun h => absurd h (by decide))⟩
        · refine flow_step _ 110 rfl rfl (fun d h => by simpa using h) h1 h2 fun ac xs W he hb hS K hK => ?_
          exact wp_load_row 27 (.tmp 15) rfl g2 (he 15) _ _ _ _ ((HR0.out W hb).2) Tryz.underlying27 rfl (by kernel_rfl) (hK _ _ rfl (Below.refl _ _) (fun h => absurd h (by decide)))
        · refine flow_step _ 6 rfl rfl (fun d h => by simpa using h) h1 h2 fun ac xs W he hb hS K hK => ?_
          exact op_move (.tmp 109) (.inr rfl) (hK _ _ ((he 109).trans (hS 1 (by kernel_rfl))) (Below.refl _ _) (fun h => absurd h (by decide)))
      · intro xs WL hb hS hD
        have s0 : xs 0 = _ := hS 0 (by decide)
        have s1 : xs 1 = _ := hS 1 (by decide)
        have s2 : xs 2 = _ := hS 2 (by decide)
        have s3 : xs 3 = _ := hS 3 (by decide)
        have HBL : Hid (Below wc.heap.size wc WL) := HB8.out.thru hb
        have r2 := HBL.out.blk HFC.out.2 (blk_lt HFC.out.2)
        obtain ⟨f0, c0, f1, c1, f2, c2, r3⟩ := rw3 r2
        have HR3 : Hid _ := r3
        have HBW : Hid (Below w.heap.size w WL) := HFC.out.1.thru HBL.out
        simp only [layAll, s0, s1, s2, s3, List.setIfInBounds_toArray, List.set_cons_succ, List.set_cons_zero]
        clear hS hD hb r2 r3 s0 s1 s2 s3 h1 h2
        go_wp2
        exact ref_end (p := 6) (u := 7) (q := 8) rfl rfl rfl rfl (HR3.out _ _ _) (below_row3 HBW.out (by omega) _ _ _) (by rw [HRB.out]; exact ⟨rfl, rfl, rfl, rfl, rfl⟩)
end Go.Proofs.YtapahfoebpiajaaGreatDoor

/- Walks: the document's Root. -/
namespace Go.Proofs.YtapahfoebpiajaaGreatDoor
open Go.RowKit

/-- What is rounded in the end: the root, or what stands for it. -/
def AnyV (a : Dc) (W : World) (v : Value) : Prop := (∃ E, ((E = 1400 ∧ 799 < farV a oneD) ∨ (E = -1400 ∧ farV a oneD < -800)) ∧ Val W v false 1 1 E) ∨
  (∃ a1 m1 c1 a2 m2 c2, v = .agg #[.bool false, .slice a1 m1 c1, .slice a2 m2 c2, .int .i64 0, .bool true] ∧ Num .u32 4294967296 W (.slice a1 m1 c1) (qM a oneD) ∧ Num .u32 4294967296 W (.slice a2 m2 c2) (qD a oneD) ∧ -801 ≤ farV a oneD ∧ farV a oneD ≤ 800)
def AnyR (a : Dc) (W : World) (g : Nat) : Prop := ∃ a1 m1 c1 a2 m2 c2 E r, W.heap[g]? = some (.cells #[.bool false, .slice a1 m1 c1, .slice a2 m2 c2, .int .i64 E, .bool r] 68 (0, 0)) ∧ AnyV a W (.agg #[.bool false, .slice a1 m1 c1, .slice a2 m2 c2, .int .i64 E, .bool r])
theorem anyv_below {a : Dc} {W W' : World} {v : Value} (h : AnyV a W v) (hb : Below W.heap.size W W') : AnyV a W' v := by
  rcases h with ⟨E, h1, h2⟩ | ⟨a1, m1, c1, a2, m2, c2, e, n1, n2, h⟩
  · exact .inl ⟨E, h1, val_below h2 hb⟩
  · exact .inr ⟨a1, m1, c1, a2, m2, c2, e, n1.below (Nat.le_refl _) hb, n2.below (Nat.le_refl _) hb, h⟩
theorem anyr_below {a : Dc} {W W' : World} {g : Nat} (h : AnyR a W g) (hb : Below W.heap.size W W') : AnyR a W' g := by
  obtain ⟨a1, m1, c1, a2, m2, c2, E, r, h1, h2⟩ := h
  exact ⟨a1, m1, c1, a2, m2, c2, E, r, hb.blk h1 (blk_lt h1), anyv_below h2 hb⟩
theorem FlR.anyv {a : Dc} {W : World} {g : Nat} {v : Value} (h : FlR W g) (cs : Array Value) (hv : AnyV a W v) : AnyV a (W.setRow g cs) v := by
  rcases hv with ⟨E, h1, h2⟩ | ⟨a1, m1, c1, a2, m2, c2, e, n1, n2, hx⟩
  · exact .inl ⟨E, h1, h.val cs h2⟩
  · obtain ⟨x, y, z, u, h⟩ := h
    exact .inr ⟨a1, m1, c1, a2, m2, c2, e, num_setRow32 n1 h FlR.no, num_setRow32 n2 h FlR.no, hx⟩
theorem FgR.anyv {a : Dc} {W : World} {g : Nat} {v : Value} (h : FgR W g) (cs : Array Value) (hv : AnyV a W v) : AnyV a (W.setRow g cs) v := by
  rcases hv with ⟨E, h1, h2⟩ | ⟨a1, m1, c1, a2, m2, c2, e, n1, n2, hx⟩
  · exact .inl ⟨E, h1, h.val cs h2⟩
  · obtain ⟨x, y, z, h⟩ := h
    exact .inr ⟨a1, m1, c1, a2, m2, c2, e, num_setRow32 n1 h FgR.no, num_setRow32 n2 h FgR.no, hx⟩
theorem DR.root {a : Dc} {W : World} {g M D : Nat} (h : DR W g false M D 0 true) (h1 : M = qM a oneD) (h2 : D = qD a oneD) (h3 : -801 ≤ farV a oneD ∧ farV a oneD ≤ 800) : AnyR a W g := by
  subst h1 h2
  obtain ⟨a1, m1, c1, a2, m2, c2, h, n1, n2⟩ := h
  exact ⟨a1, m1, c1, a2, m2, c2, 0, true, h, .inr ⟨_, _, _, _, _, _, rfl, n1, n2, h3⟩⟩
theorem DR.far_r {a : Dc} {W : World} {g : Nat} {E : Int} (h : DR W g false 1 1 E false) (h3 : (E = 1400 ∧ 799 < farV a oneD) ∨ (E = -1400 ∧ farV a oneD < -800)) : AnyR a W g := by
  obtain ⟨a1, m1, c1, a2, m2, c2, h, n1, n2⟩ := h
  exact ⟨a1, m1, c1, a2, m2, c2, E, false, h, .inl ⟨E, h3, _, _, rfl, n1, n2⟩⟩
theorem doc_root {a : Dc} (ha : a.ok) (h0 : a.s ≠ []) {mode : Int} (hm : 1 ≤ mode ∧ mode ≤ 6) {v : Value} {w : World} (hv : AnyV a w v) :
    Calls Tryz.prog 37 #[v, .agg #[.int .i64 53, .int .i64 (-1074), .int .i64 1023], .int .i64 mode] w (FlQ false (outG 53 (-1074) 971 false mode (rootG a)) w) := by
  rcases hv with ⟨E, h1, h2⟩ | ⟨a1, m1, c1, a2, m2, c2, rfl, n1, n2, h3, h4⟩
  · have h := to53_rat mode hm false v 1 1 E w h2 (bb := 1) (by decide) (by decide) (by decide) (by omega) (by omega) (by decide) (by decide)
    rcases h1 with ⟨rfl, h1⟩ | ⟨rfl, h1⟩
    · have hs : outG 53 (-1074) 971 false mode (ratMag 1 1 1400) = outG 53 (-1074) 971 false mode (rootG a) := docR_up (c := 53) (T := 971) (l := 1074) (by decide) (by decide) ha h0 h1
      rw [← hs]; exact h
    · have hs : outG 53 (-1074) 971 false mode (ratMag 1 1 (-1400)) = outG 53 (-1074) 971 false mode (rootG a) := docR_down (c := 53) (T := 971) (l := 1074) (by decide) (by decide) ha h0 h1
      rw [← hs]; exact h
  · obtain ⟨k, hk⟩ : ∃ k, k = 2 * 8192 + 801 := ⟨_, rfl⟩
    obtain ⟨k1, k2⟩ := far_ex ha oneD_ok (f := 801) h3 (by omega)
    obtain ⟨k3, k4⟩ := qm_bits ha oneD_ok (k := k) (by omega) (by omega)
    exact to53_root mode hm false a1 a2 m1 c1 m2 c2 (qM a oneD) (qD a oneD) 0 w n1 n2 k3 k4 (by omega) (by omega) (by decide) (by decide) (qM_pos ha h0) (qD_pos oneD_ok oneD_s)

set_option maxHeartbeats 4000000 in
set_option maxRecDepth 100000 in
theorem rroot_v (a : Dc) (m : Int) (w : World) (hsa : a.s.length ≤ 9223372036854775807) : Calls Tryz.prog 20 #[.agg #[.bool a.neg, .string (bs a.s), .int .i64 a.e], .int .i64 m] w (RefQ .u64 (rootA a m) w) := by
  obtain ⟨R, hR⟩ : ∃ R, R = rootA a m := ⟨_, rfl⟩
  rw [← hR]
  have HR : Hid (R = rootA a m) := hR
  obtain ⟨w2, hw2⟩ : ∃ W, W = ((w.alloc (.cells #[.bool a.neg, .string (bs a.s), .int .i64 a.e] 23)).alloc (.cells #[.bool false, .bool false, .bool false] 27)) := ⟨_, rfl⟩
  have hba : Below w.heap.size w w2 := by rw [hw2]; exact ((Below.refl _ _).alloc (Nat.le_refl _) _).alloc (by simp) _
  have hsz : w2.heap.size = w.heap.size + 2 := by rw [hw2]; simp
  have q0 : w2.heap[w.heap.size]? = some (.cells #[.bool a.neg, .string (bs a.s), .int .i64 a.e] 23 (0, 0)) := by rw [hw2]; exact heap_alloc2_old w _ _
  have q1 : w2.heap[w.heap.size + 1]? = some (.cells #[.bool false, .bool false, .bool false] 27 (0, 0)) := by rw [hw2]; exact heap_alloc2_new w _ _
  have HX : Hid (∀ W, Below w2.heap.size w2 W → W.heap[w.heap.size]? = some (.cells #[.bool a.neg, .string (bs a.s), .int .i64 a.e] 23 (0, 0)) ∧ W.heap[w.heap.size + 1]? = some (.cells #[.bool false, .bool false, .bool false] 27 (0, 0)) ∧ Below w.heap.size w W) := fun W hW =>
    ⟨hW.blk q0 (by omega), hW.blk q1 (by omega), hba.trans (hW.mono hba.size)⟩
  have HSZ : Hid (w2.heap.size = w.heap.size + 2) := hsz
  obtain ⟨f, hf⟩ : ∃ f, f = a.okB := ⟨_, rfl⟩
  obtain ⟨g, hg⟩ : ∃ g, g = decide (1 ≤ m ∧ m ≤ 6) := ⟨_, rfl⟩
  have HV : Hid (∀ W, Calls Tryz.prog 21 #[.agg #[.bool a.neg, .string (bs a.s), .int .i64 a.e]] W fun e w' => e = .returned (.bool f) ∧ Below W.heap.size W w') := fun W => by rw [hf]; exact rvalid3_v a W hsa
  have HMD : Hid (∀ W, Calls Tryz.prog 36 #[.int .i64 m] W fun e w' => e = .returned (.bool g) ∧ Below W.heap.size W w') := fun W => by rw [hg]; exact rmode_v m W
  have HF : Hid (f = a.okB ∧ g = decide (1 ≤ m ∧ m ≤ 6)) := ⟨hf, hg⟩
  have ka := cell_of_row w2 w.heap.size 0 _ _ _ q0
  have kb := cell_of_row w2 w.heap.size 1 _ _ _ q0
  have kc := cell_of_row w2 w.heap.size 2 _ _ _ q0
  clear hba hsz q0 q1 hf hg hsa hR
  go_enter Tryz.func20, Tryz.ntmps20
  go_upto_region 1 with fail
  rw [← hw2]
  clear hw2
  go_wp2_with fail
  refine (HV.out _).mono ?_
  rintro e w3 ⟨rfl, hb3⟩
  have HB3 : Hid (Below w2.heap.size w2 w3) := hb3
  clear hb3 ka kb kc
  cases f
  · skip
    obtain ⟨f0, c0, f1, c1, f2, c2, r3⟩ := rw3 (HX.out w3 HB3.out).2.1
    have HR3 : Hid _ := r3
    have HBW : Hid (Below w.heap.size w w3) := (HX.out _ HB3.out).2.2
    have HRN : Hid (R = RA.no 1) := by
      show _ = _
      rw [HR.out]; unfold rootA; rw [if_pos (fun h => by have := HF.out.1; rw [(okB_iff a).2 h.1] at this; cases this)]
    clear r3
    go_wp2
    exact ref_end (p := 4) (u := 5) (q := 6) rfl rfl rfl rfl (HR3.out _ _ _) (below_row3 HBW.out (by omega) _ _ _) (by rw [HRN.out]; exact ⟨rfl, rfl, rfl, rfl, rfl⟩)
  go_wp2_with fail
  refine (HMD.out _).mono ?_
  rintro e w4 ⟨rfl, hb4⟩
  have HB4 : Hid (Below w2.heap.size w2 w4) := HB3.out.thru hb4
  clear hb4 HB3
  cases g
  · skip
    obtain ⟨f0, c0, f1, c1, f2, c2, r3⟩ := rw3 (HX.out w4 HB4.out).2.1
    have HR3 : Hid _ := r3
    have HBW : Hid (Below w.heap.size w w4) := (HX.out _ HB4.out).2.2
    have HRN : Hid (R = RA.no 1) := by
      show _ = _
      rw [HR.out]; unfold rootA; rw [if_pos (fun h => by have := HF.out.2; rw [decide_eq_true h.2] at this; cases this)]
    clear r3
    go_wp2
    exact ref_end (p := 4) (u := 5) (q := 6) rfl rfl rfl rfl (HR3.out _ _ _) (below_row3 HBW.out (by omega) _ _ _) (by rw [HRN.out]; exact ⟨rfl, rfl, rfl, rfl, rfl⟩)
  have HOA : Hid a.ok := (okB_iff a).1 HF.out.1.symm
  have HM6 : Hid (1 ≤ m ∧ m ≤ 6) := (of_decide_eq_true HF.out.2.symm : 1 ≤ m ∧ m ≤ 6)
  have ka := cell_of_row w4 w.heap.size 0 _ _ _ (HX.out w4 HB4.out).1
  have kb := cell_of_row w4 w.heap.size 1 _ _ _ (HX.out w4 HB4.out).1
  have kc := cell_of_row w4 w.heap.size 2 _ _ _ (HX.out w4 HB4.out).1
  by_cases hn : a.neg = true
  · rw [hn] at ka
    have HN : Hid (a.neg = true) := hn
    clear hn
    obtain ⟨f0, c0, f1, c1, f2, c2, r3⟩ := rw3 (HX.out w4 HB4.out).2.1
    have HR3 : Hid _ := r3
    have HBW : Hid (Below w.heap.size w w4) := (HX.out _ HB4.out).2.2
    have HRN : Hid (R = RA.no 14) := by
      show _ = _
      rw [HR.out]; unfold rootA; rw [if_neg (fun h => h ⟨HOA.out, HM6.out⟩), if_pos HN.out]
    clear r3
    go_wp2
    exact ref_end (p := 4) (u := 5) (q := 6) rfl rfl rfl rfl (HR3.out _ _ _) (below_row3 HBW.out (by omega) _ _ _) (by rw [HRN.out]; exact ⟨rfl, rfl, rfl, rfl, rfl⟩)
  have HNN : Hid (¬ a.neg = true) := hn
  rw [Bool.not_eq_true] at hn
  rw [hn] at ka
  clear hn
  by_cases ha0 : a.s = []
  · have he := emp_slice ha0
    have HA00 : Hid (a.s = []) := ha0
    clear ha0
    obtain ⟨f0, c0, f1, c1, f2, c2, r3⟩ := rw3 (HX.out w4 HB4.out).2.1
    have HR3 : Hid _ := r3
    have HBW : Hid (Below w.heap.size w w4) := (HX.out _ HB4.out).2.2
    have HRN : Hid (R = RA.no 0) := by
      show _ = _
      rw [HR.out]; unfold rootA; rw [if_neg (fun h => h ⟨HOA.out, HM6.out⟩), if_neg HNN.out, if_pos HA00.out]
    clear r3
    go_wp2
    exact ref_end (p := 4) (u := 5) (q := 6) rfl rfl rfl rfl (HR3.out _ _ _) (below_row3 HBW.out (by omega) _ _ _) (by rw [HRN.out]; exact ⟨rfl, rfl, rfl, rfl, rfl⟩)
  have he := emp_not ha0
  have HA0 : Hid (a.s ≠ []) := ha0
  obtain ⟨ng, hng⟩ : ∃ x, x = false := ⟨_, rfl⟩
  obtain ⟨o, ho⟩ : ∃ o, o = outG 53 (-1074) 971 false m (rootG a) := ⟨_, rfl⟩
  have HO : Hid (o = outG 53 (-1074) 971 false m (rootG a)) := ho
  have HRM : Hid (R = ⟨bits64 false o, o.ine, o.ov, o.un, 0⟩) := by
    show _ = _
    rw [HR.out]; unfold rootA
    rw [if_neg (fun h => h ⟨HOA.out, HM6.out⟩), if_neg HNN.out, if_neg ha0, ← ho]
  clear ha0 ho HF HR
  obtain ⟨na, hna⟩ : ∃ n, n = dval a.s := ⟨_, rfl⟩
  have HNA : Hid (na = dval a.s) := hna
  have H1 : Hid (∀ W, Calls Tryz.prog 51 #[.int .u64 1] W (NatQ 1 W)) := fun W => of_any 1 W (by decide)
  have HDA : Hid (∀ W, Calls Tryz.prog 50 #[.string (bs a.s)] W (NatQ na W)) := fun W => by
    rw [hna]; exact ndigits_v (bs a.s) W (ok_dig HOA.out) (by have := ok_len HOA.out; show a.s.length ≤ _; omega)
  clear hna hng
  go_wp2_with fail
  refine (HDA.out _).mono ?_
  rintro e w5 ⟨v5, rfl, hv5, hb5⟩
  have HV5 : Hid (Num .u32 4294967296 w5 v5 na) := hv5
  have HB5 : Hid (Below w2.heap.size w2 w5) := HB4.out.thru hb5
  clear hb5 hv5 ka kb kc he
  go_wp2_with fail
  refine (H1.out _).mono ?_
  rintro e w6 ⟨v6, rfl, hv6, hb6⟩
  have hv5 : Num .u32 4294967296 w6 v5 na := Num.below HV5.out (Nat.le_refl _) hb6
  obtain ⟨p1, p2, p3, rfl⟩ := Num.shape hv5
  obtain ⟨q1, q2, q3, rfl⟩ := Num.shape hv6
  have HB6 : Hid (Below w2.heap.size w2 w6) := HB5.out.thru hb6
  have HN1 : Hid (Num .u32 4294967296 w6 (.slice p1 p2 p3) na) := hv5
  have HN2 : Hid (Num .u32 4294967296 w6 (.slice q1 q2 q3) 1) := hv6
  clear hb6 hv5 hv6 HV5 HB5 HB4
  go_upto_region 9 with fail
  obtain ⟨w7, hw7⟩ : ∃ W, W = w6.alloc (.cells #[.bool false, .slice p1 p2 p3, .slice q1 q2 q3, .int .i64 0, .bool true] 68) := ⟨_, rfl⟩
  have hb7 : Below w6.heap.size w6 w7 := by rw [hw7]; exact (Below.refl _ _).alloc (Nat.le_refl _) _
  have HB7 : Hid (Below w2.heap.size w2 w7) := HB6.out.thru hb7
  obtain ⟨g8, hg8⟩ : ∃ g, g = w6.heap.size := ⟨_, rfl⟩
  have HDR : Hid (DR w7 g8 false na 1 0 true) := by
    show DR _ _ _ _ _ _ _
    rw [hg8]
    refine ⟨_, _, _, _, _, _, ?_, Num.below HN1.out (Nat.le_refl _) hb7, Num.below HN2.out (Nat.le_refl _) hb7⟩
    rw [hw7]; exact heap_alloc_new _ _
  have HG8 : Hid (w.heap.size + 2 ≤ g8) := by show _ ≤ _; have := HB6.out.size; have := HSZ.out; omega
  rw [← hw7, ← hg8]
  have HF7 : Hid (Below w.heap.size w w7 ∧ w7.heap[w.heap.size + 1]? = some (.cells #[.bool false, .bool false, .bool false] 27 (0, 0))) := ⟨(HX.out w7 HB7.out).2.2, (HX.out w7 HB7.out).2.1⟩
  have HD7 : Hid (∀ W, Below w7.heap.size w7 W → W.heap[w.heap.size]? = some (.cells #[.bool a.neg, .string (bs a.s), .int .i64 a.e] 23 (0, 0))) := fun W hW => (HX.out W (HB7.out.thru hW)).1
  have ca1 := cell_of_row w7 w.heap.size 1 _ _ _ (HX.out w7 HB7.out).1
  have ca2 := cell_of_row w7 w.heap.size 2 _ _ _ (HX.out w7 HB7.out).1
  clear hw7 hb7 HB6 hg8 HN1 HN2 HX HSZ HB7
  obtain ⟨far, hfar⟩ : ∃ x, x = farV a oneD + 1 := ⟨_, rfl⟩
  have HFAR : Hid (far = farV a oneD + 1) := hfar
  rw [far_one] at hfar
  have la := ok_len HOA.out
  have ea := ok_exp HOA.out
  have HEB : Hid (-20000 ≤ a.e ∧ a.e ≤ 20000) := ea
  have i1 : IntKind.i64.wrap ((a.s.length : Int) + a.e) = far := by rw [hfar]; exact IntWalk.i64_in _ (by omega)
  have z1 : ((bs a.s).size : Int) = (a.s.length : Nat) := rfl
  clear hfar la ea
  go_upto_block 1 with fail
  clear i1 z1 ca1
  go_cut [] (fun wx => AnyR a wx g8 ∧ Below w.heap.size w wx ∧ wx.heap[w.heap.size + 1]? = some (.cells #[.bool false, .bool false, .bool false] 27 (0, 0)))
  case first => as_aux_lemma =>
    by_cases hu : 800 < far
    · clear ca2
      go_wp2_with fail
      refine (H1.out _).mono ?_
      rintro e w8 ⟨v8, rfl, hv8, hb8⟩
      have HV8 : Hid (Num .u32 4294967296 w8 v8 1) := hv8
      have HB8 : Hid (Below w7.heap.size w7 w8) := hb8
      clear hv8 hb8
      go_wp2_with fail
      refine (H1.out _).mono ?_
      rintro e w9 ⟨v9, rfl, hv9, hb9⟩
      have hv8 : Num .u32 4294967296 w9 v8 1 := Num.below HV8.out (Nat.le_refl _) hb9
      obtain ⟨x1, x2, x3, rfl⟩ := Num.shape hv8
      obtain ⟨y1, y2, y3, rfl⟩ := Num.shape hv9
      have HB9 : Hid (Below w7.heap.size w7 w9) := HB8.out.thru hb9
      obtain ⟨b1, b2, b3, d1, d2, d3, r5, n5, n6⟩ := HDR.out.below HB9.out
      have HFIN : Hid (DR (w9.setRow g8 #[.bool false, .slice x1 x2 x3, .slice y1 y2 y3, .int .i64 (1400), .bool false]) g8 false 1 1 (1400) false ∧ Below w.heap.size w (w9.setRow g8 #[.bool false, .slice x1 x2 x3, .slice y1 y2 y3, .int .i64 (1400), .bool false]) ∧ (w9.setRow g8 #[.bool false, .slice x1 x2 x3, .slice y1 y2 y3, .int .i64 (1400), .bool false]).heap[w.heap.size + 1]? = some (.cells #[.bool false, .bool false, .bool false] 27 (0, 0))) :=
        ⟨⟨_, _, _, _, _, _, setRow_heap w9 g8 _ _ _ _ r5, num_setRow32 hv8 r5 (no_u32v _ _ _ _ _ _ _ _ _), num_setRow32 hv9 r5 (no_u32v _ _ _ _ _ _ _ _ _)⟩, below_setRow (HF7.out.1.thru HB9.out) (by have := HG8.out; omega) _, (setRow_other w9 g8 _ _ (by have := HG8.out; omega)).trans (HB9.out.blk HF7.out.2 (blk_lt HF7.out.2))⟩
      have HR5 : Hid _ := r5
      clear hv8 hv9 hb9 HV8 HB8 n5 n6 r5
      go_wp2_with (refine wpList_store_row rfl 68 (.tmp 8) (.tmp 53) rfl g8 #[.bool false, .slice x1 x2 x3, .slice y1 y2 y3, .int .i64 (1400), .bool false] rfl rfl _ _ HR5.out (by kernel_rfl) rfl (by simp [Value.oneCell']) ?_)
      go_meet
      exact ⟨HFIN.out.1.far_r (.inl ⟨rfl, by have := HFAR.out; omega⟩), HFIN.out.2.1, HFIN.out.2.2⟩
    by_cases hd : far < -800
    · clear ca2
      go_wp2_with fail
      refine (H1.out _).mono ?_
      rintro e w8 ⟨v8, rfl, hv8, hb8⟩
      have HV8 : Hid (Num .u32 4294967296 w8 v8 1) := hv8
      have HB8 : Hid (Below w7.heap.size w7 w8) := hb8
      clear hv8 hb8
      go_wp2_with fail
      refine (H1.out _).mono ?_
      rintro e w9 ⟨v9, rfl, hv9, hb9⟩
      have hv8 : Num .u32 4294967296 w9 v8 1 := Num.below HV8.out (Nat.le_refl _) hb9
      obtain ⟨x1, x2, x3, rfl⟩ := Num.shape hv8
      obtain ⟨y1, y2, y3, rfl⟩ := Num.shape hv9
      have HB9 : Hid (Below w7.heap.size w7 w9) := HB8.out.thru hb9
      obtain ⟨b1, b2, b3, d1, d2, d3, r5, n5, n6⟩ := HDR.out.below HB9.out
      have HFIN : Hid (DR (w9.setRow g8 #[.bool false, .slice x1 x2 x3, .slice y1 y2 y3, .int .i64 (-1400), .bool false]) g8 false 1 1 (-1400) false ∧ Below w.heap.size w (w9.setRow g8 #[.bool false, .slice x1 x2 x3, .slice y1 y2 y3, .int .i64 (-1400), .bool false]) ∧ (w9.setRow g8 #[.bool false, .slice x1 x2 x3, .slice y1 y2 y3, .int .i64 (-1400), .bool false]).heap[w.heap.size + 1]? = some (.cells #[.bool false, .bool false, .bool false] 27 (0, 0))) :=
        ⟨⟨_, _, _, _, _, _, setRow_heap w9 g8 _ _ _ _ r5, num_setRow32 hv8 r5 (no_u32v _ _ _ _ _ _ _ _ _), num_setRow32 hv9 r5 (no_u32v _ _ _ _ _ _ _ _ _)⟩, below_setRow (HF7.out.1.thru HB9.out) (by have := HG8.out; omega) _, (setRow_other w9 g8 _ _ (by have := HG8.out; omega)).trans (HB9.out.blk HF7.out.2 (blk_lt HF7.out.2))⟩
      have HR5 : Hid _ := r5
      clear hv8 hv9 hb9 HV8 HB8 n5 n6 r5
      go_wp2_with (refine wpList_store_row rfl 68 (.tmp 8) (.tmp 59) rfl g8 #[.bool false, .slice x1 x2 x3, .slice y1 y2 y3, .int .i64 (-1400), .bool false] rfl rfl _ _ HR5.out (by kernel_rfl) rfl (by simp [Value.oneCell']) ?_)
      go_meet
      exact ⟨HFIN.out.1.far_r (.inr ⟨rfl, by have := HFAR.out; omega⟩), HFIN.out.2.1, HFIN.out.2.2⟩
    by_cases hx : 0 ≤ a.e
    · obtain ⟨k, hk⟩ : ∃ k : Nat, a.e = k := ⟨a.e.toNat, by omega⟩
      have HKX : Hid (a.e = (k : Int)) := hk
      have hkb : k ≤ 40000 := by have := HEB.out; omega
      have HT : Hid (∀ W, Calls Tryz.prog 53 #[.int .i64 a.e] W (NatQ (10 ^ k) W)) := fun W => by rw [hk]; exact nten_v k W (by omega)
      obtain ⟨b2, hb2⟩ : ∃ b, b = 4 * 50000 + 1 := ⟨_, rfl⟩
      have HM : Hid (∀ W x y, Num .u32 4294967296 W x na → Num .u32 4294967296 W y (10 ^ k) → Calls Tryz.prog 52 #[x, y] W (NatQ (na * 10 ^ k) W)) := fun W x y hx hy =>
        nmul_any x y na (10 ^ k) W hx hy (bb := b2) (by rw [HNA.out]; exact Nat.lt_of_lt_of_le (ok_val HOA.out) (Nat.le_trans (Nat.le_of_lt (ten_lt2 _)) (Nat.pow_le_pow_right (by decide) (by have := ok_len HOA.out; omega)))) (Nat.lt_of_lt_of_le (ten_lt2 k) (Nat.pow_le_pow_right (by decide) (by omega))) (by omega)
      clear hk hkb hb2
      go_upto_region 16 with fail
      clear ca2
      have h1 : once [(64, 0), (65, 1), (66, 2), (67, 3), (68, 4), (69, 5), (70, 6)] = true := by kernel_rfl
      have h2 : within [(64, 0), (65, 1), (66, 2), (67, 3), (68, 4), (69, 5), (70, 6)] 81 = true := by kernel_rfl
      let S : Nat → (Nat → Value) → World → Prop := fun i xs W => match i with
        | 0 => (xs 0) = .pointer (some ⟨g8, 1, none⟩)
        | 1 => Num .u32 4294967296 W (xs 1) (na)
        | 2 => (xs 2) = .pointer (some ⟨w.heap.size, 2, none⟩)
        | 3 => (xs 3) = .int .i64 a.e
        | 4 => Num .u32 4294967296 W (xs 4) (10 ^ k)
        | 5 => Num .u32 4294967296 W (xs 5) (na * 10 ^ k)
        | 6 => (xs 6) = .pointer (some ⟨g8, 1, none⟩)
        | _ => True
      have hstab : ∀ j ys W W', S j ys W → Below W.heap.size W W' → S j ys W' := by
        intro j ys W W' h hb
        match j, h with
        | 0, h => exact h
        | 1, h => exact h.below (Nat.le_refl _) hb
        | 2, h => exact h
        | 3, h => exact h
        | 4, h => exact h.below (Nat.le_refl _) hb
        | 5, h => exact h.below (Nat.le_refl _) hb
        | 6, h => exact h
        | _ + 7, h => exact trivial
      refine wp_region_flow3T 7 8 4 [(64, 0), (65, 1), (66, 2), (67, 3), (68, 4), (69, 5), (70, 6)] [] S (fun _ W => (fun W => DR W g8 false na 1 0 true ∧ Below w.heap.size w W ∧ W.heap[w.heap.size + 1]? = some (.cells #[.bool false, .bool false, .bool false] 27 (0, 0)) ∧ W.heap[w.heap.size]? = some (.cells #[.bool a.neg, .string (bs a.s), .int .i64 a.e] 23 (0, 0))) W) ⟨HDR.out.below ((Below.refl _ _).drew), HF7.out.1.thru ((Below.refl _ _).drew), (Below.refl _ _).drew.blk HF7.out.2 (blk_lt HF7.out.2), HD7.out _ ((Below.refl _ _).drew)⟩ (by kernel_rfl) (by kernel_rfl) (by kernel_rfl) (by decide) (by kernel_rfl) h1 (by kernel_rfl) ?_ ?_ ?_ ?_
      · exact fun j hj => by cases hj
      · intro j xs ys W e h
        match j, e, h with
        | 0, e, h => exact (e 0 (.inl rfl)).symm.trans h
        | 1, e, h => exact (congrArg (fun z => Num .u32 4294967296 W z _) (e 1 (.inl rfl))).mp h
        | 2, e, h => exact (e 2 (.inl rfl)).symm.trans h
        | 3, e, h => exact (e 3 (.inl rfl)).symm.trans h
        | 4, e, h => exact (congrArg (fun z => Num .u32 4294967296 W z _) (e 4 (.inl rfl))).mp h
        | 5, e, h => exact (congrArg (fun z => Num .u32 4294967296 W z _) (e 5 (.inl rfl))).mp h
        | 6, e, h => exact (e 6 (.inl rfl)).symm.trans h
        | _ + 7, e, h => exact trivial
      · refine ⟨⟨⟨⟨⟨⟨⟨trivial, ?_⟩, ?_⟩, ?_⟩, ?_⟩, ?_⟩, ?_⟩, ?_⟩
        · refine flow3_step _ (some 64) rfl rfl rfl h1 h2 (fun D W _ h => h) (fun D W W' h hb => ⟨h.1.below hb, h.2.1.thru hb, hb.blk h.2.2.1 (blk_lt h.2.2.1), hb.blk h.2.2.2 (blk_lt h.2.2.2)⟩) hstab fun ac xs W Dn he hni hG hS K hK => ?_
          have e0 : ac.eval (.tmp 8) = .pointer (some ⟨g8, 0, none⟩) := he 8
          refine op_any (.fieldAddr 68 (.tmp 8) 1) rfl (.pointer (some ⟨g8, 1, none⟩)) (fun o' ho' => ?_) (hK _ _ rfl (Below.refl _ _) (fun h => absurd h (by decide)))
          simp only [execOp, ho', e0]
          go_simp
        · refine flow3_step _ (some 65) rfl rfl rfl h1 h2 (fun D W _ h => h) (fun D W W' h hb => ⟨h.1.below hb, h.2.1.thru hb, hb.blk h.2.2.1 (blk_lt h.2.2.1), hb.blk h.2.2.2 (blk_lt h.2.2.2)⟩) hstab fun ac xs W Dn he hni hG hS K hK => ?_
          obtain ⟨p1, p2, p3, p4, p5, p6, r5, n5, n6⟩ := hG.1
          have k2 := cell_of_row W g8 1 _ _ _ r5
          have e0 : ac.eval (.tmp 64) = _ := (he 64).trans (hS 0 (by kernel_rfl))
          refine op_any (.load 66 (.tmp 64)) rfl (.slice p1 p2 p3) (fun o' ho' => ?_) (hK _ _ n5 (Below.refl _ _) (fun h => absurd h (by decide)))
          simp only [execOp, ho', e0]
          go_simp
        · refine flow3_step _ (some 66) rfl rfl rfl h1 h2 (fun D W _ h => h) (fun D W W' h hb => ⟨h.1.below hb, h.2.1.thru hb, hb.blk h.2.2.1 (blk_lt h.2.2.1), hb.blk h.2.2.2 (blk_lt h.2.2.2)⟩) hstab fun ac xs W Dn he hni hG hS K hK => ?_
          have e0 : ac.eval (.tmp 2) = .pointer (some ⟨w.heap.size, 0, none⟩) := he 2
          refine op_any (.fieldAddr 23 (.tmp 2) 2) rfl (.pointer (some ⟨w.heap.size, 2, none⟩)) (fun o' ho' => ?_) (hK _ _ rfl (Below.refl _ _) (fun h => absurd h (by decide)))
          simp only [execOp, ho', e0]
          go_simp
        · refine flow3_step _ (some 67) rfl rfl rfl h1 h2 (fun D W _ h => h) (fun D W W' h hb => ⟨h.1.below hb, h.2.1.thru hb, hb.blk h.2.2.1 (blk_lt h.2.2.1), hb.blk h.2.2.2 (blk_lt h.2.2.2)⟩) hstab fun ac xs W Dn he hni hG hS K hK => ?_
          have e0 : ac.eval (.tmp 66) = _ := (he 66).trans (hS 2 (by kernel_rfl))
          refine op_any (.load 3 (.tmp 66)) rfl (.int .i64 a.e) (fun o' ho' => ?_) (hK _ _ rfl (Below.refl _ _) (fun h => absurd h (by decide)))
          simp only [execOp, ho', e0]
          have hc := cell_of_row W w.heap.size 2 _ _ _ hG.2.2.2
          go_simp
        · refine flow3_step _ (some 68) rfl rfl rfl h1 h2 (fun D W _ h => h) (fun D W W' h hb => ⟨h.1.below hb, h.2.1.thru hb, hb.blk h.2.2.1 (blk_lt h.2.2.1), hb.blk h.2.2.2 (blk_lt h.2.2.2)⟩) hstab fun ac xs W Dn he hni hG hS K hK => ?_
          have e0 : ac.eval (.tmp 67) = _ := (he 67).trans (hS 3 (by kernel_rfl))
          refine op_call 53 _ _ rfl _ (by simp only [List.map, e0]) (by go_simp) (HT.out W) ?_
          rintro e' W' ⟨u, rfl, hi', hb'⟩
          exact ⟨_, rfl, hK _ _ (hi') hb' (fun h => absurd h (by decide))⟩
        · refine flow3_step _ (some 69) rfl rfl rfl h1 h2 (fun D W _ h => h) (fun D W W' h hb => ⟨h.1.below hb, h.2.1.thru hb, hb.blk h.2.2.1 (blk_lt h.2.2.1), hb.blk h.2.2.2 (blk_lt h.2.2.2)⟩) hstab fun ac xs W Dn he hni hG hS K hK => ?_
          have e0 : ac.eval (.tmp 65) = xs 1 := he 65
          have e1 : ac.eval (.tmp 68) = xs 4 := he 68
          refine op_call 52 _ _ rfl _ (by simp only [List.map, e0, e1]) (by go_simp) (HM.out W _ _ (hS 1 (by kernel_rfl)) (hS 4 (by kernel_rfl))) ?_
          rintro e' W' ⟨u, rfl, hi', hb'⟩
          exact ⟨_, rfl, hK _ _ (hi') hb' (fun h => absurd h (by decide))⟩
        · refine flow3_step _ (some 70) rfl rfl rfl h1 h2 (fun D W _ h => h) (fun D W W' h hb => ⟨h.1.below hb, h.2.1.thru hb, hb.blk h.2.2.1 (blk_lt h.2.2.1), hb.blk h.2.2.2 (blk_lt h.2.2.2)⟩) hstab fun ac xs W Dn he hni hG hS K hK => ?_
          have e0 : ac.eval (.tmp 8) = .pointer (some ⟨g8, 0, none⟩) := he 8
          refine op_any (.fieldAddr 68 (.tmp 8) 1) rfl (.pointer (some ⟨g8, 1, none⟩)) (fun o' ho' => ?_) (hK _ _ rfl (Below.refl _ _) (fun h => absurd h (by decide)))
          simp only [execOp, ho', e0]
          go_simp
      · intro xs W9 Dn hall hG hS hD
        obtain ⟨y1, y2, y3, ey⟩ := Num.shape (hS 5 (by decide))
        have hn : Num .u32 4294967296 W9 (.slice y1 y2 y3) (na * 10 ^ k) := by rw [← ey]; exact hS 5 (by decide)
        have s6 : xs 6 = _ := hS 6 (by decide)
        obtain ⟨b1, b2, b3, d1, d2, d3, r5, n5, n6⟩ := id hG.1
        have f1 := frozen_of_row W9 g8 1 _ _ r5
        have c1 := cell_of_row W9 g8 1 _ _ _ r5
        have HD : Hid (DR (W9.setCell ⟨g8, 1, none⟩ (.slice y1 y2 y3)) _ _ _ _ _ _) := hG.1.putN hn
        have HF9 : Hid _ := hG.1.far (k := 1) (x := .slice y1 y2 y3) hG.2.1 (by have := HG8.out; omega) hG.2.2.1 (by have := HG8.out; omega)
        simp only [layAll, ey, s6, List.setIfInBounds_toArray, List.set_cons_succ, List.set_cons_zero]
        clear hS hD hall hstab S h1 h2 s6 ey hn n5 n6 r5 hG
        go_wp2
        go_meet
        exact ⟨DR.root HD.out (by rw [(qM_one a).1, HKX.out, Int.toNat_natCast, HNA.out]) (by rw [(qM_one a).2, HKX.out, show (-(k : Int)).toNat = 0 by omega]) ⟨by have := HFAR.out; omega, by have := HFAR.out; omega⟩, HF9.out.1, HF9.out.2⟩
    · obtain ⟨k, hk⟩ : ∃ k : Nat, a.e = -(k : Int) := ⟨(-a.e).toNat, by omega⟩
      have HKX : Hid (a.e = -(k : Int)) := hk
      have hkb : k ≤ 40000 := by have := HEB.out; omega
      have HT : Hid (∀ W, Calls Tryz.prog 53 #[.int .i64 (k : Nat)] W (NatQ (10 ^ k) W)) := fun W => nten_v k W (by omega)
      have i2 : IntKind.i64.wrap (-a.e) = (k : Int) := by rw [hk, Int.neg_neg]; exact IntWalk.i64_in _ (by omega)
      clear hk hkb
      go_wp2_with fail
      refine (HT.out _).mono ?_
      rintro e w8 ⟨v, rfl, hv, hb8⟩
      obtain ⟨y1, y2, y3, rfl⟩ := hv.shape
      have hdr := HDR.out.below hb8
      obtain ⟨b1, b2, b3, d1, d2, d3, r5, n5, n6⟩ := id hdr
      have f2 := frozen_of_row w8 g8 2 _ _ r5
      have c2 := cell_of_row w8 g8 2 _ _ _ r5
      have HD : Hid (DR (w8.setCell ⟨g8, 2, none⟩ (.slice y1 y2 y3)) _ _ _ _ _ _) := hdr.putD hv
      have HF9 : Hid _ := hdr.far (k := 2) (x := .slice y1 y2 y3) (HF7.out.1.thru hb8) (by have := HG8.out; omega) (hb8.blk HF7.out.2 (blk_lt HF7.out.2)) (by have := HG8.out; omega)
      clear n5 n6 r5 hdr hv hb8 i2 ca2
      go_wp2
      go_meet
      exact ⟨DR.root HD.out (by rw [(qM_one a).1, HKX.out, show (-(k : Int)).toNat = 0 by omega, HNA.out]; exact (Nat.mul_one _).symm) (by rw [(qM_one a).2, HKX.out, Int.neg_neg, Int.toNat_natCast]; exact (Nat.one_mul _).symm) ⟨by have := HFAR.out; omega, by have := HFAR.out; omega⟩, HF9.out.1, HF9.out.2⟩
  case rest =>
  obtain ⟨hdr, hbw, hfl⟩ := hcut
  have HTO : Hid (∀ W v, AnyV a W v → Calls Tryz.prog 37 #[v, .agg #[.int .i64 53, .int .i64 (-1074), .int .i64 1023], .int .i64 m] W (FlQ false o W)) := fun W v hv => by
    rw [HO.out]; exact doc_root HOA.out HA0.out HM6.out hv
  have HDC : Hid (AnyR a wc g8) := hdr
  have HFC : Hid (Below w.heap.size w wc ∧ wc.heap[w.heap.size + 1]? = some (.cells #[.bool false, .bool false, .bool false] 27 (0, 0))) := ⟨hbw, hfl⟩
  clear hdr hbw hfl HDR HF7 ca2
  go_upto_region 17 with fail
  have h1 : once [(72, 0), (73, 1), (74, 2), (75, 3), (71, 4), (76, 5), (77, 6), (10, 7), (11, 8)] = true := by kernel_rfl
  have h2 : within [(72, 0), (73, 1), (74, 2), (75, 3), (71, 4), (76, 5), (77, 6), (10, 7), (11, 8)] 81 = true := by kernel_rfl
  let S : Nat → (Nat → Value) → World → Prop := fun i xs W => match i with
    | 0 => AnyV a W (xs 0)
    | 1 => (xs 1) = .agg #[.int .i64 53, .int .i64 (-1074), .int .i64 1023]
    | 2 => (xs 2) = .int .i64 m
    | 3 => (xs 3) = .tuple #[.agg #[.bool false, .bool o.inf, .int .u64 (o.m : Nat), .int .i64 o.e], .agg #[.bool o.ine, .bool o.ov, .bool o.un]]
    | 4 => (xs 4) = .tuple #[.agg #[.bool false, .bool o.inf, .int .u64 (o.m : Nat), .int .i64 o.e], .agg #[.bool o.ine, .bool o.ov, .bool o.un]]
    | 5 => (xs 5) = .agg #[.bool false, .bool o.inf, .int .u64 (o.m : Nat), .int .i64 o.e]
    | 6 => (xs 6) = .agg #[.bool o.ine, .bool o.ov, .bool o.un]
    | 7 => ∃ g, (xs 7) = .pointer (some ⟨g, 0, none⟩) ∧ wc.heap.size ≤ g ∧ g < W.heap.size ∧ FlR W g
    | 8 => ∃ g, (xs 8) = .pointer (some ⟨g, 0, none⟩) ∧ wc.heap.size ≤ g ∧ g < W.heap.size ∧ FgR W g
    | 9 => ∃ g, xs 7 = .pointer (some ⟨g, 0, none⟩) ∧ wc.heap.size ≤ g ∧ W.heap[g]? = some (.cells #[.bool false, .bool o.inf, .int .u64 (o.m : Nat), .int .i64 o.e] 62 (0, 0))
    | 10 => ∃ g, xs 8 = .pointer (some ⟨g, 0, none⟩) ∧ wc.heap.size ≤ g ∧ W.heap[g]? = some (.cells #[.bool o.ine, .bool o.ov, .bool o.un] 27 (0, 0))
    | _ => True
  have hstab : ∀ j ys W W', S j ys W → Below W.heap.size W W' → S j ys W' := by
    intro j ys W W' h hb
    match j, h with
    | 0, h => exact anyv_below h hb
    | 1, h => exact h
    | 2, h => exact h
    | 3, h => exact h
    | 4, h => exact h
    | 5, h => exact h
    | 6, h => exact h
    | 7, ⟨g, s1, s2, s3, s4⟩ => exact ⟨g, s1, s2, Nat.lt_of_lt_of_le s3 hb.size, s4.below hb⟩
    | 8, ⟨g, s1, s2, s3, s4⟩ => exact ⟨g, s1, s2, Nat.lt_of_lt_of_le s3 hb.size, s4.below hb⟩
    | 9, ⟨g, s1, s2, s4⟩ => exact ⟨g, s1, s2, hb.blk s4 (blk_lt s4)⟩
    | 10, ⟨g, s1, s2, s4⟩ => exact ⟨g, s1, s2, hb.blk s4 (blk_lt s4)⟩
    | _ + 11, h => exact trivial
  refine wp_region_flow3T 11 11 4 [(72, 0), (73, 1), (74, 2), (75, 3), (71, 4), (76, 5), (77, 6), (10, 7), (11, 8)] [7, 8] S (fun _ W => (fun W => Below wc.heap.size wc W) W) ((Below.refl _ _).drew) (by kernel_rfl) (by kernel_rfl) (by kernel_rfl) (by decide) (by kernel_rfl) h1 (by kernel_rfl) ?_ ?_ ?_ ?_
  · intro j hj xs W h
    simp only [List.mem_cons, List.not_mem_nil, or_false] at hj
    rcases hj with rfl | rfl
    · obtain ⟨g, s1, s2, s3, s4⟩ := h; exact ⟨g, s1, s3⟩
    · obtain ⟨g, s1, s2, s3, s4⟩ := h; exact ⟨g, s1, s3⟩
  · intro j xs ys W e h
    match j, e, h with
    | 0, e, h => exact (congrArg (fun z => AnyV a W z) (e 0 (.inl rfl))).mp h
    | 1, e, h => exact (e 1 (.inl rfl)).symm.trans h
    | 2, e, h => exact (e 2 (.inl rfl)).symm.trans h
    | 3, e, h => exact (e 3 (.inl rfl)).symm.trans h
    | 4, e, h => exact (e 4 (.inl rfl)).symm.trans h
    | 5, e, h => exact (e 5 (.inl rfl)).symm.trans h
    | 6, e, h => exact (e 6 (.inl rfl)).symm.trans h
    | 7, e, ⟨g, s1, r⟩ => exact ⟨g, (e 7 (.inl rfl)).symm.trans s1, r⟩
    | 8, e, ⟨g, s1, r⟩ => exact ⟨g, (e 8 (.inl rfl)).symm.trans s1, r⟩
    | 9, e, ⟨g, s1, r⟩ => exact ⟨g, (e 7 (.inr (by kernel_rfl))).symm.trans s1, r⟩
    | 10, e, ⟨g, s1, r⟩ => exact ⟨g, (e 8 (.inr (by kernel_rfl))).symm.trans s1, r⟩
    | _ + 11, e, h => exact trivial
  · refine ⟨⟨⟨⟨⟨⟨⟨⟨⟨⟨⟨trivial, ?_⟩, ?_⟩, ?_⟩, ?_⟩, ?_⟩, ?_⟩, ?_⟩, ?_⟩, ?_⟩, ?_⟩, ?_⟩
    · refine flow3_step _ (some 72) rfl rfl rfl h1 h2 (fun D W _ h => h) (fun D W W' h hb => h.thru hb) hstab fun ac xs W Dn he hni hb hS K hK => ?_
      obtain ⟨b1, b2, b3, d1, d2, d3, bE, br, r5, n5⟩ := anyr_below HDC.out hb
      exact wp_load_row 68 (.tmp 8) rfl g8 (he 8) _ _ _ _ r5 Tryz.underlying68 rfl (by kernel_rfl) (hK _ _ n5 (Below.refl _ _) (fun h => absurd h (by decide)))
    · refine flow3_step _ (some 73) rfl rfl rfl h1 h2 (fun D W _ h => h) (fun D W W' h hb => h.thru hb) hstab fun ac xs W Dn he hni hb hS K hK => ?_
      refine op_call 39 _ _ rfl _ (by simp only [List.map]) (by go_simp) (sixty_any W) ?_
      rintro e' W' ⟨rfl, hb'⟩
      exact ⟨_, rfl, hK _ _ (rfl) hb' (fun h => absurd h (by decide))⟩
    · refine flow3_step _ (some 74) rfl rfl rfl h1 h2 (fun D W _ h => h) (fun D W W' h hb => h.thru hb) hstab fun ac xs W Dn he hni hb hS K hK => ?_
      exact op_move (.tmp 1) (.inl rfl) (hK _ _ (he 1) (Below.refl _ _) (fun h => absurd h (by decide)))
    · refine flow3_step _ (some 75) rfl rfl rfl h1 h2 (fun D W _ h => h) (fun D W W' h hb => h.thru hb) hstab fun ac xs W Dn he hni hb hS K hK => ?_
      have e0 : ac.eval (.tmp 72) = xs 0 := he 72
      have e1 : ac.eval (.tmp 73) = _ := (he 73).trans (hS 1 (by kernel_rfl))
      have e2 : ac.eval (.tmp 74) = _ := (he 74).trans (hS 2 (by kernel_rfl))
      refine op_call 37 _ _ rfl _ (by simp only [List.map, e0, e1, e2]) (by go_simp) (HTO.out W _ (hS 0 (by kernel_rfl))) ?_
      rintro e' W' ⟨rfl, hb'⟩
      exact ⟨_, rfl, hK _ _ (rfl) hb' (fun h => absurd h (by decide))⟩
    · refine flow3_step _ (some 71) rfl rfl rfl h1 h2 (fun D W _ h => h) (fun D W W' h hb => h.thru hb) hstab fun ac xs W Dn he hni hb hS K hK => ?_
      exact op_move (.tmp 75) (.inl rfl) (hK _ _ ((he 75).trans (hS 3 (by kernel_rfl))) (Below.refl _ _) (fun h => absurd h (by decide)))
    · refine flow3_step _ (some 76) rfl rfl rfl h1 h2 (fun D W _ h => h) (fun D W W' h hb => h.thru hb) hstab fun ac xs W Dn he hni hb hS K hK => ?_
      have e0 : ac.eval (.tmp 71) = _ := (he 71).trans (hS 4 (by kernel_rfl))
      refine op_any (.extract (.tmp 71) 0) rfl (.agg #[.bool false, .bool o.inf, .int .u64 (o.m : Nat), .int .i64 o.e]) (fun o' ho' => ?_) (hK _ _ rfl (Below.refl _ _) (fun h => absurd h (by decide)))
      simp only [execOp, ho', e0]
      go_simp
    · refine flow3_step _ (some 77) rfl rfl rfl h1 h2 (fun D W _ h => h) (fun D W W' h hb => h.thru hb) hstab fun ac xs W Dn he hni hb hS K hK => ?_
      have e0 : ac.eval (.tmp 71) = _ := (he 71).trans (hS 4 (by kernel_rfl))
      refine op_any (.extract (.tmp 71) 1) rfl (.agg #[.bool o.ine, .bool o.ov, .bool o.un]) (fun o' ho' => ?_) (hK _ _ rfl (Below.refl _ _) (fun h => absurd h (by decide)))
      simp only [execOp, ho', e0]
      go_simp
    · refine flow3_step _ (some 10) rfl rfl rfl h1 h2 (fun D W _ h => h) (fun D W W' h hb => h.thru hb) hstab fun ac xs W Dn he hni hb hS K hK => ?_
      have hsz := hb.size
      refine op_anyw (.alloc 62) rfl (.pointer (some ⟨W.heap.size, 0, none⟩)) (W.alloc (.cells #[.bool false, .bool false, .int .u64 0, .int .i64 0] 62)) ?_ ?_
      · intro o' ho'
        simp only [execOp, ho']
        go_simp
      · exact hK _ _ ⟨_, rfl, by omega, by simp, ⟨_, _, _, _, heap_alloc_new _ _⟩⟩ ((Below.refl _ _).alloc (Nat.le_refl _) _) (fun _ => rfl)
    · refine flow3_step _ (some 11) rfl rfl rfl h1 h2 (fun D W _ h => h) (fun D W W' h hb => h.thru hb) hstab fun ac xs W Dn he hni hb hS K hK => ?_
      have hsz := hb.size
      refine op_anyw (.alloc 27) rfl (.pointer (some ⟨W.heap.size, 0, none⟩)) (W.alloc (.cells #[.bool false, .bool false, .bool false] 27)) ?_ ?_
      · intro o' ho'
        simp only [execOp, ho']
        go_simp
      · exact hK _ _ ⟨_, rfl, by omega, by simp, ⟨_, _, _, heap_alloc_new _ _⟩⟩ ((Below.refl _ _).alloc (Nat.le_refl _) _) (fun _ => rfl)
    · refine flow3_store _ rfl rfl rfl h1 h2 (by decide) fun ac xs W Dn he hni hb hS K hK => ?_
      obtain ⟨g, s1, s2, s3, s4⟩ := hS 7 (by kernel_rfl)
      obtain ⟨x1, x2, x3, x4, s5⟩ := id s4
      have hvy := hS 5 (by kernel_rfl)
      refine wp_store_row 62 (.tmp 10) (.tmp 76) rfl g #[.bool false, .bool o.inf, .int .u64 (o.m : Nat), .int .i64 o.e] ((he 10).trans s1) ((he 76).trans hvy) _ _ s5 (by kernel_rfl) rfl (by simp [Value.oneCell']) ?_
      have hself0 := setRow_heap W g _ #[.bool false, .bool o.inf, .int .u64 (o.m : Nat), .int .i64 o.e] _ _ s5
      have hself : ∃ g', xs 7 = .pointer (some ⟨g', 0, none⟩) ∧ wc.heap.size ≤ g' ∧ (W.setRow g #[.bool false, .bool o.inf, .int .u64 (o.m : Nat), .int .i64 o.e]).heap[g']? = some (.cells #[.bool false, .bool o.inf, .int .u64 (o.m : Nat), .int .i64 o.e] 62 (0, 0)) := ⟨g, s1, s2, hself0⟩
      have hG2 : Below wc.heap.size wc (W.setRow g #[.bool false, .bool o.inf, .int .u64 (o.m : Nat), .int .i64 o.e]) := below_setRow hb s2 _
      refine hK _ hself hG2 ?_
      intro j ys h
      match j, h with
      | 0, h => exact s4.anyv _ h
      | 1, h => exact h
      | 2, h => exact h
      | 3, h => exact h
      | 4, h => exact h
      | 5, h => exact h
      | 6, h => exact h
      | 7, ⟨g1, u1, u2, u3, u4⟩ => exact ⟨g1, u1, u2, by rw [setRow_size]; exact u3, u4.put s4 _ _ _ _⟩
      | 8, ⟨g1, u1, u2, u3, u4⟩ => exact ⟨g1, u1, u2, by rw [setRow_size]; exact u3, u4.off s4 _⟩
      | 9, ⟨g1, u1, u2, u4⟩ => exact ⟨g1, u1, u2, row_keep u4⟩
      | 10, ⟨g1, u1, u2, u4⟩ => exact ⟨g1, u1, u2, (setRow_other W g g1 _ (fl_ne s4 ⟨_, _, _, u4⟩)).trans u4⟩
      | _ + 11, h => exact trivial
    · refine flow3_store _ rfl rfl rfl h1 h2 (by decide) fun ac xs W Dn he hni hb hS K hK => ?_
      obtain ⟨g, s1, s2, s3, s4⟩ := hS 8 (by kernel_rfl)
      obtain ⟨x1, x2, x3, s5⟩ := id s4
      have hvy := hS 6 (by kernel_rfl)
      refine wp_store_row 27 (.tmp 11) (.tmp 77) rfl g #[.bool o.ine, .bool o.ov, .bool o.un] ((he 11).trans s1) ((he 77).trans hvy) _ _ s5 (by kernel_rfl) rfl (by simp [Value.oneCell']) ?_
      have hself0 := setRow_heap W g _ #[.bool o.ine, .bool o.ov, .bool o.un] _ _ s5
      have hself : ∃ g', xs 8 = .pointer (some ⟨g', 0, none⟩) ∧ wc.heap.size ≤ g' ∧ (W.setRow g #[.bool o.ine, .bool o.ov, .bool o.un]).heap[g']? = some (.cells #[.bool o.ine, .bool o.ov, .bool o.un] 27 (0, 0)) := ⟨g, s1, s2, hself0⟩
      have hG2 : Below wc.heap.size wc (W.setRow g #[.bool o.ine, .bool o.ov, .bool o.un]) := below_setRow hb s2 _
      refine hK _ hself hG2 ?_
      intro j ys h
      match j, h with
      | 0, h => exact s4.anyv _ h
      | 1, h => exact h
      | 2, h => exact h
      | 3, h => exact h
      | 4, h => exact h
      | 5, h => exact h
      | 6, h => exact h
      | 7, ⟨g1, u1, u2, u3, u4⟩ => exact ⟨g1, u1, u2, by rw [setRow_size]; exact u3, u4.off s4 _⟩
      | 8, ⟨g1, u1, u2, u3, u4⟩ => exact ⟨g1, u1, u2, by rw [setRow_size]; exact u3, u4.put s4 _ _ _⟩
      | 9, ⟨g1, u1, u2, u4⟩ => exact ⟨g1, u1, u2, (setRow_other W g g1 _ (fun e => fl_ne ⟨_, _, _, _, u4⟩ s4 e.symm)).trans u4⟩
      | 10, ⟨g1, u1, u2, u4⟩ => exact ⟨g1, u1, u2, row_keep u4⟩
      | _ + 11, h => exact trivial
  · intro xs w8 Dn hall hb hS hD
    obtain ⟨g1, s7, hg1, r1⟩ := hS 9 (by decide)
    obtain ⟨g2, s8, hg2, r2⟩ := hS 10 (by decide)
    simp only [layAll, s7, s8, List.setIfInBounds_toArray, List.set_cons_succ, List.set_cons_zero]
    have HB8 : Hid (Below wc.heap.size wc w8) := hb
    have HR0 : Hid (∀ W, Below w8.heap.size w8 W → W.heap[g1]? = some (.cells #[.bool false, .bool o.inf, .int .u64 (o.m : Nat), .int .i64 o.e] 62 (0, 0)) ∧ W.heap[g2]? = some (.cells #[.bool o.ine, .bool o.ov, .bool o.un] 27 (0, 0))) := fun W hW => ⟨hW.blk r1 (blk_lt r1), hW.blk r2 (blk_lt r2)⟩
    clear hS hD hall hstab S s7 s8 h1 h2 hg1 hg2 r1 r2 hb
    show wpList Tryz.prog _ _ [] _ _
    obtain ⟨BB, hBB⟩ : ∃ x, x = bits64 false o := ⟨_, rfl⟩
    have HBT : Hid (∀ W, Calls Tryz.prog 40 #[.agg #[.bool false, .bool o.inf, .int .u64 (o.m : Nat), .int .i64 o.e]] W fun e w' => e = .returned (.int .u64 (BB : Nat)) ∧ Below W.heap.size W w') := fun W => by
      rw [hBB, HO.out]; exact bits64_out false m (rootG a) (rootG_ok a) W
    have HRB : Hid (R = ⟨BB, o.ine, o.ov, o.un, 0⟩) := by show _ = _; rw [HRM.out, hBB]
    clear hBB HTO
    go_upto_region 18 with fail
    have h1 : once [(78, 0), (79, 1), (80, 2), (4, 3)] = true := by kernel_rfl
    have h2 : within [(78, 0), (79, 1), (80, 2), (4, 3)] 81 = true := by kernel_rfl
    refine wp_region_flow 4 6 [(78, 0), (79, 1), (80, 2), (4, 3)] [] (fun i v W => match i with
      | 0 => v = .agg #[.bool false, .bool o.inf, .int .u64 (o.m : Nat), .int .i64 o.e]
      | 1 => v = .int .u64 (BB : Nat)
      | 2 => v = .agg #[.bool o.ine, .bool o.ov, .bool o.un]
      | _ => v = .int .u64 (BB : Nat)) w8.heap.size (Nat.le_refl _) (by kernel_rfl) (by kernel_rfl) (by kernel_rfl) (by decide) (by kernel_rfl) h1 (by kernel_rfl) ?_ ?_ ?_ ?_
    · intro j v W W' h hb
      match j, h with
      | 0, h => exact h
      | 1, h => exact h
      | 2, h => exact h
      | _ + 3, h => exact h
    · exact fun j hj => by cases hj
    · refine ⟨⟨⟨⟨trivial, ?_⟩, ?_⟩, ?_⟩, ?_⟩
      · refine flow_step _ 78 rfl rfl (fun d h => by simpa using h) h1 h2 fun ac xs W he hb hS K hK => ?_
        exact wp_load_row 62 (.tmp 10) rfl g1 (he 10) _ _ _ _ ((HR0.out W hb).1) Tryz.underlying62 rfl (by kernel_rfl) (hK _ _ rfl (Below.refl _ _) (fun h => absurd h (by decide)))
      · refine flow_step _ 79 rfl rfl (fun d h => by simpa using h) h1 h2 fun ac xs W he hb hS K hK => ?_
        have e0 : ac.eval (.tmp 78) = _ := (he 78).trans (hS 0 (by kernel_rfl))
        refine op_call 40 _ _ rfl _ (by simp only [List.map, e0]) (by go_simp) (HBT.out W) ?_
        rintro e' W' ⟨rfl, hb'⟩
        exact ⟨_, rfl, hK _ _ (rfl) hb' (fun h => absurd h (by decide))⟩
      · refine flow_step _ 80 rfl rfl (fun d h => by simpa using h) h1 h2 fun ac xs W he hb hS K hK => ?_
        exact wp_load_row 27 (.tmp 11) rfl g2 (he 11) _ _ _ _ ((HR0.out W hb).2) Tryz.underlying27 rfl (by kernel_rfl) (hK _ _ rfl (Below.refl _ _) (fun h => absurd h (by decide)))
      · refine flow_step _ 4 rfl rfl (fun d h => by simpa using h) h1 h2 fun ac xs W he hb hS K hK => ?_
        exact op_move (.tmp 79) (.inr rfl) (hK _ _ ((he 79).trans (hS 1 (by kernel_rfl))) (Below.refl _ _) (fun h => absurd h (by decide)))
    · intro xs WL hb hS hD
      have s0 : xs 0 = _ := hS 0 (by decide)
      have s1 : xs 1 = _ := hS 1 (by decide)
      have s2 : xs 2 = _ := hS 2 (by decide)
      have s3 : xs 3 = _ := hS 3 (by decide)
      have HBL : Hid (Below wc.heap.size wc WL) := HB8.out.thru hb
      have r2 := HBL.out.blk HFC.out.2 (blk_lt HFC.out.2)
      obtain ⟨f0, c0, f1, c1, f2, c2, r3⟩ := rw3 r2
      have HR3 : Hid _ := r3
      have HBW : Hid (Below w.heap.size w WL) := HFC.out.1.thru HBL.out
      simp only [layAll, s0, s1, s2, s3, List.setIfInBounds_toArray, List.set_cons_succ, List.set_cons_zero]
      clear hS hD hb r2 r3 s0 s1 s2 s3 h1 h2
      go_wp2
      exact ref_end (p := 4) (u := 5) (q := 6) rfl rfl rfl rfl (HR3.out _ _ _) (below_row3 HBW.out (by omega) _ _ _) (by rw [HRB.out]; exact ⟨rfl, rfl, rfl, rfl, rfl⟩)
end Go.Proofs.YtapahfoebpiajaaGreatDoor
