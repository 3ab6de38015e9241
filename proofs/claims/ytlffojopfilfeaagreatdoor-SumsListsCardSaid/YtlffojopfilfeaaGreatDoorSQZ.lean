import Derived.Test.YtlffojopfilfeaaGreatDoorSOR
set_option maxRecDepth 100000
namespace Go.Proofs.YtlffojopfilfeaaGreatDoor
open Go Go.RowKit
theorem is8_v (x : Nat) (b : Nat) (w : World) : Calls Tryz.prog 23 #[.float .f64 x, .int .u64 (b : Nat)] w fun e w' => e = .returned (.bool (decide (x = b))) ∧ w = w' := by
 have h : ((x : Int) == (b : Int)) = decide (x = b) := by
  rw [Bool.eq_iff_iff, beq_iff_eq, decide_eq_true_eq]; omega
 go_enter Tryz.func23, Tryz.ntmps23
 go_wp2
 go_ret
 exact ⟨rfl, rfl⟩
theorem told8_v (x b : Nat) (e f : Int) (w : World) (hx : x = b) (he : e = f) : Calls Tryz.prog 12 #[.float .f64 x, .int .i64 e, .int .u64 (b : Nat), .int .i64 f] w fun en w' => en = .returned (.bool true) ∧ w = w' := by
 subst hx he
 have HI : Hid (∀ W, Calls Tryz.prog 23 #[.float .f64 x, .int .u64 (x : Nat)] W fun e w' => e = .returned (.bool true) ∧ W = w') := fun W => by
  have := is8_v x x W
  rwa [decide_eq_true rfl] at this
 go_enter Tryz.func12, Tryz.ntmps12
 go_wp2_with (go_at_call 23; (with_reducible refine (HI.out _).mono ?_); rintro e w' ⟨rfl, rfl⟩)
 go_ret
 exact ⟨by simp, rfl⟩
theorem cells_lit {w : World} {g : Nat} {l : List Nat} {t : TypeId} {n : Nat} (h : w.heap[g]? = some (.cells (l.map (Value.float .f64)).toArray t (0, 0))) (hn : n = l.length) : FCells w (some ⟨g, 0, none⟩) n l := fun _ => ⟨g, 0, rfl, blk_lt h, fun k hk => by
 rw [cell_of_row _ _ _ _ _ _ h]
 subst hn
 simp [List.getD, hk]⟩
set_option maxHeartbeats 4000000 in
theorem awake8_v (w : World) (htab : Tab w) (htw : TabW w) : Calls Tryz.prog 8 #[] w fun e w' => e = .returned (.bool true) ∧ Below w.heap.size w w' := by
 have v1 : lsB [6103021453049119613, 4607182418800017408, 15326393489903895421] = 4607182418800017408 := by kernel_rfl
 have v2 : lsX [6103021453049119613, 4607182418800017408, 15326393489903895421] = 0 := by kernel_rfl
 have v3 : mnB [4607182418800017408, 4611686018427387904] = 4609434218613702656 := by kernel_rfl
 have v4 : mnX [4607182418800017408, 4611686018427387904] = 0 := by kernel_rfl
 have v5 : vrB [4607182418800017408, 4611686018427387904, 4613937818241073152, 4616189618054758400] false = 4608308318706860032 := by kernel_rfl
 have v6 : vrX [4607182418800017408, 4611686018427387904, 4613937818241073152, 4616189618054758400] false = 0 := by kernel_rfl
 have v7 : ansB (cntT (tmL [4607182418800017408, 4611686018427387904])) (sumT (tmL [4607182418800017408, 4611686018427387904])) 1 = 4613937818241073152 := by kernel_rfl
 have v8 : ansX (cntT (tmL [4607182418800017408, 4611686018427387904])) (sumT (tmL [4607182418800017408, 4611686018427387904])) 1 = 0 := by kernel_rfl
 have HT : Hid (∀ W, Below w.heap.size w W → Tab W ∧ TabW W) := fun W hW => ⟨htab.below hW, htw.below hW⟩
 have wl : ∀ l : List Nat, l.all (· < 18446744073709551616) = true → ∀ x ∈ l, W64 x := fun l h x hx => by
  have := List.all_eq_true.1 h x hx
  unfold W64
  simpa using this
 have H1 : Hid (∀ W g, Below w.heap.size w W → W.heap[g]? = some (.cells #[.float .f64 6103021453049119613, .float .f64 4607182418800017408, .float .f64 15326393489903895421] 26 (0, 0)) → Calls Tryz.prog 10 #[.slice (some ⟨g, 0, none⟩) 3 3] W fun e w' => e = .returned (.tuple #[.float .f64 4607182418800017408, .int .i64 0]) ∧ Below W.heap.size W w') := fun W g hW hg => by
  have := sum8_v (a := some ⟨g, 0, none⟩) (n := 3) (c := 3) (l := [6103021453049119613, 4607182418800017408, 15326393489903895421]) W rfl (by decide) (wl _ (by decide)) (cells_lit hg rfl) (HT.out W hW).1 (HT.out W hW).2
  rw [v1, v2] at this
  exact this
 have H2 : Hid (∀ W g, Below w.heap.size w W → W.heap[g]? = some (.cells #[.float .f64 4607182418800017408, .float .f64 4611686018427387904] 26 (0, 0)) → Calls Tryz.prog 16 #[.slice (some ⟨g, 0, none⟩) 2 2] W fun e w' => e = .returned (.tuple #[.float .f64 4609434218613702656, .int .i64 0]) ∧ Below W.heap.size W w') := fun W g hW hg => by
  have := mean8_v (a := some ⟨g, 0, none⟩) (n := 2) (c := 2) (l := [4607182418800017408, 4611686018427387904]) W rfl (by decide) (wl _ (by decide)) (cells_lit hg rfl) (HT.out W hW).1 (HT.out W hW).2
  rw [v3, v4] at this
  exact this
 have H3 : Hid (∀ W g, Below w.heap.size w W → W.heap[g]? = some (.cells #[.float .f64 4607182418800017408, .float .f64 4611686018427387904, .float .f64 4613937818241073152, .float .f64 4616189618054758400] 26 (0, 0)) → Calls Tryz.prog 18 #[.slice (some ⟨g, 0, none⟩) 4 4, .bool false] W fun e w' => e = .returned (.tuple #[.float .f64 4608308318706860032, .int .i64 0]) ∧ Below W.heap.size W w') := fun W g hW hg => by
  have := variance8_v (a := some ⟨g, 0, none⟩) (n := 4) (c := 4) (l := [4607182418800017408, 4611686018427387904, 4613937818241073152, 4616189618054758400]) false W rfl (by decide) (wl _ (by decide)) (cells_lit hg rfl) (HT.out W hW).1 (HT.out W hW).2
  rw [v5, v6] at this
  exact this
 have HN : Hid (∀ W, Calls Tryz.prog 24 #[] W fun e w' => ∃ g, e = .returned (.pointer (some ⟨g, 0, none⟩)) ∧ W.heap.size ≤ g ∧ AccT w' g [] ∧ Below W.heap.size W w') := fun W => new8_v W
 have HAD : Hid (∀ W g h, AccT W g [] → h ≠ g → W.heap[h]? = some (.cells #[.float .f64 4607182418800017408, .float .f64 4611686018427387904] 26 (0, 0)) → Calls Tryz.prog 25 #[.pointer (some ⟨g, 0, none⟩), .slice (some ⟨h, 0, none⟩) 2 2] W fun e w' => e = .returned (.tuple #[]) ∧ AccT w' g (tmL [4607182418800017408, 4611686018427387904]) ∧ But g W w') := fun W g h hA hne hg => by
  have := add8_v (g := g) (T := []) (a := some ⟨h, 0, none⟩) (n := 2) (cap := 2) (l := [4607182418800017408, 4611686018427387904]) W hA (by rw [List.nil_append]; exact fit_L (by decide)) rfl (wl _ (by decide)) (fun h0 => by
   obtain ⟨b, o, h1, h2, h3⟩ := cells_lit hg (l := [4607182418800017408, 4611686018427387904]) rfl h0
   cases h1
   exact ⟨h, 0, rfl, h2, hne, h3⟩)
  rw [List.nil_append] at this
  exact this
 have HTO : Hid (∀ W g, Below w.heap.size w W → AccT W g (tmL [4607182418800017408, 4611686018427387904]) → Calls Tryz.prog 26 #[.pointer (some ⟨g, 0, none⟩)] W fun e w' => e = .returned (.tuple #[.float .f64 4613937818241073152, .int .i64 0]) ∧ Below W.heap.size W w') := fun W g hW hA => by
  have := total8_v W hA (fit_L (by decide)) (HT.out W hW).1 (HT.out W hW).2
  unfold AnsQ at this
  rw [v7, v8] at this
  exact this
 have q1 : (FloatKind.f64.format.order 4607182418800017408 4607182418800017408 == some Ordering.eq) = true := by decide
 have q2 : (FloatKind.f64.format.order 4609434218613702656 4609434218613702656 == some Ordering.eq) = true := by decide
 have q3 : (FloatKind.f64.format.order 4608308318706860032 4608308318706860032 == some Ordering.eq) = true := by decide
 have q4 : (FloatKind.f64.format.order 4613937818241073152 4613937818241073152 == some Ordering.eq) = true := by decide
 clear v1 v2 v3 v4 v5 v6 v7 v8 wl htab htw HT
 go_enter Tryz.func8, Tryz.ntmps8
 go_wp2_with fail
 (with_reducible refine (H1.out _ _ ((Below.refl _ _).alloc (Nat.le_refl _) _) (heap_alloc_new _ _)).mono ?_)
 rintro e w1 ⟨rfl, hb⟩
 have HB1 : Hid (Below w.heap.size w w1) := Below.trans ((Below.refl _ _).alloc (Nat.le_refl _) _) (hb.mono (by simp))
 clear hb
 go_wp2_with fail
 (with_reducible refine (H2.out _ _ (HB1.out.alloc HB1.out.size _) (heap_alloc_new _ _)).mono ?_)
 rintro e w2 ⟨rfl, hb⟩
 have HB2 : Hid (Below w.heap.size w w2) := Below.trans (HB1.out.alloc HB1.out.size _) (hb.mono (by have := HB1.out.size; simp; omega))
 clear hb
 go_wp2_with fail
 (with_reducible refine (H3.out _ _ (HB2.out.alloc HB2.out.size _) (heap_alloc_new _ _)).mono ?_)
 rintro e w3 ⟨rfl, hb⟩
 have HB3 : Hid (Below w.heap.size w w3) := Below.trans (HB2.out.alloc HB2.out.size _) (hb.mono (by have := HB2.out.size; simp; omega))
 clear hb
 go_wp2_with fail
 (with_reducible refine (HN.out _).mono ?_)
 rintro e w4 ⟨g, rfl, hg, ha, hb⟩
 have HG : Hid (w.heap.size ≤ g) := Nat.le_trans HB3.out.size hg
 have HA : Hid (AccT w4 g []) := ha
 have HB4 : Hid (Below w.heap.size w w4) := HB3.out.thru hb
 clear hg ha hb
 go_wp2_with fail
 (with_reducible refine (HAD.out _ _ _ (HA.out.below ((Below.refl _ _).alloc (Nat.le_refl _) _)) (Nat.ne_of_gt HA.out.lt) (heap_alloc_new _ _)).mono ?_)
 rintro e w5 ⟨rfl, ha, hb⟩
 have HA5 : Hid (AccT w5 g (tmL [4607182418800017408, 4611686018427387904])) := ha
 have HB5 : Hid (Below w.heap.size w w5) := But.over (HB4.out.alloc HB4.out.size _) hb HG.out (by have := HB4.out.size; simp; omega)
 clear ha hb
 go_wp2_with fail
 (with_reducible refine (HTO.out _ _ HB5.out HA5.out).mono ?_)
 rintro e w6 ⟨rfl, hb⟩
 have HB6 : Hid (Below w.heap.size w w6) := HB5.out.thru hb
 clear hb
 go_wp2
 go_ret
 exact ⟨rfl, HB6.out⟩
end Go.Proofs.YtlffojopfilfeaaGreatDoor
