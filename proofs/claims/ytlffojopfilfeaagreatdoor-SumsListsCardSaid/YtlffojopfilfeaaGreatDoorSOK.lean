import Derived.Test.YtlffojopfilfeaaGreatDoorSOC
import Derived.Test.YtlffojopfilfeaaGreatDoorSOA
import Derived.Test.YtlffojopfilfeaaGreatDoorSQD
import Derived.Test.YtlffojopfilfeaaGreatDoorSQI
import Derived.Test.YtlffojopfilfeaaGreatDoorSRR
set_option maxRecDepth 100000
namespace Go.Proofs.YtlffojopfilfeaaGreatDoor
open Go Go.RowKit
theorem run_mul_nan {a b : Nat} (h : Go.floatBits .mul .f64 a b = none) (t : TypeId) (w : World) : ∃ v, (binOp .mul t (.float .f64 a) (.float .f64 b)).run Tryz.prog w = .ok (.float .f64 v) w.drew ∧ nanB v = true ∧ W64 v := by
 refine ⟨(Question.nanBits .f64 a b).cut (w.tape w.drawn (.nanBits .f64 a b)), ?_, ?_⟩
 ·unfold Go.floatBits at h
  simp only at h
  simp [binOp, Op.floatArith, h, Question.forced]
 ·unfold nanB absB W64
  simp only [Question.cut]
  generalize w.tape w.drawn (.nanBits .f64 a b) = t
  refine ⟨decide_eq_true ?_, ?_⟩ <;> rcases Nat.mod_two_eq_zero_or_one t with h | h <;> rw [h] <;> omega
theorem prod_sp {x y : Nat} (hx : finB x = true) (hy : finB y = true) : valB x * valB y = sg (spS x != spS y) (spM x * spM y * 2 ^ (spE x + spE y + LU).toNat) := by
 have h1 := (spE_range x).1
 have h2 := (spE_range y).1
 rw [valB_sp x hx, valB_sp y hy, sg_mul_sg, xorb]
 congr 1
 have e : 2 ^ (spE x + spE y + LU).toNat = 2 ^ (spE x + LP).toNat * 2 ^ (spE y + LP).toNat := by
  rw [← Nat.pow_add]
  congr 1
  rw [LU_two]
  have := LP_eq
  omega
 rw [e]
 ac_rfl
theorem pbad_cases (x y : Nat) : (finB x = false ∨ finB y = false ∨ zeroB x = true ∨ zeroB y = true) ↔ (spX x ≠ 0 ∨ spX y ≠ 0 ∨ spM x = 0 ∨ spM y = 0) := by
 have hX : ∀ b, spX b ≠ 0 ↔ finB b = false := fun b => by
  have := finB_eq b
  unfold spX
  cases hn : nanB b <;> cases hi : infB b <;> rw [hn, hi] at this <;> simp at this ⊢ <;> exact this
 rw [hX, hX]
 by_cases h1 : finB x = false
 ·simp [h1]
 ·by_cases h2 : finB y = false
  ·simp [h2]
  ·have h1 : finB x = true := by simpa using h1
   have h2 : finB y = true := by simpa using h2
   rw [spM_nought x h1, spM_nought y h2]
theorem AccT.lt {w : World} {g : Nat} {T : List Term1} (h : AccT w g T) : g < w.heap.size := AccRow.lt h
theorem AccT.but {w w' : World} {g g' : Nat} {T : List Term1} (h : AccT w g T) (hne : g ≠ g') (hc : Clear w g') (hb : But g' w w') : AccT w' g T := AccRow.but h hne hc hb
set_option maxHeartbeats 8000000 in
theorem prod8_v {g : Nat} {T : List Term1} {x y : Nat} (w : World) (hr : AccT w g T) (hT : Fit (T ++ [tmP x y])) (hx : W64 x) (hy : W64 y) :
  Calls Tryz.prog 31 #[.pointer (some ⟨g, 0, none⟩), .float .f64 x, .float .f64 y] w fun e w' => e = .returned (.tuple #[]) ∧ AccT w' g (T ++ [tmP x y]) ∧ But g w w' := by
 have HP1 : Hid (∀ W, Calls Tryz.prog 58 #[.float .f64 x] W fun e w' => e = .returned (.tuple #[.bool (spS x), .int .u64 (spM x), .int .i64 (spE x), .int .i64 (spX x)]) ∧ W = w') := fun W => split_any x W hx
 have HP2 : Hid (∀ W, Calls Tryz.prog 58 #[.float .f64 y] W fun e w' => e = .returned (.tuple #[.bool (spS y), .int .u64 (spM y), .int .i64 (spE y), .int .i64 (spX y)]) ∧ W = w') := fun W => split_any y W hy
 have HA : Hid (AccT w g T) := hr
 by_cases hbad : spX x ≠ 0 ∨ spX y ≠ 0 ∨ spM x = 0 ∨ spM y = 0
 ·have HADD : Hid (∀ W z b, AccT W g T → W64 z → tmS z = tmP x y → b < W.heap.size → b ≠ g → W.cell? ⟨b, 0, none⟩ = some (.float .f64 z) → Calls Tryz.prog 25 #[.pointer (some ⟨g, 0, none⟩), .slice (some ⟨b, 0, none⟩) 1 1] W fun e w' => e = .returned (.tuple #[]) ∧ AccT w' g (T ++ [tmP x y]) ∧ But g W w') := fun W z b hA hz ht hb hbg hc => by
   have e : tmL [z] = [tmP x y] := by unfold tmL; rw [List.map_cons, List.map_nil, ht]
   have hcc : ∀ k, k < 1 → W.cell? ⟨b, 0 + k, none⟩ = some (.float .f64 ([z].getD k 0)) := by
    intro k hk
    obtain rfl : k = 0 := by omega
    exact hc
   have := add8_v (g := g) (T := T) (a := some ⟨b, 0, none⟩) (n := 1) (cap := 1) (l := [z]) W hA (by rw [e]; exact hT) rfl (by simpa using hz) (fun _ => ⟨b, 0, rfl, hb, hbg, hcc⟩)
   rw [e] at this
   exact this
  have hmul := mul_term hx hy ((pbad_cases x y).2 hbad)
  obtain ⟨z, w1, k, hz, ht, hb1⟩ : ∃ z w1, (binOp .mul 26 (.float .f64 x) (.float .f64 y)).run Tryz.prog w = .ok (.float .f64 z) w1 ∧ W64 z ∧ tmS z = tmP x y ∧ Below w.heap.size w w1 := by
   rcases hmul with ⟨h1, h2⟩ | ⟨z, h1, h2, h3⟩
   ·obtain ⟨v, k1, k2, k3⟩ := run_mul_nan h1 26 w
    exact ⟨v, _, k1, k3, by rw [tm_nan k2, h2], (Below.refl _ _).drew⟩
   ·exact ⟨z, w, run_float_arith (P := Tryz.prog) w .mul 26 .f64 x y _ h1, h2, h3, Below.refl _ _⟩
  have HZ : Hid (W64 z ∧ tmS z = tmP x y) := ⟨hz, ht⟩
  have HB1 : Hid (Below w.heap.size w w1) := hb1
  obtain ⟨X1, hX1⟩ : ∃ X, X = spX x := ⟨_, rfl⟩
  obtain ⟨X2, hX2⟩ : ∃ X, X = spX y := ⟨_, rfl⟩
  obtain ⟨M1, hM1⟩ : ∃ X, X = spM x := ⟨_, rfl⟩
  obtain ⟨M2, hM2⟩ : ∃ X, X = spM y := ⟨_, rfl⟩
  rw [← hX1, ← hM1] at HP1
  rw [← hX2, ← hM2] at HP2
  rw [← hX1, ← hX2, ← hM1, ← hM2] at hbad
  clear hmul hX1 hX2 hM1 hM2 hz ht hb1 hT hr
  by_cases c1 : X1 = 0
  ·by_cases c2 : X2 = 0
   ·by_cases c3 : M1 = 0
    ·subst c1 c2 c3
     clear hbad
     go_enter Tryz.func31, Tryz.ntmps31
     go_wp2_with (go_at_call 58; (first | (with_reducible refine (HP1.out _).mono ?_) | (with_reducible refine (HP2.out _).mono ?_)); rintro e w' ⟨rfl, rfl⟩)
     have hsz := HB1.out.size
     (with_reducible refine (HADD.out _ z w1.heap.size ((HA.out.below HB1.out).below ((Below.refl _ _).alloc (Nat.le_refl _) _)) HZ.out.1 HZ.out.2 (by simp) (Nat.ne_of_gt (HA.out.below HB1.out).lt) (cell_of_row _ _ 0 _ _ _ (heap_alloc_new _ _))).mono ?_)
     rintro e w3 ⟨rfl, ha, hb⟩
     have HA3 : Hid (AccT w3 g (T ++ [tmP x y])) := ha
     have HB3 : Hid (But g w w3) := (But.of g HB1.out).trans ((But.of g ((Below.refl _ _).alloc (Nat.le_refl _) _)).trans hb)
     clear ha hb
     go_wp2
     first | exact bodyPost_ret (results_void rfl _ _ _) rfl ⟨rfl, HA3.out, HB3.out⟩ | exact bodyPost_end (results_void rfl _ _ _) rfl ⟨rfl, HA3.out, HB3.out⟩
    ·have c4 : M2 = 0 := by omega
     subst c1 c2 c4
     have d3 : ((M1 : Int) == 0) = false := by simp; omega
     clear hbad
     go_enter Tryz.func31, Tryz.ntmps31
     go_wp2_with (go_at_call 58; (first | (with_reducible refine (HP1.out _).mono ?_) | (with_reducible refine (HP2.out _).mono ?_)); rintro e w' ⟨rfl, rfl⟩)
     have hsz := HB1.out.size
     (with_reducible refine (HADD.out _ z w1.heap.size ((HA.out.below HB1.out).below ((Below.refl _ _).alloc (Nat.le_refl _) _)) HZ.out.1 HZ.out.2 (by simp) (Nat.ne_of_gt (HA.out.below HB1.out).lt) (cell_of_row _ _ 0 _ _ _ (heap_alloc_new _ _))).mono ?_)
     rintro e w3 ⟨rfl, ha, hb⟩
     have HA3 : Hid (AccT w3 g (T ++ [tmP x y])) := ha
     have HB3 : Hid (But g w w3) := (But.of g HB1.out).trans ((But.of g ((Below.refl _ _).alloc (Nat.le_refl _) _)).trans hb)
     clear ha hb
     go_wp2
     first | exact bodyPost_ret (results_void rfl _ _ _) rfl ⟨rfl, HA3.out, HB3.out⟩ | exact bodyPost_end (results_void rfl _ _ _) rfl ⟨rfl, HA3.out, HB3.out⟩
   ·subst c1
    have d2 : (X2 == 0) = false := by simpa using c2
    clear hbad
    go_enter Tryz.func31, Tryz.ntmps31
    go_wp2_with (go_at_call 58; (first | (with_reducible refine (HP1.out _).mono ?_) | (with_reducible refine (HP2.out _).mono ?_)); rintro e w' ⟨rfl, rfl⟩)
    have hsz := HB1.out.size
    (with_reducible refine (HADD.out _ z w1.heap.size ((HA.out.below HB1.out).below ((Below.refl _ _).alloc (Nat.le_refl _) _)) HZ.out.1 HZ.out.2 (by simp) (Nat.ne_of_gt (HA.out.below HB1.out).lt) (cell_of_row _ _ 0 _ _ _ (heap_alloc_new _ _))).mono ?_)
    rintro e w3 ⟨rfl, ha, hb⟩
    have HA3 : Hid (AccT w3 g (T ++ [tmP x y])) := ha
    have HB3 : Hid (But g w w3) := (But.of g HB1.out).trans ((But.of g ((Below.refl _ _).alloc (Nat.le_refl _) _)).trans hb)
    clear ha hb
    go_wp2
    first | exact bodyPost_ret (results_void rfl _ _ _) rfl ⟨rfl, HA3.out, HB3.out⟩ | exact bodyPost_end (results_void rfl _ _ _) rfl ⟨rfl, HA3.out, HB3.out⟩
  ·have d1 : (X1 == 0) = false := by simpa using c1
   clear hbad
   go_enter Tryz.func31, Tryz.ntmps31
   go_wp2_with (go_at_call 58; (first | (with_reducible refine (HP1.out _).mono ?_) | (with_reducible refine (HP2.out _).mono ?_)); rintro e w' ⟨rfl, rfl⟩)
   have hsz := HB1.out.size
   (with_reducible refine (HADD.out _ z w1.heap.size ((HA.out.below HB1.out).below ((Below.refl _ _).alloc (Nat.le_refl _) _)) HZ.out.1 HZ.out.2 (by simp) (Nat.ne_of_gt (HA.out.below HB1.out).lt) (cell_of_row _ _ 0 _ _ _ (heap_alloc_new _ _))).mono ?_)
   rintro e w3 ⟨rfl, ha, hb⟩
   have HA3 : Hid (AccT w3 g (T ++ [tmP x y])) := ha
   have HB3 : Hid (But g w w3) := (But.of g HB1.out).trans ((But.of g ((Below.refl _ _).alloc (Nat.le_refl _) _)).trans hb)
   clear ha hb
   go_wp2
   first | exact bodyPost_ret (results_void rfl _ _ _) rfl ⟨rfl, HA3.out, HB3.out⟩ | exact bodyPost_end (results_void rfl _ _ _) rfl ⟨rfl, HA3.out, HB3.out⟩
 ·have hgood : ¬ (finB x = false ∨ finB y = false ∨ zeroB x = true ∨ zeroB y = true) := fun h => hbad ((pbad_cases x y).1 h)
  have htm := mul_term_fin hgood
  have fx : finB x = true := by cases h1 : finB x; exact absurd (.inl h1) hgood; rfl
  have fy : finB y = true := by cases h1 : finB y; exact absurd (.inr (.inl h1)) hgood; rfl
  have hv := prod_sp fx fy
  have hX1 : spX x = 0 := Decidable.byContradiction fun h => hbad (.inl h)
  have hX2 : spX y = 0 := Decidable.byContradiction fun h => hbad (.inr (.inl h))
  rw [hX1] at HP1
  rw [hX2] at HP2
  have r1 := spM_bd x
  have r2 := spM_bd y
  obtain ⟨k1, k2⟩ := spE_range x
  obtain ⟨k3, k4⟩ := spE_range y
  have hLU := LU_eq
  have HW1 : Hid (∀ W, Calls Tryz.prog 59 #[.int .u64 (spM x)] W (WideR ((spM x : Nat) : Int) W)) := fun W => word_v _ W (by omega)
  have HW2 : Hid (∀ W, Calls Tryz.prog 59 #[.int .u64 (spM y)] W (WideR ((spM y : Nat) : Int) W)) := fun W => word_v _ W (by omega)
  have HML : Hid (∀ W u v, WideI W u ((spM x : Nat) : Int) → WideI W v ((spM y : Nat) : Int) → Calls Tryz.prog 42 #[u, v] W (WideR ((spM x * spM y : Nat) : Int) W)) := fun W u v hu hv => mul_n u v _ _ W hu hv (bb := 64) (by omega) (by omega) (by decide)
  have HU : Hid (∀ W v, WideI W v ((spM x * spM y : Nat) : Int) → Calls Tryz.prog 60 #[.bool (spS x != spS y), v, .int .i64 (spE x + spE y)] W (WideR (valB x * valB y) W)) := fun W v hW => by
   rw [hv]
   refine value_v _ _ _ _ W hW (by omega) (by omega) (bb := 128) ?_ (by decide)
   calc spM x * spM y < 2 ^ 64 * 2 ^ 64 := Nat.mul_lt_mul'' (by omega) (by omega)
    _ = 2 ^ 128 := by decide
  have he : IntKind.i64.wrap (spE x + spE y) = spE x + spE y := by rw [IntWalk.i64_in _ (by omega)]
  have hm1 : ((spM x : Int) == 0) = false := by simp; intro h; exact hbad (.inr (.inr (.inl (by omega))))
  have hm2 : ((spM y : Int) == 0) = false := by simp; intro h; exact hbad (.inr (.inr (.inr (by omega))))
  have f1 : Fit T := ⟨fun t m => hT.1 t (List.mem_append_left _ m), fun t m => hT.2.1 t (List.mem_append_left _ m), by have := hT.2.2; rw [List.length_append] at this; omega⟩
  obtain ⟨V, hV⟩ : ∃ V, V = valB x * valB y := ⟨_, rfl⟩
  rw [← hV] at HU htm
  have HAD : Hid (∀ W u v, WideI W u (sumT T) → WideI W v V → Calls Tryz.prog 56 #[u, v] W (WideR (sumT T + V) W)) := fun W u v hu hv =>
   iadd_v u v _ _ W hu hv f1.room (lq_le (by have := tmP_bd x y; rw [htm] at this; exact this)) lq_room
  obtain ⟨q, hq⟩ : ∃ q, q = cntT T 4 := ⟨_, rfl⟩
  have HEND : Hid (∀ W, AccRow W g (upd (cntT T) 4 (q + 1)) (sumT T + V) → AccT W g (T ++ [tmP x y])) := fun W hW => by
   refine AccT.put ?_
   rw [htm]
   show AccRow W g (upd (cntT T) 4 (cntT T 4 + 1)) (sumT T + V)
   rw [← hq]; exact hW
  have hcell := AccRow.cell hr (show 4 < 5 by decide)
  rw [← hq] at hcell
  have hqb : q < 4611686018427387904 := by rw [hq]; exact Nat.lt_of_le_of_lt (cntT_le T 4) f1.2.2
  have hw2 := int_inc hqb
  have HC : Hid (∀ W, Below w.heap.size w W → W.cell? ⟨g, 4, none⟩ = some (.int .i64 (q : Nat))) := fun W hW => (hW.cell (p := ⟨g, 4, none⟩) (AccRow.lt HA.out)).trans hcell
  obtain ⟨M1, hM1⟩ : ∃ X, X = spM x := ⟨_, rfl⟩
  obtain ⟨M2, hM2⟩ : ∃ X, X = spM y := ⟨_, rfl⟩
  obtain ⟨E1, hE1⟩ : ∃ X, X = spE x := ⟨_, rfl⟩
  obtain ⟨E2, hE2⟩ : ∃ X, X = spE y := ⟨_, rfl⟩
  obtain ⟨S1, hS1⟩ : ∃ X, X = spS x := ⟨_, rfl⟩
  obtain ⟨S2, hS2⟩ : ∃ X, X = spS y := ⟨_, rfl⟩
  rw [← hM1, ← hE1, ← hS1] at HP1
  rw [← hM2, ← hE2, ← hS2] at HP2
  rw [← hM1] at HW1 hm1
  rw [← hM2] at HW2 hm2
  rw [← hM1, ← hM2] at HML HU
  rw [← hE1, ← hE2] at he HU
  rw [← hS1, ← hS2] at HU
  clear hV hq hcell hqb hM1 hM2 hE1 hE2 hS1 hS2 hv htm fx fy hgood hbad hX1 hX2 r1 r2 k1 k2 k3 k4 hLU hr hT f1 hx hy
  go_enter Tryz.func31, Tryz.ntmps31
  go_wp2_with (go_at_call 58; (first | (with_reducible refine (HP1.out _).mono ?_) | (with_reducible refine (HP2.out _).mono ?_)); rintro e w' ⟨rfl, rfl⟩)
  try go_upto_region 5 with fail
  have h1 : once [(51, 0), (52, 1), (53, 2), (54, 3), (55, 4), (56, 5), (57, 6), (58, 7), (59, 8)] = true := by kernel_rfl
  have h2 : within [(51, 0), (52, 1), (53, 2), (54, 3), (55, 4), (56, 5), (57, 6), (58, 7), (59, 8)] 81 = true := by kernel_rfl
  let S : Nat → (Nat → Value) → World → Prop := fun i xs W => match i with
   | 0 => xs 0 = .pointer (some ⟨g, 0, none⟩)
   | 1 => xs 1 = .pointer (some ⟨g, 0, none⟩)
   | 2 => xs 2 = .pointer (some ⟨g, 0, none⟩)
   | 3 => xs 3 = .pointer (some ⟨g, 4, none⟩)
   | 4 => xs 4 = .int .i64 (q : Nat)
   | 5 => xs 5 = .int .i64 ((q : Int) + 1)
   | 6 => xs 6 = .pointer (some ⟨g, 0, none⟩)
   | 7 => xs 7 = .pointer (some ⟨g, 0, none⟩)
   | 8 => xs 8 = .pointer (some ⟨g, 4, none⟩)
   | _ => True
  have hstab : ∀ j ys W W', S j ys W → Below W.heap.size W W' → S j ys W' := by
   intro j ys W W' h hb
   match j, h with
   | 0, h => exact h
   | 1, h => exact h
   | 2, h => exact h
   | 3, h => exact h
   | 4, h => exact h
   | 5, h => exact h
   | 6, h => exact h
   | 7, h => exact h
   | 8, h => exact h
   | _ + 9, h => exact trivial
  refine wp_region_flow3T 9 10 4 [(51, 0), (52, 1), (53, 2), (54, 3), (55, 4), (56, 5), (57, 6), (58, 7), (59, 8)] [] S (fun _ W => Below w.heap.size w W) ((Below.refl _ _).drew) (by kernel_rfl) (by kernel_rfl) (by kernel_rfl) (by decide) (by kernel_rfl) h1 (by kernel_rfl) ?_ ?_ ?_ ?_
  ·exact fun j hj => by cases hj
  ·intro j xs ys W e h
   match j, e, h with
   | 0, e, h => exact c_ (e 0 (.inl rfl)) h
   | 1, e, h => exact c_ (e 1 (.inl rfl)) h
   | 2, e, h => exact c_ (e 2 (.inl rfl)) h
   | 3, e, h => exact c_ (e 3 (.inl rfl)) h
   | 4, e, h => exact c_ (e 4 (.inl rfl)) h
   | 5, e, h => exact c_ (e 5 (.inl rfl)) h
   | 6, e, h => exact c_ (e 6 (.inl rfl)) h
   | 7, e, h => exact c_ (e 7 (.inl rfl)) h
   | 8, e, h => exact c_ (e 8 (.inl rfl)) h
   | _ + 9, e, h => exact trivial
  ·refine ⟨⟨⟨⟨⟨⟨⟨⟨⟨trivial, ?_⟩, ?_⟩, ?_⟩, ?_⟩, ?_⟩, ?_⟩, ?_⟩, ?_⟩, ?_⟩
   ·refine flow3_step _ (some 51) rfl rfl rfl h1 h2 gI gB hstab fun ac xs W Dn he hni hG hS K hK => ?_
    exact op_move (.tmp 0) (.inl rfl) (hK _ _ (he 0) bR nA)
   ·refine flow3_step _ (some 52) rfl rfl rfl h1 h2 gI gB hstab fun ac xs W Dn he hni hG hS K hK => ?_
    have e0 := (he 51).trans (hS 0 (by kernel_rfl))
    refine op_any (.nilCheck (.tmp 51)) rfl (.pointer (some ⟨g, 0, none⟩)) (fun o' ho' => ?_) (hK _ _ rfl bR nA)
    simp only [execOp, ho', e0]
    go_simp
   ·refine flow3_step _ (some 53) rfl rfl rfl h1 h2 gI gB hstab fun ac xs W Dn he hni hG hS K hK => ?_
    have e0 := (he 52).trans (hS 1 (by kernel_rfl))
    refine op_any (.fieldAddr 75 (.tmp 52) 0) rfl (.pointer (some ⟨g, 0, none⟩)) (fun o' ho' => ?_) (hK _ _ rfl bR nA)
    simp only [execOp, ho', e0]
    go_simp
   ·refine flow3_step _ (some 54) rfl rfl rfl h1 h2 gI gB hstab fun ac xs W Dn he hni hG hS K hK => ?_
    have e0 := (he 53).trans (hS 2 (by kernel_rfl))
    refine op_any (.indexAddr 60 (.tmp 53) (.const (.int .i64 4))) rfl (.pointer (some ⟨g, 4, none⟩)) (fun o' ho' => ?_) (hK _ _ rfl bR nA)
    simp only [execOp, ho', e0]
    go_simp
   ·refine flow3_step _ (some 55) rfl rfl rfl h1 h2 gI gB hstab fun ac xs W Dn he hni hG hS K hK => ?_
    have e0 := (he 54).trans (hS 3 (by kernel_rfl))
    refine op_any (.load 3 (.tmp 54)) rfl (.int .i64 (q : Nat)) (fun o' ho' => ?_) (hK _ _ rfl bR nA)
    simp only [execOp, ho', e0]
    have hc := HC.out W hG
    go_simp
   ·refine flow3_step _ (some 56) rfl rfl rfl h1 h2 gI gB hstab fun ac xs W Dn he hni hG hS K hK => ?_
    have e0 := (he 55).trans (hS 4 (by kernel_rfl))
    refine op_any (.binOp .add 3 (.tmp 55) (.const (.int .i64 1)) 3) rfl (.int .i64 ((q : Int) + 1)) (fun o' ho' => ?_) (hK _ _ rfl bR nA)
    simp only [execOp, ho', e0]
    go_simp
   ·refine flow3_step _ (some 57) rfl rfl rfl h1 h2 gI gB hstab fun ac xs W Dn he hni hG hS K hK => ?_
    have e0 := (he 51).trans (hS 0 (by kernel_rfl))
    refine op_any (.nilCheck (.tmp 51)) rfl (.pointer (some ⟨g, 0, none⟩)) (fun o' ho' => ?_) (hK _ _ rfl bR nA)
    simp only [execOp, ho', e0]
    go_simp
   ·refine flow3_step _ (some 58) rfl rfl rfl h1 h2 gI gB hstab fun ac xs W Dn he hni hG hS K hK => ?_
    have e0 := (he 57).trans (hS 6 (by kernel_rfl))
    refine op_any (.fieldAddr 75 (.tmp 57) 0) rfl (.pointer (some ⟨g, 0, none⟩)) (fun o' ho' => ?_) (hK _ _ rfl bR nA)
    simp only [execOp, ho', e0]
    go_simp
   ·refine flow3_step _ (some 59) rfl rfl rfl h1 h2 gI gB hstab fun ac xs W Dn he hni hG hS K hK => ?_
    have e0 := (he 58).trans (hS 7 (by kernel_rfl))
    refine op_any (.indexAddr 60 (.tmp 58) (.const (.int .i64 4))) rfl (.pointer (some ⟨g, 4, none⟩)) (fun o' ho' => ?_) (hK _ _ rfl bR nA)
    simp only [execOp, ho', e0]
    go_simp
  ·intro xs w3 Dn hall hG hS hD
   have s56 : xs 5 = _ := hS 5 (by decide)
   have s59 : xs 8 = _ := hS 8 (by decide)
   have HGB : Hid (Below w.heap.size w w3) := hG
   simp only [layAll, s56, s59, List.setIfInBounds_toArray, List.set_cons_succ, List.set_cons_zero]
   clear hS hD hall hstab S hG h1 h2
   generalize xs 0 = x0 at *
   generalize xs 1 = x1 at *
   generalize xs 2 = x2 at *
   generalize xs 3 = x3 at *
   generalize xs 4 = x4 at *
   generalize xs 6 = x6 at *
   generalize xs 7 = x7 at *
   refine accL_bump rfl 3 (.tmp 59) (.tmp 56) rfl (by kernel_rfl) g (cntT T) (sumT T) 4 (q + 1) (by decide) rfl rfl (AccRow.below HA.out HGB.out) ?_
   intro w4 e1 e2
   show wpList Tryz.prog _ _ [] _ _
   have HB4 : Hid (But g w w4) := (But.of g HGB.out).trans e2
   have HA4 : Hid (AccRow w4 g (upd (cntT T) 4 (q + 1)) (sumT T)) := e1
   clear e1 e2 s56 s59 hw2
   go_wp2_with fail
   (with_reducible refine (HW1.out _).mono ?_)
   rintro e w5 ⟨v1, rfl, hv1, hb⟩
   have HB5 : Hid (But g w w5) := HB4.out.thru hb
   have HA5 : Hid (AccRow w5 g (upd (cntT T) 4 (q + 1)) (sumT T)) := HA4.out.below hb
   have HV1 : Hid (WideI w5 v1 (M1 : Int)) := hv1
   clear hb hv1
   go_wp2_with fail
   (with_reducible refine (HW2.out _).mono ?_)
   rintro e w6 ⟨v2, rfl, hv2, hb⟩
   have HB6 : Hid (But g w w6) := HB5.out.thru hb
   have HA6 : Hid (AccRow w6 g (upd (cntT T) 4 (q + 1)) (sumT T)) := HA5.out.below hb
   have HV2 : Hid (WideI w6 v1 (M1 : Int) ∧ WideI w6 v2 (M2 : Int)) := ⟨HV1.out.below hb, hv2⟩
   clear hb hv2
   go_wp2_with fail
   (with_reducible refine (HML.out _ _ _ HV2.out.1 HV2.out.2).mono ?_)
   rintro e w7 ⟨v3, rfl, hv3, hb⟩
   obtain ⟨pa, pm, pc, rfl, hv4⟩ := hv3.nat
   have HB7 : Hid (But g w w7) := HB6.out.thru hb
   have HA7 : Hid (AccRow w7 g (upd (cntT T) 4 (q + 1)) (sumT T)) := HA6.out.below hb
   have HV3 : Hid (WideI w7 (.agg #[.bool false, .slice pa pm pc]) ((M1 * M2 : Nat) : Int)) := .mk hv4
   clear hb hv3 hv4
   go_upto_region 7 with fail
   obtain ⟨w8, hw8⟩ : ∃ W, W = w7.alloc (.cells #[.bool false, .slice pa pm pc] 73) := ⟨_, rfl⟩
   obtain ⟨g14, hg14⟩ : ∃ k, k = w7.heap.size := ⟨_, rfl⟩
   have hb8 : Below w7.heap.size w7 w8 := by rw [hw8]; exact (Below.refl _ _).alloc (Nat.le_refl _) _
   have q8 : w8.heap[g14]? = some (.cells #[.bool false, .slice pa pm pc] 73 (0, 0)) := by rw [hw8, hg14]; exact heap_alloc_new _ _
   rw [← hw8, ← hg14]
   have HB8 : Hid (But g w w8) := HB7.out.thru hb8
   have e1 := HA7.out.below hb8
   have HV8 : Hid (∀ W, Below w8.heap.size w8 W → WideI W (.agg #[.bool false, .slice pa pm pc]) ((M1 * M2 : Nat) : Int)) := fun W hW => (HV3.out.below hb8).below hW
   obtain ⟨sa, sm, sc, q4, n4⟩ := id e1
   have hg4 : g < w8.heap.size := blk_lt q4
   have hg8 : g14 < w8.heap.size := blk_lt q8
   obtain ⟨nb, hnb⟩ : ∃ z, z = decide (sumT T < 0) := ⟨_, rfl⟩
   have hI4 : WideI w8 (.agg #[.bool nb, .slice sa sm sc]) (sumT T) := by rw [hnb]; exact ⟨sa, sm, sc, rfl, n4⟩
   rw [← hnb] at q4
   have HIW : Hid (∀ W, Below w8.heap.size w8 W → WideI W (.agg #[.bool nb, .slice sa sm sc]) (sumT T)) := fun W hW => hI4.below hW
   have HC4 : Hid (∀ W, Below w8.heap.size w8 W → (W.cell? ⟨g, 5, none⟩ = some (.bool nb) ∧ W.cell? ⟨g, 6, none⟩ = some (.slice sa sm sc)) ∧ W.cell? ⟨g14, 0, none⟩ = some (.bool false) ∧ W.cell? ⟨g14, 1, none⟩ = some (.slice pa pm pc)) := fun W hW =>
    ⟨⟨cell_of_row _ g 5 _ _ _ (hW.blk q4 hg4), cell_of_row _ g 6 _ _ _ (hW.blk q4 hg4)⟩, cell_of_row _ g14 0 _ _ _ (hW.blk q8 hg8), cell_of_row _ g14 1 _ _ _ (hW.blk q8 hg8)⟩
   have HA8 : Hid (AccRow w8 g (upd (cntT T) 4 (q + 1)) (sumT T)) := e1
   clear e1 hw8 hg14 hb8 q8 q4 n4 hg4 hg8 hnb hI4 HV3 HB7 HA7 HV2 HV1
   have h1 : once [(65, 0), (66, 1), (67, 2), (68, 3), (69, 4), (70, 5), (71, 6), (72, 7), (73, 8), (74, 9), (75, 10), (76, 11), (77, 12), (78, 13), (79, 14), (80, 15)] = true := by kernel_rfl
   have h2 : within [(65, 0), (66, 1), (67, 2), (68, 3), (69, 4), (70, 5), (71, 6), (72, 7), (73, 8), (74, 9), (75, 10), (76, 11), (77, 12), (78, 13), (79, 14), (80, 15)] 81 = true := by kernel_rfl
   let S : Nat → (Nat → Value) → World → Prop := fun i xs W => match i with
    | 0 => xs 0 = .pointer (some ⟨g, 0, none⟩)
    | 1 => xs 1 = .pointer (some ⟨g, 0, none⟩)
    | 2 => xs 2 = .pointer (some ⟨g, 0, none⟩)
    | 3 => xs 3 = .pointer (some ⟨g, 5, none⟩)
    | 4 => xs 4 = .agg #[.bool nb, .slice sa sm sc]
    | 5 => xs 5 = .bool S1
    | 6 => xs 6 = .bool S2
    | 7 => xs 7 = .bool (S1 != S2)
    | 8 => xs 8 = .agg #[.bool false, .slice pa pm pc]
    | 9 => xs 9 = .int .i64 E1
    | 10 => xs 10 = .int .i64 E2
    | 11 => xs 11 = .int .i64 (E1 + E2)
    | 12 => WideI W (xs 12) (V)
    | 13 => WideI W (xs 13) (sumT T + V)
    | 14 => xs 14 = .pointer (some ⟨g, 0, none⟩)
    | 15 => xs 15 = .pointer (some ⟨g, 5, none⟩)
    | _ => True
   have hstab : ∀ j ys W W', S j ys W → Below W.heap.size W W' → S j ys W' := by
    intro j ys W W' h hb
    match j, h with
    | 0, h => exact h
    | 1, h => exact h
    | 2, h => exact h
    | 3, h => exact h
    | 4, h => exact h
    | 5, h => exact h
    | 6, h => exact h
    | 7, h => exact h
    | 8, h => exact h
    | 9, h => exact h
    | 10, h => exact h
    | 11, h => exact h
    | 12, h => exact h.below hb
    | 13, h => exact h.below hb
    | 14, h => exact h
    | 15, h => exact h
    | _ + 16, h => exact trivial
   refine wp_region_flow3T 16 17 4 [(65, 0), (66, 1), (67, 2), (68, 3), (69, 4), (70, 5), (71, 6), (72, 7), (73, 8), (74, 9), (75, 10), (76, 11), (77, 12), (78, 13), (79, 14), (80, 15)] [] S (fun _ W => Below w8.heap.size w8 W) ((Below.refl _ _).drew) (by kernel_rfl) (by kernel_rfl) (by kernel_rfl) (by decide) (by kernel_rfl) h1 (by kernel_rfl) ?_ ?_ ?_ ?_
   ·exact fun j hj => by cases hj
   ·intro j xs ys W e h
    match j, e, h with
    | 0, e, h => exact c_ (e 0 (.inl rfl)) h
    | 1, e, h => exact c_ (e 1 (.inl rfl)) h
    | 2, e, h => exact c_ (e 2 (.inl rfl)) h
    | 3, e, h => exact c_ (e 3 (.inl rfl)) h
    | 4, e, h => exact c_ (e 4 (.inl rfl)) h
    | 5, e, h => exact c_ (e 5 (.inl rfl)) h
    | 6, e, h => exact c_ (e 6 (.inl rfl)) h
    | 7, e, h => exact c_ (e 7 (.inl rfl)) h
    | 8, e, h => exact c_ (e 8 (.inl rfl)) h
    | 9, e, h => exact c_ (e 9 (.inl rfl)) h
    | 10, e, h => exact c_ (e 10 (.inl rfl)) h
    | 11, e, h => exact c_ (e 11 (.inl rfl)) h
    | 12, e, h => exact (congrArg (fun z => WideI W z _) (e 12 (.inl rfl))).mp h
    | 13, e, h => exact (congrArg (fun z => WideI W z _) (e 13 (.inl rfl))).mp h
    | 14, e, h => exact c_ (e 14 (.inl rfl)) h
    | 15, e, h => exact c_ (e 15 (.inl rfl)) h
    | _ + 16, e, h => exact trivial
   ·refine ⟨⟨⟨⟨⟨⟨⟨⟨⟨⟨⟨⟨⟨⟨⟨⟨trivial, ?_⟩, ?_⟩, ?_⟩, ?_⟩, ?_⟩, ?_⟩, ?_⟩, ?_⟩, ?_⟩, ?_⟩, ?_⟩, ?_⟩, ?_⟩, ?_⟩, ?_⟩, ?_⟩
    ·refine flow3_step _ (some 65) rfl rfl rfl h1 h2 gI gB hstab fun ac xs W Dn he hni hG hS K hK => ?_
     exact op_move (.tmp 0) (.inl rfl) (hK _ _ (he 0) bR nA)
    ·refine flow3_step _ (some 66) rfl rfl rfl h1 h2 gI gB hstab fun ac xs W Dn he hni hG hS K hK => ?_
     exact op_move (.tmp 0) (.inl rfl) (hK _ _ (he 0) bR nA)
    ·refine flow3_step _ (some 67) rfl rfl rfl h1 h2 gI gB hstab fun ac xs W Dn he hni hG hS K hK => ?_
     have e0 := (he 66).trans (hS 1 (by kernel_rfl))
     refine op_any (.nilCheck (.tmp 66)) rfl (.pointer (some ⟨g, 0, none⟩)) (fun o' ho' => ?_) (hK _ _ rfl bR nA)
     simp only [execOp, ho', e0]
     go_simp
    ·refine flow3_step _ (some 68) rfl rfl rfl h1 h2 gI gB hstab fun ac xs W Dn he hni hG hS K hK => ?_
     have e0 := (he 67).trans (hS 2 (by kernel_rfl))
     refine op_any (.fieldAddr 75 (.tmp 67) 1) rfl (.pointer (some ⟨g, 5, none⟩)) (fun o' ho' => ?_) (hK _ _ rfl bR nA)
     simp only [execOp, ho', e0]
     go_simp
    ·refine flow3_step _ (some 69) rfl rfl rfl h1 h2 gI gB hstab fun ac xs W Dn he hni hG hS K hK => ?_
     have hc5 := (HC4.out W hG).1.1
     have hc6 := (HC4.out W hG).1.2
     have e0 := (he 68).trans (hS 3 (by kernel_rfl))
     refine op_any (.load 73 (.tmp 68)) rfl (.agg #[.bool nb, .slice sa sm sc]) (fun o' ho' => ?_) (hK _ _ rfl bR nA)
     simp only [execOp, ho', e0]
     go_simp
    ·refine flow3_step _ (some 70) rfl rfl rfl h1 h2 gI gB hstab fun ac xs W Dn he hni hG hS K hK => ?_
     exact op_move (.tmp 6) (.inl rfl) (hK _ _ (he 6) bR nA)
    ·refine flow3_step _ (some 71) rfl rfl rfl h1 h2 gI gB hstab fun ac xs W Dn he hni hG hS K hK => ?_
     exact op_move (.tmp 10) (.inl rfl) (hK _ _ (he 10) bR nA)
    ·refine flow3_step _ (some 72) rfl rfl rfl h1 h2 gI gB hstab fun ac xs W Dn he hni hG hS K hK => ?_
     have e0 := (he 70).trans (hS 5 (by kernel_rfl))
     have e1 := (he 71).trans (hS 6 (by kernel_rfl))
     refine op_any (.binOp .neq 4 (.tmp 70) (.tmp 71) 4) rfl (.bool (S1 != S2)) (fun o' ho' => ?_) (hK _ _ rfl bR nA)
     simp only [execOp, ho', e0, e1]
     go_simp
     cases S1 <;> cases S2 <;> rfl
    ·refine flow3_step _ (some 73) rfl rfl rfl h1 h2 gI gB hstab fun ac xs W Dn he hni hG hS K hK => ?_
     have hc5 := (HC4.out W hG).2.1
     have hc6 := (HC4.out W hG).2.2
     have e0 : ac.eval (.tmp 14) = .pointer (some ⟨g14, 0, none⟩) := he 14
     refine op_any (.load 73 (.tmp 14)) rfl (.agg #[.bool false, .slice pa pm pc]) (fun o' ho' => ?_) (hK _ _ rfl bR nA)
     simp only [execOp, ho', e0]
     go_simp
    ·refine flow3_step _ (some 74) rfl rfl rfl h1 h2 gI gB hstab fun ac xs W Dn he hni hG hS K hK => ?_
     exact op_move (.tmp 8) (.inl rfl) (hK _ _ (he 8) bR nA)
    ·refine flow3_step _ (some 75) rfl rfl rfl h1 h2 gI gB hstab fun ac xs W Dn he hni hG hS K hK => ?_
     exact op_move (.tmp 12) (.inl rfl) (hK _ _ (he 12) bR nA)
    ·refine flow3_step _ (some 76) rfl rfl rfl h1 h2 gI gB hstab fun ac xs W Dn he hni hG hS K hK => ?_
     have e0 := (he 74).trans (hS 9 (by kernel_rfl))
     have e1 := (he 75).trans (hS 10 (by kernel_rfl))
     refine op_any (.binOp .add 3 (.tmp 74) (.tmp 75) 3) rfl (.int .i64 (E1 + E2)) (fun o' ho' => ?_) (hK _ _ rfl bR nA)
     simp only [execOp, ho', e0, e1]
     go_simp
    ·refine flow3_step _ (some 77) rfl rfl rfl h1 h2 gI gB hstab fun ac xs W Dn he hni hG hS K hK => ?_
     have e0 := (he 72).trans (hS 7 (by kernel_rfl))
     have e1 := (he 73).trans (hS 8 (by kernel_rfl))
     have e2 := (he 76).trans (hS 11 (by kernel_rfl))
     refine op_call 60 _ _ rfl _ (by simp only [List.map, e0, e1, e2]) (by go_simp) (HU.out W _ (HV8.out W hG)) ?_
     rintro e' W' ⟨u, rfl, hi', hb'⟩
     exact ⟨_, rfl, hK _ _ hi' hb' nA⟩
    ·refine flow3_step _ (some 78) rfl rfl rfl h1 h2 gI gB hstab fun ac xs W Dn he hni hG hS K hK => ?_
     have e0 := (he 69).trans (hS 4 (by kernel_rfl))
     have e1 : ac.eval (.tmp 77) = xs 12 := he 77
     refine op_call 56 _ _ rfl _ (by simp only [List.map, e0, e1]) (by go_simp) (HAD.out W _ _ (HIW.out W hG) (hS 12 (by kernel_rfl))) ?_
     rintro e' W' ⟨u, rfl, hi', hb'⟩
     exact ⟨_, rfl, hK _ _ hi' hb' nA⟩
    ·refine flow3_step _ (some 79) rfl rfl rfl h1 h2 gI gB hstab fun ac xs W Dn he hni hG hS K hK => ?_
     have e0 := (he 65).trans (hS 0 (by kernel_rfl))
     refine op_any (.nilCheck (.tmp 65)) rfl (.pointer (some ⟨g, 0, none⟩)) (fun o' ho' => ?_) (hK _ _ rfl bR nA)
     simp only [execOp, ho', e0]
     go_simp
    ·refine flow3_step _ (some 80) rfl rfl rfl h1 h2 gI gB hstab fun ac xs W Dn he hni hG hS K hK => ?_
     have e0 := (he 79).trans (hS 14 (by kernel_rfl))
     refine op_any (.fieldAddr 75 (.tmp 79) 1) rfl (.pointer (some ⟨g, 5, none⟩)) (fun o' ho' => ?_) (hK _ _ rfl bR nA)
     simp only [execOp, ho', e0]
     go_simp
   ·intro xs w9 Dn hall hG hS hD
    have HV : Hid (WideI w9 (xs 13) (sumT T + V)) := hS 13 (by decide)
    have s80 : xs 15 = _ := hS 15 (by decide)
    have HG5 : Hid (Below w8.heap.size w8 w9) := hG
    simp only [layAll, s80, List.setIfInBounds_toArray, List.set_cons_succ, List.set_cons_zero]
    clear hS hD hall hstab S hG h1 h2
    generalize xs 0 = x0 at *
    generalize xs 1 = x1 at *
    generalize xs 2 = x2 at *
    generalize xs 3 = x3 at *
    generalize xs 4 = x4 at *
    generalize xs 5 = x5 at *
    generalize xs 6 = x6 at *
    generalize xs 7 = x7 at *
    generalize xs 8 = x8 at *
    generalize xs 9 = x9 at *
    generalize xs 10 = x10 at *
    generalize xs 11 = x11 at *
    generalize xs 12 = x12 at *
    generalize xs 13 = x13 at *
    generalize xs 14 = x14 at *
    refine accL_lay rfl 73 (.tmp 80) (.tmp 78) rfl (by kernel_rfl) g _ _ (sumT T + V) x13 rfl rfl HV.out (AccRow.below HA8.out HG5.out) ?_
    intro w6 e1 e2
    show wpList Tryz.prog _ _ [] _ _
    have HB6 : Hid (But g w w6) := HB8.out.trans ((But.of g HG5.out).trans e2)
    have HA6 : Hid (AccT w6 g (T ++ [tmP x y])) := HEND.out _ e1
    clear e1 e2
    go_wp2
    exact bodyPost_end (results_void rfl _ _ _) rfl ⟨rfl, HA6.out, HB6.out⟩
theorem TabW.below {w w' : World} (h : TabW w) (hb : Below w.heap.size w w') : TabW w' := fun j hj => by
 have h1 := h j hj
 have hlt : 1 < w.heap.size := by
  refine Decidable.byContradiction fun hc => ?_
  have h2 : w.heap[1]? = none := Array.getElem?_eq_none (by omega)
  unfold World.cell? at h1
  simp [h2] at h1
 rw [hb.cell (p := ⟨_, j, none⟩) hlt]
 exact h1
theorem joZ_dvd {x : Nat} (hx : W64 x) (h0 : x ≠ 0) : 2 ^ joZ x ∣ x ∧ joZ x < 64 := by
 obtain ⟨h1, -, h3, -⟩ := join_parts x hx h0
 exact ⟨⟨joO x, by rw [Nat.mul_comm]; exact h1⟩, h3⟩
theorem noughts_dvd {xs : List Nat} {k : Nat} (hk : k < xs.length) (hz : ∀ t, t < k → xs.getD t 0 = 0) (hx : W64 (xs.getD k 0)) (h0 : xs.getD k 0 ≠ 0) : 2 ^ (64 * k + joZ (xs.getD k 0)) ∣ lval 18446744073709551616 xs := by
 obtain ⟨h1, h2⟩ := joZ_dvd hx h0
 have ht : lval 18446744073709551616 (xs.take k) = 0 := by
  refine lval_all_zero _ _ fun y hy => ?_
  obtain ⟨i, hi, rfl⟩ := List.getElem_of_mem hy
  have hi2 : i < k := by rw [List.length_take] at hi; omega
  have := hz i hi2
  rw [List.getElem_take]
  simpa [List.getD, show i < xs.length by omega] using this
 rw [lval_split _ xs k hk, ht, Nat.zero_add, Nat.pow_add, Nat.pow_mul]
 refine Nat.mul_dvd_mul (by rw [show (2 : Nat) ^ 64 = 18446744073709551616 by decide]; exact Nat.dvd_refl _) (Nat.dvd_add h1 (Nat.dvd_trans ?_ (Nat.dvd_mul_right _ _)))
 rw [show (18446744073709551616 : Nat) = 2 ^ 64 by decide]
 exact Nat.pow_dvd_pow 2 (by omega)
set_option maxHeartbeats 2000000 in
theorem noughts_v (neg : Bool) (s : Value) (N : Nat) (w : World) (h : Num .u64 18446744073709551616 w s N) {bb : Nat} (hN : N < 2 ^ bb) (hbb : bb ≤ 1000000) (hT : TabW w) :
  Calls Tryz.prog 95 #[.agg #[.bool neg, s]] w fun e w' => (∃ k : Nat, e = .returned (.int .i64 (k : Nat)) ∧ 2 ^ k ∣ N ∧ k ≤ 2000000) ∧ Below w.heap.size w w' := by
 obtain ⟨xs, hL, hv, hnorm⟩ := h
 have hlen : xs.length ≤ 20000 := by
  by_cases h0 : 0 < xs.length
  ·have := norm_length (s := 64) hnorm (b := bb) (by rw [show (2 ^ 64 : Nat) = 18446744073709551616 from rfl, hv]; exact hN) h0
   omega
  ·omega
 obtain ⟨a, m, c, rfl, hm, hmc, hc, hx, hcell⟩ := hL
 have HX : Hid (∀ x ∈ xs, x < 18446744073709551616) := hx
 have HV : Hid (lval 18446744073709551616 xs = N) := hv
 have HT : Hid (∀ W, Below w.heap.size w W → TabW W) := fun W hW => hT.below hW
 have HB0 : Hid (Below w.heap.size w (w.alloc (.cells #[.bool neg, .slice a m c] 73))) := (Below.refl _ _).alloc (Nat.le_refl _) _
 have HC : Hid (0 < m → ∃ b o, a = some ⟨b, o, none⟩ ∧ b < w.heap.size ∧ ∀ i, i < m → w.cell? ⟨b, o + i, none⟩ = some (.int .u64 (xs.getD i 0 : Nat))) := hcell
 have HL : Hid (xs.length = m) := hm
 rw [hm] at hlen
 clear hx hv hnorm hN hbb hT hcell hm hmc hc
 go_enter Tryz.func95, Tryz.ntmps95
 go_wp2_with fail
 obtain ⟨w1, hw1⟩ : ∃ W, W = w.alloc (.cells #[.bool neg, .slice a m c] 73) := ⟨_, rfl⟩
 rw [← hw1] at HB0
 rw [← hw1]
 clear hw1
 go_loopw [3, 4, 8] (fun u v i wr => ∃ k : Nat, k ≤ m ∧ i = .int .i64 (k : Nat) ∧ wr = w1 ∧ ∀ t, t < k → xs.getD t 0 = 0) (fun _ _ i _ => m - (intOf i).toNat)
 case atStart => exact ⟨0, Nat.zero_le _, rfl, by first | exact trivial | rfl, fun t ht => by omega⟩
 case round =>
  obtain ⟨k, hk, rfl, rfl, hz⟩ := hrel
  have HZ : Hid (∀ t, t < k → xs.getD t 0 = 0) := hz
  clear hz
  by_cases hkn : k < m
  ·obtain ⟨b, o, rfl, hb, hcc⟩ := HC.out (by omega)
   have hck := (HB0.out.cell (p := ⟨b, o + k, none⟩) hb).trans (hcc k hkn)
   obtain ⟨x, hxe⟩ : ∃ x, x = xs.getD k 0 := ⟨_, rfl⟩
   rw [← hxe] at hck
   have HXE : Hid (x = xs.getD k 0) := hxe
   have hxb : W64 x := by rw [hxe]; exact getD_lt (B := 18446744073709551616) (by decide) HX.out k
   clear hcc hxe
   by_cases hx0 : x = 0
   ·subst hx0
    have hw1 : IntKind.i64.wrap ((k : Int) + 1) = ((k + 1 : Nat) : Int) := by rw [IntWalk.i64_in _ (by omega)]; omega
    go_wp2
    go_roundw
    case rel =>
     refine ⟨k + 1, by omega, by first | rfl | rw [hw1], by first | exact trivial | rfl, fun t ht => ?_⟩
     by_cases h : t = k
     ·rw [h]; exact HXE.out.symm
     ·exact HZ.out t (by omega)
    case measure => simp [intOf]; omega
   ·have hx1 : ((x : Int) == 0) = false := by simp; omega
    have hj := (joZ_dvd hxb hx0).2
    have HTZ : Hid (∀ W, TabW W → Calls Tryz.prog 92 #[.int .u64 x] W fun e w' => e = .returned (.int .i64 (joZ x : Nat)) ∧ W = w') := fun W hW => tz_any x W hxb hx0 hW
    have HTW : Hid (TabW wr) := HT.out _ HB0.out
    have HJ : Hid (W64 x ∧ x ≠ 0) := ⟨hxb, hx0⟩
    obtain ⟨z, hze⟩ : ∃ z, z = joZ x := ⟨_, rfl⟩
    rw [← hze] at HTZ hj
    have HZE : Hid (z = joZ x) := hze
    have hw1 : IntKind.i64.wrap (64 * (k : Int)) = 64 * (k : Int) := by rw [IntWalk.i64_in _ (by omega)]
    have hw2 : IntKind.i64.wrap (64 * (k : Int) + (z : Int)) = 64 * (k : Int) + (z : Int) := by rw [IntWalk.i64_in _ (by omega)]
    clear hxb hx0 hze
    go_wp2_with (go_at_call 92; (with_reducible refine (HTZ.out _ HTW.out).mono ?_); rintro e w' ⟨rfl, rfl⟩)
    go_ret
    refine ⟨⟨64 * k + z, ret_int (by first | rfl | push_cast; rfl | (simp only [hw1, hw2]; push_cast; rfl)), ?_, by omega⟩, HB0.out⟩
    have := noughts_dvd (xs := xs) (k := k) (by rw [HL.out]; exact hkn) HZ.out (by rw [← HXE.out]; exact HJ.out.1) (by rw [← HXE.out]; exact HJ.out.2)
    rw [← HXE.out, ← HZE.out, HV.out] at this
    exact this
  ·go_wp2
   go_ret
   exact ⟨⟨0, rfl, by simp, by omega⟩, HB0.out⟩
theorem right_s (x : Value) (V : Int) (k : Nat) (w : World) (h : WideI w x V) (hd : 2 ^ k ∣ V.natAbs) {bb : Nat} (hV : V.natAbs < 2 ^ bb) (hbb : bb ≤ 4294967296) (hk : k ≤ 4294967296) :
  ∃ U, V = U * ((2 ^ k : Nat) : Int) ∧ Calls Tryz.prog 40 #[x, .int .i64 (k : Nat)] w (WideR U w) := by
 refine ⟨sg (decide (V < 0)) (V.natAbs / 2 ^ k), ?_, ?_⟩
 ·rw [← sg_mul, Nat.div_mul_cancel hd, sg_of]
 ·obtain ⟨a, m, c, rfl, hn⟩ := h
  have := right_any (decide (V < 0)) (.slice a m c) V.natAbs (k / 64) (k % 64) k w hn (by omega) (by omega) (by omega) hV hbb
  rw [show 64 * (k / 64) + k % 64 = k by omega] at this
  refine this.mono fun e w' hq => hq.toR ?_ (by rw [sg_natAbs])
  rw [Bool.eq_iff_iff, decide_eq_true_eq, sg_lt]
  simp
theorem sign_s (x : Value) (V : Int) (w : World) (h : WideI w x V) : Calls Tryz.prog 44 #[x] w fun e w' => e = .returned (.int .i64 (if V = 0 then 0 else if V < 0 then -1 else 1)) ∧ Below w.heap.size w w' := by
 obtain ⟨a, m, c, rfl, hn⟩ := h
 refine (sign_any _ _ _ w hn).mono ?_
 rintro e w' ⟨rfl, hb⟩
 refine ⟨?_, hb⟩
 congr 2
 by_cases h0 : V = 0
 ·rw [if_pos (by omega), if_pos h0]
 ·rw [if_neg (by omega), if_neg h0]
  by_cases h1 : V < 0
  ·rw [decide_eq_true h1, if_pos rfl, if_pos h1]
  ·rw [decide_eq_false h1, if_neg (by decide), if_neg h1]
def TrimQ (V : Int) (w : World) (e : Ending) (w' : World) : Prop := ∃ (k : Nat) (U : Int) (a : Option Addr) (m c : Nat), e = .returned (.tuple #[.agg #[.bool (decide (U < 0)), .slice a m c], .int .i64 (-2148 + (k : Int))]) ∧ k ≤ LU ∧ V = U * ((2 ^ k : Nat) : Int) ∧ WideI w' (.agg #[.bool (decide (U < 0)), .slice a m c]) U ∧ Below w.heap.size w w'
theorem trim_end {fn : Func} {p q : Tmp} (hf : fn.results = #[.cell p 73, .tmp q]) {tmps : Array Value} {w0 w : World} {g : Nat} {x : Bool} {a a' : Option Addr} {n c n' c' : Nat} {U V : Int} {b : Bool} {k : Nat}
  (hp : tmps.getD p undef = .pointer (some ⟨g, 0, none⟩)) (hq : tmps.getD q undef = .int .i64 (-2148 + (k : Int))) (hg : w.heap[g]? = some (.cells #[.bool x, .slice a n c] 73 (0, 0)))
  (hv : WideI w (.agg #[.bool b, .slice a' n' c']) U) (hb : Below w0.heap.size w0 w) (h0 : w0.heap.size ≤ g) (hk : k ≤ LU) (hV : V = U * ((2 ^ k : Nat) : Int)) :
  bodyPost Tryz.prog fn (TrimQ V w0) .ret ⟨tmps, []⟩ ((w.setCell ⟨g, 0, none⟩ (.bool b)).setCell ⟨g, 1, none⟩ (.slice a' n' c')) := by
 obtain ⟨a1, n1, c1, e1, hn⟩ := id hv
 cases e1
 refine bodyPost_ret (int_row_tmp hf _ _ g _ _ hp (row2_set hg _ _)) rfl ⟨k, U, _, _, _, ?_, hk, hV, hv.set2 hg _ _, (hb.setCell (by exact h0) _).setCell (by exact h0) _⟩
 rw [hq]
set_option maxHeartbeats 2000000 in
theorem trimmed_v (x : Value) (V : Int) (w : World) (h : WideI w x V) {bb : Nat} (hV : V.natAbs < 2 ^ bb) (hbb : bb ≤ 1000000) (hT : TabW w) :
  Calls Tryz.prog 70 #[x, .int .i64 (-2148)] w (TrimQ V w) := by
 have HX : Hid (∀ W, Below w.heap.size w W → WideI W x V) := fun W hW => h.below hW
 have hLU := LU_eq
 have HNO : Hid (∀ W, Below w.heap.size w W → Calls Tryz.prog 95 #[x] W fun e w' => (∃ k : Nat, e = .returned (.int .i64 (k : Nat)) ∧ 2 ^ k ∣ V.natAbs ∧ k ≤ 2000000) ∧ Below W.heap.size W w') := fun W hW => by
  obtain ⟨a, m, c, rfl, hn⟩ := h.below hW
  exact noughts_v _ _ _ W hn hV hbb (hT.below hW)
 have HRT : Hid (∀ W (k : Nat), Below w.heap.size w W → 2 ^ k ∣ V.natAbs → k ≤ 2000000 → ∃ U, V = U * ((2 ^ k : Nat) : Int) ∧ Calls Tryz.prog 40 #[x, .int .i64 (k : Nat)] W (WideR U W)) := fun W k hW hd hk =>
  right_s x V k W (h.below hW) hd hV (by omega) (by omega)
 obtain ⟨a, m, c, rfl, -⟩ := id h
 obtain ⟨ng, hng⟩ : ∃ b, b = decide (V < 0) := ⟨_, rfl⟩
 rw [← hng] at HX HNO HRT ⊢
 clear h hV hbb hT hng
 obtain ⟨w2, hw2⟩ : ∃ W, W = (w.alloc (.cells #[.bool ng, .slice a m c] 73)).alloc (.cells #[.bool false, .slice none 0 0] 73) := ⟨_, rfl⟩
 have HB2 : Hid (Below w.heap.size w w2) := by show Below _ _ _; rw [hw2]; exact ((Below.refl _ _).alloc (Nat.le_refl _) _).alloc (by simp) _
 have q0 : w2.heap[w.heap.size]? = some (.cells #[.bool ng, .slice a m c] 73 (0, 0)) := by rw [hw2]; exact (heap_alloc_old _ _ (by simp)).trans (heap_alloc_new _ _)
 have q1 : w2.heap[w.heap.size + 1]? = some (.cells #[.bool false, .slice none 0 0] 73 (0, 0)) := by
  rw [hw2]
  have := heap_alloc_new (w.alloc (.cells #[.bool ng, .slice a m c] 73)) (.cells #[.bool false, .slice none 0 0] 73)
  rwa [show (w.alloc (.cells #[.bool ng, .slice a m c] 73)).heap.size = w.heap.size + 1 by simp] at this
 have HC : Hid (∀ W, Below w2.heap.size w2 W → W.cell? ⟨w.heap.size, 0, none⟩ = some (.bool ng) ∧ W.cell? ⟨w.heap.size, 1, none⟩ = some (.slice a m c) ∧ W.heap[w.heap.size + 1]? = some (.cells #[.bool false, .slice none 0 0] 73 (0, 0))) := fun W hW =>
  ⟨cell_of_row _ _ 0 _ _ _ (hW.blk q0 (blk_lt q0)), cell_of_row _ _ 1 _ _ _ (hW.blk q0 (blk_lt q0)), hW.blk q1 (blk_lt q1)⟩
 obtain ⟨c0, c1, -⟩ := HC.out w2 (Below.refl _ _)
 clear q0 q1
 go_enter Tryz.func70, Tryz.ntmps70
 go_upto_region 1 with fail
 rw [← hw2]
 clear hw2
 go_wp2_with fail
 (with_reducible refine (HNO.out _ HB2.out).mono ?_)
 rintro e w3 ⟨⟨k, rfl, hd, hk⟩, hb⟩
 have HB3 : Hid (Below w.heap.size w w3) := HB2.out.thru hb
 obtain ⟨d0, d1, q6⟩ := HC.out w3 hb
 have HQ3 : Hid _ := q6
 have HK : Hid (2 ^ k ∣ V.natAbs ∧ k ≤ 2000000) := ⟨hd, hk⟩
 have hw0 : IntKind.i64.wrap 2148 = 2148 := by decide
 obtain ⟨j, hj⟩ : ∃ j : Nat, j = min k 2148 := ⟨_, rfl⟩
 have hmin : min (k : Int) 2148 = (j : Int) := by omega
 have HJ : Hid (j ≤ k ∧ j ≤ LU) := ⟨by omega, by omega⟩
 have hwj : IntKind.i64.wrap (-2148 + (j : Int)) = -2148 + (j : Int) := by rw [IntWalk.i64_in _ (by omega)]
 have HB32 : Hid (Below w2.heap.size w2 w3) := hb
 clear c0 c1 hd hk hb hj
 by_cases h0 : j = 0
 ·subst h0
  obtain ⟨f0, f1, e0, e1, f2, e2⟩ := row2 q6
  clear q6 HRT
  go_wp2
  refine trim_end (p := 4) (q := 5) (k := 0) (U := V) rfl rfl rfl HQ3.out (HX.out _ HB3.out) HB3.out (by omega) (Nat.zero_le _) (by simp)
 ·have hjp : (0 : Int) < (j : Int) := by omega
  obtain ⟨U, hU, hR⟩ := HRT.out w3 j HB3.out (Nat.dvd_trans (Nat.pow_dvd_pow 2 HJ.out.1) HK.out.1) (Nat.le_trans HJ.out.1 HK.out.2)
  have HU : Hid (V = U * ((2 ^ j : Nat) : Int)) := hU
  have HR : Hid (Calls Tryz.prog 40 #[.agg #[.bool ng, .slice a m c], .int .i64 (j : Nat)] w3 (WideR U w3)) := hR
  clear hU hR h0 HRT q6
  go_wp2_with fail
  (with_reducible refine Calls.mono HR.out ?_)
  rintro e w4 ⟨v, rfl, hv, hb⟩
  have q6 := (HC.out w4 (HB32.out.thru hb)).2.2
  have HQ4 : Hid _ := q6
  have HB4 : Hid (Below w.heap.size w w4) := HB3.out.thru hb
  obtain ⟨a3, k3, c3, rfl, hv3⟩ := hv.agg
  have HV4 : Hid (WideI w4 (.agg #[.bool (decide (U < 0)), .slice a3 k3 c3]) U) := hv3
  obtain ⟨f0, f1, e0, e1, f2, e2⟩ := row2 q6
  clear hv hv3 hb q6
  go_wp2
  exact trim_end (p := 4) (q := 5) (k := j) (U := U) rfl rfl rfl HQ4.out HV4.out HB4.out (by omega) HJ.out.2 HU.out
theorem infinity_v (w : World) (hT : TabW w) : Calls Tryz.prog 63 #[] w fun e w' => e = .returned (.float .f64 9218868437227405312) ∧ w = w' := by
 have HJ : Hid (∀ W, TabW W → Calls Tryz.prog 64 #[.bool false, .int .u64 1, .int .i64 1023] W fun e w' => e = .returned (.tuple #[.float .f64 9214364837600034816, .int .i64 0]) ∧ W = w') := fun W hW => by
  have := join_any false 1 1023 W (by unfold W64; decide) hW (by decide) (by decide)
  rw [show joinB false 1 1023 = 9214364837600034816 by decide, show joinX 1 1023 = 0 by decide] at this
  exact this
 have hmul : Go.floatBits .mul .f64 9214364837600034816 4611686018427387904 = some 9218868437227405312 := by decide
 have k := run_float_arith (P := Tryz.prog) w .mul 26 .f64 9214364837600034816 4611686018427387904 _ hmul
 have HT : Hid (TabW w) := hT
 clear hT hmul
 go_enter Tryz.func63, Tryz.ntmps63
 go_wp2_with (go_at_call 64; (with_reducible refine (HJ.out _ HT.out).mono ?_); rintro e w' ⟨rfl, rfl⟩)
 go_ret
 exact ⟨rfl, rfl⟩
theorem acc_nil {w : World} {g : Nat} (h : w.heap[g]? = some (.cells #[.int .i64 0, .int .i64 0, .int .i64 0, .int .i64 0, .int .i64 0, .bool false, .slice none 0 0] 75 (0, 0))) : AccT w g [] :=
 ⟨none, 0, 0, h, wide_zero w⟩
theorem new8_v (w : World) : Calls Tryz.prog 24 #[] w fun e w' => ∃ g, e = .returned (.pointer (some ⟨g, 0, none⟩)) ∧ w.heap.size ≤ g ∧ AccT w' g [] ∧ Below w.heap.size w w' := by
 go_enter Tryz.func24, Tryz.ntmps24
 go_wp2
 go_ret
 exact ⟨_, rfl, Nat.le_refl _, acc_nil (heap_alloc_new _ _), (Below.refl _ _).alloc (Nat.le_refl _) _⟩
theorem wpList_index {P : Program} {ops : Array Oper} {rest : List Oper} {o : Oper} {ac : Act} {W : World} {Q : Exit → Act → World → Prop} (hgd : o.guard = none) (t : TypeId) (x y : Operand) (ho : o.op = .index t x y) (vx vy v : Value) (hx : ac.eval x = vx) (hy : ac.eval y = vy)
  (h : (Instr.index t vx vy).run P W = .ok v W) (hk : wpList P ops Q rest (ac.put o.dst v) W) : wpList P ops Q (o :: rest) ac W :=
 wpList_plain hgd fun _ hK => op_any (.index t x y) ho v (fun o' ho' => by simp [execOp, ho', hx, hy, h]) (hK _ _ hk)
set_option maxHeartbeats 2000000 in
theorem count8_v {g : Nat} {T : List Term1} (w : World) (h : AccT w g T) (hT : Fit T) : Calls Tryz.prog 28 #[.pointer (some ⟨g, 0, none⟩)] w fun e w' => e = .returned (.int .i64 (T.length : Nat)) ∧ w = w' := by
 have hall := cnt_all hT.1
 have hb := hT.2.2
 obtain ⟨a, m, q, h1, -⟩ := h
 obtain ⟨c0, e0⟩ : ∃ c, c = cntT T 0 := ⟨_, rfl⟩
 obtain ⟨c1, e1⟩ : ∃ c, c = cntT T 1 := ⟨_, rfl⟩
 obtain ⟨c2, e2⟩ : ∃ c, c = cntT T 2 := ⟨_, rfl⟩
 obtain ⟨c3, e3⟩ : ∃ c, c = cntT T 3 := ⟨_, rfl⟩
 obtain ⟨c4, e4⟩ : ∃ c, c = cntT T 4 := ⟨_, rfl⟩
 rw [← e0, ← e1, ← e2, ← e3, ← e4] at hall h1
 have k0 := cell_of_row _ g 0 _ _ _ h1
 have k1 := cell_of_row _ g 1 _ _ _ h1
 have k2 := cell_of_row _ g 2 _ _ _ h1
 have k3 := cell_of_row _ g 3 _ _ _ h1
 have k4 := cell_of_row _ g 4 _ _ _ h1
 obtain ⟨L, hL⟩ : ∃ L, L = T.length := ⟨_, rfl⟩
 rw [← hL] at hb hall ⊢
 have HL : Hid (c0 + c1 + c2 + c3 + c4 = L ∧ L < 4611686018427387904) := ⟨hall, hb⟩
 clear h1 hall hb hL e0 e1 e2 e3 e4 hT
 go_enter Tryz.func28, Tryz.ntmps28
 go_wp2_with fail
 go_loopw [3, 5, 12] (fun n v i wr => ∃ k : Nat, k ≤ 5 ∧ i = .int .i64 (k : Nat) ∧ wr = w ∧ n = .int .i64 ((([c0, c1, c2, c3, c4].take k).sum : Nat) : Int)) (fun _ _ i _ => 5 - (intOf i).toNat)
 case atStart => exact ⟨0, Nat.zero_le _, rfl, by first | exact trivial | rfl, rfl⟩
 case round =>
  obtain ⟨k, hk, rfl, rfl, rfl⟩ := hrel
  have hL1 := HL.out.1
  have hL2 := HL.out.2
  match k, hk with
  | 0, _ =>
    simp only [List.take, List.sum_nil]
    have hI : (Instr.index 60 (.agg #[.int .i64 (c0 : Nat), .int .i64 (c1 : Nat), .int .i64 (c2 : Nat), .int .i64 (c3 : Nat), .int .i64 (c4 : Nat)]) (.int .i64 ((0 : Nat) : Int))).run Tryz.prog wr = .ok (.int .i64 (c0 : Nat)) wr := by kernel_rfl
    have hI2 : Hid _ := hI
    clear hI
    go_wp2_with (refine wpList_index rfl 60 (.tmp 11) (.tmp 12) rfl _ _ _ rfl rfl hI2.out ?_)
    go_roundw
    case rel => exact ⟨1, by omega, by first | rfl | decide, by first | exact trivial | rfl, by refine congrArg (Value.int .i64) ?_; simp only [List.take, List.sum_cons, List.sum_nil]; omega⟩
    case measure => simp [intOf]
  | 1, _ =>
    simp only [List.take, List.sum_cons, List.sum_nil, Nat.add_zero]
    have hI : (Instr.index 60 (.agg #[.int .i64 (c0 : Nat), .int .i64 (c1 : Nat), .int .i64 (c2 : Nat), .int .i64 (c3 : Nat), .int .i64 (c4 : Nat)]) (.int .i64 ((1 : Nat) : Int))).run Tryz.prog wr = .ok (.int .i64 (c1 : Nat)) wr := by kernel_rfl
    have hI2 : Hid _ := hI
    clear hI
    go_wp2_with (refine wpList_index rfl 60 (.tmp 11) (.tmp 12) rfl _ _ _ rfl rfl hI2.out ?_)
    go_roundw
    case rel => exact ⟨2, by omega, by first | rfl | decide, by first | exact trivial | rfl, by refine congrArg (Value.int .i64) ?_; simp only [List.take, List.sum_cons, List.sum_nil]; omega⟩
    case measure => simp [intOf]
  | 2, _ =>
    simp only [List.take, List.sum_cons, List.sum_nil, Nat.add_zero]
    have hI : (Instr.index 60 (.agg #[.int .i64 (c0 : Nat), .int .i64 (c1 : Nat), .int .i64 (c2 : Nat), .int .i64 (c3 : Nat), .int .i64 (c4 : Nat)]) (.int .i64 ((2 : Nat) : Int))).run Tryz.prog wr = .ok (.int .i64 (c2 : Nat)) wr := by kernel_rfl
    have hI2 : Hid _ := hI
    clear hI
    go_wp2_with (refine wpList_index rfl 60 (.tmp 11) (.tmp 12) rfl _ _ _ rfl rfl hI2.out ?_)
    go_roundw
    case rel => exact ⟨3, by omega, by first | rfl | decide, by first | exact trivial | rfl, by refine congrArg (Value.int .i64) ?_; simp only [List.take, List.sum_cons, List.sum_nil]; omega⟩
    case measure => simp [intOf]
  | 3, _ =>
    simp only [List.take, List.sum_cons, List.sum_nil, Nat.add_zero]
    have hI : (Instr.index 60 (.agg #[.int .i64 (c0 : Nat), .int .i64 (c1 : Nat), .int .i64 (c2 : Nat), .int .i64 (c3 : Nat), .int .i64 (c4 : Nat)]) (.int .i64 ((3 : Nat) : Int))).run Tryz.prog wr = .ok (.int .i64 (c3 : Nat)) wr := by kernel_rfl
    have hI2 : Hid _ := hI
    clear hI
    go_wp2_with (refine wpList_index rfl 60 (.tmp 11) (.tmp 12) rfl _ _ _ rfl rfl hI2.out ?_)
    go_roundw
    case rel => exact ⟨4, by omega, by first | rfl | decide, by first | exact trivial | rfl, by refine congrArg (Value.int .i64) ?_; simp only [List.take, List.sum_cons, List.sum_nil]; omega⟩
    case measure => simp [intOf]
  | 4, _ =>
    simp only [List.take, List.sum_cons, List.sum_nil, Nat.add_zero]
    have hI : (Instr.index 60 (.agg #[.int .i64 (c0 : Nat), .int .i64 (c1 : Nat), .int .i64 (c2 : Nat), .int .i64 (c3 : Nat), .int .i64 (c4 : Nat)]) (.int .i64 ((4 : Nat) : Int))).run Tryz.prog wr = .ok (.int .i64 (c4 : Nat)) wr := by kernel_rfl
    have hI2 : Hid _ := hI
    clear hI
    go_wp2_with (refine wpList_index rfl 60 (.tmp 11) (.tmp 12) rfl _ _ _ rfl rfl hI2.out ?_)
    go_roundw
    case rel => exact ⟨5, by omega, by first | rfl | decide, by first | exact trivial | rfl, by refine congrArg (Value.int .i64) ?_; simp only [List.take, List.sum_cons, List.sum_nil]; omega⟩
    case measure => simp [intOf]
  | 5, _ =>
    simp only [List.take, List.sum_cons, List.sum_nil, Nat.add_zero]
    go_wp2
    go_ret
    exact ⟨ret_int (by omega), rfl⟩
end Go.Proofs.YtlffojopfilfeaaGreatDoor
