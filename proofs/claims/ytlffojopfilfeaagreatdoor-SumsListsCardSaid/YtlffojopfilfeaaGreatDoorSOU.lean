import Derived.Test.YtlffojopfilfeaaGreatDoorSOS
import Derived.Test.YtlffojopfilfeaaGreatDoorSOK
import Derived.Test.YtlffojopfilfeaaGreatDoorSAW
import Derived.Test.YtlffojopfilfeaaGreatDoorSOA
set_option maxRecDepth 100000
namespace Go.Proofs.YtlffojopfilfeaaGreatDoor
open Go Go.RowKit
theorem kind4 (b : Nat) : (nanB b = true ∧ infB b = false ∧ zeroB b = false ∧ finB b = false) ∨ (nanB b = false ∧ infB b = true ∧ zeroB b = false ∧ finB b = false) ∨ (nanB b = false ∧ infB b = false ∧ zeroB b = true ∧ finB b = true) ∨ (nanB b = false ∧ infB b = false ∧ zeroB b = false ∧ finB b = true) := by
 unfold nanB infB finB zeroB
 generalize absB b = r
 by_cases h0 : r = 0
 ·subst h0; exact .inr (.inr (.inl ⟨by decide, by decide, by decide, by decide⟩))
 ·rcases Nat.lt_trichotomy r 9218868437227405312 with h | h | h
  ·refine .inr (.inr (.inr ⟨?_, ?_, ?_, ?_⟩)) <;> simp <;> omega
  ·refine .inr (.inl ⟨?_, ?_, ?_, ?_⟩) <;> simp <;> omega
  ·refine .inl ⟨?_, ?_, ?_, ?_⟩ <;> simp <;> omega
theorem xor_sign {x y : Nat} (hx : W64 x) (hy : W64 y) : Go.bits .and .u64 (Go.bits .xor .u64 (x : Int) (y : Int)) 9223372036854775808 = ((sgW (sgnB x != sgnB y) : Nat) : Int) := by
 unfold W64 at hx hy
 have hW : x ^^^ y < 18446744073709551616 := Nat.xor_lt_two_pow (n := 64) hx hy
 rw [Go.u64_xor_nat x y hx hy, w_and_sign _ hW]
 congr 1
 have h2 : (x ^^^ y) / 2^63 = x / 2^63 ^^^ y / 2^63 := by rw [Nat.xor_div_two_pow]
 have hxc : x / 2^63 = 0 ∨ x / 2^63 = 1 := by omega
 have hyc : y / 2^63 = 0 ∨ y / 2^63 = 1 := by omega
 unfold sgnW sgW sgnB
 rcases hxc with e | e <;> rcases hyc with f | f <;> rw [e, f] at h2
 ·have h3 : (x ^^^ y) / 2^63 = 0 := h2
  rw [decide_eq_false (show ¬ 9223372036854775808 ≤ x by omega), decide_eq_false (show ¬ 9223372036854775808 ≤ y by omega), decide_eq_false (show ¬ 9223372036854775808 ≤ x ^^^ y by omega)]; rfl
 ·have h3 : (x ^^^ y) / 2^63 = 1 := h2
  rw [decide_eq_false (show ¬ 9223372036854775808 ≤ x by omega), decide_eq_true (show 9223372036854775808 ≤ y by omega), decide_eq_true (show 9223372036854775808 ≤ x ^^^ y by omega)]; rfl
 ·have h3 : (x ^^^ y) / 2^63 = 1 := h2
  rw [decide_eq_true (show 9223372036854775808 ≤ x by omega), decide_eq_false (show ¬ 9223372036854775808 ≤ y by omega), decide_eq_true (show 9223372036854775808 ≤ x ^^^ y by omega)]; rfl
 ·have h3 : (x ^^^ y) / 2^63 = 0 := h2
  rw [decide_eq_true (show 9223372036854775808 ≤ x by omega), decide_eq_true (show 9223372036854775808 ≤ y by omega), decide_eq_false (show ¬ 9223372036854775808 ≤ x ^^^ y by omega)]; rfl
theorem pos_cases (x : Nat) {z i : Bool} (hi : infB x = i) (hz : zeroB x = z) : (((absB x : Nat) : Int) == 9218868437227405312) = i ∧ (((absB x : Nat) : Int) == 0) = z := by
 subst hi hz
 unfold infB zeroB
 constructor
 ·rw [Bool.eq_iff_iff]; simp; omega
 ·rw [Bool.eq_iff_iff]; simp
set_option maxHeartbeats 16000000 in
theorem dprod_v {g : Nat} {T : List Term1} {x y : Nat} (w : World) (hr : DocT w g T) (hT : FitD (T ++ [tmP x y])) (hx : W64 x) (hy : W64 y) :
  Calls Tryz.prog 35 #[.pointer (some ⟨g, 0, none⟩), .int .u64 x, .int .u64 y] w fun e w' => e = .returned (.tuple #[]) ∧ DocT w' g (T ++ [tmP x y]) ∧ But g w w' := by
 have HN1 : Hid (∀ W, Calls Tryz.prog 62 #[.int .u64 x] W fun e w' => e = .returned (.bool (nanB x)) ∧ W = w') := fun W => ref_isnan x W hx
 have HN2 : Hid (∀ W, Calls Tryz.prog 62 #[.int .u64 y] W fun e w' => e = .returned (.bool (nanB y)) ∧ W = w') := fun W => ref_isnan y W hy
 have hxs := xor_sign hx hy
 obtain ⟨σ, hσ⟩ : ∃ σ, σ = (sgnB x != sgnB y) := ⟨_, rfl⟩
 rw [← hσ] at hxs
 have HPUT : Hid (∀ b, W64 b → tmS b = tmP x y → Calls Tryz.prog 61 #[.pointer (some ⟨g, 0, none⟩), .int .u64 b] w fun e w' => e = .returned (.tuple #[]) ∧ DocT w' g (T ++ [tmP x y]) ∧ But g w w') := fun b hb ht => by
  rw [← ht] at hT ⊢
  exact put_v w hr hT hb
 have hTP : tmP x y = (psrt x y, pN x y) := rfl
 have hwx := hx
 have hwy := hy
 unfold W64 at hwx hwy
 rcases kind4 x with ⟨hnx, hix, hzx, hfx⟩ | ⟨hnx, hix, hzx, hfx⟩ | ⟨hnx, hix, hzx, hfx⟩ | ⟨hnx, hix, hzx, hfx⟩ <;> rcases kind4 y with ⟨hny, hiy, hzy, hfy⟩ | ⟨hny, hiy, hzy, hfy⟩ | ⟨hny, hiy, hzy, hfy⟩ | ⟨hny, hiy, hzy, hfy⟩
 rotate_left 15
 ·obtain ⟨p1, p2⟩ := pos_cases x hix hzx
  obtain ⟨p3, p4⟩ := pos_cases y hiy hzy
  rw [hnx] at HN1
  rw [hny] at HN2
  have htm : tmP x y = (4, valB x * valB y) := by rw [hTP]; unfold psrt pN; rw [hnx, hny, hix, hiy, hzx, hzy, hfx, hfy]; rfl
  have hv := prod_sp hfx hfy
  have hsx : spS x = sgnB x := by unfold spS negB; rw [hnx, hix]; rfl
  have hsy : spS y = sgnB y := by unfold spS negB; rw [hny, hiy]; rfl
  rw [hsx, hsy, ← hσ] at hv
  have r1 := spM_bd x
  have r2 := spM_bd y
  obtain ⟨k1, k2⟩ := spE_range x
  obtain ⟨k3, k4⟩ := spE_range y
  have hLU := LU_eq
  have HP1 : Hid (∀ W, Calls Tryz.prog 46 #[.int .u64 x] W fun e w' => e = .returned (.tuple #[.bool (spS x), .int .u64 (spM x), .int .i64 (spE x), .int .i64 (spX x)]) ∧ W = w') := fun W => ref_split x W hx
  have HP2 : Hid (∀ W, Calls Tryz.prog 46 #[.int .u64 y] W fun e w' => e = .returned (.tuple #[.bool (spS y), .int .u64 (spM y), .int .i64 (spE y), .int .i64 (spX y)]) ∧ W = w') := fun W => ref_split y W hy
  have HO1 : Hid (∀ W, Calls Tryz.prog 49 #[.int .u64 (spM x)] W (NatQ (spM x) W)) := fun W => of_any (spM x) W (by omega)
  have HO2 : Hid (∀ W, Calls Tryz.prog 49 #[.int .u64 (spM y)] W (NatQ (spM y) W)) := fun W => of_any (spM y) W (by omega)
  have HML : Hid (∀ W u v, Num .u32 4294967296 W u (spM x) → Num .u32 4294967296 W v (spM y) → Calls Tryz.prog 51 #[u, v] W (NatQ (spM x * spM y) W)) := fun W u v hu hv => nmul_any u v _ _ W hu hv (bb := 64) (by omega) (by omega) (by decide)
  obtain ⟨n, hn⟩ : ∃ n, n = (spE x + spE y + LU).toNat := ⟨_, rfl⟩
  have hmm : spM x * spM y < 2 ^ 128 := by
   calc spM x * spM y < 2 ^ 64 * 2 ^ 64 := Nat.mul_lt_mul'' (by omega) (by omega)
    _ = 2 ^ 128 := by decide
  have HLF : Hid (∀ W v, Num .u32 4294967296 W v (spM x * spM y) → Calls Tryz.prog 48 #[v, .int .i64 (n : Nat)] W (NatQ (spM x * spM y * 2 ^ n) W)) := fun W v h => nleft_n v _ n W h hmm (by decide) (by omega)
  rw [← hn] at hv
  have f1 : FitD T := ⟨fun t m => hT.1 t (List.mem_append_left _ m), fun t m => hT.2.1 t (List.mem_append_left _ m), by have := hT.2.2; rw [List.length_append] at this; omega⟩
  obtain ⟨V, hV⟩ : ∃ V, V = valB x * valB y := ⟨_, rfl⟩
  rw [← hV] at hv htm
  obtain ⟨NN, hNN⟩ : ∃ N, N = spM x * spM y * 2 ^ n := ⟨_, rfl⟩
  obtain ⟨MM, hMM⟩ : ∃ N, N = spM x * spM y := ⟨_, rfl⟩
  rw [← hNN] at HLF hv
  rw [← hMM] at HLF HML
  have HV : Hid (V = sg σ NN) := hv
  have HAD : Hid (∀ W u v, DInt W u (sumT T) → DInt W v V → Calls Tryz.prog 47 #[u, v] W (DIntR (sumT T + V) W)) := fun W u v hu hv =>
   dplus_v u v _ _ W hu hv f1.room (lq_leD (by have := tmP_bd x y; rw [htm] at this; exact this)) lq_roomD
  obtain ⟨q, hq⟩ : ∃ q, q = cntT T 4 := ⟨_, rfl⟩
  have HEND : Hid (∀ W, DocRow W g (upd (cntT T) 4 (q + 1)) (sumT T + V) → DocT W g (T ++ [tmP x y])) := fun W hW => by
   refine DocT.put ?_
   rw [htm]
   show DocRow W g (upd (cntT T) 4 (cntT T 4 + 1)) (sumT T + V)
   rw [← hq]; exact hW
  have HA : Hid (DocT w g T) := hr
  have hcell := DocRow.cell hr (show 4 < 5 by decide)
  rw [← hq] at hcell
  have hqb : q < 4611686018427387904 := by rw [hq]; exact Nat.lt_of_le_of_lt (cntT_le T 4) f1.2.2
  have hw2 := d_inc hqb
  have HC : Hid (∀ W, Below w.heap.size w W → W.cell? ⟨g, 4, none⟩ = some (.int .i64 (q : Nat))) := fun W hW => (hW.cell (p := ⟨g, 4, none⟩) (DocRow.lt HA.out)).trans hcell
  obtain ⟨M1, hM1⟩ : ∃ X, X = spM x := ⟨_, rfl⟩
  obtain ⟨M2, hM2⟩ : ∃ X, X = spM y := ⟨_, rfl⟩
  obtain ⟨E1, hE1⟩ : ∃ X, X = spE x := ⟨_, rfl⟩
  obtain ⟨E2, hE2⟩ : ∃ X, X = spE y := ⟨_, rfl⟩
  rw [← hM1, ← hE1] at HP1
  rw [← hM2, ← hE2] at HP2
  rw [← hM1] at HO1 HML
  rw [← hM2] at HO2 HML
  rw [← hE1] at k1 k2 hn
  rw [← hE2] at k3 k4 hn
  have hw3 : IntKind.i64.wrap (E1 + E2) = E1 + E2 := by rw [IntWalk.i64_in _ (by omega)]
  have hw4 : wrap64 (E1 + E2 + 2148) = (n : Int) := by rw [IntWalk.wrap64_in _ (by omega)]; omega
  have hw5 : IntKind.i64.wrap (E1 + E2 + 2148) = (n : Int) := by rw [IntWalk.i64_in _ (by omega)]; omega
  clear hV hq hcell hqb hM1 hM2 hE1 hE2 hv htm hfx hfy hnx hny hix hiy hzx hzy r1 r2 k1 k2 k3 k4 hLU hr hT f1 hn hmm hNN hMM hsx hsy HPUT hTP hσ
  cases σ
  ·replace hxs : Go.bits .and .u64 (Go.bits .xor .u64 (x : Int) (y : Int)) 9223372036854775808 = 0 := hxs
   go_enter Tryz.func35, Tryz.ntmps35
   go_wp2_with (first | (go_at_call 62; (first | (with_reducible refine (HN1.out _).mono ?_) | (with_reducible refine (HN2.out _).mono ?_)); rintro e w' ⟨rfl, rfl⟩) | (go_at_call 46; (first | (with_reducible refine (HP1.out _).mono ?_) | (with_reducible refine (HP2.out _).mono ?_)); rintro e w' ⟨rfl, rfl⟩))
   (with_reducible refine (HO1.out _).mono ?_)
   rintro e w1 hq
   obtain ⟨aa, am, ac, rfl, hn1, hb⟩ := hq.shape
   have HB1 : Hid (Below w.heap.size w w1) := hb
   have HX1 : Hid (Num .u32 4294967296 w1 (.slice aa am ac) M1) := hn1
   clear hb hn1 hq
   go_wp2_with fail
   (with_reducible refine (HO2.out _).mono ?_)
   rintro e w2 hq
   obtain ⟨ba, bm, bc, rfl, hn1, hb⟩ := hq.shape
   have HB2 : Hid (Below w.heap.size w w2) := HB1.out.thru hb
   have HX2 : Hid (Num .u32 4294967296 w2 (.slice aa am ac) M1 ∧ Num .u32 4294967296 w2 (.slice ba bm bc) M2) := ⟨HX1.out.below (Nat.le_refl _) hb, hn1⟩
   clear hb hn1 hq
   go_wp2_with fail
   (with_reducible refine (HML.out _ _ _ HX2.out.1 HX2.out.2).mono ?_)
   rintro e w3 hq
   obtain ⟨pa, pm, pc, rfl, hn1, hb⟩ := hq.shape
   have HB3 : Hid (Below w.heap.size w w3) := HB2.out.thru hb
   have HX3 : Hid (Num .u32 4294967296 w3 (.slice pa pm pc) MM) := hn1
   clear hb hn1 hq HX1 HX2
   go_upto_region 8 with fail
   have h1 : once [(51, 0), (52, 1), (53, 2), (54, 3), (55, 4), (56, 5), (57, 6), (58, 7), (59, 8)] = true := by kernel_rfl
   have h2 : within [(51, 0), (52, 1), (53, 2), (54, 3), (55, 4), (56, 5), (57, 6), (58, 7), (59, 8)] 121 = true := by kernel_rfl
   let S : Nat → (Nat → Value) → World → Prop := fun i xs W => match i with
    | 0 => xs 0 = .pointer (some ⟨g, 0, none⟩)
    | 1 => xs 1 = .pointer (some ⟨g, 0, none⟩)
    | 2 => xs 2 = .pointer (some ⟨g, 0, none⟩)
    | 3 => xs 3 = .pointer (some ⟨g, 4, none⟩)
    | 4 => xs 4 = .int .i64 (q : Nat)
    | 5 => xs 5 = .int .i64 ((q : Int) + 1)
    | 6 => xs 6 = .pointer (some ⟨g, 0, none⟩)
    | 7 => xs 7 = .pointer (some ⟨g, 0, none⟩)
    | 8 => xs 8 = .pointer (some ⟨g, 4, none⟩)
    | _ => True
   have hstab : ∀ j ys W W', S j ys W → Below W.heap.size W W' → S j ys W' := by
    intro j ys W W' h hb
    match j, h with
    | 0, h => exact h
    | 1, h => exact h
    | 2, h => exact h
    | 3, h => exact h
    | 4, h => exact h
    | 5, h => exact h
    | 6, h => exact h
    | 7, h => exact h
    | 8, h => exact h
    | _ + 9, h => exact trivial
   refine wp_region_flow3T 9 10 4 [(51, 0), (52, 1), (53, 2), (54, 3), (55, 4), (56, 5), (57, 6), (58, 7), (59, 8)] [] S (fun _ W => Below w3.heap.size w3 W) ((Below.refl _ _).drew) (by kernel_rfl) (by kernel_rfl) (by kernel_rfl) (by decide) (by kernel_rfl) h1 (by kernel_rfl) ?_ ?_ ?_ ?_
   ·exact fun j hj => by cases hj
   ·intro j xs ys W e h
    match j, e, h with
    | 0, e, h => exact c_ (e 0 (.inl rfl)) h
    | 1, e, h => exact c_ (e 1 (.inl rfl)) h
    | 2, e, h => exact c_ (e 2 (.inl rfl)) h
    | 3, e, h => exact c_ (e 3 (.inl rfl)) h
    | 4, e, h => exact c_ (e 4 (.inl rfl)) h
    | 5, e, h => exact c_ (e 5 (.inl rfl)) h
    | 6, e, h => exact c_ (e 6 (.inl rfl)) h
    | 7, e, h => exact c_ (e 7 (.inl rfl)) h
    | 8, e, h => exact c_ (e 8 (.inl rfl)) h
    | _ + 9, e, h => exact trivial
   ·refine ⟨⟨⟨⟨⟨⟨⟨⟨⟨trivial, ?_⟩, ?_⟩, ?_⟩, ?_⟩, ?_⟩, ?_⟩, ?_⟩, ?_⟩, ?_⟩
    ·refine flow3_step _ (some 51) rfl rfl rfl h1 h2 gI gB hstab fun ac xs W Dn he hni hG hS K hK => ?_
     exact op_move (.tmp 0) (.inl rfl) (hK _ _ (he 0) bR nA)
    ·refine flow3_step _ (some 52) rfl rfl rfl h1 h2 gI gB hstab fun ac xs W Dn he hni hG hS K hK => ?_
     have e0 := (he 51).trans (hS 0 (by kernel_rfl))
     refine op_any (.nilCheck (.tmp 51)) rfl (.pointer (some ⟨g, 0, none⟩)) (fun o' ho' => ?_) (hK _ _ rfl bR nA)
     simp only [execOp, ho', e0]
     go_simp
    ·refine flow3_step _ (some 53) rfl rfl rfl h1 h2 gI gB hstab fun ac xs W Dn he hni hG hS K hK => ?_
     have e0 := (he 52).trans (hS 1 (by kernel_rfl))
     refine op_any (.fieldAddr 66 (.tmp 52) 0) rfl (.pointer (some ⟨g, 0, none⟩)) (fun o' ho' => ?_) (hK _ _ rfl bR nA)
     simp only [execOp, ho', e0]
     go_simp
    ·refine flow3_step _ (some 54) rfl rfl rfl h1 h2 gI gB hstab fun ac xs W Dn he hni hG hS K hK => ?_
     have e0 := (he 53).trans (hS 2 (by kernel_rfl))
     refine op_any (.indexAddr 60 (.tmp 53) (.const (.int .i64 4))) rfl (.pointer (some ⟨g, 4, none⟩)) (fun o' ho' => ?_) (hK _ _ rfl bR nA)
     simp only [execOp, ho', e0]
     go_simp
    ·refine flow3_step _ (some 55) rfl rfl rfl h1 h2 gI gB hstab fun ac xs W Dn he hni hG hS K hK => ?_
     have e0 := (he 54).trans (hS 3 (by kernel_rfl))
     refine op_any (.load 3 (.tmp 54)) rfl (.int .i64 (q : Nat)) (fun o' ho' => ?_) (hK _ _ rfl bR nA)
     simp only [execOp, ho', e0]
     have hc := HC.out W (HB3.out.thru hG)
     go_simp
    ·refine flow3_step _ (some 56) rfl rfl rfl h1 h2 gI gB hstab fun ac xs W Dn he hni hG hS K hK => ?_
     have e0 := (he 55).trans (hS 4 (by kernel_rfl))
     refine op_any (.binOp .add 3 (.tmp 55) (.const (.int .i64 1)) 3) rfl (.int .i64 ((q : Int) + 1)) (fun o' ho' => ?_) (hK _ _ rfl bR nA)
     simp only [execOp, ho', e0]
     go_simp
    ·refine flow3_step _ (some 57) rfl rfl rfl h1 h2 gI gB hstab fun ac xs W Dn he hni hG hS K hK => ?_
     have e0 := (he 51).trans (hS 0 (by kernel_rfl))
     refine op_any (.nilCheck (.tmp 51)) rfl (.pointer (some ⟨g, 0, none⟩)) (fun o' ho' => ?_) (hK _ _ rfl bR nA)
     simp only [execOp, ho', e0]
     go_simp
    ·refine flow3_step _ (some 58) rfl rfl rfl h1 h2 gI gB hstab fun ac xs W Dn he hni hG hS K hK => ?_
     have e0 := (he 57).trans (hS 6 (by kernel_rfl))
     refine op_any (.fieldAddr 66 (.tmp 57) 0) rfl (.pointer (some ⟨g, 0, none⟩)) (fun o' ho' => ?_) (hK _ _ rfl bR nA)
     simp only [execOp, ho', e0]
     go_simp
    ·refine flow3_step _ (some 59) rfl rfl rfl h1 h2 gI gB hstab fun ac xs W Dn he hni hG hS K hK => ?_
     have e0 := (he 58).trans (hS 7 (by kernel_rfl))
     refine op_any (.indexAddr 60 (.tmp 58) (.const (.int .i64 4))) rfl (.pointer (some ⟨g, 4, none⟩)) (fun o' ho' => ?_) (hK _ _ rfl bR nA)
     simp only [execOp, ho', e0]
     go_simp
   ·intro xs w5 Dn hall hG hS hD
    have s56 : xs 5 = _ := hS 5 (by decide)
    have s59 : xs 8 = _ := hS 8 (by decide)
    have HGB : Hid (Below w3.heap.size w3 w5) := hG
    simp only [layAll, s56, s59, List.setIfInBounds_toArray, List.set_cons_succ, List.set_cons_zero]
    clear hS hD hall hstab S hG h1 h2
    generalize xs 0 = x0 at *
    generalize xs 1 = x1 at *
    generalize xs 2 = x2 at *
    generalize xs 3 = x3 at *
    generalize xs 4 = x4 at *
    generalize xs 6 = x6 at *
    generalize xs 7 = x7 at *
    refine docL_bump rfl 3 (.tmp 59) (.tmp 56) rfl (by kernel_rfl) g (cntT T) (sumT T) 4 (q + 1) (by decide) rfl rfl (DocRow.below (HA.out.below HB3.out) HGB.out) ?_
    intro w4 e1 e2
    show wpList Tryz.prog _ _ [] _ _
    have HCL : Hid (Clear w5 g) := (DocRow.below (HA.out.below HB3.out) HGB.out).clear
    have HX4 : Hid (Num .u32 4294967296 w4 (.slice pa pm pc) MM) := (HX3.out.below (Nat.le_refl _) HGB.out).but (by decide) HCL.out e2
    have HB4 : Hid (But g w w4) := (But.of g (HB3.out.thru HGB.out)).trans e2
    obtain ⟨nb, N2, sa, sm, sc, eV, q4, n4⟩ := id e1
    have hg4 : g < w4.heap.size := blk_lt q4
    have HIW : Hid (∀ W, Below w4.heap.size w4 W → DInt W (.agg #[.bool nb, .slice sa sm sc]) (sumT T)) := fun W hW => ⟨nb, N2, sa, sm, sc, rfl, n4.below (Nat.le_refl _) hW, eV⟩
    have HC4 : Hid (∀ W, Below w4.heap.size w4 W → W.cell? ⟨g, 5, none⟩ = some (.bool nb) ∧ W.cell? ⟨g, 6, none⟩ = some (.slice sa sm sc)) := fun W hW => ⟨cell_of_row _ g 5 _ _ _ (hW.blk q4 hg4), cell_of_row _ g 6 _ _ _ (hW.blk q4 hg4)⟩
    have HA4 : Hid (DocRow w4 g (upd (cntT T) 4 (q + 1)) (sumT T)) := e1
    clear e1 e2 q4 n4 hg4 eV s56 s59 hw2
    go_upto_region 9 with fail
    have h1 : once [(60, 0), (61, 1), (62, 2), (63, 3), (64, 4), (65, 5), (66, 6), (67, 7), (68, 8), (69, 9), (70, 10), (71, 11), (72, 12), (73, 13), (74, 14), (75, 15), (76, 16)] = true := by kernel_rfl
    have h2 : within [(60, 0), (61, 1), (62, 2), (63, 3), (64, 4), (65, 5), (66, 6), (67, 7), (68, 8), (69, 9), (70, 10), (71, 11), (72, 12), (73, 13), (74, 14), (75, 15), (76, 16)] 121 = true := by kernel_rfl
    let S : Nat → (Nat → Value) → World → Prop := fun i xs W => match i with
     | 0 => xs 0 = .pointer (some ⟨g, 0, none⟩)
     | 1 => xs 1 = .pointer (some ⟨g, 0, none⟩)
     | 2 => xs 2 = .pointer (some ⟨g, 0, none⟩)
     | 3 => xs 3 = .pointer (some ⟨g, 5, none⟩)
     | 4 => xs 4 = .agg #[.bool nb, .slice sa sm sc]
     | 5 => xs 5 = .int .u64 0
     | 6 => xs 6 = .bool false
     | 7 => xs 7 = .slice pa pm pc
     | 8 => xs 8 = .int .i64 E1
     | 9 => xs 9 = .int .i64 E2
     | 10 => xs 10 = .int .i64 (E1 + E2)
     | 11 => xs 11 = .int .i64 (n : Nat)
     | 12 => Num .u32 4294967296 W (xs 12) NN
     | 13 => DInt W (xs 13) V
     | 14 => DInt W (xs 14) (sumT T + V)
     | 15 => xs 15 = .pointer (some ⟨g, 0, none⟩)
     | 16 => xs 16 = .pointer (some ⟨g, 5, none⟩)
     | _ => True
    have hstab : ∀ j ys W W', S j ys W → Below W.heap.size W W' → S j ys W' := by
     intro j ys W W' h hb
     match j, h with
     | 0, h => exact h
     | 1, h => exact h
     | 2, h => exact h
     | 3, h => exact h
     | 4, h => exact h
     | 5, h => exact h
     | 6, h => exact h
     | 7, h => exact h
     | 8, h => exact h
     | 9, h => exact h
     | 10, h => exact h
     | 11, h => exact h
     | 12, h => exact h.below (Nat.le_refl _) hb
     | 13, h => exact h.below hb
     | 14, h => exact h.below hb
     | 15, h => exact h
     | 16, h => exact h
     | _ + 17, h => exact trivial
    refine wp_region_flow3T 17 18 4 [(60, 0), (61, 1), (62, 2), (63, 3), (64, 4), (65, 5), (66, 6), (67, 7), (68, 8), (69, 9), (70, 10), (71, 11), (72, 12), (73, 13), (74, 14), (75, 15), (76, 16)] [] S (fun _ W => Below w4.heap.size w4 W) ((Below.refl _ _).drew) (by kernel_rfl) (by kernel_rfl) (by kernel_rfl) (by decide) (by kernel_rfl) h1 (by kernel_rfl) ?_ ?_ ?_ ?_
    ·exact fun j hj => by cases hj
    ·intro j xs ys W e h
     match j, e, h with
     | 0, e, h => exact c_ (e 0 (.inl rfl)) h
     | 1, e, h => exact c_ (e 1 (.inl rfl)) h
     | 2, e, h => exact c_ (e 2 (.inl rfl)) h
     | 3, e, h => exact c_ (e 3 (.inl rfl)) h
     | 4, e, h => exact c_ (e 4 (.inl rfl)) h
     | 5, e, h => exact c_ (e 5 (.inl rfl)) h
     | 6, e, h => exact c_ (e 6 (.inl rfl)) h
     | 7, e, h => exact c_ (e 7 (.inl rfl)) h
     | 8, e, h => exact c_ (e 8 (.inl rfl)) h
     | 9, e, h => exact c_ (e 9 (.inl rfl)) h
     | 10, e, h => exact c_ (e 10 (.inl rfl)) h
     | 11, e, h => exact c_ (e 11 (.inl rfl)) h
     | 12, e, h => exact (congrArg (fun z => Num .u32 4294967296 W z _) (e 12 (.inl rfl))).mp h
     | 13, e, h => exact (congrArg (fun z => DInt W z _) (e 13 (.inl rfl))).mp h
     | 14, e, h => exact (congrArg (fun z => DInt W z _) (e 14 (.inl rfl))).mp h
     | 15, e, h => exact c_ (e 15 (.inl rfl)) h
     | 16, e, h => exact c_ (e 16 (.inl rfl)) h
     | _ + 17, e, h => exact trivial
    ·refine ⟨⟨⟨⟨⟨⟨⟨⟨⟨⟨⟨⟨⟨⟨⟨⟨⟨trivial, ?_⟩, ?_⟩, ?_⟩, ?_⟩, ?_⟩, ?_⟩, ?_⟩, ?_⟩, ?_⟩, ?_⟩, ?_⟩, ?_⟩, ?_⟩, ?_⟩, ?_⟩, ?_⟩, ?_⟩
     ·refine flow3_step _ (some 60) rfl rfl rfl h1 h2 gI gB hstab fun ac xs W Dn he hni hG hS K hK => ?_
      exact op_move (.tmp 0) (.inl rfl) (hK _ _ (he 0) bR nA)
     ·refine flow3_step _ (some 61) rfl rfl rfl h1 h2 gI gB hstab fun ac xs W Dn he hni hG hS K hK => ?_
      exact op_move (.tmp 0) (.inl rfl) (hK _ _ (he 0) bR nA)
     ·refine flow3_step _ (some 62) rfl rfl rfl h1 h2 gI gB hstab fun ac xs W Dn he hni hG hS K hK => ?_
      have e0 := (he 61).trans (hS 1 (by kernel_rfl))
      refine op_any (.nilCheck (.tmp 61)) rfl (.pointer (some ⟨g, 0, none⟩)) (fun o' ho' => ?_) (hK _ _ rfl bR nA)
      simp only [execOp, ho', e0]
      go_simp
     ·refine flow3_step _ (some 63) rfl rfl rfl h1 h2 gI gB hstab fun ac xs W Dn he hni hG hS K hK => ?_
      have e0 := (he 62).trans (hS 2 (by kernel_rfl))
      refine op_any (.fieldAddr 66 (.tmp 62) 1) rfl (.pointer (some ⟨g, 5, none⟩)) (fun o' ho' => ?_) (hK _ _ rfl bR nA)
      simp only [execOp, ho', e0]
      go_simp
     ·refine flow3_step _ (some 64) rfl rfl rfl h1 h2 gI gB hstab fun ac xs W Dn he hni hG hS K hK => ?_
      have hc5 := (HC4.out W hG).1
      have hc6 := (HC4.out W hG).2
      have e0 := (he 63).trans (hS 3 (by kernel_rfl))
      refine op_any (.load 64 (.tmp 63)) rfl (.agg #[.bool nb, .slice sa sm sc]) (fun o' ho' => ?_) (hK _ _ rfl bR nA)
      simp only [execOp, ho', e0]
      go_simp
     ·refine flow3_step _ (some 65) rfl rfl rfl h1 h2 gI gB hstab fun ac xs W Dn he hni hG hS K hK => ?_
      exact op_move (.tmp 10) (.inl rfl) (hK _ _ (he 10) bR nA)
     ·refine flow3_step _ (some 66) rfl rfl rfl h1 h2 gI gB hstab fun ac xs W Dn he hni hG hS K hK => ?_
      have e0 := (he 65).trans (hS 5 (by kernel_rfl))
      refine op_any (.binOp .neq 30 (.tmp 65) (.const (.int .u64 0)) 30) rfl (.bool false) (fun o' ho' => ?_) (hK _ _ rfl bR nA)
      simp only [execOp, ho', e0]
      go_simp
     ·refine flow3_step _ (some 67) rfl rfl rfl h1 h2 gI gB hstab fun ac xs W Dn he hni hG hS K hK => ?_
      exact op_move (.tmp 19) (.inl rfl) (hK _ _ (he 19) bR nA)
     ·refine flow3_step _ (some 68) rfl rfl rfl h1 h2 gI gB hstab fun ac xs W Dn he hni hG hS K hK => ?_
      exact op_move (.tmp 13) (.inl rfl) (hK _ _ (he 13) bR nA)
     ·refine flow3_step _ (some 69) rfl rfl rfl h1 h2 gI gB hstab fun ac xs W Dn he hni hG hS K hK => ?_
      exact op_move (.tmp 17) (.inl rfl) (hK _ _ (he 17) bR nA)
     ·refine flow3_step _ (some 70) rfl rfl rfl h1 h2 gI gB hstab fun ac xs W Dn he hni hG hS K hK => ?_
      have e0 := (he 68).trans (hS 8 (by kernel_rfl))
      have e1 := (he 69).trans (hS 9 (by kernel_rfl))
      refine op_any (.binOp .add 3 (.tmp 68) (.tmp 69) 3) rfl (.int .i64 (E1 + E2)) (fun o' ho' => ?_) (hK _ _ rfl bR nA)
      simp only [execOp, ho', e0, e1]
      go_simp
     ·refine flow3_step _ (some 71) rfl rfl rfl h1 h2 gI gB hstab fun ac xs W Dn he hni hG hS K hK => ?_
      have e0 := (he 70).trans (hS 10 (by kernel_rfl))
      refine op_any (.binOp .sub 3 (.tmp 70) (.const (.int .i64 (-2148))) 3) rfl (.int .i64 (n : Nat)) (fun o' ho' => ?_) (hK _ _ rfl bR nA)
      simp only [execOp, ho', e0]
      go_simp
     ·refine flow3_step _ (some 72) rfl rfl rfl h1 h2 gI gB hstab fun ac xs W Dn he hni hG hS K hK => ?_
      have e0 := (he 67).trans (hS 7 (by kernel_rfl))
      have e1 := (he 71).trans (hS 11 (by kernel_rfl))
      refine op_call 48 _ _ rfl _ (by simp only [List.map, e0, e1]) (by go_simp) (HLF.out W _ (HX4.out.below (Nat.le_refl _) hG)) ?_
      rintro e' W' ⟨u, rfl, hi', hb'⟩
      exact ⟨_, rfl, hK _ _ hi' hb' nA⟩
     ·refine flow3_step _ (some 73) rfl rfl rfl h1 h2 gI gB hstab fun ac xs W Dn he hni hG hS K hK => ?_
      have e0 := (he 66).trans (hS 6 (by kernel_rfl))
      have hn12 : Num .u32 4294967296 W (xs 12) NN := hS 12 (by kernel_rfl)
      obtain ⟨qa, qm, qc, hq⟩ := hn12.shape
      have e1 : ac.eval (.tmp 72) = .slice qa qm qc := (he 72).trans hq
      have hm : ((#[(0, Operand.tmp 66), (1, Operand.tmp 72)] : Array (Nat × Operand)).map fun (i, x) => (i, ac.eval x)).toList = [(0, .bool false), (1, .slice qa qm qc)] := by simp [e0, e1]
      have hbl : Tryz.prog.built 64 [(0, Value.bool false), (1, .slice qa qm qc)] = some #[.bool false, .slice qa qm qc] := by kernel_rfl
      refine wp_build 64 #[(0, .tmp 66), (1, .tmp 72)] rfl (by rw [hm, hbl]; rfl) ?_
      rw [hm, hbl]
      exact hK _ _ ⟨false, NN, qa, qm, qc, rfl, by rw [← hq]; exact hn12, HV.out⟩ bR nA
     ·refine flow3_step _ (some 74) rfl rfl rfl h1 h2 gI gB hstab fun ac xs W Dn he hni hG hS K hK => ?_
      have e0 := (he 64).trans (hS 4 (by kernel_rfl))
      have e1 : ac.eval (.tmp 73) = xs 13 := he 73
      refine op_call 47 _ _ rfl _ (by simp only [List.map, e0, e1]) (by go_simp) (HAD.out W _ _ (HIW.out W hG) (hS 13 (by kernel_rfl))) ?_
      rintro e' W' ⟨u, rfl, hi', hb'⟩
      exact ⟨_, rfl, hK _ _ hi' hb' nA⟩
     ·refine flow3_step _ (some 75) rfl rfl rfl h1 h2 gI gB hstab fun ac xs W Dn he hni hG hS K hK => ?_
      have e0 := (he 60).trans (hS 0 (by kernel_rfl))
      refine op_any (.nilCheck (.tmp 60)) rfl (.pointer (some ⟨g, 0, none⟩)) (fun o' ho' => ?_) (hK _ _ rfl bR nA)
      simp only [execOp, ho', e0]
      go_simp
     ·refine flow3_step _ (some 76) rfl rfl rfl h1 h2 gI gB hstab fun ac xs W Dn he hni hG hS K hK => ?_
      have e0 := (he 75).trans (hS 15 (by kernel_rfl))
      refine op_any (.fieldAddr 66 (.tmp 75) 1) rfl (.pointer (some ⟨g, 5, none⟩)) (fun o' ho' => ?_) (hK _ _ rfl bR nA)
      simp only [execOp, ho', e0]
      go_simp
    ·intro xs w9 Dn hall hG hS hD
     have HVV : Hid (DInt w9 (xs 14) (sumT T + V)) := hS 14 (by decide)
     have sp : xs 16 = _ := hS 16 (by decide)
     have HG5 : Hid (Below w4.heap.size w4 w9) := hG
     simp only [layAll, sp, List.setIfInBounds_toArray, List.set_cons_succ, List.set_cons_zero]
     clear hS hD hall hstab S hG h1 h2
     generalize xs 0 = x0 at *
     generalize xs 1 = x1 at *
     generalize xs 2 = x2 at *
     generalize xs 3 = x3 at *
     generalize xs 4 = x4 at *
     generalize xs 5 = x5 at *
     generalize xs 6 = x6 at *
     generalize xs 7 = x7 at *
     generalize xs 8 = x8 at *
     generalize xs 9 = x9 at *
     generalize xs 10 = x10 at *
     generalize xs 11 = x11 at *
     generalize xs 12 = x12 at *
     generalize xs 13 = x13 at *
     generalize xs 14 = x14 at *
     generalize xs 15 = x15 at *
     obtain ⟨ds, dn, da, dm, dc, hx, hn5, hV5⟩ := HVV.out
     refine docL_lay rfl 64 (.tmp 76) (.tmp 74) rfl (by kernel_rfl) g _ _ ds dn (.slice da dm dc) rfl hx hn5 (DocRow.below HA4.out HG5.out) ?_
     intro w6 e1 e2
     show wpList Tryz.prog _ _ [] _ _
     rw [← hV5] at e1
     have HB6 : Hid (But g w w6) := HB4.out.trans ((But.of g HG5.out).trans e2)
     have HA6 : Hid (DocT w6 g (T ++ [tmP x y])) := HEND.out _ e1
     clear e1 e2
     go_wp2
     first | exact bodyPost_end (d_void rfl _ _ _) rfl ⟨rfl, HA6.out, HB6.out⟩ | exact bodyPost_ret (d_void rfl _ _ _) rfl ⟨rfl, HA6.out, HB6.out⟩
  ·replace hxs : Go.bits .and .u64 (Go.bits .xor .u64 (x : Int) (y : Int)) 9223372036854775808 = 9223372036854775808 := hxs
   go_enter Tryz.func35, Tryz.ntmps35
   go_wp2_with (first | (go_at_call 62; (first | (with_reducible refine (HN1.out _).mono ?_) | (with_reducible refine (HN2.out _).mono ?_)); rintro e w' ⟨rfl, rfl⟩) | (go_at_call 46; (first | (with_reducible refine (HP1.out _).mono ?_) | (with_reducible refine (HP2.out _).mono ?_)); rintro e w' ⟨rfl, rfl⟩))
   (with_reducible refine (HO1.out _).mono ?_)
   rintro e w1 hq
   obtain ⟨aa, am, ac, rfl, hn1, hb⟩ := hq.shape
   have HB1 : Hid (Below w.heap.size w w1) := hb
   have HX1 : Hid (Num .u32 4294967296 w1 (.slice aa am ac) M1) := hn1
   clear hb hn1 hq
   go_wp2_with fail
   (with_reducible refine (HO2.out _).mono ?_)
   rintro e w2 hq
   obtain ⟨ba, bm, bc, rfl, hn1, hb⟩ := hq.shape
   have HB2 : Hid (Below w.heap.size w w2) := HB1.out.thru hb
   have HX2 : Hid (Num .u32 4294967296 w2 (.slice aa am ac) M1 ∧ Num .u32 4294967296 w2 (.slice ba bm bc) M2) := ⟨HX1.out.below (Nat.le_refl _) hb, hn1⟩
   clear hb hn1 hq
   go_wp2_with fail
   (with_reducible refine (HML.out _ _ _ HX2.out.1 HX2.out.2).mono ?_)
   rintro e w3 hq
   obtain ⟨pa, pm, pc, rfl, hn1, hb⟩ := hq.shape
   have HB3 : Hid (Below w.heap.size w w3) := HB2.out.thru hb
   have HX3 : Hid (Num .u32 4294967296 w3 (.slice pa pm pc) MM) := hn1
   clear hb hn1 hq HX1 HX2
   go_upto_region 8 with fail
   have h1 : once [(51, 0), (52, 1), (53, 2), (54, 3), (55, 4), (56, 5), (57, 6), (58, 7), (59, 8)] = true := by kernel_rfl
   have h2 : within [(51, 0), (52, 1), (53, 2), (54, 3), (55, 4), (56, 5), (57, 6), (58, 7), (59, 8)] 121 = true := by kernel_rfl
   let S : Nat → (Nat → Value) → World → Prop := fun i xs W => match i with
    | 0 => xs 0 = .pointer (some ⟨g, 0, none⟩)
    | 1 => xs 1 = .pointer (some ⟨g, 0, none⟩)
    | 2 => xs 2 = .pointer (some ⟨g, 0, none⟩)
    | 3 => xs 3 = .pointer (some ⟨g, 4, none⟩)
    | 4 => xs 4 = .int .i64 (q : Nat)
    | 5 => xs 5 = .int .i64 ((q : Int) + 1)
    | 6 => xs 6 = .pointer (some ⟨g, 0, none⟩)
    | 7 => xs 7 = .pointer (some ⟨g, 0, none⟩)
    | 8 => xs 8 = .pointer (some ⟨g, 4, none⟩)
    | _ => True
   have hstab : ∀ j ys W W', S j ys W → Below W.heap.size W W' → S j ys W' := by
    intro j ys W W' h hb
    match j, h with
    | 0, h => exact h
    | 1, h => exact h
    | 2, h => exact h
    | 3, h => exact h
    | 4, h => exact h
    | 5, h => exact h
    | 6, h => exact h
    | 7, h => exact h
    | 8, h => exact h
    | _ + 9, h => exact trivial
   refine wp_region_flow3T 9 10 4 [(51, 0), (52, 1), (53, 2), (54, 3), (55, 4), (56, 5), (57, 6), (58, 7), (59, 8)] [] S (fun _ W => Below w3.heap.size w3 W) ((Below.refl _ _).drew) (by kernel_rfl) (by kernel_rfl) (by kernel_rfl) (by decide) (by kernel_rfl) h1 (by kernel_rfl) ?_ ?_ ?_ ?_
   ·exact fun j hj => by cases hj
   ·intro j xs ys W e h
    match j, e, h with
    | 0, e, h => exact c_ (e 0 (.inl rfl)) h
    | 1, e, h => exact c_ (e 1 (.inl rfl)) h
    | 2, e, h => exact c_ (e 2 (.inl rfl)) h
    | 3, e, h => exact c_ (e 3 (.inl rfl)) h
    | 4, e, h => exact c_ (e 4 (.inl rfl)) h
    | 5, e, h => exact c_ (e 5 (.inl rfl)) h
    | 6, e, h => exact c_ (e 6 (.inl rfl)) h
    | 7, e, h => exact c_ (e 7 (.inl rfl)) h
    | 8, e, h => exact c_ (e 8 (.inl rfl)) h
    | _ + 9, e, h => exact trivial
   ·refine ⟨⟨⟨⟨⟨⟨⟨⟨⟨trivial, ?_⟩, ?_⟩, ?_⟩, ?_⟩, ?_⟩, ?_⟩, ?_⟩, ?_⟩, ?_⟩
    ·refine flow3_step _ (some 51) rfl rfl rfl h1 h2 gI gB hstab fun ac xs W Dn he hni hG hS K hK => ?_
     exact op_move (.tmp 0) (.inl rfl) (hK _ _ (he 0) bR nA)
    ·refine flow3_step _ (some 52) rfl rfl rfl h1 h2 gI gB hstab fun ac xs W Dn he hni hG hS K hK => ?_
     have e0 := (he 51).trans (hS 0 (by kernel_rfl))
     refine op_any (.nilCheck (.tmp 51)) rfl (.pointer (some ⟨g, 0, none⟩)) (fun o' ho' => ?_) (hK _ _ rfl bR nA)
     simp only [execOp, ho', e0]
     go_simp
    ·refine flow3_step _ (some 53) rfl rfl rfl h1 h2 gI gB hstab fun ac xs W Dn he hni hG hS K hK => ?_
     have e0 := (he 52).trans (hS 1 (by kernel_rfl))
     refine op_any (.fieldAddr 66 (.tmp 52) 0) rfl (.pointer (some ⟨g, 0, none⟩)) (fun o' ho' => ?_) (hK _ _ rfl bR nA)
     simp only [execOp, ho', e0]
     go_simp
    ·refine flow3_step _ (some 54) rfl rfl rfl h1 h2 gI gB hstab fun ac xs W Dn he hni hG hS K hK => ?_
     have e0 := (he 53).trans (hS 2 (by kernel_rfl))
     refine op_any (.indexAddr 60 (.tmp 53) (.const (.int .i64 4))) rfl (.pointer (some ⟨g, 4, none⟩)) (fun o' ho' => ?_) (hK _ _ rfl bR nA)
     simp only [execOp, ho', e0]
     go_simp
    ·refine flow3_step _ (some 55) rfl rfl rfl h1 h2 gI gB hstab fun ac xs W Dn he hni hG hS K hK => ?_
     have e0 := (he 54).trans (hS 3 (by kernel_rfl))
     refine op_any (.load 3 (.tmp 54)) rfl (.int .i64 (q : Nat)) (fun o' ho' => ?_) (hK _ _ rfl bR nA)
     simp only [execOp, ho', e0]
     have hc := HC.out W (HB3.out.thru hG)
     go_simp
    ·refine flow3_step _ (some 56) rfl rfl rfl h1 h2 gI gB hstab fun ac xs W Dn he hni hG hS K hK => ?_
     have e0 := (he 55).trans (hS 4 (by kernel_rfl))
     refine op_any (.binOp .add 3 (.tmp 55) (.const (.int .i64 1)) 3) rfl (.int .i64 ((q : Int) + 1)) (fun o' ho' => ?_) (hK _ _ rfl bR nA)
     simp only [execOp, ho', e0]
     go_simp
    ·refine flow3_step _ (some 57) rfl rfl rfl h1 h2 gI gB hstab fun ac xs W Dn he hni hG hS K hK => ?_
     have e0 := (he 51).trans (hS 0 (by kernel_rfl))
     refine op_any (.nilCheck (.tmp 51)) rfl (.pointer (some ⟨g, 0, none⟩)) (fun o' ho' => ?_) (hK _ _ rfl bR nA)
     simp only [execOp, ho', e0]
     go_simp
    ·refine flow3_step _ (some 58) rfl rfl rfl h1 h2 gI gB hstab fun ac xs W Dn he hni hG hS K hK => ?_
     have e0 := (he 57).trans (hS 6 (by kernel_rfl))
     refine op_any (.fieldAddr 66 (.tmp 57) 0) rfl (.pointer (some ⟨g, 0, none⟩)) (fun o' ho' => ?_) (hK _ _ rfl bR nA)
     simp only [execOp, ho', e0]
     go_simp
    ·refine flow3_step _ (some 59) rfl rfl rfl h1 h2 gI gB hstab fun ac xs W Dn he hni hG hS K hK => ?_
     have e0 := (he 58).trans (hS 7 (by kernel_rfl))
     refine op_any (.indexAddr 60 (.tmp 58) (.const (.int .i64 4))) rfl (.pointer (some ⟨g, 4, none⟩)) (fun o' ho' => ?_) (hK _ _ rfl bR nA)
     simp only [execOp, ho', e0]
     go_simp
   ·intro xs w5 Dn hall hG hS hD
    have s56 : xs 5 = _ := hS 5 (by decide)
    have s59 : xs 8 = _ := hS 8 (by decide)
    have HGB : Hid (Below w3.heap.size w3 w5) := hG
    simp only [layAll, s56, s59, List.setIfInBounds_toArray, List.set_cons_succ, List.set_cons_zero]
    clear hS hD hall hstab S hG h1 h2
    generalize xs 0 = x0 at *
    generalize xs 1 = x1 at *
    generalize xs 2 = x2 at *
    generalize xs 3 = x3 at *
    generalize xs 4 = x4 at *
    generalize xs 6 = x6 at *
    generalize xs 7 = x7 at *
    refine docL_bump rfl 3 (.tmp 59) (.tmp 56) rfl (by kernel_rfl) g (cntT T) (sumT T) 4 (q + 1) (by decide) rfl rfl (DocRow.below (HA.out.below HB3.out) HGB.out) ?_
    intro w4 e1 e2
    show wpList Tryz.prog _ _ [] _ _
    have HCL : Hid (Clear w5 g) := (DocRow.below (HA.out.below HB3.out) HGB.out).clear
    have HX4 : Hid (Num .u32 4294967296 w4 (.slice pa pm pc) MM) := (HX3.out.below (Nat.le_refl _) HGB.out).but (by decide) HCL.out e2
    have HB4 : Hid (But g w w4) := (But.of g (HB3.out.thru HGB.out)).trans e2
    obtain ⟨nb, N2, sa, sm, sc, eV, q4, n4⟩ := id e1
    have hg4 : g < w4.heap.size := blk_lt q4
    have HIW : Hid (∀ W, Below w4.heap.size w4 W → DInt W (.agg #[.bool nb, .slice sa sm sc]) (sumT T)) := fun W hW => ⟨nb, N2, sa, sm, sc, rfl, n4.below (Nat.le_refl _) hW, eV⟩
    have HC4 : Hid (∀ W, Below w4.heap.size w4 W → W.cell? ⟨g, 5, none⟩ = some (.bool nb) ∧ W.cell? ⟨g, 6, none⟩ = some (.slice sa sm sc)) := fun W hW => ⟨cell_of_row _ g 5 _ _ _ (hW.blk q4 hg4), cell_of_row _ g 6 _ _ _ (hW.blk q4 hg4)⟩
    have HA4 : Hid (DocRow w4 g (upd (cntT T) 4 (q + 1)) (sumT T)) := e1
    clear e1 e2 q4 n4 hg4 eV s56 s59 hw2
    go_upto_region 9 with fail
    have h1 : once [(60, 0), (61, 1), (62, 2), (63, 3), (64, 4), (65, 5), (66, 6), (67, 7), (68, 8), (69, 9), (70, 10), (71, 11), (72, 12), (73, 13), (74, 14), (75, 15), (76, 16)] = true := by kernel_rfl
    have h2 : within [(60, 0), (61, 1), (62, 2), (63, 3), (64, 4), (65, 5), (66, 6), (67, 7), (68, 8), (69, 9), (70, 10), (71, 11), (72, 12), (73, 13), (74, 14), (75, 15), (76, 16)] 121 = true := by kernel_rfl
    let S : Nat → (Nat → Value) → World → Prop := fun i xs W => match i with
     | 0 => xs 0 = .pointer (some ⟨g, 0, none⟩)
     | 1 => xs 1 = .pointer (some ⟨g, 0, none⟩)
     | 2 => xs 2 = .pointer (some ⟨g, 0, none⟩)
     | 3 => xs 3 = .pointer (some ⟨g, 5, none⟩)
     | 4 => xs 4 = .agg #[.bool nb, .slice sa sm sc]
     | 5 => xs 5 = .int .u64 9223372036854775808
     | 6 => xs 6 = .bool true
     | 7 => xs 7 = .slice pa pm pc
     | 8 => xs 8 = .int .i64 E1
     | 9 => xs 9 = .int .i64 E2
     | 10 => xs 10 = .int .i64 (E1 + E2)
     | 11 => xs 11 = .int .i64 (n : Nat)
     | 12 => Num .u32 4294967296 W (xs 12) NN
     | 13 => DInt W (xs 13) V
     | 14 => DInt W (xs 14) (sumT T + V)
     | 15 => xs 15 = .pointer (some ⟨g, 0, none⟩)
     | 16 => xs 16 = .pointer (some ⟨g, 5, none⟩)
     | _ => True
    have hstab : ∀ j ys W W', S j ys W → Below W.heap.size W W' → S j ys W' := by
     intro j ys W W' h hb
     match j, h with
     | 0, h => exact h
     | 1, h => exact h
     | 2, h => exact h
     | 3, h => exact h
     | 4, h => exact h
     | 5, h => exact h
     | 6, h => exact h
     | 7, h => exact h
     | 8, h => exact h
     | 9, h => exact h
     | 10, h => exact h
     | 11, h => exact h
     | 12, h => exact h.below (Nat.le_refl _) hb
     | 13, h => exact h.below hb
     | 14, h => exact h.below hb
     | 15, h => exact h
     | 16, h => exact h
     | _ + 17, h => exact trivial
    refine wp_region_flow3T 17 18 4 [(60, 0), (61, 1), (62, 2), (63, 3), (64, 4), (65, 5), (66, 6), (67, 7), (68, 8), (69, 9), (70, 10), (71, 11), (72, 12), (73, 13), (74, 14), (75, 15), (76, 16)] [] S (fun _ W => Below w4.heap.size w4 W) ((Below.refl _ _).drew) (by kernel_rfl) (by kernel_rfl) (by kernel_rfl) (by decide) (by kernel_rfl) h1 (by kernel_rfl) ?_ ?_ ?_ ?_
    ·exact fun j hj => by cases hj
    ·intro j xs ys W e h
     match j, e, h with
     | 0, e, h => exact c_ (e 0 (.inl rfl)) h
     | 1, e, h => exact c_ (e 1 (.inl rfl)) h
     | 2, e, h => exact c_ (e 2 (.inl rfl)) h
     | 3, e, h => exact c_ (e 3 (.inl rfl)) h
     | 4, e, h => exact c_ (e 4 (.inl rfl)) h
     | 5, e, h => exact c_ (e 5 (.inl rfl)) h
     | 6, e, h => exact c_ (e 6 (.inl rfl)) h
     | 7, e, h => exact c_ (e 7 (.inl rfl)) h
     | 8, e, h => exact c_ (e 8 (.inl rfl)) h
     | 9, e, h => exact c_ (e 9 (.inl rfl)) h
     | 10, e, h => exact c_ (e 10 (.inl rfl)) h
     | 11, e, h => exact c_ (e 11 (.inl rfl)) h
     | 12, e, h => exact (congrArg (fun z => Num .u32 4294967296 W z _) (e 12 (.inl rfl))).mp h
     | 13, e, h => exact (congrArg (fun z => DInt W z _) (e 13 (.inl rfl))).mp h
     | 14, e, h => exact (congrArg (fun z => DInt W z _) (e 14 (.inl rfl))).mp h
     | 15, e, h => exact c_ (e 15 (.inl rfl)) h
     | 16, e, h => exact c_ (e 16 (.inl rfl)) h
     | _ + 17, e, h => exact trivial
    ·refine ⟨⟨⟨⟨⟨⟨⟨⟨⟨⟨⟨⟨⟨⟨⟨⟨⟨trivial, ?_⟩, ?_⟩, ?_⟩, ?_⟩, ?_⟩, ?_⟩, ?_⟩, ?_⟩, ?_⟩, ?_⟩, ?_⟩, ?_⟩, ?_⟩, ?_⟩, ?_⟩, ?_⟩, ?_⟩
     ·refine flow3_step _ (some 60) rfl rfl rfl h1 h2 gI gB hstab fun ac xs W Dn he hni hG hS K hK => ?_
      exact op_move (.tmp 0) (.inl rfl) (hK _ _ (he 0) bR nA)
     ·refine flow3_step _ (some 61) rfl rfl rfl h1 h2 gI gB hstab fun ac xs W Dn he hni hG hS K hK => ?_
      exact op_move (.tmp 0) (.inl rfl) (hK _ _ (he 0) bR nA)
     ·refine flow3_step _ (some 62) rfl rfl rfl h1 h2 gI gB hstab fun ac xs W Dn he hni hG hS K hK => ?_
      have e0 := (he 61).trans (hS 1 (by kernel_rfl))
      refine op_any (.nilCheck (.tmp 61)) rfl (.pointer (some ⟨g, 0, none⟩)) (fun o' ho' => ?_) (hK _ _ rfl bR nA)
      simp only [execOp, ho', e0]
      go_simp
     ·refine flow3_step _ (some 63) rfl rfl rfl h1 h2 gI gB hstab fun ac xs W Dn he hni hG hS K hK => ?_
      have e0 := (he 62).trans (hS 2 (by kernel_rfl))
      refine op_any (.fieldAddr 66 (.tmp 62) 1) rfl (.pointer (some ⟨g, 5, none⟩)) (fun o' ho' => ?_) (hK _ _ rfl bR nA)
      simp only [execOp, ho', e0]
      go_simp
     ·refine flow3_step _ (some 64) rfl rfl rfl h1 h2 gI gB hstab fun ac xs W Dn he hni hG hS K hK => ?_
      have hc5 := (HC4.out W hG).1
      have hc6 := (HC4.out W hG).2
      have e0 := (he 63).trans (hS 3 (by kernel_rfl))
      refine op_any (.load 64 (.tmp 63)) rfl (.agg #[.bool nb, .slice sa sm sc]) (fun o' ho' => ?_) (hK _ _ rfl bR nA)
      simp only [execOp, ho', e0]
      go_simp
     ·refine flow3_step _ (some 65) rfl rfl rfl h1 h2 gI gB hstab fun ac xs W Dn he hni hG hS K hK => ?_
      exact op_move (.tmp 10) (.inl rfl) (hK _ _ (he 10) bR nA)
     ·refine flow3_step _ (some 66) rfl rfl rfl h1 h2 gI gB hstab fun ac xs W Dn he hni hG hS K hK => ?_
      have e0 := (he 65).trans (hS 5 (by kernel_rfl))
      refine op_any (.binOp .neq 30 (.tmp 65) (.const (.int .u64 0)) 30) rfl (.bool true) (fun o' ho' => ?_) (hK _ _ rfl bR nA)
      simp only [execOp, ho', e0]
      go_simp
     ·refine flow3_step _ (some 67) rfl rfl rfl h1 h2 gI gB hstab fun ac xs W Dn he hni hG hS K hK => ?_
      exact op_move (.tmp 19) (.inl rfl) (hK _ _ (he 19) bR nA)
     ·refine flow3_step _ (some 68) rfl rfl rfl h1 h2 gI gB hstab fun ac xs W Dn he hni hG hS K hK => ?_
      exact op_move (.tmp 13) (.inl rfl) (hK _ _ (he 13) bR nA)
     ·refine flow3_step _ (some 69) rfl rfl rfl h1 h2 gI gB hstab fun ac xs W Dn he hni hG hS K hK => ?_
      exact op_move (.tmp 17) (.inl rfl) (hK _ _ (he 17) bR nA)
     ·refine flow3_step _ (some 70) rfl rfl rfl h1 h2 gI gB hstab fun ac xs W Dn he hni hG hS K hK => ?_
      have e0 := (he 68).trans (hS 8 (by kernel_rfl))
      have e1 := (he 69).trans (hS 9 (by kernel_rfl))
      refine op_any (.binOp .add 3 (.tmp 68) (.tmp 69) 3) rfl (.int .i64 (E1 + E2)) (fun o' ho' => ?_) (hK _ _ rfl bR nA)
      simp only [execOp, ho', e0, e1]
      go_simp
     ·refine flow3_step _ (some 71) rfl rfl rfl h1 h2 gI gB hstab fun ac xs W Dn he hni hG hS K hK => ?_
      have e0 := (he 70).trans (hS 10 (by kernel_rfl))
      refine op_any (.binOp .sub 3 (.tmp 70) (.const (.int .i64 (-2148))) 3) rfl (.int .i64 (n : Nat)) (fun o' ho' => ?_) (hK _ _ rfl bR nA)
      simp only [execOp, ho', e0]
      go_simp
     ·refine flow3_step _ (some 72) rfl rfl rfl h1 h2 gI gB hstab fun ac xs W Dn he hni hG hS K hK => ?_
      have e0 := (he 67).trans (hS 7 (by kernel_rfl))
      have e1 := (he 71).trans (hS 11 (by kernel_rfl))
      refine op_call 48 _ _ rfl _ (by simp only [List.map, e0, e1]) (by go_simp) (HLF.out W _ (HX4.out.below (Nat.le_refl _) hG)) ?_
      rintro e' W' ⟨u, rfl, hi', hb'⟩
      exact ⟨_, rfl, hK _ _ hi' hb' nA⟩
     ·refine flow3_step _ (some 73) rfl rfl rfl h1 h2 gI gB hstab fun ac xs W Dn he hni hG hS K hK => ?_
      have e0 := (he 66).trans (hS 6 (by kernel_rfl))
      have hn12 : Num .u32 4294967296 W (xs 12) NN := hS 12 (by kernel_rfl)
      obtain ⟨qa, qm, qc, hq⟩ := hn12.shape
      have e1 : ac.eval (.tmp 72) = .slice qa qm qc := (he 72).trans hq
      have hm : ((#[(0, Operand.tmp 66), (1, Operand.tmp 72)] : Array (Nat × Operand)).map fun (i, x) => (i, ac.eval x)).toList = [(0, .bool true), (1, .slice qa qm qc)] := by simp [e0, e1]
      have hbl : Tryz.prog.built 64 [(0, Value.bool true), (1, .slice qa qm qc)] = some #[.bool true, .slice qa qm qc] := by kernel_rfl
      refine wp_build 64 #[(0, .tmp 66), (1, .tmp 72)] rfl (by rw [hm, hbl]; rfl) ?_
      rw [hm, hbl]
      exact hK _ _ ⟨true, NN, qa, qm, qc, rfl, by rw [← hq]; exact hn12, HV.out⟩ bR nA
     ·refine flow3_step _ (some 74) rfl rfl rfl h1 h2 gI gB hstab fun ac xs W Dn he hni hG hS K hK => ?_
      have e0 := (he 64).trans (hS 4 (by kernel_rfl))
      have e1 : ac.eval (.tmp 73) = xs 13 := he 73
      refine op_call 47 _ _ rfl _ (by simp only [List.map, e0, e1]) (by go_simp) (HAD.out W _ _ (HIW.out W hG) (hS 13 (by kernel_rfl))) ?_
      rintro e' W' ⟨u, rfl, hi', hb'⟩
      exact ⟨_, rfl, hK _ _ hi' hb' nA⟩
     ·refine flow3_step _ (some 75) rfl rfl rfl h1 h2 gI gB hstab fun ac xs W Dn he hni hG hS K hK => ?_
      have e0 := (he 60).trans (hS 0 (by kernel_rfl))
      refine op_any (.nilCheck (.tmp 60)) rfl (.pointer (some ⟨g, 0, none⟩)) (fun o' ho' => ?_) (hK _ _ rfl bR nA)
      simp only [execOp, ho', e0]
      go_simp
     ·refine flow3_step _ (some 76) rfl rfl rfl h1 h2 gI gB hstab fun ac xs W Dn he hni hG hS K hK => ?_
      have e0 := (he 75).trans (hS 15 (by kernel_rfl))
      refine op_any (.fieldAddr 66 (.tmp 75) 1) rfl (.pointer (some ⟨g, 5, none⟩)) (fun o' ho' => ?_) (hK _ _ rfl bR nA)
      simp only [execOp, ho', e0]
      go_simp
    ·intro xs w9 Dn hall hG hS hD
     have HVV : Hid (DInt w9 (xs 14) (sumT T + V)) := hS 14 (by decide)
     have sp : xs 16 = _ := hS 16 (by decide)
     have HG5 : Hid (Below w4.heap.size w4 w9) := hG
     simp only [layAll, sp, List.setIfInBounds_toArray, List.set_cons_succ, List.set_cons_zero]
     clear hS hD hall hstab S hG h1 h2
     generalize xs 0 = x0 at *
     generalize xs 1 = x1 at *
     generalize xs 2 = x2 at *
     generalize xs 3 = x3 at *
     generalize xs 4 = x4 at *
     generalize xs 5 = x5 at *
     generalize xs 6 = x6 at *
     generalize xs 7 = x7 at *
     generalize xs 8 = x8 at *
     generalize xs 9 = x9 at *
     generalize xs 10 = x10 at *
     generalize xs 11 = x11 at *
     generalize xs 12 = x12 at *
     generalize xs 13 = x13 at *
     generalize xs 14 = x14 at *
     generalize xs 15 = x15 at *
     obtain ⟨ds, dn, da, dm, dc, hx, hn5, hV5⟩ := HVV.out
     refine docL_lay rfl 64 (.tmp 76) (.tmp 74) rfl (by kernel_rfl) g _ _ ds dn (.slice da dm dc) rfl hx hn5 (DocRow.below HA4.out HG5.out) ?_
     intro w6 e1 e2
     show wpList Tryz.prog _ _ [] _ _
     rw [← hV5] at e1
     have HB6 : Hid (But g w w6) := HB4.out.trans ((But.of g HG5.out).trans e2)
     have HA6 : Hid (DocT w6 g (T ++ [tmP x y])) := HEND.out _ e1
     clear e1 e2
     go_wp2
     first | exact bodyPost_end (d_void rfl _ _ _) rfl ⟨rfl, HA6.out, HB6.out⟩ | exact bodyPost_ret (d_void rfl _ _ _) rfl ⟨rfl, HA6.out, HB6.out⟩
 all_goals
  obtain ⟨p1, p2⟩ := pos_cases x hix hzx
  obtain ⟨p3, p4⟩ := pos_cases y hiy hzy
  rw [hnx] at HN1
  rw [hny] at HN2
  have hv0 : zeroB x = true ∨ zeroB y = true → valB x * valB y = 0 := fun h => by
   rcases h with h | h
   ·have : valB x = 0 := by unfold valB; rw [of_decide_eq_true h, rv_zero]; split <;> rfl
    rw [this]; simp
   ·have : valB y = 0 := by unfold valB; rw [of_decide_eq_true h, rv_zero]; split <;> rfl
    rw [this]; simp
  have g1 : Go.bits .or .u64 0 9218868437227405312 = 9218868437227405312 := by decide
  have g2 : Go.bits .or .u64 9223372036854775808 9218868437227405312 = 18442240474082181120 := by decide
  cases σ
  all_goals
   first
    | replace hxs : Go.bits .and .u64 (Go.bits .xor .u64 (x : Int) (y : Int)) 9223372036854775808 = 0 := hxs
      have hq : tmS 9221120237041090560 = tmP x y := by rw [hTP]; unfold psrt pN; rw [hnx, hny, hix, hiy, hzx, hzy, hfx, hfy]; exact (show tmS 9221120237041090560 = (0, 0) by decide)
      have HP : Hid (Calls Tryz.prog 61 #[.pointer (some ⟨g, 0, none⟩), .int .u64 9221120237041090560] w fun e w' => e = .returned (.tuple #[]) ∧ DocT w' g (T ++ [tmP x y]) ∧ But g w w') := HPUT.out 9221120237041090560 (by unfold W64; decide) hq
      clear hq HPUT hTP hσ hr hT hfx hfy hix hiy hzx hzy hnx hny hv0
      go_enter Tryz.func35, Tryz.ntmps35
      go_wp2_with (go_at_call 62; (first | (with_reducible refine (HN1.out _).mono ?_) | (with_reducible refine (HN2.out _).mono ?_)); rintro e w' ⟨rfl, rfl⟩)
      (with_reducible refine Calls.mono HP.out ?_)
      rintro e w3 ⟨rfl, ha, hb⟩
      have HE : Hid (DocT w3 g (T ++ [tmP x y]) ∧ But g w w3) := ⟨ha, hb⟩
      clear ha hb
      go_wp2
      first | exact bodyPost_end (d_void rfl _ _ _) rfl ⟨rfl, HE.out.1, HE.out.2⟩ | exact bodyPost_ret (d_void rfl _ _ _) rfl ⟨rfl, HE.out.1, HE.out.2⟩
    | replace hxs : Go.bits .and .u64 (Go.bits .xor .u64 (x : Int) (y : Int)) 9223372036854775808 = 9223372036854775808 := hxs
      have hq : tmS 9221120237041090560 = tmP x y := by rw [hTP]; unfold psrt pN; rw [hnx, hny, hix, hiy, hzx, hzy, hfx, hfy]; exact (show tmS 9221120237041090560 = (0, 0) by decide)
      have HP : Hid (Calls Tryz.prog 61 #[.pointer (some ⟨g, 0, none⟩), .int .u64 9221120237041090560] w fun e w' => e = .returned (.tuple #[]) ∧ DocT w' g (T ++ [tmP x y]) ∧ But g w w') := HPUT.out 9221120237041090560 (by unfold W64; decide) hq
      clear hq HPUT hTP hσ hr hT hfx hfy hix hiy hzx hzy hnx hny hv0
      go_enter Tryz.func35, Tryz.ntmps35
      go_wp2_with (go_at_call 62; (first | (with_reducible refine (HN1.out _).mono ?_) | (with_reducible refine (HN2.out _).mono ?_)); rintro e w' ⟨rfl, rfl⟩)
      (with_reducible refine Calls.mono HP.out ?_)
      rintro e w3 ⟨rfl, ha, hb⟩
      have HE : Hid (DocT w3 g (T ++ [tmP x y]) ∧ But g w w3) := ⟨ha, hb⟩
      clear ha hb
      go_wp2
      first | exact bodyPost_end (d_void rfl _ _ _) rfl ⟨rfl, HE.out.1, HE.out.2⟩ | exact bodyPost_ret (d_void rfl _ _ _) rfl ⟨rfl, HE.out.1, HE.out.2⟩
    | replace hxs : Go.bits .and .u64 (Go.bits .xor .u64 (x : Int) (y : Int)) 9223372036854775808 = 0 := hxs
      have hq : tmS 9218868437227405312 = tmP x y := by
       have ht := tm_inf false
       rw [hTP]; unfold psrt pN; rw [hnx, hny, hix, hiy, hzx, hzy, hfx, hfy, ← hσ]
       exact ht
      have HP : Hid (Calls Tryz.prog 61 #[.pointer (some ⟨g, 0, none⟩), .int .u64 9218868437227405312] w fun e w' => e = .returned (.tuple #[]) ∧ DocT w' g (T ++ [tmP x y]) ∧ But g w w') := HPUT.out 9218868437227405312 (by unfold W64; decide) hq
      clear hq HPUT hTP hσ hr hT hfx hfy hix hiy hzx hzy hnx hny hv0
      go_enter Tryz.func35, Tryz.ntmps35
      go_wp2_with (go_at_call 62; (first | (with_reducible refine (HN1.out _).mono ?_) | (with_reducible refine (HN2.out _).mono ?_)); rintro e w' ⟨rfl, rfl⟩)
      (with_reducible refine Calls.mono HP.out ?_)
      rintro e w3 ⟨rfl, ha, hb⟩
      have HE : Hid (DocT w3 g (T ++ [tmP x y]) ∧ But g w w3) := ⟨ha, hb⟩
      clear ha hb
      go_wp2
      first | exact bodyPost_end (d_void rfl _ _ _) rfl ⟨rfl, HE.out.1, HE.out.2⟩ | exact bodyPost_ret (d_void rfl _ _ _) rfl ⟨rfl, HE.out.1, HE.out.2⟩
    | replace hxs : Go.bits .and .u64 (Go.bits .xor .u64 (x : Int) (y : Int)) 9223372036854775808 = 9223372036854775808 := hxs
      have hq : tmS 18442240474082181120 = tmP x y := by
       have ht := tm_inf true
       rw [hTP]; unfold psrt pN; rw [hnx, hny, hix, hiy, hzx, hzy, hfx, hfy, ← hσ]
       exact ht
      have HP : Hid (Calls Tryz.prog 61 #[.pointer (some ⟨g, 0, none⟩), .int .u64 18442240474082181120] w fun e w' => e = .returned (.tuple #[]) ∧ DocT w' g (T ++ [tmP x y]) ∧ But g w w') := HPUT.out 18442240474082181120 (by unfold W64; decide) hq
      clear hq HPUT hTP hσ hr hT hfx hfy hix hiy hzx hzy hnx hny hv0
      go_enter Tryz.func35, Tryz.ntmps35
      go_wp2_with (go_at_call 62; (first | (with_reducible refine (HN1.out _).mono ?_) | (with_reducible refine (HN2.out _).mono ?_)); rintro e w' ⟨rfl, rfl⟩)
      (with_reducible refine Calls.mono HP.out ?_)
      rintro e w3 ⟨rfl, ha, hb⟩
      have HE : Hid (DocT w3 g (T ++ [tmP x y]) ∧ But g w w3) := ⟨ha, hb⟩
      clear ha hb
      go_wp2
      first | exact bodyPost_end (d_void rfl _ _ _) rfl ⟨rfl, HE.out.1, HE.out.2⟩ | exact bodyPost_ret (d_void rfl _ _ _) rfl ⟨rfl, HE.out.1, HE.out.2⟩
    | replace hxs : Go.bits .and .u64 (Go.bits .xor .u64 (x : Int) (y : Int)) 9223372036854775808 = 0 := hxs
      have hq : tmS 0 = tmP x y := by
       have ht := tm_zero false
       rw [hTP]; unfold psrt pN; rw [hnx, hny, hix, hiy, hzx, hzy, hfx, hfy, ← hσ]
       rw [show (if (true && true) = true then valB x * valB y else 0) = valB x * valB y from rfl, hv0 (by first | exact .inl hzx | exact .inr hzy)]; exact ht
      have HP : Hid (Calls Tryz.prog 61 #[.pointer (some ⟨g, 0, none⟩), .int .u64 0] w fun e w' => e = .returned (.tuple #[]) ∧ DocT w' g (T ++ [tmP x y]) ∧ But g w w') := HPUT.out 0 (by unfold W64; decide) hq
      clear hq HPUT hTP hσ hr hT hfx hfy hix hiy hzx hzy hnx hny hv0
      go_enter Tryz.func35, Tryz.ntmps35
      go_wp2_with (go_at_call 62; (first | (with_reducible refine (HN1.out _).mono ?_) | (with_reducible refine (HN2.out _).mono ?_)); rintro e w' ⟨rfl, rfl⟩)
      (with_reducible refine Calls.mono HP.out ?_)
      rintro e w3 ⟨rfl, ha, hb⟩
      have HE : Hid (DocT w3 g (T ++ [tmP x y]) ∧ But g w w3) := ⟨ha, hb⟩
      clear ha hb
      go_wp2
      first | exact bodyPost_end (d_void rfl _ _ _) rfl ⟨rfl, HE.out.1, HE.out.2⟩ | exact bodyPost_ret (d_void rfl _ _ _) rfl ⟨rfl, HE.out.1, HE.out.2⟩
    | replace hxs : Go.bits .and .u64 (Go.bits .xor .u64 (x : Int) (y : Int)) 9223372036854775808 = 9223372036854775808 := hxs
      have hq : tmS 9223372036854775808 = tmP x y := by
       have ht := tm_zero true
       rw [hTP]; unfold psrt pN; rw [hnx, hny, hix, hiy, hzx, hzy, hfx, hfy, ← hσ]
       rw [show (if (true && true) = true then valB x * valB y else 0) = valB x * valB y from rfl, hv0 (by first | exact .inl hzx | exact .inr hzy)]; exact ht
      have HP : Hid (Calls Tryz.prog 61 #[.pointer (some ⟨g, 0, none⟩), .int .u64 9223372036854775808] w fun e w' => e = .returned (.tuple #[]) ∧ DocT w' g (T ++ [tmP x y]) ∧ But g w w') := HPUT.out 9223372036854775808 (by unfold W64; decide) hq
      clear hq HPUT hTP hσ hr hT hfx hfy hix hiy hzx hzy hnx hny hv0
      go_enter Tryz.func35, Tryz.ntmps35
      go_wp2_with (go_at_call 62; (first | (with_reducible refine (HN1.out _).mono ?_) | (with_reducible refine (HN2.out _).mono ?_)); rintro e w' ⟨rfl, rfl⟩)
      (with_reducible refine Calls.mono HP.out ?_)
      rintro e w3 ⟨rfl, ha, hb⟩
      have HE : Hid (DocT w3 g (T ++ [tmP x y]) ∧ But g w w3) := ⟨ha, hb⟩
      clear ha hb
      go_wp2
      first | exact bodyPost_end (d_void rfl _ _ _) rfl ⟨rfl, HE.out.1, HE.out.2⟩ | exact bodyPost_ret (d_void rfl _ _ _) rfl ⟨rfl, HE.out.1, HE.out.2⟩
theorem num_len0 {k : IntKind} {B : Nat} {w : World} {a : Option Addr} {n c M : Nat} (h : Num k B w (.slice a n c) M) (hB : 0 < B) : M = 0 ↔ n = 0 := by
 obtain ⟨xs, ⟨a', n', c', he, h1, -⟩, rfl, h3⟩ := h
 cases he
 rw [norm_zero h3 hB, h1]
set_option maxHeartbeats 2000000 in
theorem dcount_v {g : Nat} {T : List Term1} (w : World) (h : DocT w g T) (hT : FitD T) : Calls Tryz.prog 65 #[.pointer (some ⟨g, 0, none⟩)] w fun e w' => e = .returned (.int .i64 (T.length : Nat)) ∧ w = w' := by
 have hall := cnt_all hT.1
 have hb := hT.2.2
 have k0 := DocRow.cell h (show 0 < 5 by decide)
 have k1 := DocRow.cell h (show 1 < 5 by decide)
 have k2 := DocRow.cell h (show 2 < 5 by decide)
 have k3 := DocRow.cell h (show 3 < 5 by decide)
 have k4 := DocRow.cell h (show 4 < 5 by decide)
 obtain ⟨c0, e0⟩ : ∃ c, c = cntT T 0 := ⟨_, rfl⟩
 obtain ⟨c1, e1⟩ : ∃ c, c = cntT T 1 := ⟨_, rfl⟩
 obtain ⟨c2, e2⟩ : ∃ c, c = cntT T 2 := ⟨_, rfl⟩
 obtain ⟨c3, e3⟩ : ∃ c, c = cntT T 3 := ⟨_, rfl⟩
 obtain ⟨c4, e4⟩ : ∃ c, c = cntT T 4 := ⟨_, rfl⟩
 rw [← e0, ← e1, ← e2, ← e3, ← e4] at hall
 rw [← e0] at k0
 rw [← e1] at k1
 rw [← e2] at k2
 rw [← e3] at k3
 rw [← e4] at k4
 obtain ⟨L, hL⟩ : ∃ L, L = T.length := ⟨_, rfl⟩
 rw [← hL] at hb hall ⊢
 have HL : Hid (c0 + c1 + c2 + c3 + c4 = L ∧ L < 4611686018427387904) := ⟨hall, hb⟩
 clear h hall hb hL e0 e1 e2 e3 e4 hT
 go_enter Tryz.func65, Tryz.ntmps65
 go_wp2_with fail
 go_loopw [3, 4] (fun n i wr => ∃ k : Nat, k ≤ 5 ∧ i = .int .i64 (k : Nat) ∧ wr = w ∧ n = .int .i64 ((([c0, c1, c2, c3, c4].take k).sum : Nat) : Int)) (fun _ i _ => 5 - (intOf i).toNat)
 case atStart => exact ⟨0, Nat.zero_le _, rfl, by first | exact trivial | rfl, rfl⟩
 case round =>
  obtain ⟨k, hk, rfl, rfl, rfl⟩ := hrel
  have hL1 := HL.out.1
  have hL2 := HL.out.2
  match k, hk with
  | 0, _ =>
    simp only [List.take, List.sum_nil]
    go_wp2
    go_roundw
    case rel => exact ⟨1, by omega, by first | rfl | decide, by first | exact trivial | rfl, by refine congrArg (Value.int .i64) ?_; simp only [List.take, List.sum_cons, List.sum_nil]; omega⟩
    case measure => simp [intOf]
  | 1, _ =>
    simp only [List.take, List.sum_cons, List.sum_nil, Nat.add_zero]
    go_wp2
    go_roundw
    case rel => exact ⟨2, by omega, by first | rfl | decide, by first | exact trivial | rfl, by refine congrArg (Value.int .i64) ?_; simp only [List.take, List.sum_cons, List.sum_nil]; omega⟩
    case measure => simp [intOf]
  | 2, _ =>
    simp only [List.take, List.sum_cons, List.sum_nil, Nat.add_zero]
    go_wp2
    go_roundw
    case rel => exact ⟨3, by omega, by first | rfl | decide, by first | exact trivial | rfl, by refine congrArg (Value.int .i64) ?_; simp only [List.take, List.sum_cons, List.sum_nil]; omega⟩
    case measure => simp [intOf]
  | 3, _ =>
    simp only [List.take, List.sum_cons, List.sum_nil, Nat.add_zero]
    go_wp2
    go_roundw
    case rel => exact ⟨4, by omega, by first | rfl | decide, by first | exact trivial | rfl, by refine congrArg (Value.int .i64) ?_; simp only [List.take, List.sum_cons, List.sum_nil]; omega⟩
    case measure => simp [intOf]
  | 4, _ =>
    simp only [List.take, List.sum_cons, List.sum_nil, Nat.add_zero]
    go_wp2
    go_roundw
    case rel => exact ⟨5, by omega, by first | rfl | decide, by first | exact trivial | rfl, by refine congrArg (Value.int .i64) ?_; simp only [List.take, List.sum_cons, List.sum_nil]; omega⟩
    case measure => simp [intOf]
  | 5, _ =>
    simp only [List.take, List.sum_cons, List.sum_nil, Nat.add_zero]
    go_wp2
    go_ret
    exact ⟨ret_int (by omega), rfl⟩
def spF (c : Nat → Nat) (V : Int) : Bool := spcI c || decide (V = 0)
def spV (c : Nat → Nat) (V : Int) : Nat := if spcI c = true then spcB c else if V = 0 then nilB c else 0
theorem sp_spc {c : Nat → Nat} {V : Int} {b : Nat} (h : spcI c = true) (hb : spcB c = b) : spV c V = b ∧ spF c V = true := by unfold spV spF; rw [h, if_pos rfl]; exact ⟨hb, rfl⟩
theorem sp_tot {c : Nat → Nat} {V : Int} (h : spcI c = false) (h0 : V ≠ 0) : spV c V = 0 ∧ spF c V = false := by unfold spV spF; simp [h, h0]
theorem sp_nil {c : Nat → Nat} {V : Int} (h : spcI c = false) (h0 : V = 0) : spV c V = nilB c ∧ spF c V = true := by unfold spV spF; simp [h, h0]
set_option maxHeartbeats 4000000 in
theorem special_v {g : Nat} {T : List Term1} (w : World) (h : DocT w g T) (hT : FitD T) :
  Calls Tryz.prog 37 #[.pointer (some ⟨g, 0, none⟩)] w fun e w' => e = .returned (.tuple #[.int .u64 (spV (cntT T) (sumT T) : Nat), .bool (spF (cntT T) (sumT T))]) ∧ Below w.heap.size w w' := by
 have hall := cnt_all hT.1
 have HCT : Hid (∀ W, Below w.heap.size w W → Calls Tryz.prog 65 #[.pointer (some ⟨g, 0, none⟩)] W fun e w' => e = .returned (.int .i64 (T.length : Nat)) ∧ w' = W) := fun W hW => (dcount_v W (h.below hW) hT).mono fun e w' ⟨h1, h2⟩ => ⟨h1, h2.symm⟩
 obtain ⟨ng, N, a, m, q, hsg, h1, hnum⟩ := id h
 have hz := num_len0 hnum (by decide)
 obtain ⟨V, hV⟩ : ∃ V, V = sumT T := ⟨_, rfl⟩
 obtain ⟨c, hc⟩ : ∃ c, c = cntT T := ⟨_, rfl⟩
 obtain ⟨L, hL⟩ : ∃ L, L = T.length := ⟨_, rfl⟩
 have hLb : L < 4611686018427387904 := by rw [hL]; exact hT.2.2
 rw [← hL] at HCT hall
 rw [← hV] at hsg ⊢
 rw [← hc] at hall h1 ⊢
 have hVN : V = 0 ↔ N = 0 := by rw [hsg]; exact sg_zero _ _
 obtain ⟨c0, e0⟩ : ∃ k, k = c 0 := ⟨_, rfl⟩
 obtain ⟨c1, e1⟩ : ∃ k, k = c 1 := ⟨_, rfl⟩
 obtain ⟨c2, e2⟩ : ∃ k, k = c 2 := ⟨_, rfl⟩
 obtain ⟨c3, e3⟩ : ∃ k, k = c 3 := ⟨_, rfl⟩
 obtain ⟨c4, e4⟩ : ∃ k, k = c 4 := ⟨_, rfl⟩
 rw [← e0, ← e1, ← e2, ← e3, ← e4] at hall h1
 have k0 := cell_of_row _ g 0 _ _ _ h1
 have k1 := cell_of_row _ g 1 _ _ _ h1
 have k2 := cell_of_row _ g 2 _ _ _ h1
 have k3 := cell_of_row _ g 3 _ _ _ h1
 have k6 := cell_of_row _ g 6 _ _ _ h1
 have HSP : Hid (spcI c = (decide (0 < c0) || decide (0 < c1) || decide (0 < c2)) ∧ spcB c = if (decide (0 < c0) || (decide (0 < c1) && decide (0 < c2))) = true then 9221120237041090560 else if 0 < c1 then 9218868437227405312 else 18442240474082181120) := by
  show _ ∧ _; unfold spcI spcB; rw [← e0, ← e1, ← e2]; exact ⟨rfl, rfl⟩
 have HNI : Hid (nilB c = if (decide (0 < c3) && decide (c3 = L)) = true then 9223372036854775808 else 0) := by
  show _ = _; unfold nilB allC; rw [← e0, ← e1, ← e2, ← e3, ← e4, hall]
 clear h hT h1 hnum hV hc hL e0 e1 e2 e3 e4 hall hsg
 by_cases p0 : 0 < c0
 ·have A := sp_spc (c := c) (V := V) (b := 9221120237041090560) (by rw [HSP.out.1, decide_eq_true p0]; rfl) (by rw [HSP.out.2, decide_eq_true p0]; rfl)
  have p0' : (0 : Int) < (c0 : Int) := by omega
  go_enter Tryz.func37, Tryz.ntmps37
  go_wp2
  refine bodyPost_ret (results_tmp2 rfl _ _ _) rfl ⟨?_, Below.refl _ _⟩
  rw [A.1, A.2]
  rfl
 ·obtain rfl : c0 = 0 := by omega
  by_cases p1 : 0 < c1
  ·have p1' : (0 : Int) < (c1 : Int) := by omega
   by_cases p2 : 0 < c2
   ·have A := sp_spc (c := c) (V := V) (b := 9221120237041090560) (by rw [HSP.out.1, decide_eq_true p1]; rfl) (by rw [HSP.out.2, decide_eq_true p1, decide_eq_true p2]; rfl)
    have p2' : (0 : Int) < (c2 : Int) := by omega
    go_enter Tryz.func37, Tryz.ntmps37
    go_wp2
    refine bodyPost_ret (results_tmp2 rfl _ _ _) rfl ⟨?_, Below.refl _ _⟩
    rw [A.1, A.2]
    rfl
   ·obtain rfl : c2 = 0 := by omega
    have A := sp_spc (c := c) (V := V) (b := 9218868437227405312) (by rw [HSP.out.1, decide_eq_true p1]; rfl) (by rw [HSP.out.2, decide_eq_true p1, if_pos p1]; rfl)
    go_enter Tryz.func37, Tryz.ntmps37
    go_wp2
    refine bodyPost_ret (results_tmp2 rfl _ _ _) rfl ⟨?_, Below.refl _ _⟩
    rw [A.1, A.2]
    rfl
  ·obtain rfl : c1 = 0 := by omega
   by_cases p2 : 0 < c2
   ·have A := sp_spc (c := c) (V := V) (b := 18442240474082181120) (by rw [HSP.out.1, decide_eq_true p2]; rfl) (by rw [HSP.out.2]; rfl)
    have p2' : (0 : Int) < (c2 : Int) := by omega
    go_enter Tryz.func37, Tryz.ntmps37
    go_wp2
    refine bodyPost_ret (results_tmp2 rfl _ _ _) rfl ⟨?_, Below.refl _ _⟩
    rw [A.1, A.2]
    rfl
   ·obtain rfl : c2 = 0 := by omega
    have hsp : spcI c = false := by rw [HSP.out.1]; rfl
    by_cases hV : V = 0
    ·have A := sp_nil hsp hV
     rw [HNI.out] at A
     have HA : Hid _ := A
     have hm0 : m = 0 := hz.1 (hVN.1 hV)
     clear A hsp hz hVN hV
     subst hm0
     by_cases p3 : 0 < c3
     ·have p3' : (0 : Int) < (c3 : Int) := by omega
      by_cases p4 : c3 = L
      ·have p4' : ((c3 : Int) == (L : Int)) = true := by simp; omega
       have HP4 : Hid (c3 = L) := p4
       clear p4
       go_enter Tryz.func37, Tryz.ntmps37
       go_wp2_with fail
       go_quiet ((go_at_call 65; with_reducible refine Calls.quiet_of_same (HCT.out _ ((Below.refl _ _).drewM _))))
       go_wp2
       refine bodyPost_ret (results_tmp2 rfl _ _ _) rfl ⟨?_, (Below.refl _ _).drewM _⟩
       rw [HA.out.1, HA.out.2]
       rw [decide_eq_true p3, decide_eq_true HP4.out]; rfl
      ·have p4' : ((c3 : Int) == (L : Int)) = false := by simp; omega
       go_enter Tryz.func37, Tryz.ntmps37
       go_wp2_with fail
       go_quiet ((go_at_call 65; with_reducible refine Calls.quiet_of_same (HCT.out _ ((Below.refl _ _).drewM _))))
       go_wp2
       refine bodyPost_ret (results_tmp2 rfl _ _ _) rfl ⟨?_, (Below.refl _ _).drewM _⟩
       rw [HA.out.1, HA.out.2]
       rw [decide_eq_false p4, Bool.and_false]; rfl
     ·obtain rfl : c3 = 0 := by omega
      go_enter Tryz.func37, Tryz.ntmps37
      go_wp2_with fail
      go_quiet ((go_at_call 65; with_reducible refine Calls.quiet_of_same (HCT.out _ ((Below.refl _ _).drewM _))))
      go_wp2
      refine bodyPost_ret (results_tmp2 rfl _ _ _) rfl ⟨?_, (Below.refl _ _).drewM _⟩
      rw [HA.out.1, HA.out.2]
      rfl
    ·have A := sp_tot hsp hV
     have hm0 : (0 : Int) < (m : Int) := by
      have : m ≠ 0 := fun h => hV (hVN.2 (hz.2 h))
      omega
     clear hsp hz hVN
     go_enter Tryz.func37, Tryz.ntmps37
     go_wp2
     refine bodyPost_ret (results_tmp2 rfl _ _ _) rfl ⟨?_, Below.refl _ _⟩
     rw [A.1, A.2]
     rfl
set_option maxHeartbeats 8000000 in
theorem rounded_v {g : Nat} {T : List Term1} {n : Nat} (w : World) (h : DocT w g T) (hT : FitD T) (hV : sumT T ≠ 0) (hn : 0 < n) (hn2 : n < 4611686018427387904) :
  Calls Tryz.prog 38 #[.pointer (some ⟨g, 0, none⟩), .int .i64 (n : Nat)] w fun e w' => e = .returned (.tuple #[.int .u64 (bits64 (decide (sumT T < 0)) (sumO (sumT T) n) : Nat), .bool (sumO (sumT T) n).ov]) ∧ Below w.heap.size w w' := by
 obtain ⟨ng, N, sa, sm, sc, hsg, h1, hnum⟩ := id h
 have hN0 : N ≠ 0 := fun h0 => hV (by rw [hsg]; exact (sg_zero _ _).2 h0)
 have hng : decide (sumT T < 0) = ng := by
  rw [hsg]
  cases ng
  ·exact decide_eq_false (fun h => by have := (sg_lt _ _).1 h; simp at this)
  ·exact decide_eq_true ((sg_lt _ _).2 ⟨rfl, hN0⟩)
 have hNV : (sumT T).natAbs = N := by rw [hsg, sg_natAbs]
 have hNb : N < 2 ^ (64 + LQ) := by rw [← hNV]; exact hT.room
 obtain ⟨o, ho⟩ : ∃ o, o = sumO (sumT T) n := ⟨_, rfl⟩
 have hoo : o = outG 53 (-1074) 971 ng 1 (ratMag N n (-2148)) := by
  rw [ho]
  unfold sumO
  rw [hng, ← sum_doc _ hn, hNV]
  congr 2
  rw [LU_eq]; rfl
 rw [hng, ← ho]
 have HTO : Hid (∀ W v, Val W v ng N n (-2148) → Calls Tryz.prog 52 #[v, .agg #[.int .i64 53, .int .i64 (-1074), .int .i64 1023], .int .i64 1] W (FlQ ng o W)) := fun W v hv => by
  rw [hoo]
  exact to53_rat 1 ⟨by decide, by decide⟩ ng v N n (-2148) W hv (bb := 64 + LQ) hNb (Nat.lt_of_lt_of_le (show n < 2 ^ 64 by omega) (Nat.pow_le_pow_right (by decide) (by omega))) (by rw [LQ_eq]; decide) (by decide) (by decide) (by omega) hn
 obtain ⟨BB, hBB⟩ : ∃ x, x = bits64 ng o := ⟨_, rfl⟩
 have HBT : Hid (∀ W, Calls Tryz.prog 54 #[.agg #[.bool ng, .bool o.inf, .int .u64 (o.m : Nat), .int .i64 o.e]] W fun e w' => e = .returned (.int .u64 (BB : Nat)) ∧ Below W.heap.size W w') := fun W => by
  rw [hBB, hoo]; exact bits64_out ng 1 _ (ratMag_ok hn) W
 rw [← hBB]
 have HOF : Hid (∀ W, Calls Tryz.prog 49 #[.int .u64 (n : Nat)] W (NatQ n W)) := fun W => of_any n W (by omega)
 have HC : Hid (∀ W, Below w.heap.size w W → (W.cell? ⟨g, 5, none⟩ = some (.bool ng) ∧ W.cell? ⟨g, 6, none⟩ = some (.slice sa sm sc)) ∧ Num .u32 4294967296 W (.slice sa sm sc) N) := fun W hW => ⟨⟨cell_of_row _ g 5 _ _ _ (hW.blk h1 (blk_lt h1)), cell_of_row _ g 6 _ _ _ (hW.blk h1 (blk_lt h1))⟩, hnum.below (Nat.le_refl _) hW⟩
 have hwu : IntKind.u64.wrap (n : Int) = (n : Int) := by rw [IntWalk.u64_in _ (by omega)]
 clear h hT hV hn hn2 h1 hnum hN0 hng hNV hNb ho hoo hBB hsg
 go_enter Tryz.func38, Tryz.ntmps38
 go_upto_region 1 with fail
 have h1 : once [(9, 0), (10, 1), (11, 2), (12, 3), (13, 4), (14, 5), (15, 6), (16, 7), (17, 8), (18, 9), (19, 10), (20, 11), (21, 12), (22, 13), (23, 14), (24, 15), (8, 16), (25, 17), (26, 18), (6, 19), (7, 20)] = true := by kernel_rfl
 have h2 : within [(9, 0), (10, 1), (11, 2), (12, 3), (13, 4), (14, 5), (15, 6), (16, 7), (17, 8), (18, 9), (19, 10), (20, 11), (21, 12), (22, 13), (23, 14), (24, 15), (8, 16), (25, 17), (26, 18), (6, 19), (7, 20)] 31 = true := by kernel_rfl
 let S : Nat → (Nat → Value) → World → Prop := fun i xs W => match i with
  | 0 => xs 0 = .pointer (some ⟨g, 0, none⟩)
  | 1 => xs 1 = .pointer (some ⟨g, 0, none⟩)
  | 2 => xs 2 = .pointer (some ⟨g, 5, none⟩)
  | 3 => xs 3 = .pointer (some ⟨g, 5, none⟩)
  | 4 => xs 4 = .bool ng
  | 5 => xs 5 = .pointer (some ⟨g, 0, none⟩)
  | 6 => xs 6 = .pointer (some ⟨g, 0, none⟩)
  | 7 => xs 7 = .pointer (some ⟨g, 5, none⟩)
  | 8 => xs 8 = .pointer (some ⟨g, 6, none⟩)
  | 9 => xs 9 = .slice sa sm sc
  | 10 => xs 10 = .int .i64 (n : Nat)
  | 11 => xs 11 = .int .u64 (n : Nat)
  | 12 => Num .u32 4294967296 W (xs 12) (n)
  | 13 => Val W (xs 13) ng N n (-2148)
  | 14 => xs 14 = .agg #[.int .i64 53, .int .i64 (-1074), .int .i64 1023]
  | 15 => xs 15 = .tuple #[.agg #[.bool ng, .bool o.inf, .int .u64 (o.m : Nat), .int .i64 o.e], .agg #[.bool o.ine, .bool o.ov, .bool o.un]]
  | 16 => xs 16 = .tuple #[.agg #[.bool ng, .bool o.inf, .int .u64 (o.m : Nat), .int .i64 o.e], .agg #[.bool o.ine, .bool o.ov, .bool o.un]]
  | 17 => xs 17 = .agg #[.bool ng, .bool o.inf, .int .u64 (o.m : Nat), .int .i64 o.e]
  | 18 => xs 18 = .agg #[.bool o.ine, .bool o.ov, .bool o.un]
  | 19 => ∃ g, (xs 19) = .pointer (some ⟨g, 0, none⟩) ∧ w.heap.size ≤ g ∧ g < W.heap.size ∧ FlR W g
  | 20 => ∃ g, (xs 20) = .pointer (some ⟨g, 0, none⟩) ∧ w.heap.size ≤ g ∧ g < W.heap.size ∧ FgR W g
  | 21 => ∃ g, xs 19 = .pointer (some ⟨g, 0, none⟩) ∧ w.heap.size ≤ g ∧ W.heap[g]? = some (.cells #[.bool ng, .bool o.inf, .int .u64 (o.m : Nat), .int .i64 o.e] 88 (0, 0))
  | 22 => ∃ g, xs 20 = .pointer (some ⟨g, 0, none⟩) ∧ w.heap.size ≤ g ∧ W.heap[g]? = some (.cells #[.bool o.ine, .bool o.ov, .bool o.un] 90 (0, 0))
  | _ => True
 have hstab : ∀ j ys W W', S j ys W → Below W.heap.size W W' → S j ys W' := by
  intro j ys W W' h hb
  match j, h with
  | 0, h => exact h
  | 1, h => exact h
  | 2, h => exact h
  | 3, h => exact h
  | 4, h => exact h
  | 5, h => exact h
  | 6, h => exact h
  | 7, h => exact h
  | 8, h => exact h
  | 9, h => exact h
  | 10, h => exact h
  | 11, h => exact h
  | 12, h => exact h.below (Nat.le_refl _) hb
  | 13, h => exact val_below h hb
  | 14, h => exact h
  | 15, h => exact h
  | 16, h => exact h
  | 17, h => exact h
  | 18, h => exact h
  | 19, ⟨g, s1, s2, s3, s4⟩ => exact ⟨g, s1, s2, Nat.lt_of_lt_of_le s3 hb.size, s4.below hb⟩
  | 20, ⟨g, s1, s2, s3, s4⟩ => exact ⟨g, s1, s2, Nat.lt_of_lt_of_le s3 hb.size, s4.below hb⟩
  | 21, ⟨g, s1, s2, s4⟩ => exact ⟨g, s1, s2, hb.blk s4 (blk_lt s4)⟩
  | 22, ⟨g, s1, s2, s4⟩ => exact ⟨g, s1, s2, hb.blk s4 (blk_lt s4)⟩
  | _ + 23, h => exact trivial
 refine wp_region_flow3T 23 23 4 [(9, 0), (10, 1), (11, 2), (12, 3), (13, 4), (14, 5), (15, 6), (16, 7), (17, 8), (18, 9), (19, 10), (20, 11), (21, 12), (22, 13), (23, 14), (24, 15), (8, 16), (25, 17), (26, 18), (6, 19), (7, 20)] [19, 20] S (fun _ W => Below w.heap.size w W) ((Below.refl _ _).drew) (by kernel_rfl) (by kernel_rfl) (by kernel_rfl) (by decide) (by kernel_rfl) h1 (by kernel_rfl) ?_ ?_ ?_ ?_
 ·intro j hj xs W h
  simp only [List.mem_cons, List.not_mem_nil, or_false] at hj
  rcases hj with rfl | rfl
  ·obtain ⟨g, s1, s2, s3, s4⟩ := h; exact ⟨g, s1, s3⟩
  ·obtain ⟨g, s1, s2, s3, s4⟩ := h; exact ⟨g, s1, s3⟩
 ·intro j xs ys W e h
  match j, e, h with
  | 0, e, h => exact c_ (e 0 (.inl rfl)) h
  | 1, e, h => exact c_ (e 1 (.inl rfl)) h
  | 2, e, h => exact c_ (e 2 (.inl rfl)) h
  | 3, e, h => exact c_ (e 3 (.inl rfl)) h
  | 4, e, h => exact c_ (e 4 (.inl rfl)) h
  | 5, e, h => exact c_ (e 5 (.inl rfl)) h
  | 6, e, h => exact c_ (e 6 (.inl rfl)) h
  | 7, e, h => exact c_ (e 7 (.inl rfl)) h
  | 8, e, h => exact c_ (e 8 (.inl rfl)) h
  | 9, e, h => exact c_ (e 9 (.inl rfl)) h
  | 10, e, h => exact c_ (e 10 (.inl rfl)) h
  | 11, e, h => exact c_ (e 11 (.inl rfl)) h
  | 12, e, h => exact (congrArg (fun z => Num .u32 4294967296 W z _) (e 12 (.inl rfl))).mp h
  | 13, e, h => exact (congrArg (fun z => Val W z ng N n (-2148)) (e 13 (.inl rfl))).mp h
  | 14, e, h => exact c_ (e 14 (.inl rfl)) h
  | 15, e, h => exact c_ (e 15 (.inl rfl)) h
  | 16, e, h => exact c_ (e 16 (.inl rfl)) h
  | 17, e, h => exact c_ (e 17 (.inl rfl)) h
  | 18, e, h => exact c_ (e 18 (.inl rfl)) h
  | 19, e, ⟨g, s1, r⟩ => exact ⟨g, (e 19 (.inl rfl)).symm.trans s1, r⟩
  | 20, e, ⟨g, s1, r⟩ => exact ⟨g, (e 20 (.inl rfl)).symm.trans s1, r⟩
  | 21, e, ⟨g, s1, r⟩ => exact ⟨g, (e 19 (.inr (by kernel_rfl))).symm.trans s1, r⟩
  | 22, e, ⟨g, s1, r⟩ => exact ⟨g, (e 20 (.inr (by kernel_rfl))).symm.trans s1, r⟩
  | _ + 23, e, h => exact trivial
 ·refine ⟨⟨⟨⟨⟨⟨⟨⟨⟨⟨⟨⟨⟨⟨⟨⟨⟨⟨⟨⟨⟨⟨⟨trivial, ?_⟩, ?_⟩, ?_⟩, ?_⟩, ?_⟩, ?_⟩, ?_⟩, ?_⟩, ?_⟩, ?_⟩, ?_⟩, ?_⟩, ?_⟩, ?_⟩, ?_⟩, ?_⟩, ?_⟩, ?_⟩, ?_⟩, ?_⟩, ?_⟩, ?_⟩, ?_⟩
  ·refine flow3_step _ (some 9) rfl rfl rfl h1 h2 gI gB hstab fun ac xs W Dn he hni hG hS K hK => ?_
   exact op_move (.tmp 0) (.inl rfl) (hK _ _ (he 0) bR (fun h => absurd h (by decide)))
  ·refine flow3_step _ (some 10) rfl rfl rfl h1 h2 gI gB hstab fun ac xs W Dn he hni hG hS K hK => ?_
   have e0 := (he 9).trans (hS 0 (by kernel_rfl))
   refine op_any (.nilCheck (.tmp 9)) rfl (.pointer (some ⟨g, 0, none⟩)) (fun o' ho' => ?_) (hK _ _ rfl bR (fun h => absurd h (by decide)))
   simp only [execOp, ho', e0]
   go_simp
  ·refine flow3_step _ (some 11) rfl rfl rfl h1 h2 gI gB hstab fun ac xs W Dn he hni hG hS K hK => ?_
   have e0 := (he 10).trans (hS 1 (by kernel_rfl))
   refine op_any (.fieldAddr 66 (.tmp 10) 1) rfl (.pointer (some ⟨g, 5, none⟩)) (fun o' ho' => ?_) (hK _ _ rfl bR (fun h => absurd h (by decide)))
   simp only [execOp, ho', e0]
   go_simp
  ·refine flow3_step _ (some 12) rfl rfl rfl h1 h2 gI gB hstab fun ac xs W Dn he hni hG hS K hK => ?_
   have e0 := (he 11).trans (hS 2 (by kernel_rfl))
   refine op_any (.fieldAddr 64 (.tmp 11) 0) rfl (.pointer (some ⟨g, 5, none⟩)) (fun o' ho' => ?_) (hK _ _ rfl bR (fun h => absurd h (by decide)))
   simp only [execOp, ho', e0]
   go_simp
  ·refine flow3_step _ (some 13) rfl rfl rfl h1 h2 gI gB hstab fun ac xs W Dn he hni hG hS K hK => ?_
   have e0 := (he 12).trans (hS 3 (by kernel_rfl))
   refine op_any (.load 4 (.tmp 12)) rfl (.bool ng) (fun o' ho' => ?_) (hK _ _ rfl bR (fun h => absurd h (by decide)))
   simp only [execOp, ho', e0]
   have hc := (HC.out W hG).1.1
   go_simp
  ·refine flow3_step _ (some 14) rfl rfl rfl h1 h2 gI gB hstab fun ac xs W Dn he hni hG hS K hK => ?_
   exact op_move (.tmp 0) (.inl rfl) (hK _ _ (he 0) bR (fun h => absurd h (by decide)))
  ·refine flow3_step _ (some 15) rfl rfl rfl h1 h2 gI gB hstab fun ac xs W Dn he hni hG hS K hK => ?_
   have e0 := (he 14).trans (hS 5 (by kernel_rfl))
   refine op_any (.nilCheck (.tmp 14)) rfl (.pointer (some ⟨g, 0, none⟩)) (fun o' ho' => ?_) (hK _ _ rfl bR (fun h => absurd h (by decide)))
   simp only [execOp, ho', e0]
   go_simp
  ·refine flow3_step _ (some 16) rfl rfl rfl h1 h2 gI gB hstab fun ac xs W Dn he hni hG hS K hK => ?_
   have e0 := (he 15).trans (hS 6 (by kernel_rfl))
   refine op_any (.fieldAddr 66 (.tmp 15) 1) rfl (.pointer (some ⟨g, 5, none⟩)) (fun o' ho' => ?_) (hK _ _ rfl bR (fun h => absurd h (by decide)))
   simp only [execOp, ho', e0]
   go_simp
  ·refine flow3_step _ (some 17) rfl rfl rfl h1 h2 gI gB hstab fun ac xs W Dn he hni hG hS K hK => ?_
   have e0 := (he 16).trans (hS 7 (by kernel_rfl))
   refine op_any (.fieldAddr 64 (.tmp 16) 1) rfl (.pointer (some ⟨g, 6, none⟩)) (fun o' ho' => ?_) (hK _ _ rfl bR (fun h => absurd h (by decide)))
   simp only [execOp, ho', e0]
   go_simp
  ·refine flow3_step _ (some 18) rfl rfl rfl h1 h2 gI gB hstab fun ac xs W Dn he hni hG hS K hK => ?_
   have e0 := (he 17).trans (hS 8 (by kernel_rfl))
   refine op_any (.load 62 (.tmp 17)) rfl (.slice sa sm sc) (fun o' ho' => ?_) (hK _ _ rfl bR (fun h => absurd h (by decide)))
   simp only [execOp, ho', e0]
   have hc := (HC.out W hG).1.2
   go_simp
  ·refine flow3_step _ (some 19) rfl rfl rfl h1 h2 gI gB hstab fun ac xs W Dn he hni hG hS K hK => ?_
   exact op_move (.tmp 1) (.inl rfl) (hK _ _ (he 1) bR (fun h => absurd h (by decide)))
  ·refine flow3_step _ (some 20) rfl rfl rfl h1 h2 gI gB hstab fun ac xs W Dn he hni hG hS K hK => ?_
   have e0 := (he 19).trans (hS 10 (by kernel_rfl))
   refine op_any (.convert 3 30 (.tmp 19)) rfl (.int .u64 (n : Nat)) (fun o' ho' => ?_) (hK _ _ rfl bR (fun h => absurd h (by decide)))
   simp only [execOp, ho', e0]
   go_simp
  ·refine flow3_step _ (some 21) rfl rfl rfl h1 h2 gI gB hstab fun ac xs W Dn he hni hG hS K hK => ?_
   have e0 := (he 20).trans (hS 11 (by kernel_rfl))
   refine op_call 49 _ _ rfl _ (by simp only [List.map, e0]) (by go_simp) (HOF.out W) ?_
   rintro e' W' ⟨u, rfl, hi', hb'⟩
   exact ⟨_, rfl, hK _ _ hi' hb' (fun h => absurd h (by decide))⟩
  ·refine flow3_step _ (some 22) rfl rfl rfl h1 h2 gI gB hstab fun ac xs W Dn he hni hG hS K hK => ?_
   have e0 := (he 13).trans (hS 4 (by kernel_rfl))
   have e1 := (he 18).trans (hS 9 (by kernel_rfl))
   have hn12 : Num .u32 4294967296 W (xs 12) n := hS 12 (by kernel_rfl)
   obtain ⟨qa, qm, qc, hq⟩ := hn12.shape
   have e2 : ac.eval (.tmp 21) = .slice qa qm qc := (he 21).trans hq
   have hm : ((#[(0, Operand.tmp 13), (1, Operand.tmp 18), (2, Operand.tmp 21), (3, Operand.const (.int .i64 (-2148)))] : Array (Nat × Operand)).map fun (i, x) => (i, ac.eval x)).toList = [(0, .bool ng), (1, .slice sa sm sc), (2, .slice qa qm qc), (3, .int .i64 (-2148))] := by simp [e0, e1, e2, eval_const]
   have hbl : Tryz.prog.built 94 [(0, .bool ng), (1, .slice sa sm sc), (2, .slice qa qm qc), (3, .int .i64 (-2148))] = some #[.bool ng, .slice sa sm sc, .slice qa qm qc, .int .i64 (-2148), .bool false] := by kernel_rfl
   refine wp_build 94 #[(0, Operand.tmp 13), (1, Operand.tmp 18), (2, Operand.tmp 21), (3, Operand.const (.int .i64 (-2148)))] rfl (by rw [hm, hbl]; rfl) ?_
   rw [hm, hbl]
   exact hK _ _ ⟨_, _, rfl, (HC.out W hG).2, by rw [← hq]; exact hn12⟩ bR (fun h => absurd h (by decide))
  ·refine flow3_step _ (some 23) rfl rfl rfl h1 h2 gI gB hstab fun ac xs W Dn he hni hG hS K hK => ?_
   refine op_call 53 _ _ rfl _ (by simp only [List.map]) (by go_simp) (sixty_any W) ?_
   rintro e' W' ⟨rfl, hb'⟩
   exact ⟨_, rfl, hK _ _ (rfl) hb' (fun h => absurd h (by decide))⟩
  ·refine flow3_step _ (some 24) rfl rfl rfl h1 h2 gI gB hstab fun ac xs W Dn he hni hG hS K hK => ?_
   have e0 : ac.eval (.tmp 22) = xs 13 := he 22
   have e1 := (he 23).trans (hS 14 (by kernel_rfl))
   refine op_call 52 _ _ rfl _ (by simp only [List.map, eval_const, e0, e1]) (by go_simp) (HTO.out W _ (hS 13 (by kernel_rfl))) ?_
   rintro e' W' ⟨rfl, hb'⟩
   exact ⟨_, rfl, hK _ _ (rfl) hb' (fun h => absurd h (by decide))⟩
  ·refine flow3_step _ (some 8) rfl rfl rfl h1 h2 gI gB hstab fun ac xs W Dn he hni hG hS K hK => ?_
   exact op_move (.tmp 24) (.inl rfl) (hK _ _ ((he 24).trans (hS 15 (by kernel_rfl))) bR (fun h => absurd h (by decide)))
  ·refine flow3_step _ (some 25) rfl rfl rfl h1 h2 gI gB hstab fun ac xs W Dn he hni hG hS K hK => ?_
   have e0 := (he 8).trans (hS 16 (by kernel_rfl))
   refine op_any (.extract (.tmp 8) 0) rfl (.agg #[.bool ng, .bool o.inf, .int .u64 (o.m : Nat), .int .i64 o.e]) (fun o' ho' => ?_) (hK _ _ rfl bR (fun h => absurd h (by decide)))
   simp only [execOp, ho', e0]
   go_simp
  ·refine flow3_step _ (some 26) rfl rfl rfl h1 h2 gI gB hstab fun ac xs W Dn he hni hG hS K hK => ?_
   have e0 := (he 8).trans (hS 16 (by kernel_rfl))
   refine op_any (.extract (.tmp 8) 1) rfl (.agg #[.bool o.ine, .bool o.ov, .bool o.un]) (fun o' ho' => ?_) (hK _ _ rfl bR (fun h => absurd h (by decide)))
   simp only [execOp, ho', e0]
   go_simp
  ·refine flow3_step _ (some 6) rfl rfl rfl h1 h2 gI gB hstab fun ac xs W Dn he hni hG hS K hK => ?_
   have hsz := hG.size
   refine op_anyw (.alloc 88) rfl (.pointer (some ⟨W.heap.size, 0, none⟩)) (W.alloc (.cells #[.bool false, .bool false, .int .u64 0, .int .i64 0] 88)) ?_ ?_
   ·intro o' ho'
    simp only [execOp, ho']
    go_simp
   ·exact hK _ _ ⟨_, rfl, by omega, by simp, ⟨_, _, _, _, heap_alloc_new _ _⟩⟩ (bR.alloc (Nat.le_refl _) _) (fun _ => rfl)
  ·refine flow3_step _ (some 7) rfl rfl rfl h1 h2 gI gB hstab fun ac xs W Dn he hni hG hS K hK => ?_
   have hsz := hG.size
   refine op_anyw (.alloc 90) rfl (.pointer (some ⟨W.heap.size, 0, none⟩)) (W.alloc (.cells #[.bool false, .bool false, .bool false] 90)) ?_ ?_
   ·intro o' ho'
    simp only [execOp, ho']
    go_simp
   ·exact hK _ _ ⟨_, rfl, by omega, by simp, ⟨_, _, _, heap_alloc_new _ _⟩⟩ (bR.alloc (Nat.le_refl _) _) (fun _ => rfl)
  ·refine flow3_store _ rfl rfl rfl h1 h2 (by decide) fun ac xs W Dn he hni hG hS K hK => ?_
   obtain ⟨g, s1, s2, s3, s4⟩ := hS 19 (by kernel_rfl)
   obtain ⟨x1, x2, x3, x4, s5⟩ := id s4
   have hvy := hS 17 (by kernel_rfl)
   refine wp_store_row 88 (.tmp 6) (.tmp 25) rfl g #[.bool ng, .bool o.inf, .int .u64 (o.m : Nat), .int .i64 o.e] ((he 6).trans s1) ((he 25).trans hvy) _ _ s5 (by kernel_rfl) rfl (by simp [Value.oneCell']) ?_
   have hself0 := setRow_heap W g _ #[.bool ng, .bool o.inf, .int .u64 (o.m : Nat), .int .i64 o.e] _ _ s5
   have hself : ∃ g', xs 19 = .pointer (some ⟨g', 0, none⟩) ∧ w.heap.size ≤ g' ∧ (W.setRow g #[.bool ng, .bool o.inf, .int .u64 (o.m : Nat), .int .i64 o.e]).heap[g']? = some (.cells #[.bool ng, .bool o.inf, .int .u64 (o.m : Nat), .int .i64 o.e] 88 (0, 0)) := ⟨g, s1, s2, hself0⟩
   have hG2 : Below w.heap.size w (W.setRow g #[.bool ng, .bool o.inf, .int .u64 (o.m : Nat), .int .i64 o.e]) := below_setRow hG s2 _
   refine hK _ hself hG2 ?_
   intro j ys h
   match j, h with
   | 0, h => exact h
   | 1, h => exact h
   | 2, h => exact h
   | 3, h => exact h
   | 4, h => exact h
   | 5, h => exact h
   | 6, h => exact h
   | 7, h => exact h
   | 8, h => exact h
   | 9, h => exact h
   | 10, h => exact h
   | 11, h => exact h
   | 12, h => exact num_setRow32 h s5 FlR.no
   | 13, h => exact s4.val _ h
   | 14, h => exact h
   | 15, h => exact h
   | 16, h => exact h
   | 17, h => exact h
   | 18, h => exact h
   | 19, ⟨g1, u1, u2, u3, u4⟩ => exact ⟨g1, u1, u2, by rw [Go.Proofs.YtlffojopfilfeaaGreatDoor.setRow_size]; exact u3, u4.put s4 _ _ _ _⟩
   | 20, ⟨g1, u1, u2, u3, u4⟩ => exact ⟨g1, u1, u2, by rw [Go.Proofs.YtlffojopfilfeaaGreatDoor.setRow_size]; exact u3, u4.off s4 _⟩
   | 21, ⟨g1, u1, u2, u4⟩ => exact ⟨g1, u1, u2, row_keep u4⟩
   | 22, ⟨g1, u1, u2, u4⟩ => exact ⟨g1, u1, u2, (setRow_other W g g1 _ (fl_ne s4 ⟨_, _, _, u4⟩)).trans u4⟩
   | _ + 23, h => exact trivial
  ·refine flow3_store _ rfl rfl rfl h1 h2 (by decide) fun ac xs W Dn he hni hG hS K hK => ?_
   obtain ⟨g, s1, s2, s3, s4⟩ := hS 20 (by kernel_rfl)
   obtain ⟨x1, x2, x3, s5⟩ := id s4
   have hvy := hS 18 (by kernel_rfl)
   refine wp_store_row 90 (.tmp 7) (.tmp 26) rfl g #[.bool o.ine, .bool o.ov, .bool o.un] ((he 7).trans s1) ((he 26).trans hvy) _ _ s5 (by kernel_rfl) rfl (by simp [Value.oneCell']) ?_
   have hself0 := setRow_heap W g _ #[.bool o.ine, .bool o.ov, .bool o.un] _ _ s5
   have hself : ∃ g', xs 20 = .pointer (some ⟨g', 0, none⟩) ∧ w.heap.size ≤ g' ∧ (W.setRow g #[.bool o.ine, .bool o.ov, .bool o.un]).heap[g']? = some (.cells #[.bool o.ine, .bool o.ov, .bool o.un] 90 (0, 0)) := ⟨g, s1, s2, hself0⟩
   have hG2 : Below w.heap.size w (W.setRow g #[.bool o.ine, .bool o.ov, .bool o.un]) := below_setRow hG s2 _
   refine hK _ hself hG2 ?_
   intro j ys h
   match j, h with
   | 0, h => exact h
   | 1, h => exact h
   | 2, h => exact h
   | 3, h => exact h
   | 4, h => exact h
   | 5, h => exact h
   | 6, h => exact h
   | 7, h => exact h
   | 8, h => exact h
   | 9, h => exact h
   | 10, h => exact h
   | 11, h => exact h
   | 12, h => exact num_setRow32 h s5 FgR.no
   | 13, h => exact s4.val _ h
   | 14, h => exact h
   | 15, h => exact h
   | 16, h => exact h
   | 17, h => exact h
   | 18, h => exact h
   | 19, ⟨g1, u1, u2, u3, u4⟩ => exact ⟨g1, u1, u2, by rw [Go.Proofs.YtlffojopfilfeaaGreatDoor.setRow_size]; exact u3, u4.off s4 _⟩
   | 20, ⟨g1, u1, u2, u3, u4⟩ => exact ⟨g1, u1, u2, by rw [Go.Proofs.YtlffojopfilfeaaGreatDoor.setRow_size]; exact u3, u4.put s4 _ _ _⟩
   | 21, ⟨g1, u1, u2, u4⟩ => exact ⟨g1, u1, u2, (setRow_other W g g1 _ (fun e => fl_ne ⟨_, _, _, _, u4⟩ s4 e.symm)).trans u4⟩
   | 22, ⟨g1, u1, u2, u4⟩ => exact ⟨g1, u1, u2, row_keep u4⟩
   | _ + 23, h => exact trivial
 ·intro xs w8 Dn hall hG hS hD
  obtain ⟨g1, s7, hg1, r1⟩ := hS 21 (by decide)
  obtain ⟨g2, s8, hg2, r2⟩ := hS 22 (by decide)
  have HB8 : Hid (Below w.heap.size w w8) := hG
  simp only [layAll, s7, s8, List.setIfInBounds_toArray, List.set_cons_succ, List.set_cons_zero]
  have HR0 : Hid (∀ W, Below w8.heap.size w8 W → W.heap[g1]? = some (.cells #[.bool ng, .bool o.inf, .int .u64 (o.m : Nat), .int .i64 o.e] 88 (0, 0)) ∧ W.heap[g2]? = some (.cells #[.bool o.ine, .bool o.ov, .bool o.un] 90 (0, 0))) := fun W hW => ⟨hW.blk r1 (blk_lt r1), hW.blk r2 (blk_lt r2)⟩
  clear hS hD hall hstab S hG h1 h2
  generalize xs 0 = x0 at *
  generalize xs 1 = x1 at *
  generalize xs 2 = x2 at *
  generalize xs 3 = x3 at *
  generalize xs 4 = x4 at *
  generalize xs 5 = x5 at *
  generalize xs 6 = x6 at *
  generalize xs 7 = x7 at *
  generalize xs 8 = x8 at *
  generalize xs 9 = x9 at *
  generalize xs 10 = x10 at *
  generalize xs 11 = x11 at *
  generalize xs 12 = x12 at *
  generalize xs 13 = x13 at *
  generalize xs 14 = x14 at *
  generalize xs 15 = x15 at *
  generalize xs 16 = x16 at *
  generalize xs 17 = x17 at *
  generalize xs 18 = x18 at *
  generalize xs 21 = x21 at *
  generalize xs 22 = x22 at *
  clear s7 s8 hg1 hg2 r1 r2
  show wpList Tryz.prog _ _ [] _ _
  go_upto_region 2 with fail
  have h1 : once [(27, 0), (28, 1), (29, 2), (30, 3), (4, 4), (5, 5)] = true := by kernel_rfl
  have h2 : within [(27, 0), (28, 1), (29, 2), (30, 3), (4, 4), (5, 5)] 31 = true := by kernel_rfl
  let S : Nat → (Nat → Value) → World → Prop := fun i xs W => match i with
   | 0 => xs 0 = .agg #[.bool ng, .bool o.inf, .int .u64 (o.m : Nat), .int .i64 o.e]
   | 1 => xs 1 = .int .u64 (BB : Nat)
   | 2 => xs 2 = .pointer (some ⟨g2, 1, none⟩)
   | 3 => xs 3 = .bool o.ov
   | 4 => xs 4 = .int .u64 (BB : Nat)
   | 5 => xs 5 = .bool o.ov
   | _ => True
  have hstab : ∀ j ys W W', S j ys W → Below W.heap.size W W' → S j ys W' := by
   intro j ys W W' h hb
   match j, h with
   | 0, h => exact h
   | 1, h => exact h
   | 2, h => exact h
   | 3, h => exact h
   | 4, h => exact h
   | 5, h => exact h
   | _ + 6, h => exact trivial
  refine wp_region_flow3T 6 6 4 [(27, 0), (28, 1), (29, 2), (30, 3), (4, 4), (5, 5)] [] S (fun _ W => Below w8.heap.size w8 W) ((Below.refl _ _).drew) (by kernel_rfl) (by kernel_rfl) (by kernel_rfl) (by decide) (by kernel_rfl) h1 (by kernel_rfl) ?_ ?_ ?_ ?_
  ·exact fun j hj => by cases hj
  ·intro j xs ys W e h
   match j, e, h with
   | 0, e, h => exact c_ (e 0 (.inl rfl)) h
   | 1, e, h => exact c_ (e 1 (.inl rfl)) h
   | 2, e, h => exact c_ (e 2 (.inl rfl)) h
   | 3, e, h => exact c_ (e 3 (.inl rfl)) h
   | 4, e, h => exact c_ (e 4 (.inl rfl)) h
   | 5, e, h => exact c_ (e 5 (.inl rfl)) h
   | _ + 6, e, h => exact trivial
  ·refine ⟨⟨⟨⟨⟨⟨trivial, ?_⟩, ?_⟩, ?_⟩, ?_⟩, ?_⟩, ?_⟩
   ·refine flow3_step _ (some 27) rfl rfl rfl h1 h2 gI gB hstab fun ac xs W Dn he hni hG hS K hK => ?_
    exact wp_load_row 88 (.tmp 6) rfl g1 (he 6) _ _ _ _ ((HR0.out W hG).1) Tryz.underlying88 rfl (by kernel_rfl) (hK _ _ rfl bR nA)
   ·refine flow3_step _ (some 28) rfl rfl rfl h1 h2 gI gB hstab fun ac xs W Dn he hni hG hS K hK => ?_
    have e0 := (he 27).trans (hS 0 (by kernel_rfl))
    refine op_call 54 _ _ rfl _ (by simp only [List.map, e0]) (by go_simp) (HBT.out W) ?_
    rintro e' W' ⟨rfl, hb'⟩
    exact ⟨_, rfl, hK _ _ (rfl) hb' nA⟩
   ·refine flow3_step _ (some 29) rfl rfl rfl h1 h2 gI gB hstab fun ac xs W Dn he hni hG hS K hK => ?_
    have e0 : ac.eval (.tmp 7) = .pointer (some ⟨g2, 0, none⟩) := he 7
    refine op_any (.fieldAddr 90 (.tmp 7) 1) rfl (.pointer (some ⟨g2, 1, none⟩)) (fun o' ho' => ?_) (hK _ _ rfl bR nA)
    simp only [execOp, ho', e0]
    go_simp
   ·refine flow3_step _ (some 30) rfl rfl rfl h1 h2 gI gB hstab fun ac xs W Dn he hni hG hS K hK => ?_
    have e0 := (he 29).trans (hS 2 (by kernel_rfl))
    refine op_any (.load 4 (.tmp 29)) rfl (.bool o.ov) (fun o' ho' => ?_) (hK _ _ rfl bR nA)
    simp only [execOp, ho', e0]
    have hc := cell_of_row _ g2 1 _ _ _ (HR0.out W hG).2
    go_simp
   ·refine flow3_step _ (some 4) rfl rfl rfl h1 h2 gI gB hstab fun ac xs W Dn he hni hG hS K hK => ?_
    exact op_move (.tmp 28) (.inr rfl) (hK _ _ ((he 28).trans (hS 1 (by kernel_rfl))) bR nA)
   ·refine flow3_step _ (some 5) rfl rfl rfl h1 h2 gI gB hstab fun ac xs W Dn he hni hG hS K hK => ?_
    exact op_move (.tmp 30) (.inr rfl) (hK _ _ ((he 30).trans (hS 3 (by kernel_rfl))) bR nA)
  ·intro xs w9 Dn hall hG hS hD
   have s4 : xs 4 = _ := hS 4 (by decide)
   have s5 : xs 5 = _ := hS 5 (by decide)
   have HGB : Hid (Below w8.heap.size w8 w9) := hG
   simp only [layAll, s4, s5, List.setIfInBounds_toArray, List.set_cons_succ, List.set_cons_zero]
   clear hS hD hall hstab S hG h1 h2
   generalize xs 0 = x0 at *
   generalize xs 1 = x1 at *
   generalize xs 2 = x2 at *
   generalize xs 3 = x3 at *
   clear s4 s5
   show wpList Tryz.prog _ _ [] _ _
   go_wp2
   exact bodyPost_ret (results_tmp2 rfl _ _ _) rfl ⟨rfl, HB8.out.thru HGB.out⟩
def UCells (w : World) (a : Option Addr) (n : Nat) (l : List Nat) : Prop := 0 < n → ∃ b o, a = some ⟨b, o, none⟩ ∧ b < w.heap.size ∧ ∀ k, k < n → w.cell? ⟨b, o + k, none⟩ = some (.int .u64 (l.getD k 0 : Nat))
theorem UCells.below {w w' : World} {a : Option Addr} {n : Nat} {l : List Nat} (h : UCells w a n l) (hb : Below w.heap.size w w') : UCells w' a n l := fun hn => by
 obtain ⟨b, o, h1, h2, h3⟩ := h hn
 exact ⟨b, o, h1, Nat.lt_of_lt_of_le h2 hb.size, fun k hk => (hb.cell (p := ⟨b, o + k, none⟩) h2).trans (h3 k hk)⟩
theorem fitD_L {l : List Nat} (h : l.length < 4611686018427387904) : FitD (tmL l) := ⟨five_L l, small_L l, by rw [tmL_len]; exact h⟩
theorem fitD_D {l k : List Nat} (h : l.length < 4611686018427387904) : FitD (tmD l k) := ⟨five_D l k, small_D l k, by rw [tmD_len]; omega⟩
theorem sp_true {c : Nat → Nat} {V : Int} (h : spF c V = true) (n : Nat) : ansB c V n = spV c V ∧ ansX c V n = 0 := by
 unfold spF at h
 unfold ansB ansX spV
 cases hs : spcI c
 ·rw [hs] at h
  have h0 : V = 0 := by simpa using h
  simp [h0]
 ·simp
theorem sp_false {c : Nat → Nat} {V : Int} (h : spF c V = false) (n : Nat) : ansB c V n = totB V n ∧ ansX c V n = totX V n ∧ V ≠ 0 ∧ spcI c = false := by
 unfold spF at h
 unfold ansB ansX
 cases hs : spcI c
 ·rw [hs] at h
  have h0 : V ≠ 0 := by simpa using h
  simp [h0]
 ·rw [hs] at h; simp at h
set_option maxHeartbeats 1000000 in
theorem dtotal_v {g : Nat} {T : List Term1} (w : World) (h : DocT w g T) (hT : FitD T) :
  Calls Tryz.prog 34 #[.pointer (some ⟨g, 0, none⟩)] w fun e w' => e = .returned (.tuple #[.int .u64 (ansB (cntT T) (sumT T) 1 : Nat), .int .i64 (ansX (cntT T) (sumT T) 1)]) ∧ Below w.heap.size w w' := by
 have HSP : Hid (Calls Tryz.prog 37 #[.pointer (some ⟨g, 0, none⟩)] w fun e w' => e = .returned (.tuple #[.int .u64 (spV (cntT T) (sumT T) : Nat), .bool (spF (cntT T) (sumT T))]) ∧ Below w.heap.size w w') := special_v w h hT
 cases hF : spF (cntT T) (sumT T)
 ·obtain ⟨e1, e2, e3, -⟩ := sp_false hF 1
  rw [e1, e2]
  have HRO : Hid (∀ W, Below w.heap.size w W → Calls Tryz.prog 38 #[.pointer (some ⟨g, 0, none⟩), .int .i64 1] W fun e w' => e = .returned (.tuple #[.int .u64 (bits64 (decide (sumT T < 0)) (sumO (sumT T) 1) : Nat), .bool (sumO (sumT T) 1).ov]) ∧ Below W.heap.size W w') := fun W hW => rounded_v (n := 1) W (h.below hW) hT e3 (by decide) (by decide)
  rw [hF] at HSP
  obtain ⟨BB, hBB⟩ : ∃ x, x = bits64 (decide (sumT T < 0)) (sumO (sumT T) 1) := ⟨_, rfl⟩
  obtain ⟨OV, hOV⟩ : ∃ x, x = (sumO (sumT T) 1).ov := ⟨_, rfl⟩
  obtain ⟨SV, hSV⟩ : ∃ x, x = spV (cntT T) (sumT T) := ⟨_, rfl⟩
  have hb : totB (sumT T) 1 = if OV = true then 0 else BB := by unfold totB; rw [← hOV, ← hBB]
  have hx : totX (sumT T) 1 = if OV = true then 15 else 0 := by unfold totX; rw [← hOV]
  rw [← hBB, ← hOV] at HRO
  rw [← hSV] at HSP
  rw [hb, hx]
  clear h hT hF e1 e2 e3 hBB hOV hSV hb hx
  go_enter Tryz.func34, Tryz.ntmps34
  go_wp2_with fail
  (with_reducible refine Calls.mono HSP.out ?_)
  rintro e w1 ⟨rfl, hb⟩
  have HB : Hid (Below w.heap.size w w1) := hb
  clear hb
  go_wp2_with fail
  (with_reducible refine (HRO.out _ HB.out).mono ?_)
  rintro e w2 ⟨rfl, hb⟩
  have HB2 : Hid (Below w.heap.size w w2) := HB.out.thru hb
  clear hb
  cases OV
  ·go_wp2
   exact bodyPost_ret (results_tmp2 rfl _ _ _) rfl ⟨rfl, HB2.out⟩
  ·go_wp2
   exact bodyPost_ret (results_tmp2 rfl _ _ _) rfl ⟨rfl, HB2.out⟩
 ·obtain ⟨e1, e2⟩ := sp_true hF 1
  rw [e1, e2]
  rw [hF] at HSP
  obtain ⟨SV, hSV⟩ : ∃ x, x = spV (cntT T) (sumT T) := ⟨_, rfl⟩
  rw [← hSV] at HSP ⊢
  clear h hT hF e1 e2 hSV
  go_enter Tryz.func34, Tryz.ntmps34
  go_wp2_with fail
  (with_reducible refine Calls.mono HSP.out ?_)
  rintro e w1 ⟨rfl, hb⟩
  have HB : Hid (Below w.heap.size w w1) := hb
  clear hb
  go_wp2
  exact bodyPost_ret (results_tmp2 rfl _ _ _) rfl ⟨rfl, HB.out⟩
theorem doc_nil {w : World} {g : Nat} (h : w.heap[g]? = some (.cells #[.int .i64 0, .int .i64 0, .int .i64 0, .int .i64 0, .int .i64 0, .bool false, .slice none 0 0] 66 (0, 0))) : DocT w g [] :=
 ⟨false, 0, none, 0, 0, rfl, h, nat_zero w⟩
set_option maxHeartbeats 1000000 in
theorem dof_v {a : Option Addr} {n c : Nat} {l : List Nat} (w : World) (hn : l.length = n) (hmax : n < 4611686018427387904) (hl : ∀ x ∈ l, W64 x) (hcell : UCells w a n l) :
  Calls Tryz.prog 33 #[.slice a n c] w fun e w' => ∃ g, e = .returned (.pointer (some ⟨g, 0, none⟩)) ∧ w.heap.size ≤ g ∧ DocT w' g (tmL l) ∧ Below w.heap.size w w' := by
 obtain ⟨S, hS⟩ : ∃ S : Nat → List Term1, ∀ k, S k = tmL (l.take k) := ⟨_, fun _ => rfl⟩
 obtain ⟨x, hx⟩ : ∃ x : Nat → Nat, ∀ k, x k = l.getD k 0 := ⟨_, fun _ => rfl⟩
 have HPU : Hid (∀ W g k, k < n → DocT W g (S k) → Calls Tryz.prog 61 #[.pointer (some ⟨g, 0, none⟩), .int .u64 (x k : Nat)] W fun e w' => e = .returned (.tuple #[]) ∧ DocT w' g (S (k + 1)) ∧ But g W w') := fun W g k hk hA => by
  have e : S (k + 1) = S k ++ [tmS (l.getD k 0)] := by rw [hS, hS]; exact tmL_take (by omega)
  have hf : FitD (S (k + 1)) := by rw [hS]; exact fitD_L (by rw [List.length_take]; omega)
  rw [e] at hf ⊢
  rw [hx]
  exact put_v W hA hf (get_W hl k)
 have HS0 : Hid (S 0 = []) := by show _ = _; rw [hS]; simp [tmL]
 have HSN : Hid (S n = tmL l) := by
  have e1 : l.take n = l := by rw [← hn]; exact List.take_length
  show _ = _; rw [hS, e1]
 have HCE : Hid (0 < n → ∃ b o, a = some ⟨b, o, none⟩ ∧ b < w.heap.size ∧ ∀ k, k < n → w.cell? ⟨b, o + k, none⟩ = some (.int .u64 (x k : Nat))) := fun h => by
  obtain ⟨b, o, h1, h2, h3⟩ := hcell h
  exact ⟨b, o, h1, h2, fun k hk => by rw [h3 k hk, hx]⟩
 have HD0 : Hid (DocT (w.alloc (.cells #[.int .i64 0, .int .i64 0, .int .i64 0, .int .i64 0, .int .i64 0, .bool false, .slice none 0 0] 66)) w.heap.size (S 0)) := by
  show DocT _ _ _
  rw [HS0.out]
  exact doc_nil (heap_alloc_new _ _)
 have HB0 : Hid (Below w.heap.size w (w.alloc (.cells #[.int .i64 0, .int .i64 0, .int .i64 0, .int .i64 0, .int .i64 0, .bool false, .slice none 0 0] 66))) := (Below.refl _ _).alloc (Nat.le_refl _) _
 rw [← HSN.out]
 clear hn hl hcell hS hx HSN HS0
 go_enter Tryz.func33, Tryz.ntmps33
 go_wp2_with fail
 go_loopw [4] (fun i wr => ∃ k : Nat, k ≤ n ∧ i = .int .i64 (k : Nat) ∧ DocT wr w.heap.size (S k) ∧ Below w.heap.size w wr) (fun i _ => n - (intOf i).toNat)
 case atStart => exact ⟨0, Nat.zero_le _, rfl, HD0.out, HB0.out⟩
 case round =>
  obtain ⟨k, hk, rfl, hd, hbk⟩ := hrel
  have HD : Hid (DocT wr w.heap.size (S k)) := hd
  have HB : Hid (Below w.heap.size w wr) := hbk
  clear hd hbk HD0 HB0
  by_cases hkn : k < n
  ·obtain ⟨b, o, rfl, hb, hcc⟩ := HCE.out (by omega)
   have hck := (HB.out.cell (p := ⟨b, o + k, none⟩) hb).trans (hcc k hkn)
   have HK : Hid (k < n) := hkn
   have hkn2 : (k : Int) < (n : Int) := by omega
   have hk0 : (0 : Int) ≤ (k : Int) := by omega
   clear hcc hb
   go_wp2_with fail
   (with_reducible refine (HPU.out _ _ _ HK.out HD.out).mono ?_)
   rintro e w4 ⟨rfl, hacc, hbut⟩
   have HD4 : Hid (DocT w4 w.heap.size (S (k + 1))) := hacc
   have HB4 : Hid (Below w.heap.size w w4) := But.over HB.out hbut (Nat.le_refl _) HB.out.size
   have hw1 : IntKind.i64.wrap ((k : Int) + 1) = ((k + 1 : Nat) : Int) := by rw [IntWalk.i64_in _ (by omega)]; omega
   clear hacc hbut
   go_wp2
   go_roundw
   case rel => exact ⟨k + 1, by omega, by first | rfl | rw [hw1], HD4.out, HB4.out⟩
   case measure => simp [intOf]; omega
  ·obtain rfl : k = n := by omega
   clear hk hkn
   go_wp2
   go_ret
   exact ⟨_, rfl, Nat.le_refl _, HD.out, HB.out⟩
set_option maxHeartbeats 1000000 in
theorem dsum_v {a : Option Addr} {n c : Nat} {l : List Nat} (w : World) (hn : l.length = n) (hmax : n < 4611686018427387904) (hl : ∀ x ∈ l, W64 x) (hcell : UCells w a n l) :
  Calls Tryz.prog 11 #[.slice a n c] w fun e w' => e = .returned (.tuple #[.int .u64 (lsB l : Nat), .int .i64 (lsX l)]) ∧ Below w.heap.size w w' := by
 unfold lsB lsX
 rw [hn]
 by_cases hlong : 65536 < n
 ·rw [if_pos hlong, if_pos hlong]
  have h1 : (65536 : Int) < (n : Int) := by omega
  clear hcell hl hn
  go_enter Tryz.func11, Tryz.ntmps11
  go_wp2
  exact bodyPost_ret (results_tmp2 rfl _ _ _) rfl ⟨rfl, Below.refl _ _⟩
 ·rw [if_neg hlong, if_neg hlong]
  have h1 : ¬ (65536 : Int) < (n : Int) := by omega
  have HOF : Hid (Calls Tryz.prog 33 #[.slice a n c] w fun e w' => ∃ g, e = .returned (.pointer (some ⟨g, 0, none⟩)) ∧ w.heap.size ≤ g ∧ DocT w' g (tmL l) ∧ Below w.heap.size w w') := dof_v w hn hmax hl hcell
  have HTO : Hid (∀ W g, DocT W g (tmL l) → Calls Tryz.prog 34 #[.pointer (some ⟨g, 0, none⟩)] W fun e w' => e = .returned (.tuple #[.int .u64 (ansB (cntT (tmL l)) (sumT (tmL l)) 1 : Nat), .int .i64 (ansX (cntT (tmL l)) (sumT (tmL l)) 1)]) ∧ Below W.heap.size W w') := fun W g hA => dtotal_v W hA (fitD_L (by omega))
  clear hcell hl hn
  go_enter Tryz.func11, Tryz.ntmps11
  go_wp2_with fail
  (with_reducible refine Calls.mono HOF.out ?_)
  rintro e w1 ⟨g, rfl, -, hd, hb⟩
  have HD : Hid (DocT w1 g (tmL l)) := hd
  have HB : Hid (Below w.heap.size w w1) := hb
  clear hd hb
  go_wp2_with fail
  (with_reducible refine (HTO.out _ _ HD.out).mono ?_)
  rintro e w3 ⟨rfl, hb⟩
  have HB3 : Hid (Below w.heap.size w w3) := HB.out.thru hb
  clear hb
  go_wp2
  exact bodyPost_ret (results_tmp2 rfl _ _ _) rfl ⟨rfl, HB3.out⟩
theorem mean_tot {l : List Nat} (h : spF (cntT (tmL l)) (sumT (tmL l)) = false) (h0 : 0 < l.length) : ansB (cntT (tmL l)) (sumT (tmL l)) l.length = bits64 (decide (sumT (tmL l) < 0)) (sumO (sumT (tmL l)) l.length) ∧ ansX (cntT (tmL l)) (sumT (tmL l)) l.length = 0 ∧ sumT (tmL l) ≠ 0 := by
 obtain ⟨e1, e2, e3, e4⟩ := sp_false h l.length
 have := mean_in h0 (sum_top l)
 rw [e1, e2]
 unfold totB totX
 rw [this]
 exact ⟨rfl, rfl, e3⟩
set_option maxHeartbeats 1000000 in
theorem dmean_v {a : Option Addr} {n c : Nat} {l : List Nat} (w : World) (hn : l.length = n) (hmax : n < 4611686018427387904) (hl : ∀ x ∈ l, W64 x) (hcell : UCells w a n l) :
  Calls Tryz.prog 17 #[.slice a n c] w fun e w' => e = .returned (.tuple #[.int .u64 (mnB l : Nat), .int .i64 (mnX l)]) ∧ Below w.heap.size w w' := by
 unfold mnB mnX
 rw [hn]
 by_cases hlong : 65536 < n
 ·rw [if_pos hlong, if_pos hlong]
  have h1 : (65536 : Int) < (n : Int) := by omega
  clear hcell hl hn
  go_enter Tryz.func17, Tryz.ntmps17
  go_wp2
  exact bodyPost_ret (results_tmp2 rfl _ _ _) rfl ⟨rfl, Below.refl _ _⟩
 rw [if_neg hlong, if_neg hlong]
 have h1 : ¬ (65536 : Int) < (n : Int) := by omega
 by_cases h0 : n = 0
 ·subst h0
  rw [if_pos rfl, if_pos rfl]
  clear hcell hl hn
  go_enter Tryz.func17, Tryz.ntmps17
  go_wp2
  exact bodyPost_ret (results_tmp2 rfl _ _ _) rfl ⟨rfl, Below.refl _ _⟩
 rw [if_neg h0, if_neg h0]
 have h2 : ((n : Int) == 0) = false := by simp; omega
 have HOF : Hid (Calls Tryz.prog 33 #[.slice a n c] w fun e w' => ∃ g, e = .returned (.pointer (some ⟨g, 0, none⟩)) ∧ w.heap.size ≤ g ∧ DocT w' g (tmL l) ∧ Below w.heap.size w w') := dof_v w hn hmax hl hcell
 have HSP : Hid (∀ W g, DocT W g (tmL l) → Calls Tryz.prog 37 #[.pointer (some ⟨g, 0, none⟩)] W fun e w' => e = .returned (.tuple #[.int .u64 (spV (cntT (tmL l)) (sumT (tmL l)) : Nat), .bool (spF (cntT (tmL l)) (sumT (tmL l)))]) ∧ Below W.heap.size W w') := fun W g hA => special_v W hA (fitD_L (by omega))
 cases hF : spF (cntT (tmL l)) (sumT (tmL l))
 ·obtain ⟨e1, e2, e3⟩ := mean_tot hF (by omega)
  rw [hn] at e1 e2
  rw [e1, e2]
  rw [hF] at HSP
  have HRO : Hid (∀ W g, DocT W g (tmL l) → Calls Tryz.prog 38 #[.pointer (some ⟨g, 0, none⟩), .int .i64 (n : Nat)] W fun e w' => e = .returned (.tuple #[.int .u64 (bits64 (decide (sumT (tmL l) < 0)) (sumO (sumT (tmL l)) n) : Nat), .bool (sumO (sumT (tmL l)) n).ov]) ∧ Below W.heap.size W w') := fun W g hA => rounded_v (n := n) W hA (fitD_L (by omega)) e3 (by omega) hmax
  obtain ⟨BB, hBB⟩ : ∃ x, x = bits64 (decide (sumT (tmL l) < 0)) (sumO (sumT (tmL l)) n) := ⟨_, rfl⟩
  rw [← hBB] at HRO ⊢
  clear hcell hl hn hF e1 e2 e3 hBB
  go_enter Tryz.func17, Tryz.ntmps17
  go_wp2_with fail
  (with_reducible refine Calls.mono HOF.out ?_)
  rintro e w1 ⟨g, rfl, -, hd, hb⟩
  have HD : Hid (DocT w1 g (tmL l)) := hd
  have HB : Hid (Below w.heap.size w w1) := hb
  clear hd hb
  go_wp2_with fail
  (with_reducible refine (HSP.out _ _ HD.out).mono ?_)
  rintro e w2 ⟨rfl, hb⟩
  have HB2 : Hid (Below w.heap.size w w2) := HB.out.thru hb
  have HD2 : Hid (DocT w2 g (tmL l)) := HD.out.below hb
  clear hb
  go_wp2_with fail
  (with_reducible refine (HRO.out _ _ HD2.out).mono ?_)
  rintro e w3 ⟨rfl, hb⟩
  have HB3 : Hid (Below w.heap.size w w3) := HB2.out.thru hb
  clear hb
  go_wp2
  exact bodyPost_ret (results_tmp2 rfl _ _ _) rfl ⟨rfl, HB3.out⟩
 ·obtain ⟨e1, e2⟩ := sp_true hF n
  rw [e1, e2]
  rw [hF] at HSP
  clear hcell hl hn hF e1 e2
  go_enter Tryz.func17, Tryz.ntmps17
  go_wp2_with fail
  (with_reducible refine Calls.mono HOF.out ?_)
  rintro e w1 ⟨g, rfl, -, hd, hb⟩
  have HD : Hid (DocT w1 g (tmL l)) := hd
  have HB : Hid (Below w.heap.size w w1) := hb
  clear hd hb
  go_wp2_with fail
  (with_reducible refine (HSP.out _ _ HD.out).mono ?_)
  rintro e w2 ⟨rfl, hb⟩
  have HB2 : Hid (Below w.heap.size w w2) := HB.out.thru hb
  clear hb
  go_wp2
  exact bodyPost_ret (results_tmp2 rfl _ _ _) rfl ⟨rfl, HB2.out⟩
set_option maxHeartbeats 4000000 in
theorem ddot_v {a a' : Option Addr} {n c n' c' : Nat} {l l' : List Nat} (w : World) (hn : l.length = n) (hn' : l'.length = n') (hmax : n < 4611686018427387904) (hmax' : n' < 4611686018427387904) (hl : ∀ x ∈ l, W64 x) (hl' : ∀ x ∈ l', W64 x) (hcell : UCells w a n l) (hcell' : UCells w a' n' l') :
  Calls Tryz.prog 14 #[.slice a n c, .slice a' n' c'] w fun e w' => e = .returned (.tuple #[.int .u64 (dtB l l' : Nat), .int .i64 (dtX l l')]) ∧ Below w.heap.size w w' := by
 unfold dtB dtX
 rw [hn, hn']
 by_cases hlong : 65536 < n
 ·rw [if_pos (.inl hlong), if_pos (.inl hlong)]
  have h1 : (65536 : Int) < (n : Int) := by omega
  clear hcell hl hn hcell' hl' hn'
  go_enter Tryz.func14, Tryz.ntmps14
  go_wp2
  exact bodyPost_ret (results_tmp2 rfl _ _ _) rfl ⟨rfl, Below.refl _ _⟩
 have h1 : ¬ (65536 : Int) < (n : Int) := by omega
 by_cases hlong' : 65536 < n'
 ·rw [if_pos (.inr hlong'), if_pos (.inr hlong')]
  have h2 : (65536 : Int) < (n' : Int) := by omega
  clear hcell hl hn hcell' hl' hn'
  go_enter Tryz.func14, Tryz.ntmps14
  go_wp2
  exact bodyPost_ret (results_tmp2 rfl _ _ _) rfl ⟨rfl, Below.refl _ _⟩
 have h2 : ¬ (65536 : Int) < (n' : Int) := by omega
 rw [if_neg (show ¬ (65536 < n ∨ 65536 < n') by omega), if_neg (show ¬ (65536 < n ∨ 65536 < n') by omega)]
 by_cases hne : n = n'
 ·subst hne
  rw [if_neg (by simp), if_neg (by simp)]
  obtain ⟨S, hS⟩ : ∃ S : Nat → List Term1, ∀ k, S k = tmD (l.take k) (l'.take k) := ⟨_, fun _ => rfl⟩
  have HSL : Hid (∀ k, k ≤ n → FitD (S k)) := fun k hk => by rw [hS]; exact fitD_D (by rw [List.length_take]; omega)
  have HS0 : Hid (S 0 = []) := by show _ = _; rw [hS]; simp [tmD]
  have HSN : Hid (S n = tmD l l') := by
   have e1 : l.take n = l := by rw [← hn]; exact List.take_length
   have e2 : l'.take n = l' := by rw [← hn']; exact List.take_length
   show _ = _; rw [hS, e1, e2]
  obtain ⟨x, hx⟩ : ∃ x : Nat → Nat, ∀ k, x k = l.getD k 0 := ⟨_, fun _ => rfl⟩
  obtain ⟨y, hy⟩ : ∃ y : Nat → Nat, ∀ k, y k = l'.getD k 0 := ⟨_, fun _ => rfl⟩
  have HPR : Hid (∀ W g k, k < n → DocT W g (S k) → Calls Tryz.prog 35 #[.pointer (some ⟨g, 0, none⟩), .int .u64 (x k : Nat), .int .u64 (y k : Nat)] W fun e w' => e = .returned (.tuple #[]) ∧ DocT w' g (S (k + 1)) ∧ But g W w') := fun W g k hk hA => by
   have e : S (k + 1) = S k ++ [tmP (l.getD k 0) (l'.getD k 0)] := by rw [hS, hS]; exact tmD_take (by omega) (by omega)
   have hf := HSL.out (k + 1) (by omega)
   rw [e] at hf ⊢
   rw [hx, hy]
   exact dprod_v W hA hf (get_W hl k) (get_W hl' k)
  have HTO : Hid (∀ W g, DocT W g (S n) → Calls Tryz.prog 34 #[.pointer (some ⟨g, 0, none⟩)] W fun e w' => e = .returned (.tuple #[.int .u64 (ansB (cntT (S n)) (sumT (S n)) 1 : Nat), .int .i64 (ansX (cntT (S n)) (sumT (S n)) 1)]) ∧ Below W.heap.size W w') := fun W g hA => dtotal_v W hA (HSL.out n (Nat.le_refl _))
  rw [← HSN.out]
  have HCE : Hid ((0 < n → ∃ b o, a = some ⟨b, o, none⟩ ∧ b < w.heap.size ∧ ∀ k, k < n → w.cell? ⟨b, o + k, none⟩ = some (.int .u64 (x k : Nat))) ∧ (0 < n → ∃ b o, a' = some ⟨b, o, none⟩ ∧ b < w.heap.size ∧ ∀ k, k < n → w.cell? ⟨b, o + k, none⟩ = some (.int .u64 (y k : Nat)))) := ⟨fun h => by
   obtain ⟨b, o, h1, h2, h3⟩ := hcell h
   exact ⟨b, o, h1, h2, fun k hk => by rw [h3 k hk, hx]⟩, fun h => by
   obtain ⟨b, o, h1, h2, h3⟩ := hcell' h
   exact ⟨b, o, h1, h2, fun k hk => by rw [h3 k hk, hy]⟩⟩
  have HD0 : Hid (DocT (w.alloc (.cells #[.int .i64 0, .int .i64 0, .int .i64 0, .int .i64 0, .int .i64 0, .bool false, .slice none 0 0] 66)) w.heap.size (S 0)) := by
   show DocT _ _ _
   rw [HS0.out]
   exact doc_nil (heap_alloc_new _ _)
  have HB0 : Hid (Below w.heap.size w (w.alloc (.cells #[.int .i64 0, .int .i64 0, .int .i64 0, .int .i64 0, .int .i64 0, .bool false, .slice none 0 0] 66))) := (Below.refl _ _).alloc (Nat.le_refl _) _
  clear hcell hl hn hcell' hl' hn' hS HSN hlong hlong' hx hy HS0 HSL
  go_enter Tryz.func14, Tryz.ntmps14
  go_wp2_with fail
  go_loopw [7] (fun i wr => ∃ k : Nat, k ≤ n ∧ i = .int .i64 (k : Nat) ∧ DocT wr w.heap.size (S k) ∧ Below w.heap.size w wr) (fun i _ => n - (intOf i).toNat)
  case atStart => exact ⟨0, Nat.zero_le _, rfl, HD0.out, HB0.out⟩
  case round =>
   obtain ⟨k, hk, rfl, hacc, hbk⟩ := hrel
   have HA : Hid (DocT wr w.heap.size (S k)) := hacc
   have HB : Hid (Below w.heap.size w wr) := hbk
   clear hacc hbk HD0 HB0
   by_cases hkn : k < n
   ·obtain ⟨b, o, rfl, hb, hcc⟩ := HCE.out.1 (by omega)
    obtain ⟨b', o', rfl, hb', hcc'⟩ := HCE.out.2 (by omega)
    have HC : Hid (∀ W, Below wr.heap.size wr W → W.cell? ⟨b, o + k, none⟩ = some (.int .u64 (x k : Nat)) ∧ W.cell? ⟨b', o' + k, none⟩ = some (.int .u64 (y k : Nat))) := fun W hW =>
     ⟨((HB.out.thru hW).cell (p := ⟨b, o + k, none⟩) hb).trans (hcc k hkn), ((HB.out.thru hW).cell (p := ⟨b', o' + k, none⟩) hb').trans (hcc' k hkn)⟩
    have HK : Hid (k < n) := hkn
    have hkn2 : (k : Int) < (n : Int) := by omega
    have hk0 : (0 : Int) ≤ (k : Int) := by omega
    clear hcc hcc' hb hb'
    go_upto_region 9 with fail
    have h1 : once [(31, 0), (32, 1), (33, 2), (34, 3), (35, 4), (36, 5), (37, 6), (38, 7), (39, 8)] = true := by kernel_rfl
    have h2 : within [(31, 0), (32, 1), (33, 2), (34, 3), (35, 4), (36, 5), (37, 6), (38, 7), (39, 8)] 45 = true := by kernel_rfl
    let S : Nat → (Nat → Value) → World → Prop := fun i xs W => match i with
     | 0 => xs 0 = .pointer (some ⟨w.heap.size, 0, none⟩)
     | 1 => xs 1 = .slice (some ⟨b, o, none⟩) n c
     | 2 => xs 2 = .int .i64 (k : Nat)
     | 3 => xs 3 = .pointer (some ⟨b, o + k, none⟩)
     | 4 => xs 4 = .int .u64 (x k : Nat)
     | 5 => xs 5 = .slice (some ⟨b', o', none⟩) n c'
     | 6 => xs 6 = .int .i64 (k : Nat)
     | 7 => xs 7 = .pointer (some ⟨b', o' + k, none⟩)
     | 8 => xs 8 = .int .u64 (y k : Nat)
     | _ => True
    have hstab : ∀ j ys W W', S j ys W → Below W.heap.size W W' → S j ys W' := by
     intro j ys W W' h hb
     match j, h with
     | 0, h => exact h
     | 1, h => exact h
     | 2, h => exact h
     | 3, h => exact h
     | 4, h => exact h
     | 5, h => exact h
     | 6, h => exact h
     | 7, h => exact h
     | 8, h => exact h
     | _ + 9, h => exact trivial
    refine wp_region_flow3T 9 10 4 [(31, 0), (32, 1), (33, 2), (34, 3), (35, 4), (36, 5), (37, 6), (38, 7), (39, 8)] [] S (fun _ W => Below wr.heap.size wr W) ((Below.refl _ _).drew) (by kernel_rfl) (by kernel_rfl) (by kernel_rfl) (by decide) (by kernel_rfl) h1 (by kernel_rfl) ?_ ?_ ?_ ?_
    ·exact fun j hj => by cases hj
    ·intro j xs ys W e h
     match j, e, h with
     | 0, e, h => exact c_ (e 0 (.inl rfl)) h
     | 1, e, h => exact c_ (e 1 (.inl rfl)) h
     | 2, e, h => exact c_ (e 2 (.inl rfl)) h
     | 3, e, h => exact c_ (e 3 (.inl rfl)) h
     | 4, e, h => exact c_ (e 4 (.inl rfl)) h
     | 5, e, h => exact c_ (e 5 (.inl rfl)) h
     | 6, e, h => exact c_ (e 6 (.inl rfl)) h
     | 7, e, h => exact c_ (e 7 (.inl rfl)) h
     | 8, e, h => exact c_ (e 8 (.inl rfl)) h
     | _ + 9, e, h => exact trivial
    ·refine ⟨⟨⟨⟨⟨⟨⟨⟨⟨trivial, ?_⟩, ?_⟩, ?_⟩, ?_⟩, ?_⟩, ?_⟩, ?_⟩, ?_⟩, ?_⟩
     ·refine flow3_step _ (some 31) rfl rfl rfl h1 h2 gI gB hstab fun ac xs W Dn he hni hG hS K hK => ?_
      exact op_move (.tmp 6) (.inl rfl) (hK _ _ (he 6) bR nA)
     ·refine flow3_step _ (some 32) rfl rfl rfl h1 h2 gI gB hstab fun ac xs W Dn he hni hG hS K hK => ?_
      exact op_move (.tmp 0) (.inl rfl) (hK _ _ (he 0) bR nA)
     ·refine flow3_step _ (some 33) rfl rfl rfl h1 h2 gI gB hstab fun ac xs W Dn he hni hG hS K hK => ?_
      exact op_move (.tmp 7) (.inl rfl) (hK _ _ (he 7) bR nA)
     ·refine flow3_step _ (some 34) rfl rfl rfl h1 h2 gI gB hstab fun ac xs W Dn he hni hG hS K hK => ?_
      have e0 := (he 32).trans (hS 1 (by kernel_rfl))
      have e1 := (he 33).trans (hS 2 (by kernel_rfl))
      refine op_any (.indexAddr 22 (.tmp 32) (.tmp 33)) rfl (.pointer (some ⟨b, o + k, none⟩)) (fun o' ho' => ?_) (hK _ _ rfl bR nA)
      simp only [execOp, ho', e0, e1]
      go_simp
     ·refine flow3_step _ (some 35) rfl rfl rfl h1 h2 gI gB hstab fun ac xs W Dn he hni hG hS K hK => ?_
      have e0 := (he 34).trans (hS 3 (by kernel_rfl))
      refine op_any (.load 30 (.tmp 34)) rfl (.int .u64 (x k : Nat)) (fun o' ho' => ?_) (hK _ _ rfl bR nA)
      simp only [execOp, ho', e0]
      have hc := (HC.out W hG).1
      go_simp
     ·refine flow3_step _ (some 36) rfl rfl rfl h1 h2 gI gB hstab fun ac xs W Dn he hni hG hS K hK => ?_
      exact op_move (.tmp 1) (.inl rfl) (hK _ _ (he 1) bR nA)
     ·refine flow3_step _ (some 37) rfl rfl rfl h1 h2 gI gB hstab fun ac xs W Dn he hni hG hS K hK => ?_
      exact op_move (.tmp 7) (.inl rfl) (hK _ _ (he 7) bR nA)
     ·refine flow3_step _ (some 38) rfl rfl rfl h1 h2 gI gB hstab fun ac xs W Dn he hni hG hS K hK => ?_
      have e0 := (he 36).trans (hS 5 (by kernel_rfl))
      have e1 := (he 37).trans (hS 6 (by kernel_rfl))
      refine op_any (.indexAddr 22 (.tmp 36) (.tmp 37)) rfl (.pointer (some ⟨b', o' + k, none⟩)) (fun o' ho' => ?_) (hK _ _ rfl bR nA)
      simp only [execOp, ho', e0, e1]
      go_simp
     ·refine flow3_step _ (some 39) rfl rfl rfl h1 h2 gI gB hstab fun ac xs W Dn he hni hG hS K hK => ?_
      have e0 := (he 38).trans (hS 7 (by kernel_rfl))
      refine op_any (.load 30 (.tmp 38)) rfl (.int .u64 (y k : Nat)) (fun o' ho' => ?_) (hK _ _ rfl bR nA)
      simp only [execOp, ho', e0]
      have hc := (HC.out W hG).2
      go_simp
    ·intro xs w3 Dn hall hG hS hD
     have s29 : xs 0 = _ := hS 0 (by decide)
     have s33 : xs 4 = _ := hS 4 (by decide)
     have s37 : xs 8 = _ := hS 8 (by decide)
     have HGB : Hid (Below wr.heap.size wr w3) := hG
     simp only [layAll, s29, s33, s37, List.setIfInBounds_toArray, List.set_cons_succ, List.set_cons_zero]
     clear hS hD hall hstab S hG h1 h2
     generalize xs 1 = x1 at *
     generalize xs 2 = x2 at *
     generalize xs 3 = x3 at *
     generalize xs 5 = x5 at *
     generalize xs 6 = x6 at *
     generalize xs 7 = x7 at *
     clear s29 s33 s37
     have HA3 : Hid (DocT w3 w.heap.size (S k)) := HA.out.below HGB.out
     go_wp2_with fail
     (with_reducible refine (HPR.out _ _ _ HK.out HA3.out).mono ?_)
     rintro e w4 ⟨rfl, hacc, hbut⟩
     have HA4 : Hid (DocT w4 w.heap.size (S (k + 1))) := hacc
     have HB4 : Hid (Below w.heap.size w w4) := But.over (HB.out.thru HGB.out) hbut (Nat.le_refl _) (HB.out.thru HGB.out).size
     have hw1 : IntKind.i64.wrap ((k : Int) + 1) = ((k + 1 : Nat) : Int) := by rw [IntWalk.i64_in _ (by omega)]; omega
     clear hacc hbut
     go_wp2
     go_roundw
     case rel => exact ⟨k + 1, by omega, by first | rfl | rw [hw1], HA4.out, HB4.out⟩
     case measure => simp [intOf]; omega
   ·obtain rfl : k = n := by omega
    clear hk hkn
    go_wp2_with fail
    (with_reducible refine (HTO.out _ _ HA.out).mono ?_)
    rintro e w3 ⟨rfl, hb⟩
    have HB3 : Hid (Below w.heap.size w w3) := HB.out.thru hb
    clear hb
    go_wp2
    exact bodyPost_ret (results_tmp2 rfl _ _ _) rfl ⟨rfl, HB3.out⟩
 ·rw [if_pos hne, if_pos hne]
  have h3 : ((n : Int) == (n' : Int)) = false := by simp; omega
  clear hcell hl hn hcell' hl' hn' hne
  go_enter Tryz.func14, Tryz.ntmps14
  go_wp2
  exact bodyPost_ret (results_tmp2 rfl _ _ _) rfl ⟨rfl, Below.refl _ _⟩
end Go.Proofs.YtlffojopfilfeaaGreatDoor
