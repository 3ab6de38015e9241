import Derived.Test.YtlbokicainimnaaGreatDoorPJF
import Derived.Test.YtlbokicainimnaaGreatDoorPID
import Derived.Test.YtlbokicainimnaaGreatDoorPJR
import Derived.OwnWalk
import Derived.Test.YtlbokicainimnaaGreatDoorPJP
import Derived.Test.YtlbokicainimnaaGreatDoorPUD
set_option maxRecDepth 100000
namespace Go.Proofs.YtlbokicainimnaaGreatDoor
open Go Go.RowKit
open Go.Lib hiding intOf
def oftA (l : List Nat) : Nat × Nat × Int := if l.length = 0 then (0, 0, 4) else ((ordL l).getD (bstK (ordL l) l.length).1 0, (bstK (ordL l) l.length).2, 0)
theorem bst_lt (s : List Nat) : ∀ i, (bstK s i).1 ≤ i - 1 ∧ (bstK s i).2 ≤ s.length
 | 0 => ⟨Nat.le_refl _, Nat.zero_le _⟩
 | i + 1 => by
   obtain ⟨h1, h2⟩ := bst_lt s i
   show (if _ then _ else _ : Nat × Nat).1 ≤ i ∧ (if _ then _ else _ : Nat × Nat).2 ≤ s.length
   split
   ·exact ⟨Nat.le_refl _, List.countP_le_length⟩
   ·exact ⟨by omega, h2⟩
set_option maxHeartbeats 16000000 in
theorem often9_v {a : Option Addr} {n c : Nat} {l : List Nat} (w : World) (hn : l.length = n) (hmax : n * 8 ≤ 140737488355328) (hl : ∀ x ∈ l, W64 x) (hcell : FIn w a n l) :
  Calls Tryz.prog 38 #[.slice a n c] w fun e w' => e = .returned (.tuple #[.float .f64 (oftA l).1, .int .i64 ((oftA l).2.1 : Nat), .int .i64 (oftA l).2.2]) ∧ Below w.heap.size w w' := by
 by_cases h0 : n = 0
 ·subst h0
  have ht : oftA l = (0, 0, 4) := by unfold oftA; rw [if_pos hn]
  rw [ht]
  clear hcell hl
  go_enter Tryz.func38, Tryz.ntmps38
  go_wp2
  go_ret3
  exact ⟨rfl, Below.refl _ _⟩
 ·have HS : Hid (Calls Tryz.prog 31 #[.slice a n c] w fun e w' => (∃ g, e = .returned (.slice (some ⟨g, 0, none⟩) n n) ∧ FOn w' w.heap.size (.slice (some ⟨g, 0, none⟩) n n) n (ordL l)) ∧ Below w.heap.size w w') := sorted9_v w hn hmax hl hcell
  obtain ⟨s, hs⟩ : ∃ s, s = ordL l := ⟨_, rfl⟩
  have ht : oftA l = (s.getD (bstK s n).1 0, (bstK s n).2, 0) := by unfold oftA; rw [if_neg (by omega), hn, ← hs]
  rw [ht]
  have HO : Hid (InO s ∧ (∀ x ∈ s, Oned x) ∧ s.length = n) := ⟨by rw [hs]; exact ordL_ord l, by rw [hs]; exact ordL_oned hl, by rw [hs, ordL_len, hn]⟩
  rw [← hs] at HS
  clear hcell hl hs ht
  go_enter Tryz.func38, Tryz.ntmps38
  go_wp2_with fail
  refine Calls.mono HS.out ?_
  rintro e w1 ⟨⟨g, rfl, ho⟩, hb⟩
  have HF : Hid (∀ W, Below w1.heap.size w1 W → ∀ j, j < n → W.cell? ⟨g, j, none⟩ = some (.float .f64 (s.getD j 0))) := fun W hW j hj => (hW.cell (p := ⟨g, j, none⟩) ho.lt.2).trans (ho.cell hj)
  have HB : Hid (Below w.heap.size w w1) := hb
  clear ho hb HS
  go_wp2_with fail
  go_loopw [6, 7, 8] (fun bv mv fv wr => ∃ i : Nat, (i ≤ n ∧ fv = .int .i64 (i : Nat) ∧ bv = .int .i64 ((bstK s i).1 : Nat) ∧ mv = .int .i64 ((bstK s i).2 : Nat)) ∧ RunAt s i ∧ Below w1.heap.size w1 wr) (fun _ _ fv _ => n - (intOf fv).toNat)
  case atStart => exact ⟨0, ⟨Nat.zero_le _, by first | rfl | go_num, by first | rfl | go_num, by first | rfl | go_num⟩, run_zero s, Below.refl _ _⟩
  case round =>
   obtain ⟨i, ⟨hi, rfl, rfl, rfl⟩, hrun, hbr⟩ := hrel
   have HRUN : Hid (RunAt s i) := hrun
   have HBR : Hid (Below w1.heap.size w1 wr) := hbr
   obtain ⟨bst1, bst2⟩ := bst_lt s i
   obtain ⟨b1, hb1⟩ : ∃ b, b = (bstK s i).1 := ⟨_, rfl⟩
   obtain ⟨m1, hm1⟩ : ∃ m, m = (bstK s i).2 := ⟨_, rfl⟩
   rw [← hb1] at bst1
   rw [← hm1] at bst2
   rw [← hb1, ← hm1]
   have HBM : Hid (bstK s i = (b1, m1)) := by show _ = _; rw [hb1, hm1]
   clear hrun hbr hb1 hm1
   by_cases hin : i < n
   ·have hin2 : (i : Int) < n := by omega
    go_wp2_with fail
    go_loopw [9] (fun nv wq => ∃ m : Nat, (nv = .int .i64 (m : Nat) ∧ 1 ≤ m ∧ i + m ≤ n) ∧ (∀ j, i ≤ j → j < i + m → kcl (s.getD j 0) = kcl (s.getD i 0)) ∧ Below w1.heap.size w1 wq) (fun nv _ => n - (intOf nv).toNat)
    case atStart => exact ⟨1, ⟨by first | rfl | go_num, Nat.le_refl _, by omega⟩, fun j h1 h2 => by rw [show j = i by omega], HBR.out⟩
    case round =>
     rename_i wo
     obtain ⟨m, ⟨rfl, hm1, him⟩, hall, hbq⟩ := hrel
     have HALL : Hid (∀ j, i ≤ j → j < i + m → kcl (s.getD j 0) = kcl (s.getD i 0)) := hall
     have HBQ : Hid (Below w1.heap.size w1 wr) := hbq
     have hw1 : IntKind.i64.wrap ((i : Int) + (m : Int)) = ((i + m : Nat) : Int) := by rw [IntWalk.i64_in _ (by omega)]; omega
     have hw2 : IntKind.i64.wrap ((m : Int) + 1) = ((m + 1 : Nat) : Int) := by rw [IntWalk.i64_in _ (by omega)]; omega
     obtain ⟨x, hx⟩ : ∃ x, x = s.getD i 0 := ⟨_, rfl⟩
     have hcx := HF.out wr hbq i hin
     rw [← hx] at hcx
     have hel : ∀ j, j < n → Oned (s.getD j 0) := fun j hj => by
      have hjs : j < s.length := by have := HO.out.2.2; omega
      rw [List.getD_eq_getElem?_getD, List.getElem?_eq_getElem hjs]
      exact HO.out.2.1 _ (List.getElem_mem hjs)
     have hxo : Oned x := by rw [hx]; exact hel i hin
     have k0 : (0 : Int) ≤ (i : Int) := by omega
     clear hbq
     by_cases hend : i + m < n
     ·obtain ⟨y, hy⟩ : ∃ y, y = s.getD (i + m) 0 := ⟨_, rfl⟩
      have hyo : Oned y := by rw [hy]; exact hel (i + m) hend
      have hkr := kcl_run hxo hyo (by rw [hx, hy]; exact ord_le HO.out.1 (by omega) (by have := HO.out.2.2; omega))
      obtain ⟨o1, ho1, he1, -, -⟩ := ord_opts hyo.1 hxo.1
      have he1b : equalB y x = (Go.FloatKind.f64.format.order y x == some .eq) := by rw [he1, ho1]
      have HYX : Hid (y = s.getD (i + m) 0 ∧ x = s.getD i 0) := ⟨hy, hx⟩
      have hend2 : (i : Int) + m < n := by omega
      have hkt : ((i : Int) + (m : Int)).toNat = i + m := by omega
      have k1 : (0 : Int) ≤ (i : Int) + m := by omega
      clear hel hall hx hy hxo hyo ho1 he1 hcx
      have hnx : (Go.FloatKind.f64.format.order x x != some .eq) = nanB x := w_ne_self x
      cases e1 : (Go.FloatKind.f64.format.order y x == some .eq)
      ·have HEQ : Hid ((Go.FloatKind.f64.format.order y x == some .eq) = false) := e1
       rw [he1b, e1] at hkr
       obtain ⟨nx, hnx2⟩ : ∃ nx, nx = nanB x := ⟨_, rfl⟩
       have HNX : Hid ((Go.FloatKind.f64.format.order x x != some .eq) = nx) := hnx.trans hnx2.symm
       rw [← hnx2] at hkr
       cases nx
       ·have HEND : Hid (i + m = s.length ∨ kcl (s.getD (i + m) 0) ≠ kcl (s.getD i 0)) := .inr (by rw [← HYX.out.1, ← HYX.out.2]; exact of_decide_eq_false hkr.symm)
        clear hnx hnx2 hkr he1b e1
        go_upto_region 8 with fail
        have h1 : once [(19, 0), (20, 1), (21, 2), (22, 3), (23, 4), (24, 5), (25, 6), (26, 7), (27, 8), (28, 9), (29, 10), (30, 11), (31, 12), (32, 13), (33, 14), (34, 15), (35, 16), (36, 17), (37, 18), (38, 19), (39, 20), (40, 21), (41, 22), (42, 23), (43, 24), (44, 25), (45, 26), (46, 27), (47, 28), (48, 29)] = true := by kernel_rfl
        have h2 : within [(19, 0), (20, 1), (21, 2), (22, 3), (23, 4), (24, 5), (25, 6), (26, 7), (27, 8), (28, 9), (29, 10), (30, 11), (31, 12), (32, 13), (33, 14), (34, 15), (35, 16), (36, 17), (37, 18), (38, 19), (39, 20), (40, 21), (41, 22), (42, 23), (43, 24), (44, 25), (45, 26), (46, 27), (47, 28), (48, 29)] 64 = true := by kernel_rfl
        let S : Nat → (Nat → Value) → World → Prop := fun ix xs W => match ix with
         | 0 => xs 0 = .int .i64 (i : Nat)
         | 1 => xs 1 = .int .i64 (m : Nat)
         | 2 => xs 2 = .int .i64 ((i + m : Nat) : Int)
         | 3 => xs 3 = .slice (some ⟨g, 0, none⟩) n n
         | 4 => xs 4 = .int .i64 (n : Nat)
         | 5 => xs 5 = .bool true
         | 6 => xs 6 = .bool true
         | 7 => xs 7 = .slice (some ⟨g, 0, none⟩) n n
         | 8 => xs 8 = .int .i64 (i : Nat)
         | 9 => xs 9 = .int .i64 (m : Nat)
         | 10 => xs 10 = .int .i64 ((i + m : Nat) : Int)
         | 11 => xs 11 = .pointer (some ⟨g, i + m, none⟩)
         | 12 => xs 12 = .float .f64 y
         | 13 => xs 13 = .slice (some ⟨g, 0, none⟩) n n
         | 14 => xs 14 = .int .i64 (i : Nat)
         | 15 => xs 15 = .pointer (some ⟨g, i, none⟩)
         | 16 => xs 16 = .float .f64 x
         | 17 => xs 17 = .bool false
         | 18 => xs 18 = .bool false
         | 19 => xs 19 = .slice (some ⟨g, 0, none⟩) n n
         | 20 => xs 20 = .int .i64 (i : Nat)
         | 21 => xs 21 = .pointer (some ⟨g, i, none⟩)
         | 22 => xs 22 = .float .f64 x
         | 23 => xs 23 = .slice (some ⟨g, 0, none⟩) n n
         | 24 => xs 24 = .int .i64 (i : Nat)
         | 25 => xs 25 = .pointer (some ⟨g, i, none⟩)
         | 26 => xs 26 = .float .f64 x
         | 27 => xs 27 = .bool false
         | 28 => xs 28 = .bool false
         | 29 => xs 29 = .bool false
         | _ => True
        have hstab : ∀ j ys W W', S j ys W → Below W.heap.size W W' → S j ys W' := by
         intro j ys W W' h hb
         match j, h with
         | 0, h => exact h
         | 1, h => exact h
         | 2, h => exact h
         | 3, h => exact h
         | 4, h => exact h
         | 5, h => exact h
         | 6, h => exact h
         | 7, h => exact h
         | 8, h => exact h
         | 9, h => exact h
         | 10, h => exact h
         | 11, h => exact h
         | 12, h => exact h
         | 13, h => exact h
         | 14, h => exact h
         | 15, h => exact h
         | 16, h => exact h
         | 17, h => exact h
         | 18, h => exact h
         | 19, h => exact h
         | 20, h => exact h
         | 21, h => exact h
         | 22, h => exact h
         | 23, h => exact h
         | 24, h => exact h
         | 25, h => exact h
         | 26, h => exact h
         | 27, h => exact h
         | 28, h => exact h
         | 29, h => exact h
         | _ + 30, h => exact trivial
        refine wp_region_flow3 30 30 [(19, 0), (20, 1), (21, 2), (22, 3), (23, 4), (24, 5), (25, 6), (26, 7), (27, 8), (28, 9), (29, 10), (30, 11), (31, 12), (32, 13), (33, 14), (34, 15), (35, 16), (36, 17), (37, 18), (38, 19), (39, 20), (40, 21), (41, 22), (42, 23), (43, 24), (44, 25), (45, 26), (46, 27), (47, 28), (48, 29)] [] S (fun _ W => (fun W => Below w1.heap.size w1 W) W) HBQ.out.drew (by kernel_rfl) (by kernel_rfl) (by kernel_rfl) (by decide) (by kernel_rfl) h1 (by kernel_rfl) (fun j hj => by cases hj) ?_ ?_ ?_
        ·intro j xs ys W e h
         match j, e, h with
         | 0, e, h => exact c_ (e 0 (.inl rfl)) h
         | 1, e, h => exact c_ (e 1 (.inl rfl)) h
         | 2, e, h => exact c_ (e 2 (.inl rfl)) h
         | 3, e, h => exact c_ (e 3 (.inl rfl)) h
         | 4, e, h => exact c_ (e 4 (.inl rfl)) h
         | 5, e, h => exact c_ (e 5 (.inl rfl)) h
         | 6, e, h => exact c_ (e 6 (.inl rfl)) h
         | 7, e, h => exact c_ (e 7 (.inl rfl)) h
         | 8, e, h => exact c_ (e 8 (.inl rfl)) h
         | 9, e, h => exact c_ (e 9 (.inl rfl)) h
         | 10, e, h => exact c_ (e 10 (.inl rfl)) h
         | 11, e, h => exact c_ (e 11 (.inl rfl)) h
         | 12, e, h => exact c_ (e 12 (.inl rfl)) h
         | 13, e, h => exact c_ (e 13 (.inl rfl)) h
         | 14, e, h => exact c_ (e 14 (.inl rfl)) h
         | 15, e, h => exact c_ (e 15 (.inl rfl)) h
         | 16, e, h => exact c_ (e 16 (.inl rfl)) h
         | 17, e, h => exact c_ (e 17 (.inl rfl)) h
         | 18, e, h => exact c_ (e 18 (.inl rfl)) h
         | 19, e, h => exact c_ (e 19 (.inl rfl)) h
         | 20, e, h => exact c_ (e 20 (.inl rfl)) h
         | 21, e, h => exact c_ (e 21 (.inl rfl)) h
         | 22, e, h => exact c_ (e 22 (.inl rfl)) h
         | 23, e, h => exact c_ (e 23 (.inl rfl)) h
         | 24, e, h => exact c_ (e 24 (.inl rfl)) h
         | 25, e, h => exact c_ (e 25 (.inl rfl)) h
         | 26, e, h => exact c_ (e 26 (.inl rfl)) h
         | 27, e, h => exact c_ (e 27 (.inl rfl)) h
         | 28, e, h => exact c_ (e 28 (.inl rfl)) h
         | 29, e, h => exact c_ (e 29 (.inl rfl)) h
         | _ + 30, e, h => exact trivial
        ·refine ⟨⟨⟨⟨⟨⟨⟨⟨⟨⟨⟨⟨⟨⟨⟨⟨⟨⟨⟨⟨⟨⟨⟨⟨⟨⟨⟨⟨⟨⟨trivial, ?_⟩, ?_⟩, ?_⟩, ?_⟩, ?_⟩, ?_⟩, ?_⟩, ?_⟩, ?_⟩, ?_⟩, ?_⟩, ?_⟩, ?_⟩, ?_⟩, ?_⟩, ?_⟩, ?_⟩, ?_⟩, ?_⟩, ?_⟩, ?_⟩, ?_⟩, ?_⟩, ?_⟩, ?_⟩, ?_⟩, ?_⟩, ?_⟩, ?_⟩, ?_⟩
         ·refine flow3_step _ (some 19) rfl rfl rfl h1 h2 gI gB hstab fun ac xs W Dn he hni hG hS K hK => ?_
          exact op_move (.tmp 8) (.inl rfl) (hK _ _ (he 8) bR nA)
         ·refine flow3_step _ (some 20) rfl rfl rfl h1 h2 gI gB hstab fun ac xs W Dn he hni hG hS K hK => ?_
          exact op_move (.tmp 9) (.inl rfl) (hK _ _ (he 9) bR nA)
         ·refine flow3_step _ (some 21) rfl rfl rfl h1 h2 gI gB hstab fun ac xs W Dn he hni hG hS K hK => ?_
          have e0 := (he 19).trans (hS 0 (by kernel_rfl))
          have e1 := (he 20).trans (hS 1 (by kernel_rfl))
          refine op_any (.binOp .add 3 (.tmp 19) (.tmp 20) 3) rfl (.int .i64 ((i + m : Nat) : Int)) (fun o' ho' => ?_) (hK _ _ rfl bR nA)
          simp only [execOp, ho', e0, e1]
          go_simp
         ·refine flow3_step _ (some 22) rfl rfl rfl h1 h2 gI gB hstab fun ac xs W Dn he hni hG hS K hK => ?_
          exact op_move (.tmp 5) (.inl rfl) (hK _ _ (he 5) bR nA)
         ·refine flow3_step _ (some 23) rfl rfl rfl h1 h2 gI gB hstab fun ac xs W Dn he hni hG hS K hK => ?_
          have e0 : ac.tmps[22]?.getD undef = .slice (some ⟨g, 0, none⟩) n n := by rw [← Array.getD_eq_getD_getElem?]; exact (he 22).trans (hS 3 (by kernel_rfl))
          refine op_any (.call ⟨.builtin .len, #[.tmp 22], #[40]⟩) rfl (.int .i64 (n : Nat)) (fun o' ho' => ?_) (hK _ _ rfl bR nA)
          simp only [execOp, ho']
          go_simp
         ·refine flow3_step _ (some 24) rfl rfl rfl h1 h2 gI gB hstab fun ac xs W Dn he hni hG hS K hK => ?_
          have e0 := (he 21).trans (hS 2 (by kernel_rfl))
          have e1 := (he 23).trans (hS 4 (by kernel_rfl))
          refine op_any (.binOp .lss 3 (.tmp 21) (.tmp 23) 3) rfl (.bool true) (fun o' ho' => ?_) (hK _ _ rfl bR nA)
          simp only [execOp, ho', e0, e1]
          go_simp
         ·refine flow3_step _ (some 25) rfl rfl rfl h1 h2 gI gB hstab fun ac xs W Dn he hni hG hS K hK => ?_
          exact op_move (.tmp 24) (.inl rfl) (hK _ _ ((he 24).trans (hS 5 (by kernel_rfl))) bR nA)
         ·refine flow3_stepG _ 26 6 25 true rfl rfl rfl (by kernel_rfl) (fun _ => rfl) (fun xs W h => h) (fun d h => by simpa using h) rfl h1 h2 gI gB hstab fun ac xs W Dn he hni hG hS K hK => ?_
          exact op_move (.tmp 5) (.inl rfl) (hK _ _ (he 5) bR nA)
         ·refine flow3_stepG _ 27 6 25 true rfl rfl rfl (by kernel_rfl) (fun _ => rfl) (fun xs W h => h) (fun d h => by simpa using h) rfl h1 h2 gI gB hstab fun ac xs W Dn he hni hG hS K hK => ?_
          exact op_move (.tmp 8) (.inl rfl) (hK _ _ (he 8) bR nA)
         ·refine flow3_stepG _ 28 6 25 true rfl rfl rfl (by kernel_rfl) (fun _ => rfl) (fun xs W h => h) (fun d h => by simpa using h) rfl h1 h2 gI gB hstab fun ac xs W Dn he hni hG hS K hK => ?_
          exact op_move (.tmp 9) (.inl rfl) (hK _ _ (he 9) bR nA)
         ·refine flow3_stepG _ 29 6 25 true rfl rfl rfl (by kernel_rfl) (fun _ => rfl) (fun xs W h => h) (fun d h => by simpa using h) rfl h1 h2 gI gB hstab fun ac xs W Dn he hni hG hS K hK => ?_
          have e0 := (he 27).trans (hS 8 (by kernel_rfl))
          have e1 := (he 28).trans (hS 9 (by kernel_rfl))
          refine op_any (.binOp .add 3 (.tmp 27) (.tmp 28) 3) rfl (.int .i64 ((i + m : Nat) : Int)) (fun o' ho' => ?_) (hK _ _ rfl bR nA)
          simp only [execOp, ho', e0, e1]
          go_simp
         ·refine flow3_stepG _ 30 6 25 true rfl rfl rfl (by kernel_rfl) (fun _ => rfl) (fun xs W h => h) (fun d h => by simpa using h) rfl h1 h2 gI gB hstab fun ac xs W Dn he hni hG hS K hK => ?_
          have e0 := (he 26).trans (hS 7 (by kernel_rfl))
          have e1 := (he 29).trans (hS 10 (by kernel_rfl))
          refine op_any (.indexAddr 40 (.tmp 26) (.tmp 29)) rfl (.pointer (some ⟨g, i + m, none⟩)) (fun o' ho' => ?_) (hK _ _ rfl bR nA)
          simp only [execOp, ho', e0, e1]
          go_simp
         ·refine flow3_stepG _ 31 6 25 true rfl rfl rfl (by kernel_rfl) (fun _ => rfl) (fun xs W h => h) (fun d h => by simpa using h) rfl h1 h2 gI gB hstab fun ac xs W Dn he hni hG hS K hK => ?_
          have hc := (HF.out W hG (i + m) hend).trans (by rw [← HYX.out.1])
          have e0 := (he 30).trans (hS 11 (by kernel_rfl))
          refine op_any (.load 24 (.tmp 30)) rfl (.float .f64 y) (fun o' ho' => ?_) (hK _ _ rfl bR nA)
          simp only [execOp, ho', e0]
          go_simp
         ·refine flow3_stepG _ 32 6 25 true rfl rfl rfl (by kernel_rfl) (fun _ => rfl) (fun xs W h => h) (fun d h => by simpa using h) rfl h1 h2 gI gB hstab fun ac xs W Dn he hni hG hS K hK => ?_
          exact op_move (.tmp 5) (.inl rfl) (hK _ _ (he 5) bR nA)
         ·refine flow3_stepG _ 33 6 25 true rfl rfl rfl (by kernel_rfl) (fun _ => rfl) (fun xs W h => h) (fun d h => by simpa using h) rfl h1 h2 gI gB hstab fun ac xs W Dn he hni hG hS K hK => ?_
          exact op_move (.tmp 8) (.inl rfl) (hK _ _ (he 8) bR nA)
         ·refine flow3_stepG _ 34 6 25 true rfl rfl rfl (by kernel_rfl) (fun _ => rfl) (fun xs W h => h) (fun d h => by simpa using h) rfl h1 h2 gI gB hstab fun ac xs W Dn he hni hG hS K hK => ?_
          have e0 := (he 32).trans (hS 13 (by kernel_rfl))
          have e1 := (he 33).trans (hS 14 (by kernel_rfl))
          refine op_any (.indexAddr 40 (.tmp 32) (.tmp 33)) rfl (.pointer (some ⟨g, i, none⟩)) (fun o' ho' => ?_) (hK _ _ rfl bR nA)
          simp only [execOp, ho', e0, e1]
          go_simp
         ·refine flow3_stepG _ 35 6 25 true rfl rfl rfl (by kernel_rfl) (fun _ => rfl) (fun xs W h => h) (fun d h => by simpa using h) rfl h1 h2 gI gB hstab fun ac xs W Dn he hni hG hS K hK => ?_
          have hc := (HF.out W hG i hin).trans (by rw [← HYX.out.2])
          have e0 := (he 34).trans (hS 15 (by kernel_rfl))
          refine op_any (.load 24 (.tmp 34)) rfl (.float .f64 x) (fun o' ho' => ?_) (hK _ _ rfl bR nA)
          simp only [execOp, ho', e0]
          go_simp
         ·refine flow3_stepG _ 36 6 25 true rfl rfl rfl (by kernel_rfl) (fun _ => rfl) (fun xs W h => h) (fun d h => by simpa using h) rfl h1 h2 gI gB hstab fun ac xs W Dn he hni hG hS K hK => ?_
          have k0 := HEQ.out
          have e0 := (he 31).trans (hS 12 (by kernel_rfl))
          have e1 := (he 35).trans (hS 16 (by kernel_rfl))
          refine op_any (.binOp .eql 24 (.tmp 31) (.tmp 35) 24) rfl (.bool false) (fun o' ho' => ?_) (hK _ _ rfl bR nA)
          simp only [execOp, ho', e0, e1]
          go_simp
         ·refine flow3_stepG _ 37 6 25 true rfl rfl rfl (by kernel_rfl) (fun _ => rfl) (fun xs W h => h) (fun d h => by simpa using h) rfl h1 h2 gI gB hstab fun ac xs W Dn he hni hG hS K hK => ?_
          exact op_move (.tmp 36) (.inl rfl) (hK _ _ ((he 36).trans (hS 17 (by kernel_rfl))) bR nA)
         ·refine flow3_stepG _ 38 18 37 false rfl rfl rfl (by kernel_rfl) (fun _ => rfl) (fun xs W h => h) (fun d h => by simpa using h) rfl h1 h2 gI gB hstab fun ac xs W Dn he hni hG hS K hK => ?_
          exact op_move (.tmp 5) (.inl rfl) (hK _ _ (he 5) bR nA)
         ·refine flow3_stepG _ 39 18 37 false rfl rfl rfl (by kernel_rfl) (fun _ => rfl) (fun xs W h => h) (fun d h => by simpa using h) rfl h1 h2 gI gB hstab fun ac xs W Dn he hni hG hS K hK => ?_
          exact op_move (.tmp 8) (.inl rfl) (hK _ _ (he 8) bR nA)
         ·refine flow3_stepG _ 40 18 37 false rfl rfl rfl (by kernel_rfl) (fun _ => rfl) (fun xs W h => h) (fun d h => by simpa using h) rfl h1 h2 gI gB hstab fun ac xs W Dn he hni hG hS K hK => ?_
          have e0 := (he 38).trans (hS 19 (by kernel_rfl))
          have e1 := (he 39).trans (hS 20 (by kernel_rfl))
          refine op_any (.indexAddr 40 (.tmp 38) (.tmp 39)) rfl (.pointer (some ⟨g, i, none⟩)) (fun o' ho' => ?_) (hK _ _ rfl bR nA)
          simp only [execOp, ho', e0, e1]
          go_simp
         ·refine flow3_stepG _ 41 18 37 false rfl rfl rfl (by kernel_rfl) (fun _ => rfl) (fun xs W h => h) (fun d h => by simpa using h) rfl h1 h2 gI gB hstab fun ac xs W Dn he hni hG hS K hK => ?_
          have hc := (HF.out W hG i hin).trans (by rw [← HYX.out.2])
          have e0 := (he 40).trans (hS 21 (by kernel_rfl))
          refine op_any (.load 24 (.tmp 40)) rfl (.float .f64 x) (fun o' ho' => ?_) (hK _ _ rfl bR nA)
          simp only [execOp, ho', e0]
          go_simp
         ·refine flow3_stepG _ 42 18 37 false rfl rfl rfl (by kernel_rfl) (fun _ => rfl) (fun xs W h => h) (fun d h => by simpa using h) rfl h1 h2 gI gB hstab fun ac xs W Dn he hni hG hS K hK => ?_
          exact op_move (.tmp 5) (.inl rfl) (hK _ _ (he 5) bR nA)
         ·refine flow3_stepG _ 43 18 37 false rfl rfl rfl (by kernel_rfl) (fun _ => rfl) (fun xs W h => h) (fun d h => by simpa using h) rfl h1 h2 gI gB hstab fun ac xs W Dn he hni hG hS K hK => ?_
          exact op_move (.tmp 8) (.inl rfl) (hK _ _ (he 8) bR nA)
         ·refine flow3_stepG _ 44 18 37 false rfl rfl rfl (by kernel_rfl) (fun _ => rfl) (fun xs W h => h) (fun d h => by simpa using h) rfl h1 h2 gI gB hstab fun ac xs W Dn he hni hG hS K hK => ?_
          have e0 := (he 42).trans (hS 23 (by kernel_rfl))
          have e1 := (he 43).trans (hS 24 (by kernel_rfl))
          refine op_any (.indexAddr 40 (.tmp 42) (.tmp 43)) rfl (.pointer (some ⟨g, i, none⟩)) (fun o' ho' => ?_) (hK _ _ rfl bR nA)
          simp only [execOp, ho', e0, e1]
          go_simp
         ·refine flow3_stepG _ 45 18 37 false rfl rfl rfl (by kernel_rfl) (fun _ => rfl) (fun xs W h => h) (fun d h => by simpa using h) rfl h1 h2 gI gB hstab fun ac xs W Dn he hni hG hS K hK => ?_
          have hc := (HF.out W hG i hin).trans (by rw [← HYX.out.2])
          have e0 := (he 44).trans (hS 25 (by kernel_rfl))
          refine op_any (.load 24 (.tmp 44)) rfl (.float .f64 x) (fun o' ho' => ?_) (hK _ _ rfl bR nA)
          simp only [execOp, ho', e0]
          go_simp
         ·refine flow3_stepG _ 46 18 37 false rfl rfl rfl (by kernel_rfl) (fun _ => rfl) (fun xs W h => h) (fun d h => by simpa using h) rfl h1 h2 gI gB hstab fun ac xs W Dn he hni hG hS K hK => ?_
          have k0 := HNX.out
          have e0 := (he 41).trans (hS 22 (by kernel_rfl))
          have e1 := (he 45).trans (hS 26 (by kernel_rfl))
          refine op_any (.binOp .neq 24 (.tmp 41) (.tmp 45) 24) rfl (.bool false) (fun o' ho' => ?_) (hK _ _ rfl bR nA)
          simp only [execOp, ho', e0, e1]
          go_simp
         ·refine flow3_stepG _ 47 6 25 true rfl rfl rfl (by kernel_rfl) (fun _ => rfl) (fun xs W h => h) (fun d h => by simpa using h) rfl h1 h2 gI gB hstab fun ac xs W Dn he hni hG hS K hK => ?_
          have e0 := (he 37).trans (hS 18 (by kernel_rfl))
          have e1 := (he 46).trans (hS 27 (by kernel_rfl))
          refine op_any (.pick (.tmp 37) (.const (.bool true)) (.tmp 46)) rfl (.bool false) (fun o' ho' => ?_) (hK _ _ rfl bR nA)
          simp only [execOp, ho', e0, e1]
          go_simp
         ·refine flow3_step _ (some 48) rfl rfl rfl h1 h2 gI gB hstab fun ac xs W Dn he hni hG hS K hK => ?_
          have e0 := (he 25).trans (hS 6 (by kernel_rfl))
          have e1 := (he 47).trans (hS 28 (by kernel_rfl))
          refine op_any (.pick (.tmp 25) (.tmp 47) (.const (.bool false))) rfl (.bool false) (fun o' ho' => ?_) (hK _ _ rfl bR nA)
          simp only [execOp, ho', e0, e1]
          go_simp
        ·intro xs W9 Dn hall hG hS hD
         have s29 : xs 29 = .bool false := hS 29 (by decide)
         have HB9 : Hid (Below w1.heap.size w1 W9) := hG
         simp only [layAll, s29, List.setIfInBounds_toArray, List.set_cons_succ, List.set_cons_zero]
         generalize xs 0 = x0
         generalize xs 1 = x1
         generalize xs 2 = x2
         generalize xs 3 = x3
         generalize xs 4 = x4
         generalize xs 5 = x5
         generalize xs 6 = x6
         generalize xs 7 = x7
         generalize xs 8 = x8
         generalize xs 9 = x9
         generalize xs 10 = x10
         generalize xs 11 = x11
         generalize xs 12 = x12
         generalize xs 13 = x13
         generalize xs 14 = x14
         generalize xs 15 = x15
         generalize xs 16 = x16
         generalize xs 17 = x17
         generalize xs 18 = x18
         generalize xs 19 = x19
         generalize xs 20 = x20
         generalize xs 21 = x21
         generalize xs 22 = x22
         generalize xs 23 = x23
         generalize xs 24 = x24
         generalize xs 25 = x25
         generalize xs 26 = x26
         generalize xs 27 = x27
         generalize xs 28 = x28
         clear hS hD hall hstab S s29 hG h1 h2 xs Dn
         show wpList Tryz.prog _ _ [] _ _
         obtain ⟨cnt, hrn, hbs⟩ := run_count HO.out.1 HRUN.out (show i + m ≤ s.length by have := HO.out.2.2; omega) (by omega) HALL.out HEND.out
         have HRN : Hid (RunAt s (i + m)) := hrn
         rw [HBM.out] at hbs
         have hbs : bstK s (i + m) = if m1 < m then (i, m) else (b1, m1) := hbs
         clear cnt hrn
         by_cases hmm : m1 < m
         ·rw [if_pos hmm] at hbs
          have HBS : Hid (bstK s (i + m) = (i, m)) := hbs
          have hmm2 : (m1 : Int) < m := by omega
          clear hbs
          go_wp2_with fail
          go_roundw
          case rel => exact ⟨i + m, ⟨by omega, by first | rfl | rw [hw1] | go_num, by rw [HBS.out], by rw [HBS.out]⟩, HRN.out, HB9.out⟩
          case measure => simp [intOf]; omega
         ·rw [if_neg hmm] at hbs
          have HBS : Hid (bstK s (i + m) = (b1, m1)) := hbs
          have hmm2 : ¬ (m1 : Int) < m := by omega
          clear hbs
          go_wp2_with fail
          go_roundw
          case rel => exact ⟨i + m, ⟨by omega, by first | rfl | rw [hw1] | go_num, by rw [HBS.out], by rw [HBS.out]⟩, HRN.out, HB9.out⟩
          case measure => simp [intOf]; omega
       ·have HNEXT : Hid (∀ j, i ≤ j → j < i + (m + 1) → kcl (s.getD j 0) = kcl (s.getD i 0)) := fun j h1 h2 => by
         by_cases hj : j < i + m
         ·exact HALL.out j h1 hj
         ·rw [show j = i + m by omega, ← HYX.out.1, ← HYX.out.2]; exact of_decide_eq_true hkr.symm
        clear hnx hnx2 hkr he1b e1
        go_upto_region 8 with fail
        have h1 : once [(19, 0), (20, 1), (21, 2), (22, 3), (23, 4), (24, 5), (25, 6), (26, 7), (27, 8), (28, 9), (29, 10), (30, 11), (31, 12), (32, 13), (33, 14), (34, 15), (35, 16), (36, 17), (37, 18), (38, 19), (39, 20), (40, 21), (41, 22), (42, 23), (43, 24), (44, 25), (45, 26), (46, 27), (47, 28), (48, 29)] = true := by kernel_rfl
        have h2 : within [(19, 0), (20, 1), (21, 2), (22, 3), (23, 4), (24, 5), (25, 6), (26, 7), (27, 8), (28, 9), (29, 10), (30, 11), (31, 12), (32, 13), (33, 14), (34, 15), (35, 16), (36, 17), (37, 18), (38, 19), (39, 20), (40, 21), (41, 22), (42, 23), (43, 24), (44, 25), (45, 26), (46, 27), (47, 28), (48, 29)] 64 = true := by kernel_rfl
        let S : Nat → (Nat → Value) → World → Prop := fun ix xs W => match ix with
         | 0 => xs 0 = .int .i64 (i : Nat)
         | 1 => xs 1 = .int .i64 (m : Nat)
         | 2 => xs 2 = .int .i64 ((i + m : Nat) : Int)
         | 3 => xs 3 = .slice (some ⟨g, 0, none⟩) n n
         | 4 => xs 4 = .int .i64 (n : Nat)
         | 5 => xs 5 = .bool true
         | 6 => xs 6 = .bool true
         | 7 => xs 7 = .slice (some ⟨g, 0, none⟩) n n
         | 8 => xs 8 = .int .i64 (i : Nat)
         | 9 => xs 9 = .int .i64 (m : Nat)
         | 10 => xs 10 = .int .i64 ((i + m : Nat) : Int)
         | 11 => xs 11 = .pointer (some ⟨g, i + m, none⟩)
         | 12 => xs 12 = .float .f64 y
         | 13 => xs 13 = .slice (some ⟨g, 0, none⟩) n n
         | 14 => xs 14 = .int .i64 (i : Nat)
         | 15 => xs 15 = .pointer (some ⟨g, i, none⟩)
         | 16 => xs 16 = .float .f64 x
         | 17 => xs 17 = .bool false
         | 18 => xs 18 = .bool false
         | 19 => xs 19 = .slice (some ⟨g, 0, none⟩) n n
         | 20 => xs 20 = .int .i64 (i : Nat)
         | 21 => xs 21 = .pointer (some ⟨g, i, none⟩)
         | 22 => xs 22 = .float .f64 x
         | 23 => xs 23 = .slice (some ⟨g, 0, none⟩) n n
         | 24 => xs 24 = .int .i64 (i : Nat)
         | 25 => xs 25 = .pointer (some ⟨g, i, none⟩)
         | 26 => xs 26 = .float .f64 x
         | 27 => xs 27 = .bool true
         | 28 => xs 28 = .bool true
         | 29 => xs 29 = .bool true
         | _ => True
        have hstab : ∀ j ys W W', S j ys W → Below W.heap.size W W' → S j ys W' := by
         intro j ys W W' h hb
         match j, h with
         | 0, h => exact h
         | 1, h => exact h
         | 2, h => exact h
         | 3, h => exact h
         | 4, h => exact h
         | 5, h => exact h
         | 6, h => exact h
         | 7, h => exact h
         | 8, h => exact h
         | 9, h => exact h
         | 10, h => exact h
         | 11, h => exact h
         | 12, h => exact h
         | 13, h => exact h
         | 14, h => exact h
         | 15, h => exact h
         | 16, h => exact h
         | 17, h => exact h
         | 18, h => exact h
         | 19, h => exact h
         | 20, h => exact h
         | 21, h => exact h
         | 22, h => exact h
         | 23, h => exact h
         | 24, h => exact h
         | 25, h => exact h
         | 26, h => exact h
         | 27, h => exact h
         | 28, h => exact h
         | 29, h => exact h
         | _ + 30, h => exact trivial
        refine wp_region_flow3 30 30 [(19, 0), (20, 1), (21, 2), (22, 3), (23, 4), (24, 5), (25, 6), (26, 7), (27, 8), (28, 9), (29, 10), (30, 11), (31, 12), (32, 13), (33, 14), (34, 15), (35, 16), (36, 17), (37, 18), (38, 19), (39, 20), (40, 21), (41, 22), (42, 23), (43, 24), (44, 25), (45, 26), (46, 27), (47, 28), (48, 29)] [] S (fun _ W => (fun W => Below w1.heap.size w1 W) W) HBQ.out.drew (by kernel_rfl) (by kernel_rfl) (by kernel_rfl) (by decide) (by kernel_rfl) h1 (by kernel_rfl) (fun j hj => by cases hj) ?_ ?_ ?_
        ·intro j xs ys W e h
         match j, e, h with
         | 0, e, h => exact c_ (e 0 (.inl rfl)) h
         | 1, e, h => exact c_ (e 1 (.inl rfl)) h
         | 2, e, h => exact c_ (e 2 (.inl rfl)) h
         | 3, e, h => exact c_ (e 3 (.inl rfl)) h
         | 4, e, h => exact c_ (e 4 (.inl rfl)) h
         | 5, e, h => exact c_ (e 5 (.inl rfl)) h
         | 6, e, h => exact c_ (e 6 (.inl rfl)) h
         | 7, e, h => exact c_ (e 7 (.inl rfl)) h
         | 8, e, h => exact c_ (e 8 (.inl rfl)) h
         | 9, e, h => exact c_ (e 9 (.inl rfl)) h
         | 10, e, h => exact c_ (e 10 (.inl rfl)) h
         | 11, e, h => exact c_ (e 11 (.inl rfl)) h
         | 12, e, h => exact c_ (e 12 (.inl rfl)) h
         | 13, e, h => exact c_ (e 13 (.inl rfl)) h
         | 14, e, h => exact c_ (e 14 (.inl rfl)) h
         | 15, e, h => exact c_ (e 15 (.inl rfl)) h
         | 16, e, h => exact c_ (e 16 (.inl rfl)) h
         | 17, e, h => exact c_ (e 17 (.inl rfl)) h
         | 18, e, h => exact c_ (e 18 (.inl rfl)) h
         | 19, e, h => exact c_ (e 19 (.inl rfl)) h
         | 20, e, h => exact c_ (e 20 (.inl rfl)) h
         | 21, e, h => exact c_ (e 21 (.inl rfl)) h
         | 22, e, h => exact c_ (e 22 (.inl rfl)) h
         | 23, e, h => exact c_ (e 23 (.inl rfl)) h
         | 24, e, h => exact c_ (e 24 (.inl rfl)) h
         | 25, e, h => exact c_ (e 25 (.inl rfl)) h
         | 26, e, h => exact c_ (e 26 (.inl rfl)) h
         | 27, e, h => exact c_ (e 27 (.inl rfl)) h
         | 28, e, h => exact c_ (e 28 (.inl rfl)) h
         | 29, e, h => exact c_ (e 29 (.inl rfl)) h
         | _ + 30, e, h => exact trivial
        ·refine ⟨⟨⟨⟨⟨⟨⟨⟨⟨⟨⟨⟨⟨⟨⟨⟨⟨⟨⟨⟨⟨⟨⟨⟨⟨⟨⟨⟨⟨⟨trivial, ?_⟩, ?_⟩, ?_⟩, ?_⟩, ?_⟩, ?_⟩, ?_⟩, ?_⟩, ?_⟩, ?_⟩, ?_⟩, ?_⟩, ?_⟩, ?_⟩, ?_⟩, ?_⟩, ?_⟩, ?_⟩, ?_⟩, ?_⟩, ?_⟩, ?_⟩, ?_⟩, ?_⟩, ?_⟩, ?_⟩, ?_⟩, ?_⟩, ?_⟩, ?_⟩
         ·refine flow3_step _ (some 19) rfl rfl rfl h1 h2 gI gB hstab fun ac xs W Dn he hni hG hS K hK => ?_
          exact op_move (.tmp 8) (.inl rfl) (hK _ _ (he 8) bR nA)
         ·refine flow3_step _ (some 20) rfl rfl rfl h1 h2 gI gB hstab fun ac xs W Dn he hni hG hS K hK => ?_
          exact op_move (.tmp 9) (.inl rfl) (hK _ _ (he 9) bR nA)
         ·refine flow3_step _ (some 21) rfl rfl rfl h1 h2 gI gB hstab fun ac xs W Dn he hni hG hS K hK => ?_
          have e0 := (he 19).trans (hS 0 (by kernel_rfl))
          have e1 := (he 20).trans (hS 1 (by kernel_rfl))
          refine op_any (.binOp .add 3 (.tmp 19) (.tmp 20) 3) rfl (.int .i64 ((i + m : Nat) : Int)) (fun o' ho' => ?_) (hK _ _ rfl bR nA)
          simp only [execOp, ho', e0, e1]
          go_simp
         ·refine flow3_step _ (some 22) rfl rfl rfl h1 h2 gI gB hstab fun ac xs W Dn he hni hG hS K hK => ?_
          exact op_move (.tmp 5) (.inl rfl) (hK _ _ (he 5) bR nA)
         ·refine flow3_step _ (some 23) rfl rfl rfl h1 h2 gI gB hstab fun ac xs W Dn he hni hG hS K hK => ?_
          have e0 : ac.tmps[22]?.getD undef = .slice (some ⟨g, 0, none⟩) n n := by rw [← Array.getD_eq_getD_getElem?]; exact (he 22).trans (hS 3 (by kernel_rfl))
          refine op_any (.call ⟨.builtin .len, #[.tmp 22], #[40]⟩) rfl (.int .i64 (n : Nat)) (fun o' ho' => ?_) (hK _ _ rfl bR nA)
          simp only [execOp, ho']
          go_simp
         ·refine flow3_step _ (some 24) rfl rfl rfl h1 h2 gI gB hstab fun ac xs W Dn he hni hG hS K hK => ?_
          have e0 := (he 21).trans (hS 2 (by kernel_rfl))
          have e1 := (he 23).trans (hS 4 (by kernel_rfl))
          refine op_any (.binOp .lss 3 (.tmp 21) (.tmp 23) 3) rfl (.bool true) (fun o' ho' => ?_) (hK _ _ rfl bR nA)
          simp only [execOp, ho', e0, e1]
          go_simp
         ·refine flow3_step _ (some 25) rfl rfl rfl h1 h2 gI gB hstab fun ac xs W Dn he hni hG hS K hK => ?_
          exact op_move (.tmp 24) (.inl rfl) (hK _ _ ((he 24).trans (hS 5 (by kernel_rfl))) bR nA)
         ·refine flow3_stepG _ 26 6 25 true rfl rfl rfl (by kernel_rfl) (fun _ => rfl) (fun xs W h => h) (fun d h => by simpa using h) rfl h1 h2 gI gB hstab fun ac xs W Dn he hni hG hS K hK => ?_
          exact op_move (.tmp 5) (.inl rfl) (hK _ _ (he 5) bR nA)
         ·refine flow3_stepG _ 27 6 25 true rfl rfl rfl (by kernel_rfl) (fun _ => rfl) (fun xs W h => h) (fun d h => by simpa using h) rfl h1 h2 gI gB hstab fun ac xs W Dn he hni hG hS K hK => ?_
          exact op_move (.tmp 8) (.inl rfl) (hK _ _ (he 8) bR nA)
         ·refine flow3_stepG _ 28 6 25 true rfl rfl rfl (by kernel_rfl) (fun _ => rfl) (fun xs W h => h) (fun d h => by simpa using h) rfl h1 h2 gI gB hstab fun ac xs W Dn he hni hG hS K hK => ?_
          exact op_move (.tmp 9) (.inl rfl) (hK _ _ (he 9) bR nA)
         ·refine flow3_stepG _ 29 6 25 true rfl rfl rfl (by kernel_rfl) (fun _ => rfl) (fun xs W h => h) (fun d h => by simpa using h) rfl h1 h2 gI gB hstab fun ac xs W Dn he hni hG hS K hK => ?_
          have e0 := (he 27).trans (hS 8 (by kernel_rfl))
          have e1 := (he 28).trans (hS 9 (by kernel_rfl))
          refine op_any (.binOp .add 3 (.tmp 27) (.tmp 28) 3) rfl (.int .i64 ((i + m : Nat) : Int)) (fun o' ho' => ?_) (hK _ _ rfl bR nA)
          simp only [execOp, ho', e0, e1]
          go_simp
         ·refine flow3_stepG _ 30 6 25 true rfl rfl rfl (by kernel_rfl) (fun _ => rfl) (fun xs W h => h) (fun d h => by simpa using h) rfl h1 h2 gI gB hstab fun ac xs W Dn he hni hG hS K hK => ?_
          have e0 := (he 26).trans (hS 7 (by kernel_rfl))
          have e1 := (he 29).trans (hS 10 (by kernel_rfl))
          refine op_any (.indexAddr 40 (.tmp 26) (.tmp 29)) rfl (.pointer (some ⟨g, i + m, none⟩)) (fun o' ho' => ?_) (hK _ _ rfl bR nA)
          simp only [execOp, ho', e0, e1]
          go_simp
         ·refine flow3_stepG _ 31 6 25 true rfl rfl rfl (by kernel_rfl) (fun _ => rfl) (fun xs W h => h) (fun d h => by simpa using h) rfl h1 h2 gI gB hstab fun ac xs W Dn he hni hG hS K hK => ?_
          have hc := (HF.out W hG (i + m) hend).trans (by rw [← HYX.out.1])
          have e0 := (he 30).trans (hS 11 (by kernel_rfl))
          refine op_any (.load 24 (.tmp 30)) rfl (.float .f64 y) (fun o' ho' => ?_) (hK _ _ rfl bR nA)
          simp only [execOp, ho', e0]
          go_simp
         ·refine flow3_stepG _ 32 6 25 true rfl rfl rfl (by kernel_rfl) (fun _ => rfl) (fun xs W h => h) (fun d h => by simpa using h) rfl h1 h2 gI gB hstab fun ac xs W Dn he hni hG hS K hK => ?_
          exact op_move (.tmp 5) (.inl rfl) (hK _ _ (he 5) bR nA)
         ·refine flow3_stepG _ 33 6 25 true rfl rfl rfl (by kernel_rfl) (fun _ => rfl) (fun xs W h => h) (fun d h => by simpa using h) rfl h1 h2 gI gB hstab fun ac xs W Dn he hni hG hS K hK => ?_
          exact op_move (.tmp 8) (.inl rfl) (hK _ _ (he 8) bR nA)
         ·refine flow3_stepG _ 34 6 25 true rfl rfl rfl (by kernel_rfl) (fun _ => rfl) (fun xs W h => h) (fun d h => by simpa using h) rfl h1 h2 gI gB hstab fun ac xs W Dn he hni hG hS K hK => ?_
          have e0 := (he 32).trans (hS 13 (by kernel_rfl))
          have e1 := (he 33).trans (hS 14 (by kernel_rfl))
          refine op_any (.indexAddr 40 (.tmp 32) (.tmp 33)) rfl (.pointer (some ⟨g, i, none⟩)) (fun o' ho' => ?_) (hK _ _ rfl bR nA)
          simp only [execOp, ho', e0, e1]
          go_simp
         ·refine flow3_stepG _ 35 6 25 true rfl rfl rfl (by kernel_rfl) (fun _ => rfl) (fun xs W h => h) (fun d h => by simpa using h) rfl h1 h2 gI gB hstab fun ac xs W Dn he hni hG hS K hK => ?_
          have hc := (HF.out W hG i hin).trans (by rw [← HYX.out.2])
          have e0 := (he 34).trans (hS 15 (by kernel_rfl))
          refine op_any (.load 24 (.tmp 34)) rfl (.float .f64 x) (fun o' ho' => ?_) (hK _ _ rfl bR nA)
          simp only [execOp, ho', e0]
          go_simp
         ·refine flow3_stepG _ 36 6 25 true rfl rfl rfl (by kernel_rfl) (fun _ => rfl) (fun xs W h => h) (fun d h => by simpa using h) rfl h1 h2 gI gB hstab fun ac xs W Dn he hni hG hS K hK => ?_
          have k0 := HEQ.out
          have e0 := (he 31).trans (hS 12 (by kernel_rfl))
          have e1 := (he 35).trans (hS 16 (by kernel_rfl))
          refine op_any (.binOp .eql 24 (.tmp 31) (.tmp 35) 24) rfl (.bool false) (fun o' ho' => ?_) (hK _ _ rfl bR nA)
          simp only [execOp, ho', e0, e1]
          go_simp
         ·refine flow3_stepG _ 37 6 25 true rfl rfl rfl (by kernel_rfl) (fun _ => rfl) (fun xs W h => h) (fun d h => by simpa using h) rfl h1 h2 gI gB hstab fun ac xs W Dn he hni hG hS K hK => ?_
          exact op_move (.tmp 36) (.inl rfl) (hK _ _ ((he 36).trans (hS 17 (by kernel_rfl))) bR nA)
         ·refine flow3_stepG _ 38 18 37 false rfl rfl rfl (by kernel_rfl) (fun _ => rfl) (fun xs W h => h) (fun d h => by simpa using h) rfl h1 h2 gI gB hstab fun ac xs W Dn he hni hG hS K hK => ?_
          exact op_move (.tmp 5) (.inl rfl) (hK _ _ (he 5) bR nA)
         ·refine flow3_stepG _ 39 18 37 false rfl rfl rfl (by kernel_rfl) (fun _ => rfl) (fun xs W h => h) (fun d h => by simpa using h) rfl h1 h2 gI gB hstab fun ac xs W Dn he hni hG hS K hK => ?_
          exact op_move (.tmp 8) (.inl rfl) (hK _ _ (he 8) bR nA)
         ·refine flow3_stepG _ 40 18 37 false rfl rfl rfl (by kernel_rfl) (fun _ => rfl) (fun xs W h => h) (fun d h => by simpa using h) rfl h1 h2 gI gB hstab fun ac xs W Dn he hni hG hS K hK => ?_
          have e0 := (he 38).trans (hS 19 (by kernel_rfl))
          have e1 := (he 39).trans (hS 20 (by kernel_rfl))
          refine op_any (.indexAddr 40 (.tmp 38) (.tmp 39)) rfl (.pointer (some ⟨g, i, none⟩)) (fun o' ho' => ?_) (hK _ _ rfl bR nA)
          simp only [execOp, ho', e0, e1]
          go_simp
         ·refine flow3_stepG _ 41 18 37 false rfl rfl rfl (by kernel_rfl) (fun _ => rfl) (fun xs W h => h) (fun d h => by simpa using h) rfl h1 h2 gI gB hstab fun ac xs W Dn he hni hG hS K hK => ?_
          have hc := (HF.out W hG i hin).trans (by rw [← HYX.out.2])
          have e0 := (he 40).trans (hS 21 (by kernel_rfl))
          refine op_any (.load 24 (.tmp 40)) rfl (.float .f64 x) (fun o' ho' => ?_) (hK _ _ rfl bR nA)
          simp only [execOp, ho', e0]
          go_simp
         ·refine flow3_stepG _ 42 18 37 false rfl rfl rfl (by kernel_rfl) (fun _ => rfl) (fun xs W h => h) (fun d h => by simpa using h) rfl h1 h2 gI gB hstab fun ac xs W Dn he hni hG hS K hK => ?_
          exact op_move (.tmp 5) (.inl rfl) (hK _ _ (he 5) bR nA)
         ·refine flow3_stepG _ 43 18 37 false rfl rfl rfl (by kernel_rfl) (fun _ => rfl) (fun xs W h => h) (fun d h => by simpa using h) rfl h1 h2 gI gB hstab fun ac xs W Dn he hni hG hS K hK => ?_
          exact op_move (.tmp 8) (.inl rfl) (hK _ _ (he 8) bR nA)
         ·refine flow3_stepG _ 44 18 37 false rfl rfl rfl (by kernel_rfl) (fun _ => rfl) (fun xs W h => h) (fun d h => by simpa using h) rfl h1 h2 gI gB hstab fun ac xs W Dn he hni hG hS K hK => ?_
          have e0 := (he 42).trans (hS 23 (by kernel_rfl))
          have e1 := (he 43).trans (hS 24 (by kernel_rfl))
          refine op_any (.indexAddr 40 (.tmp 42) (.tmp 43)) rfl (.pointer (some ⟨g, i, none⟩)) (fun o' ho' => ?_) (hK _ _ rfl bR nA)
          simp only [execOp, ho', e0, e1]
          go_simp
         ·refine flow3_stepG _ 45 18 37 false rfl rfl rfl (by kernel_rfl) (fun _ => rfl) (fun xs W h => h) (fun d h => by simpa using h) rfl h1 h2 gI gB hstab fun ac xs W Dn he hni hG hS K hK => ?_
          have hc := (HF.out W hG i hin).trans (by rw [← HYX.out.2])
          have e0 := (he 44).trans (hS 25 (by kernel_rfl))
          refine op_any (.load 24 (.tmp 44)) rfl (.float .f64 x) (fun o' ho' => ?_) (hK _ _ rfl bR nA)
          simp only [execOp, ho', e0]
          go_simp
         ·refine flow3_stepG _ 46 18 37 false rfl rfl rfl (by kernel_rfl) (fun _ => rfl) (fun xs W h => h) (fun d h => by simpa using h) rfl h1 h2 gI gB hstab fun ac xs W Dn he hni hG hS K hK => ?_
          have k0 := HNX.out
          have e0 := (he 41).trans (hS 22 (by kernel_rfl))
          have e1 := (he 45).trans (hS 26 (by kernel_rfl))
          refine op_any (.binOp .neq 24 (.tmp 41) (.tmp 45) 24) rfl (.bool true) (fun o' ho' => ?_) (hK _ _ rfl bR nA)
          simp only [execOp, ho', e0, e1]
          go_simp
         ·refine flow3_stepG _ 47 6 25 true rfl rfl rfl (by kernel_rfl) (fun _ => rfl) (fun xs W h => h) (fun d h => by simpa using h) rfl h1 h2 gI gB hstab fun ac xs W Dn he hni hG hS K hK => ?_
          have e0 := (he 37).trans (hS 18 (by kernel_rfl))
          have e1 := (he 46).trans (hS 27 (by kernel_rfl))
          refine op_any (.pick (.tmp 37) (.const (.bool true)) (.tmp 46)) rfl (.bool true) (fun o' ho' => ?_) (hK _ _ rfl bR nA)
          simp only [execOp, ho', e0, e1]
          go_simp
         ·refine flow3_step _ (some 48) rfl rfl rfl h1 h2 gI gB hstab fun ac xs W Dn he hni hG hS K hK => ?_
          have e0 := (he 25).trans (hS 6 (by kernel_rfl))
          have e1 := (he 47).trans (hS 28 (by kernel_rfl))
          refine op_any (.pick (.tmp 25) (.tmp 47) (.const (.bool false))) rfl (.bool true) (fun o' ho' => ?_) (hK _ _ rfl bR nA)
          simp only [execOp, ho', e0, e1]
          go_simp
        ·intro xs W9 Dn hall hG hS hD
         have s29 : xs 29 = .bool true := hS 29 (by decide)
         have HB9 : Hid (Below w1.heap.size w1 W9) := hG
         simp only [layAll, s29, List.setIfInBounds_toArray, List.set_cons_succ, List.set_cons_zero]
         generalize xs 0 = x0
         generalize xs 1 = x1
         generalize xs 2 = x2
         generalize xs 3 = x3
         generalize xs 4 = x4
         generalize xs 5 = x5
         generalize xs 6 = x6
         generalize xs 7 = x7
         generalize xs 8 = x8
         generalize xs 9 = x9
         generalize xs 10 = x10
         generalize xs 11 = x11
         generalize xs 12 = x12
         generalize xs 13 = x13
         generalize xs 14 = x14
         generalize xs 15 = x15
         generalize xs 16 = x16
         generalize xs 17 = x17
         generalize xs 18 = x18
         generalize xs 19 = x19
         generalize xs 20 = x20
         generalize xs 21 = x21
         generalize xs 22 = x22
         generalize xs 23 = x23
         generalize xs 24 = x24
         generalize xs 25 = x25
         generalize xs 26 = x26
         generalize xs 27 = x27
         generalize xs 28 = x28
         clear hS hD hall hstab S s29 hG h1 h2 xs Dn
         show wpList Tryz.prog _ _ [] _ _
         go_wp2_with fail
         go_roundw
         case rel => exact ⟨m + 1, ⟨by first | rfl | rw [hw2], by omega, by omega⟩, HNEXT.out, HB9.out⟩
         case measure => simp [intOf]; omega
      ·have HEQ : Hid ((Go.FloatKind.f64.format.order y x == some .eq) = true) := e1
       rw [he1b, e1, Bool.true_or] at hkr
       have HNEXT : Hid (∀ j, i ≤ j → j < i + (m + 1) → kcl (s.getD j 0) = kcl (s.getD i 0)) := fun j h1 h2 => by
        by_cases hj : j < i + m
        ·exact HALL.out j h1 hj
        ·rw [show j = i + m by omega, ← HYX.out.1, ← HYX.out.2]; exact of_decide_eq_true hkr.symm
       clear hnx hkr he1b e1
       go_upto_region 8 with fail
       have h1 : once [(19, 0), (20, 1), (21, 2), (22, 3), (23, 4), (24, 5), (25, 6), (26, 7), (27, 8), (28, 9), (29, 10), (30, 11), (31, 12), (32, 13), (33, 14), (34, 15), (35, 16), (36, 17), (37, 18), (38, 19), (39, 20), (40, 21), (41, 22), (42, 23), (43, 24), (44, 25), (45, 26), (46, 27), (47, 28), (48, 29)] = true := by kernel_rfl
       have h2 : within [(19, 0), (20, 1), (21, 2), (22, 3), (23, 4), (24, 5), (25, 6), (26, 7), (27, 8), (28, 9), (29, 10), (30, 11), (31, 12), (32, 13), (33, 14), (34, 15), (35, 16), (36, 17), (37, 18), (38, 19), (39, 20), (40, 21), (41, 22), (42, 23), (43, 24), (44, 25), (45, 26), (46, 27), (47, 28), (48, 29)] 64 = true := by kernel_rfl
       let S : Nat → (Nat → Value) → World → Prop := fun ix xs W => match ix with
        | 0 => xs 0 = .int .i64 (i : Nat)
        | 1 => xs 1 = .int .i64 (m : Nat)
        | 2 => xs 2 = .int .i64 ((i + m : Nat) : Int)
        | 3 => xs 3 = .slice (some ⟨g, 0, none⟩) n n
        | 4 => xs 4 = .int .i64 (n : Nat)
        | 5 => xs 5 = .bool true
        | 6 => xs 6 = .bool true
        | 7 => xs 7 = .slice (some ⟨g, 0, none⟩) n n
        | 8 => xs 8 = .int .i64 (i : Nat)
        | 9 => xs 9 = .int .i64 (m : Nat)
        | 10 => xs 10 = .int .i64 ((i + m : Nat) : Int)
        | 11 => xs 11 = .pointer (some ⟨g, i + m, none⟩)
        | 12 => xs 12 = .float .f64 y
        | 13 => xs 13 = .slice (some ⟨g, 0, none⟩) n n
        | 14 => xs 14 = .int .i64 (i : Nat)
        | 15 => xs 15 = .pointer (some ⟨g, i, none⟩)
        | 16 => xs 16 = .float .f64 x
        | 17 => xs 17 = .bool true
        | 18 => xs 18 = .bool true
        | 19 => True
        | 20 => True
        | 21 => True
        | 22 => True
        | 23 => True
        | 24 => True
        | 25 => True
        | 26 => True
        | 27 => True
        | 28 => xs 28 = .bool true
        | 29 => xs 29 = .bool true
        | _ => True
       have hstab : ∀ j ys W W', S j ys W → Below W.heap.size W W' → S j ys W' := by
        intro j ys W W' h hb
        match j, h with
        | 0, h => exact h
        | 1, h => exact h
        | 2, h => exact h
        | 3, h => exact h
        | 4, h => exact h
        | 5, h => exact h
        | 6, h => exact h
        | 7, h => exact h
        | 8, h => exact h
        | 9, h => exact h
        | 10, h => exact h
        | 11, h => exact h
        | 12, h => exact h
        | 13, h => exact h
        | 14, h => exact h
        | 15, h => exact h
        | 16, h => exact h
        | 17, h => exact h
        | 18, h => exact h
        | 19, h => exact h
        | 20, h => exact h
        | 21, h => exact h
        | 22, h => exact h
        | 23, h => exact h
        | 24, h => exact h
        | 25, h => exact h
        | 26, h => exact h
        | 27, h => exact h
        | 28, h => exact h
        | 29, h => exact h
        | _ + 30, h => exact trivial
       refine wp_region_flow3 30 30 [(19, 0), (20, 1), (21, 2), (22, 3), (23, 4), (24, 5), (25, 6), (26, 7), (27, 8), (28, 9), (29, 10), (30, 11), (31, 12), (32, 13), (33, 14), (34, 15), (35, 16), (36, 17), (37, 18), (38, 19), (39, 20), (40, 21), (41, 22), (42, 23), (43, 24), (44, 25), (45, 26), (46, 27), (47, 28), (48, 29)] [] S (fun _ W => (fun W => Below w1.heap.size w1 W) W) HBQ.out.drew (by kernel_rfl) (by kernel_rfl) (by kernel_rfl) (by decide) (by kernel_rfl) h1 (by kernel_rfl) (fun j hj => by cases hj) ?_ ?_ ?_
       ·intro j xs ys W e h
        match j, e, h with
        | 0, e, h => exact c_ (e 0 (.inl rfl)) h
        | 1, e, h => exact c_ (e 1 (.inl rfl)) h
        | 2, e, h => exact c_ (e 2 (.inl rfl)) h
        | 3, e, h => exact c_ (e 3 (.inl rfl)) h
        | 4, e, h => exact c_ (e 4 (.inl rfl)) h
        | 5, e, h => exact c_ (e 5 (.inl rfl)) h
        | 6, e, h => exact c_ (e 6 (.inl rfl)) h
        | 7, e, h => exact c_ (e 7 (.inl rfl)) h
        | 8, e, h => exact c_ (e 8 (.inl rfl)) h
        | 9, e, h => exact c_ (e 9 (.inl rfl)) h
        | 10, e, h => exact c_ (e 10 (.inl rfl)) h
        | 11, e, h => exact c_ (e 11 (.inl rfl)) h
        | 12, e, h => exact c_ (e 12 (.inl rfl)) h
        | 13, e, h => exact c_ (e 13 (.inl rfl)) h
        | 14, e, h => exact c_ (e 14 (.inl rfl)) h
        | 15, e, h => exact c_ (e 15 (.inl rfl)) h
        | 16, e, h => exact c_ (e 16 (.inl rfl)) h
        | 17, e, h => exact c_ (e 17 (.inl rfl)) h
        | 18, e, h => exact c_ (e 18 (.inl rfl)) h
        | 19, e, h => exact h
        | 20, e, h => exact h
        | 21, e, h => exact h
        | 22, e, h => exact h
        | 23, e, h => exact h
        | 24, e, h => exact h
        | 25, e, h => exact h
        | 26, e, h => exact h
        | 27, e, h => exact h
        | 28, e, h => exact c_ (e 28 (.inl rfl)) h
        | 29, e, h => exact c_ (e 29 (.inl rfl)) h
        | _ + 30, e, h => exact trivial
       ·refine ⟨⟨⟨⟨⟨⟨⟨⟨⟨⟨⟨⟨⟨⟨⟨⟨⟨⟨⟨⟨⟨⟨⟨⟨⟨⟨⟨⟨⟨⟨trivial, ?_⟩, ?_⟩, ?_⟩, ?_⟩, ?_⟩, ?_⟩, ?_⟩, ?_⟩, ?_⟩, ?_⟩, ?_⟩, ?_⟩, ?_⟩, ?_⟩, ?_⟩, ?_⟩, ?_⟩, ?_⟩, ?_⟩, ?_⟩, ?_⟩, ?_⟩, ?_⟩, ?_⟩, ?_⟩, ?_⟩, ?_⟩, ?_⟩, ?_⟩, ?_⟩
        ·refine flow3_step _ (some 19) rfl rfl rfl h1 h2 gI gB hstab fun ac xs W Dn he hni hG hS K hK => ?_
         exact op_move (.tmp 8) (.inl rfl) (hK _ _ (he 8) bR nA)
        ·refine flow3_step _ (some 20) rfl rfl rfl h1 h2 gI gB hstab fun ac xs W Dn he hni hG hS K hK => ?_
         exact op_move (.tmp 9) (.inl rfl) (hK _ _ (he 9) bR nA)
        ·refine flow3_step _ (some 21) rfl rfl rfl h1 h2 gI gB hstab fun ac xs W Dn he hni hG hS K hK => ?_
         have e0 := (he 19).trans (hS 0 (by kernel_rfl))
         have e1 := (he 20).trans (hS 1 (by kernel_rfl))
         refine op_any (.binOp .add 3 (.tmp 19) (.tmp 20) 3) rfl (.int .i64 ((i + m : Nat) : Int)) (fun o' ho' => ?_) (hK _ _ rfl bR nA)
         simp only [execOp, ho', e0, e1]
         go_simp
        ·refine flow3_step _ (some 22) rfl rfl rfl h1 h2 gI gB hstab fun ac xs W Dn he hni hG hS K hK => ?_
         exact op_move (.tmp 5) (.inl rfl) (hK _ _ (he 5) bR nA)
        ·refine flow3_step _ (some 23) rfl rfl rfl h1 h2 gI gB hstab fun ac xs W Dn he hni hG hS K hK => ?_
         have e0 : ac.tmps[22]?.getD undef = .slice (some ⟨g, 0, none⟩) n n := by rw [← Array.getD_eq_getD_getElem?]; exact (he 22).trans (hS 3 (by kernel_rfl))
         refine op_any (.call ⟨.builtin .len, #[.tmp 22], #[40]⟩) rfl (.int .i64 (n : Nat)) (fun o' ho' => ?_) (hK _ _ rfl bR nA)
         simp only [execOp, ho']
         go_simp
        ·refine flow3_step _ (some 24) rfl rfl rfl h1 h2 gI gB hstab fun ac xs W Dn he hni hG hS K hK => ?_
         have e0 := (he 21).trans (hS 2 (by kernel_rfl))
         have e1 := (he 23).trans (hS 4 (by kernel_rfl))
         refine op_any (.binOp .lss 3 (.tmp 21) (.tmp 23) 3) rfl (.bool true) (fun o' ho' => ?_) (hK _ _ rfl bR nA)
         simp only [execOp, ho', e0, e1]
         go_simp
        ·refine flow3_step _ (some 25) rfl rfl rfl h1 h2 gI gB hstab fun ac xs W Dn he hni hG hS K hK => ?_
         exact op_move (.tmp 24) (.inl rfl) (hK _ _ ((he 24).trans (hS 5 (by kernel_rfl))) bR nA)
        ·refine flow3_stepG _ 26 6 25 true rfl rfl rfl (by kernel_rfl) (fun _ => rfl) (fun xs W h => h) (fun d h => by simpa using h) rfl h1 h2 gI gB hstab fun ac xs W Dn he hni hG hS K hK => ?_
         exact op_move (.tmp 5) (.inl rfl) (hK _ _ (he 5) bR nA)
        ·refine flow3_stepG _ 27 6 25 true rfl rfl rfl (by kernel_rfl) (fun _ => rfl) (fun xs W h => h) (fun d h => by simpa using h) rfl h1 h2 gI gB hstab fun ac xs W Dn he hni hG hS K hK => ?_
         exact op_move (.tmp 8) (.inl rfl) (hK _ _ (he 8) bR nA)
        ·refine flow3_stepG _ 28 6 25 true rfl rfl rfl (by kernel_rfl) (fun _ => rfl) (fun xs W h => h) (fun d h => by simpa using h) rfl h1 h2 gI gB hstab fun ac xs W Dn he hni hG hS K hK => ?_
         exact op_move (.tmp 9) (.inl rfl) (hK _ _ (he 9) bR nA)
        ·refine flow3_stepG _ 29 6 25 true rfl rfl rfl (by kernel_rfl) (fun _ => rfl) (fun xs W h => h) (fun d h => by simpa using h) rfl h1 h2 gI gB hstab fun ac xs W Dn he hni hG hS K hK => ?_
         have e0 := (he 27).trans (hS 8 (by kernel_rfl))
         have e1 := (he 28).trans (hS 9 (by kernel_rfl))
         refine op_any (.binOp .add 3 (.tmp 27) (.tmp 28) 3) rfl (.int .i64 ((i + m : Nat) : Int)) (fun o' ho' => ?_) (hK _ _ rfl bR nA)
         simp only [execOp, ho', e0, e1]
         go_simp
        ·refine flow3_stepG _ 30 6 25 true rfl rfl rfl (by kernel_rfl) (fun _ => rfl) (fun xs W h => h) (fun d h => by simpa using h) rfl h1 h2 gI gB hstab fun ac xs W Dn he hni hG hS K hK => ?_
         have e0 := (he 26).trans (hS 7 (by kernel_rfl))
         have e1 := (he 29).trans (hS 10 (by kernel_rfl))
         refine op_any (.indexAddr 40 (.tmp 26) (.tmp 29)) rfl (.pointer (some ⟨g, i + m, none⟩)) (fun o' ho' => ?_) (hK _ _ rfl bR nA)
         simp only [execOp, ho', e0, e1]
         go_simp
        ·refine flow3_stepG _ 31 6 25 true rfl rfl rfl (by kernel_rfl) (fun _ => rfl) (fun xs W h => h) (fun d h => by simpa using h) rfl h1 h2 gI gB hstab fun ac xs W Dn he hni hG hS K hK => ?_
         have hc := (HF.out W hG (i + m) hend).trans (by rw [← HYX.out.1])
         have e0 := (he 30).trans (hS 11 (by kernel_rfl))
         refine op_any (.load 24 (.tmp 30)) rfl (.float .f64 y) (fun o' ho' => ?_) (hK _ _ rfl bR nA)
         simp only [execOp, ho', e0]
         go_simp
        ·refine flow3_stepG _ 32 6 25 true rfl rfl rfl (by kernel_rfl) (fun _ => rfl) (fun xs W h => h) (fun d h => by simpa using h) rfl h1 h2 gI gB hstab fun ac xs W Dn he hni hG hS K hK => ?_
         exact op_move (.tmp 5) (.inl rfl) (hK _ _ (he 5) bR nA)
        ·refine flow3_stepG _ 33 6 25 true rfl rfl rfl (by kernel_rfl) (fun _ => rfl) (fun xs W h => h) (fun d h => by simpa using h) rfl h1 h2 gI gB hstab fun ac xs W Dn he hni hG hS K hK => ?_
         exact op_move (.tmp 8) (.inl rfl) (hK _ _ (he 8) bR nA)
        ·refine flow3_stepG _ 34 6 25 true rfl rfl rfl (by kernel_rfl) (fun _ => rfl) (fun xs W h => h) (fun d h => by simpa using h) rfl h1 h2 gI gB hstab fun ac xs W Dn he hni hG hS K hK => ?_
         have e0 := (he 32).trans (hS 13 (by kernel_rfl))
         have e1 := (he 33).trans (hS 14 (by kernel_rfl))
         refine op_any (.indexAddr 40 (.tmp 32) (.tmp 33)) rfl (.pointer (some ⟨g, i, none⟩)) (fun o' ho' => ?_) (hK _ _ rfl bR nA)
         simp only [execOp, ho', e0, e1]
         go_simp
        ·refine flow3_stepG _ 35 6 25 true rfl rfl rfl (by kernel_rfl) (fun _ => rfl) (fun xs W h => h) (fun d h => by simpa using h) rfl h1 h2 gI gB hstab fun ac xs W Dn he hni hG hS K hK => ?_
         have hc := (HF.out W hG i hin).trans (by rw [← HYX.out.2])
         have e0 := (he 34).trans (hS 15 (by kernel_rfl))
         refine op_any (.load 24 (.tmp 34)) rfl (.float .f64 x) (fun o' ho' => ?_) (hK _ _ rfl bR nA)
         simp only [execOp, ho', e0]
         go_simp
        ·refine flow3_stepG _ 36 6 25 true rfl rfl rfl (by kernel_rfl) (fun _ => rfl) (fun xs W h => h) (fun d h => by simpa using h) rfl h1 h2 gI gB hstab fun ac xs W Dn he hni hG hS K hK => ?_
         have k0 := HEQ.out
         have e0 := (he 31).trans (hS 12 (by kernel_rfl))
         have e1 := (he 35).trans (hS 16 (by kernel_rfl))
         refine op_any (.binOp .eql 24 (.tmp 31) (.tmp 35) 24) rfl (.bool true) (fun o' ho' => ?_) (hK _ _ rfl bR nA)
         simp only [execOp, ho', e0, e1]
         go_simp
        ·refine flow3_stepG _ 37 6 25 true rfl rfl rfl (by kernel_rfl) (fun _ => rfl) (fun xs W h => h) (fun d h => by simpa using h) rfl h1 h2 gI gB hstab fun ac xs W Dn he hni hG hS K hK => ?_
         exact op_move (.tmp 36) (.inl rfl) (hK _ _ ((he 36).trans (hS 17 (by kernel_rfl))) bR nA)
        ·refine flow3_skipV _ 38 18 37 false rfl rfl rfl (by kernel_rfl) (fun _ => rfl) (fun xs W h => .inr h) (fun d h => by simpa using h) rfl h1 h2 (fun D W _ h => h) (fun xs W h => trivial) (by decide)
        ·refine flow3_skipV _ 39 18 37 false rfl rfl rfl (by kernel_rfl) (fun _ => rfl) (fun xs W h => .inr h) (fun d h => by simpa using h) rfl h1 h2 (fun D W _ h => h) (fun xs W h => trivial) (by decide)
        ·refine flow3_skipV _ 40 18 37 false rfl rfl rfl (by kernel_rfl) (fun _ => rfl) (fun xs W h => .inr h) (fun d h => by simpa using h) rfl h1 h2 (fun D W _ h => h) (fun xs W h => trivial) (by decide)
        ·refine flow3_skipV _ 41 18 37 false rfl rfl rfl (by kernel_rfl) (fun _ => rfl) (fun xs W h => .inr h) (fun d h => by simpa using h) rfl h1 h2 (fun D W _ h => h) (fun xs W h => trivial) (by decide)
        ·refine flow3_skipV _ 42 18 37 false rfl rfl rfl (by kernel_rfl) (fun _ => rfl) (fun xs W h => .inr h) (fun d h => by simpa using h) rfl h1 h2 (fun D W _ h => h) (fun xs W h => trivial) (by decide)
        ·refine flow3_skipV _ 43 18 37 false rfl rfl rfl (by kernel_rfl) (fun _ => rfl) (fun xs W h => .inr h) (fun d h => by simpa using h) rfl h1 h2 (fun D W _ h => h) (fun xs W h => trivial) (by decide)
        ·refine flow3_skipV _ 44 18 37 false rfl rfl rfl (by kernel_rfl) (fun _ => rfl) (fun xs W h => .inr h) (fun d h => by simpa using h) rfl h1 h2 (fun D W _ h => h) (fun xs W h => trivial) (by decide)
        ·refine flow3_skipV _ 45 18 37 false rfl rfl rfl (by kernel_rfl) (fun _ => rfl) (fun xs W h => .inr h) (fun d h => by simpa using h) rfl h1 h2 (fun D W _ h => h) (fun xs W h => trivial) (by decide)
        ·refine flow3_skipV _ 46 18 37 false rfl rfl rfl (by kernel_rfl) (fun _ => rfl) (fun xs W h => .inr h) (fun d h => by simpa using h) rfl h1 h2 (fun D W _ h => h) (fun xs W h => trivial) (by decide)
        ·refine flow3_stepG _ 47 6 25 true rfl rfl rfl (by kernel_rfl) (fun _ => rfl) (fun xs W h => h) (fun d h => by simpa using h) rfl h1 h2 gI gB hstab fun ac xs W Dn he hni hG hS K hK => ?_
         have e0 := (he 37).trans (hS 18 (by kernel_rfl))
         refine op_any (.pick (.tmp 37) (.const (.bool true)) (.tmp 46)) rfl (.bool true) (fun o' ho' => ?_) (hK _ _ rfl bR nA)
         simp only [execOp, ho', e0]
         go_simp
        ·refine flow3_step _ (some 48) rfl rfl rfl h1 h2 gI gB hstab fun ac xs W Dn he hni hG hS K hK => ?_
         have e0 := (he 25).trans (hS 6 (by kernel_rfl))
         have e1 := (he 47).trans (hS 28 (by kernel_rfl))
         refine op_any (.pick (.tmp 25) (.tmp 47) (.const (.bool false))) rfl (.bool true) (fun o' ho' => ?_) (hK _ _ rfl bR nA)
         simp only [execOp, ho', e0, e1]
         go_simp
       ·intro xs W9 Dn hall hG hS hD
        have s29 : xs 29 = .bool true := hS 29 (by decide)
        have HB9 : Hid (Below w1.heap.size w1 W9) := hG
        simp only [layAll, s29, List.setIfInBounds_toArray, List.set_cons_succ, List.set_cons_zero]
        generalize xs 0 = x0
        generalize xs 1 = x1
        generalize xs 2 = x2
        generalize xs 3 = x3
        generalize xs 4 = x4
        generalize xs 5 = x5
        generalize xs 6 = x6
        generalize xs 7 = x7
        generalize xs 8 = x8
        generalize xs 9 = x9
        generalize xs 10 = x10
        generalize xs 11 = x11
        generalize xs 12 = x12
        generalize xs 13 = x13
        generalize xs 14 = x14
        generalize xs 15 = x15
        generalize xs 16 = x16
        generalize xs 17 = x17
        generalize xs 18 = x18
        generalize xs 19 = x19
        generalize xs 20 = x20
        generalize xs 21 = x21
        generalize xs 22 = x22
        generalize xs 23 = x23
        generalize xs 24 = x24
        generalize xs 25 = x25
        generalize xs 26 = x26
        generalize xs 27 = x27
        generalize xs 28 = x28
        clear hS hD hall hstab S s29 hG h1 h2 xs Dn
        show wpList Tryz.prog _ _ [] _ _
        go_wp2_with fail
        go_roundw
        case rel => exact ⟨m + 1, ⟨by first | rfl | rw [hw2], by omega, by omega⟩, HNEXT.out, HB9.out⟩
        case measure => simp [intOf]; omega
     ·have HEND : Hid (i + m = s.length ∨ kcl (s.getD (i + m) 0) ≠ kcl (s.getD i 0)) := .inl (by have := HO.out.2.2; omega)
      have hend2 : (n : Int) ≤ (i : Int) + m := by omega
      clear hel hall hx hxo hcx
      go_upto_region 8 with fail
      have h1 : once [(19, 0), (20, 1), (21, 2), (22, 3), (23, 4), (24, 5), (25, 6), (26, 7), (27, 8), (28, 9), (29, 10), (30, 11), (31, 12), (32, 13), (33, 14), (34, 15), (35, 16), (36, 17), (37, 18), (38, 19), (39, 20), (40, 21), (41, 22), (42, 23), (43, 24), (44, 25), (45, 26), (46, 27), (47, 28), (48, 29)] = true := by kernel_rfl
      have h2 : within [(19, 0), (20, 1), (21, 2), (22, 3), (23, 4), (24, 5), (25, 6), (26, 7), (27, 8), (28, 9), (29, 10), (30, 11), (31, 12), (32, 13), (33, 14), (34, 15), (35, 16), (36, 17), (37, 18), (38, 19), (39, 20), (40, 21), (41, 22), (42, 23), (43, 24), (44, 25), (45, 26), (46, 27), (47, 28), (48, 29)] 64 = true := by kernel_rfl
      let S : Nat → (Nat → Value) → World → Prop := fun ix xs W => match ix with
       | 0 => xs 0 = .int .i64 (i : Nat)
       | 1 => xs 1 = .int .i64 (m : Nat)
       | 2 => xs 2 = .int .i64 ((i + m : Nat) : Int)
       | 3 => xs 3 = .slice (some ⟨g, 0, none⟩) n n
       | 4 => xs 4 = .int .i64 (n : Nat)
       | 5 => xs 5 = .bool false
       | 6 => xs 6 = .bool false
       | 7 => True
       | 8 => True
       | 9 => True
       | 10 => True
       | 11 => True
       | 12 => True
       | 13 => True
       | 14 => True
       | 15 => True
       | 16 => True
       | 17 => True
       | 18 => xs 18 = undef
       | 19 => True
       | 20 => True
       | 21 => True
       | 22 => True
       | 23 => True
       | 24 => True
       | 25 => True
       | 26 => True
       | 27 => True
       | 28 => True
       | 29 => xs 29 = .bool false
       | _ => True
      have hstab : ∀ j ys W W', S j ys W → Below W.heap.size W W' → S j ys W' := by
       intro j ys W W' h hb
       match j, h with
       | 0, h => exact h
       | 1, h => exact h
       | 2, h => exact h
       | 3, h => exact h
       | 4, h => exact h
       | 5, h => exact h
       | 6, h => exact h
       | 7, h => exact h
       | 8, h => exact h
       | 9, h => exact h
       | 10, h => exact h
       | 11, h => exact h
       | 12, h => exact h
       | 13, h => exact h
       | 14, h => exact h
       | 15, h => exact h
       | 16, h => exact h
       | 17, h => exact h
       | 18, h => exact h
       | 19, h => exact h
       | 20, h => exact h
       | 21, h => exact h
       | 22, h => exact h
       | 23, h => exact h
       | 24, h => exact h
       | 25, h => exact h
       | 26, h => exact h
       | 27, h => exact h
       | 28, h => exact h
       | 29, h => exact h
       | _ + 30, h => exact trivial
      refine wp_region_flow3 30 30 [(19, 0), (20, 1), (21, 2), (22, 3), (23, 4), (24, 5), (25, 6), (26, 7), (27, 8), (28, 9), (29, 10), (30, 11), (31, 12), (32, 13), (33, 14), (34, 15), (35, 16), (36, 17), (37, 18), (38, 19), (39, 20), (40, 21), (41, 22), (42, 23), (43, 24), (44, 25), (45, 26), (46, 27), (47, 28), (48, 29)] [] S (fun _ W => (fun W => Below w1.heap.size w1 W) W) HBQ.out.drew (by kernel_rfl) (by kernel_rfl) (by kernel_rfl) (by decide) (by kernel_rfl) h1 (by kernel_rfl) (fun j hj => by cases hj) ?_ ?_ ?_
      ·intro j xs ys W e h
       match j, e, h with
       | 0, e, h => exact c_ (e 0 (.inl rfl)) h
       | 1, e, h => exact c_ (e 1 (.inl rfl)) h
       | 2, e, h => exact c_ (e 2 (.inl rfl)) h
       | 3, e, h => exact c_ (e 3 (.inl rfl)) h
       | 4, e, h => exact c_ (e 4 (.inl rfl)) h
       | 5, e, h => exact c_ (e 5 (.inl rfl)) h
       | 6, e, h => exact c_ (e 6 (.inl rfl)) h
       | 7, e, h => exact h
       | 8, e, h => exact h
       | 9, e, h => exact h
       | 10, e, h => exact h
       | 11, e, h => exact h
       | 12, e, h => exact h
       | 13, e, h => exact h
       | 14, e, h => exact h
       | 15, e, h => exact h
       | 16, e, h => exact h
       | 17, e, h => exact h
       | 18, e, h => exact c_ (e 18 (.inl rfl)) h
       | 19, e, h => exact h
       | 20, e, h => exact h
       | 21, e, h => exact h
       | 22, e, h => exact h
       | 23, e, h => exact h
       | 24, e, h => exact h
       | 25, e, h => exact h
       | 26, e, h => exact h
       | 27, e, h => exact h
       | 28, e, h => exact h
       | 29, e, h => exact c_ (e 29 (.inl rfl)) h
       | _ + 30, e, h => exact trivial
      ·refine ⟨⟨⟨⟨⟨⟨⟨⟨⟨⟨⟨⟨⟨⟨⟨⟨⟨⟨⟨⟨⟨⟨⟨⟨⟨⟨⟨⟨⟨⟨trivial, ?_⟩, ?_⟩, ?_⟩, ?_⟩, ?_⟩, ?_⟩, ?_⟩, ?_⟩, ?_⟩, ?_⟩, ?_⟩, ?_⟩, ?_⟩, ?_⟩, ?_⟩, ?_⟩, ?_⟩, ?_⟩, ?_⟩, ?_⟩, ?_⟩, ?_⟩, ?_⟩, ?_⟩, ?_⟩, ?_⟩, ?_⟩, ?_⟩, ?_⟩, ?_⟩
       ·refine flow3_step _ (some 19) rfl rfl rfl h1 h2 gI gB hstab fun ac xs W Dn he hni hG hS K hK => ?_
        exact op_move (.tmp 8) (.inl rfl) (hK _ _ (he 8) bR nA)
       ·refine flow3_step _ (some 20) rfl rfl rfl h1 h2 gI gB hstab fun ac xs W Dn he hni hG hS K hK => ?_
        exact op_move (.tmp 9) (.inl rfl) (hK _ _ (he 9) bR nA)
       ·refine flow3_step _ (some 21) rfl rfl rfl h1 h2 gI gB hstab fun ac xs W Dn he hni hG hS K hK => ?_
        have e0 := (he 19).trans (hS 0 (by kernel_rfl))
        have e1 := (he 20).trans (hS 1 (by kernel_rfl))
        refine op_any (.binOp .add 3 (.tmp 19) (.tmp 20) 3) rfl (.int .i64 ((i + m : Nat) : Int)) (fun o' ho' => ?_) (hK _ _ rfl bR nA)
        simp only [execOp, ho', e0, e1]
        go_simp
       ·refine flow3_step _ (some 22) rfl rfl rfl h1 h2 gI gB hstab fun ac xs W Dn he hni hG hS K hK => ?_
        exact op_move (.tmp 5) (.inl rfl) (hK _ _ (he 5) bR nA)
       ·refine flow3_step _ (some 23) rfl rfl rfl h1 h2 gI gB hstab fun ac xs W Dn he hni hG hS K hK => ?_
        have e0 : ac.tmps[22]?.getD undef = .slice (some ⟨g, 0, none⟩) n n := by rw [← Array.getD_eq_getD_getElem?]; exact (he 22).trans (hS 3 (by kernel_rfl))
        refine op_any (.call ⟨.builtin .len, #[.tmp 22], #[40]⟩) rfl (.int .i64 (n : Nat)) (fun o' ho' => ?_) (hK _ _ rfl bR nA)
        simp only [execOp, ho']
        go_simp
       ·refine flow3_step _ (some 24) rfl rfl rfl h1 h2 gI gB hstab fun ac xs W Dn he hni hG hS K hK => ?_
        have e0 := (he 21).trans (hS 2 (by kernel_rfl))
        have e1 := (he 23).trans (hS 4 (by kernel_rfl))
        refine op_any (.binOp .lss 3 (.tmp 21) (.tmp 23) 3) rfl (.bool false) (fun o' ho' => ?_) (hK _ _ rfl bR nA)
        simp only [execOp, ho', e0, e1]
        go_simp
       ·refine flow3_step _ (some 25) rfl rfl rfl h1 h2 gI gB hstab fun ac xs W Dn he hni hG hS K hK => ?_
        exact op_move (.tmp 24) (.inl rfl) (hK _ _ ((he 24).trans (hS 5 (by kernel_rfl))) bR nA)
       ·refine flow3_skipV _ 26 6 25 true rfl rfl rfl (by kernel_rfl) (fun _ => rfl) (fun xs W h => .inr h) (fun d h => by simpa using h) rfl h1 h2 (fun D W _ h => h) (fun xs W h => trivial) (by decide)
       ·refine flow3_skipV _ 27 6 25 true rfl rfl rfl (by kernel_rfl) (fun _ => rfl) (fun xs W h => .inr h) (fun d h => by simpa using h) rfl h1 h2 (fun D W _ h => h) (fun xs W h => trivial) (by decide)
       ·refine flow3_skipV _ 28 6 25 true rfl rfl rfl (by kernel_rfl) (fun _ => rfl) (fun xs W h => .inr h) (fun d h => by simpa using h) rfl h1 h2 (fun D W _ h => h) (fun xs W h => trivial) (by decide)
       ·refine flow3_skipV _ 29 6 25 true rfl rfl rfl (by kernel_rfl) (fun _ => rfl) (fun xs W h => .inr h) (fun d h => by simpa using h) rfl h1 h2 (fun D W _ h => h) (fun xs W h => trivial) (by decide)
       ·refine flow3_skipV _ 30 6 25 true rfl rfl rfl (by kernel_rfl) (fun _ => rfl) (fun xs W h => .inr h) (fun d h => by simpa using h) rfl h1 h2 (fun D W _ h => h) (fun xs W h => trivial) (by decide)
       ·refine flow3_skipV _ 31 6 25 true rfl rfl rfl (by kernel_rfl) (fun _ => rfl) (fun xs W h => .inr h) (fun d h => by simpa using h) rfl h1 h2 (fun D W _ h => h) (fun xs W h => trivial) (by decide)
       ·refine flow3_skipV _ 32 6 25 true rfl rfl rfl (by kernel_rfl) (fun _ => rfl) (fun xs W h => .inr h) (fun d h => by simpa using h) rfl h1 h2 (fun D W _ h => h) (fun xs W h => trivial) (by decide)
       ·refine flow3_skipV _ 33 6 25 true rfl rfl rfl (by kernel_rfl) (fun _ => rfl) (fun xs W h => .inr h) (fun d h => by simpa using h) rfl h1 h2 (fun D W _ h => h) (fun xs W h => trivial) (by decide)
       ·refine flow3_skipV _ 34 6 25 true rfl rfl rfl (by kernel_rfl) (fun _ => rfl) (fun xs W h => .inr h) (fun d h => by simpa using h) rfl h1 h2 (fun D W _ h => h) (fun xs W h => trivial) (by decide)
       ·refine flow3_skipV _ 35 6 25 true rfl rfl rfl (by kernel_rfl) (fun _ => rfl) (fun xs W h => .inr h) (fun d h => by simpa using h) rfl h1 h2 (fun D W _ h => h) (fun xs W h => trivial) (by decide)
       ·refine flow3_skipV _ 36 6 25 true rfl rfl rfl (by kernel_rfl) (fun _ => rfl) (fun xs W h => .inr h) (fun d h => by simpa using h) rfl h1 h2 (fun D W _ h => h) (fun xs W h => trivial) (by decide)
       ·refine flow3_skipV _ 37 6 25 true rfl rfl rfl (by kernel_rfl) (fun _ => rfl) (fun xs W h => .inr h) (fun d h => by simpa using h) rfl h1 h2 (fun D W _ h => h) (fun xs W h => h) (by decide)
       ·refine flow3_skipV _ 38 18 37 false rfl rfl rfl (by kernel_rfl) (fun _ => rfl) (fun xs W h => .inl h) (fun d h => by simpa using h) rfl h1 h2 (fun D W _ h => h) (fun xs W h => trivial) (by decide)
       ·refine flow3_skipV _ 39 18 37 false rfl rfl rfl (by kernel_rfl) (fun _ => rfl) (fun xs W h => .inl h) (fun d h => by simpa using h) rfl h1 h2 (fun D W _ h => h) (fun xs W h => trivial) (by decide)
       ·refine flow3_skipV _ 40 18 37 false rfl rfl rfl (by kernel_rfl) (fun _ => rfl) (fun xs W h => .inl h) (fun d h => by simpa using h) rfl h1 h2 (fun D W _ h => h) (fun xs W h => trivial) (by decide)
       ·refine flow3_skipV _ 41 18 37 false rfl rfl rfl (by kernel_rfl) (fun _ => rfl) (fun xs W h => .inl h) (fun d h => by simpa using h) rfl h1 h2 (fun D W _ h => h) (fun xs W h => trivial) (by decide)
       ·refine flow3_skipV _ 42 18 37 false rfl rfl rfl (by kernel_rfl) (fun _ => rfl) (fun xs W h => .inl h) (fun d h => by simpa using h) rfl h1 h2 (fun D W _ h => h) (fun xs W h => trivial) (by decide)
       ·refine flow3_skipV _ 43 18 37 false rfl rfl rfl (by kernel_rfl) (fun _ => rfl) (fun xs W h => .inl h) (fun d h => by simpa using h) rfl h1 h2 (fun D W _ h => h) (fun xs W h => trivial) (by decide)
       ·refine flow3_skipV _ 44 18 37 false rfl rfl rfl (by kernel_rfl) (fun _ => rfl) (fun xs W h => .inl h) (fun d h => by simpa using h) rfl h1 h2 (fun D W _ h => h) (fun xs W h => trivial) (by decide)
       ·refine flow3_skipV _ 45 18 37 false rfl rfl rfl (by kernel_rfl) (fun _ => rfl) (fun xs W h => .inl h) (fun d h => by simpa using h) rfl h1 h2 (fun D W _ h => h) (fun xs W h => trivial) (by decide)
       ·refine flow3_skipV _ 46 18 37 false rfl rfl rfl (by kernel_rfl) (fun _ => rfl) (fun xs W h => .inl h) (fun d h => by simpa using h) rfl h1 h2 (fun D W _ h => h) (fun xs W h => trivial) (by decide)
       ·refine flow3_skipV _ 47 6 25 true rfl rfl rfl (by kernel_rfl) (fun _ => rfl) (fun xs W h => .inr h) (fun d h => by simpa using h) rfl h1 h2 (fun D W _ h => h) (fun xs W h => trivial) (by decide)
       ·refine flow3_step _ (some 48) rfl rfl rfl h1 h2 gI gB hstab fun ac xs W Dn he hni hG hS K hK => ?_
        have e0 := (he 25).trans (hS 6 (by kernel_rfl))
        refine op_any (.pick (.tmp 25) (.tmp 47) (.const (.bool false))) rfl (.bool false) (fun o' ho' => ?_) (hK _ _ rfl bR nA)
        simp only [execOp, ho', e0]
        go_simp
      ·intro xs W9 Dn hall hG hS hD
       have s29 : xs 29 = .bool false := hS 29 (by decide)
       have HB9 : Hid (Below w1.heap.size w1 W9) := hG
       simp only [layAll, s29, List.setIfInBounds_toArray, List.set_cons_succ, List.set_cons_zero]
       generalize xs 0 = x0
       generalize xs 1 = x1
       generalize xs 2 = x2
       generalize xs 3 = x3
       generalize xs 4 = x4
       generalize xs 5 = x5
       generalize xs 6 = x6
       generalize xs 7 = x7
       generalize xs 8 = x8
       generalize xs 9 = x9
       generalize xs 10 = x10
       generalize xs 11 = x11
       generalize xs 12 = x12
       generalize xs 13 = x13
       generalize xs 14 = x14
       generalize xs 15 = x15
       generalize xs 16 = x16
       generalize xs 17 = x17
       generalize xs 18 = x18
       generalize xs 19 = x19
       generalize xs 20 = x20
       generalize xs 21 = x21
       generalize xs 22 = x22
       generalize xs 23 = x23
       generalize xs 24 = x24
       generalize xs 25 = x25
       generalize xs 26 = x26
       generalize xs 27 = x27
       generalize xs 28 = x28
       clear hS hD hall hstab S s29 hG h1 h2 xs Dn
       show wpList Tryz.prog _ _ [] _ _
       obtain ⟨cnt, hrn, hbs⟩ := run_count HO.out.1 HRUN.out (show i + m ≤ s.length by have := HO.out.2.2; omega) (by omega) HALL.out HEND.out
       have HRN : Hid (RunAt s (i + m)) := hrn
       rw [HBM.out] at hbs
       have hbs : bstK s (i + m) = if m1 < m then (i, m) else (b1, m1) := hbs
       clear cnt hrn
       by_cases hmm : m1 < m
       ·rw [if_pos hmm] at hbs
        have HBS : Hid (bstK s (i + m) = (i, m)) := hbs
        have hmm2 : (m1 : Int) < m := by omega
        clear hbs
        go_wp2_with fail
        go_roundw
        case rel => exact ⟨i + m, ⟨by omega, by first | rfl | rw [hw1] | go_num, by rw [HBS.out], by rw [HBS.out]⟩, HRN.out, HB9.out⟩
        case measure => simp [intOf]; omega
       ·rw [if_neg hmm] at hbs
        have HBS : Hid (bstK s (i + m) = (b1, m1)) := hbs
        have hmm2 : ¬ (m1 : Int) < m := by omega
        clear hbs
        go_wp2_with fail
        go_roundw
        case rel => exact ⟨i + m, ⟨by omega, by first | rfl | rw [hw1] | go_num, by rw [HBS.out], by rw [HBS.out]⟩, HRN.out, HB9.out⟩
        case measure => simp [intOf]; omega
   ·obtain rfl : i = n := by omega
    have hlast := HF.out wr HBR.out b1 (by omega)
    have hb0 : (0 : Int) ≤ (b1 : Int) := by omega
    have hb2 : (b1 : Int) < i := by omega
    go_wp2_with fail
    go_ret3
    exact ⟨by rw [HBM.out]; rfl, HB.out.thru HBR.out⟩
theorem cnt_take9 {s : List Nat} {k : Nat} (h : k < s.length) (p : Nat → Bool) : (s.take (k + 1)).countP p = (s.take k).countP p + (if p (s.getD k 0) = true then 1 else 0) := cntP_next h p
set_option maxHeartbeats 16000000 in
theorem roften9_v {a : Option Addr} {n c : Nat} {l : List Nat} (w : World) (hn : l.length = n) (hmax : n * 8 ≤ 140737488355328) (hl : ∀ x ∈ l, W64 x) (hcell : UIn w a n l) :
  Calls Tryz.prog 41 #[.slice a n c] w fun e w' => e = .returned (.tuple #[.int .u64 ((oftA l).1 : Nat), .int .i64 ((oftA l).2.1 : Nat), .int .i64 (oftA l).2.2]) ∧ Below w.heap.size w w' := by
 by_cases h0 : n = 0
 ·subst h0
  have ht : oftA l = (0, 0, 4) := by unfold oftA; rw [if_pos hn]
  rw [ht]
  clear hcell hl
  go_enter Tryz.func41, Tryz.ntmps41
  go_wp2
  go_ret3
  exact ⟨rfl, Below.refl _ _⟩
 ·have HSO : Hid (Calls Tryz.prog 36 #[.slice a n c] w fun e w' => (∃ v, e = .returned v ∧ UOn w' w.heap.size v n (ordL l)) ∧ Below w.heap.size w w') := rsorted9_v w hn hmax hl hcell
  obtain ⟨s, hs⟩ : ∃ s, s = ordL l := ⟨_, rfl⟩
  have ht : oftA l = (s.getD (bstK s n).1 0, (bstK s n).2, 0) := by unfold oftA; rw [if_neg (by omega), hn, ← hs]
  rw [ht]
  have hsl : s.length = n := by rw [hs, ordL_len, hn]
  have hson : ∀ x ∈ s, Oned x := by rw [hs]; exact ordL_oned hl
  have HEL : Hid (∀ j, j < n → Oned (s.getD j 0)) := fun j hj => by
   rw [List.getD_eq_getElem?_getD, List.getElem?_eq_getElem (by omega)]
   exact hson _ (List.getElem_mem _)
  have HSL : Hid (s.length = n) := hsl
  rw [← hs] at HSO
  clear hcell hl hs ht hsl hn hson
  have n0 : (0 : Int) < n := by omega
  go_enter Tryz.func41, Tryz.ntmps41
  go_wp2_with fail
  refine Calls.mono HSO.out ?_
  rintro e w1 ⟨⟨v, rfl, hv⟩, hb⟩
  obtain ⟨g, cp, rfl, -⟩ := own_some9 hv (by omega)
  have HF : Hid (∀ W, Below w1.heap.size w1 W → ∀ j, j < n → W.cell? ⟨g, j, none⟩ = some (.int .u64 (s.getD j 0 : Nat))) := fun W hW j hj => (hW.cell (p := ⟨g, j, none⟩) hv.lt.2).trans (hv.cell hj)
  have HB : Hid (Below w.heap.size w w1) := hb
  clear hb HSO hv
  have hc0 := HF.out w1 (Below.refl _ _) 0 (by omega)
  go_wp2_with fail
  clear hc0
  go_loopw [6, 7, 8] (fun bv mv fv wr => ∃ i : Nat, (i ≤ n ∧ fv = .int .i64 (i : Nat) ∧ bv = .int .u64 (s.getD (bstK s i).1 0 : Nat) ∧ mv = .int .i64 ((bstK s i).2 : Nat)) ∧ Below w1.heap.size w1 wr) (fun _ _ fv _ => n - (intOf fv).toNat)
  case atStart => exact ⟨0, ⟨Nat.zero_le _, by first | rfl | go_num, by first | rfl | go_num, by first | rfl | go_num⟩, Below.refl _ _⟩
  case round =>
   obtain ⟨i, ⟨hi, rfl, rfl, rfl⟩, hbr⟩ := hrel
   have HBR : Hid (Below w1.heap.size w1 wr) := hbr
   obtain ⟨bst1, bst2⟩ := bst_lt s i
   obtain ⟨b1, hb1⟩ : ∃ b, b = (bstK s i).1 := ⟨_, rfl⟩
   obtain ⟨m1, hm1⟩ : ∃ m, m = (bstK s i).2 := ⟨_, rfl⟩
   rw [← hb1] at bst1
   rw [← hm1] at bst2
   rw [← hb1, ← hm1]
   have HBM : Hid (bstK s i = (b1, m1)) := by show _ = _; rw [hb1, hm1]
   obtain ⟨B1, hB1⟩ : ∃ b, b = s.getD b1 0 := ⟨_, rfl⟩
   rw [← hB1]
   have HBV : Hid (B1 = s.getD b1 0) := hB1
   clear hbr hb1 hm1 hB1 bst1
   by_cases hin : i < n
   ·have hin2 : (i : Int) < n := by omega
    obtain ⟨x, hx⟩ : ∃ x, x = s.getD i 0 := ⟨_, rfl⟩
    have HX : Hid (x = s.getD i 0) := hx
    have hxo : Oned x := by rw [hx]; exact HEL.out i hin
    clear hx
    go_wp2_with fail
    go_loopw [9, 10] (fun nv kv wq => ∃ k : Nat, (k ≤ n ∧ kv = .int .i64 (k : Nat) ∧ nv = .int .i64 ((s.take k).countP (fun y => decide (kcl y = kcl x)) : Nat)) ∧ Below w1.heap.size w1 wq) (fun _ kv _ => n - (intOf kv).toNat)
    case atStart => exact ⟨0, ⟨Nat.zero_le _, by first | rfl | go_num, by first | rfl | go_num⟩, HBR.out⟩
    case round =>
     rename_i wo
     obtain ⟨k, ⟨hk, rfl, rfl⟩, hbq⟩ := hrel
     have HBQ : Hid (Below w1.heap.size w1 wr) := hbq
     obtain ⟨m, hm⟩ : ∃ m, m = (s.take k).countP (fun y => decide (kcl y = kcl x)) := ⟨_, rfl⟩
     have hmk : m ≤ k := by rw [hm]; exact cntP_le s k _
     rw [← hm]
     have HM : Hid (m = (s.take k).countP (fun y => decide (kcl y = kcl x))) := hm
     clear hbq hm
     have i0 : (0 : Int) ≤ (i : Int) := by omega
     have k0 : (0 : Int) ≤ (k : Int) := by omega
     have hw1 : IntKind.i64.wrap ((i : Int) + 1) = ((i + 1 : Nat) : Int) := by rw [IntWalk.i64_in _ (by omega)]; omega
     by_cases hkn : k < n
     ·have hkn2 : (k : Int) < n := by omega
      have hw2 : IntKind.i64.wrap ((k : Int) + 1) = ((k + 1 : Nat) : Int) := by rw [IntWalk.i64_in _ (by omega)]; omega
      have hw3 : IntKind.i64.wrap ((m : Int) + 1) = ((m + 1 : Nat) : Int) := by rw [IntWalk.i64_in _ (by omega)]; omega
      obtain ⟨y, hy⟩ : ∃ y, y = s.getD k 0 := ⟨_, rfl⟩
      have hyo : Oned y := by rw [hy]; exact HEL.out k hkn
      have hks := kcl_same hxo hyo
      have hnx := cnt_take9 (s := s) (k := k) (by have := HSL.out; omega) (fun y => decide (kcl y = kcl x))
      rw [← HM.out, ← hy, show decide (kcl y = kcl x) = decide (kcl x = kcl y) by rw [decide_eq_decide]; exact eq_comm, ← hks] at hnx
      have HEQ : Hid (∀ W, Calls Tryz.prog 88 #[.int .u64 (x : Nat), .int .u64 (y : Nat)] W fun e w' => e = .returned (.bool (equalB x y)) ∧ Below W.heap.size W w') := fun W => r7_equal x y W hxo.1 hyo.1
      have HSM : Hid (∀ W, Calls Tryz.prog 89 #[.int .u64 (x : Nat), .int .u64 (y : Nat)] W fun e w' => e = .returned (.bool (keyB x == keyB y)) ∧ Below W.heap.size W w') := fun W => (ref_same x y W hxo.1 hyo.1).mono fun e w' ⟨h1, h2⟩ => ⟨h1, by rw [← h2]; exact Below.refl _ _⟩
      obtain ⟨E, hE⟩ : ∃ E, E = equalB x y := ⟨_, rfl⟩
      obtain ⟨S1, hS1⟩ : ∃ E, E = (keyB x == keyB y) := ⟨_, rfl⟩
      rw [← hE] at HEQ hnx
      rw [← hS1] at HSM hnx
      have HY : Hid (y = s.getD k 0) := hy
      have HNX : Hid ((s.take (k + 1)).countP (fun y => decide (kcl y = kcl x)) = m + (if (E || S1) = true then 1 else 0)) := hnx
      clear hks hnx hE hS1 hy hyo
      go_upto_region 13 with fail
      have h1 : once [(33, 0), (34, 1), (35, 2), (36, 3), (37, 4), (38, 5), (39, 6), (40, 7), (41, 8)] = true := by kernel_rfl
      have h2 : within [(33, 0), (34, 1), (35, 2), (36, 3), (37, 4), (38, 5), (39, 6), (40, 7), (41, 8)] 67 = true := by kernel_rfl
      refine wp_region_flow 9 10 [(33, 0), (34, 1), (35, 2), (36, 3), (37, 4), (38, 5), (39, 6), (40, 7), (41, 8)] [] (fun ix v W => match ix with
       | 0 => v = .slice (some ⟨g, 0, none⟩) n cp
       | 1 => v = .int .i64 (i : Nat)
       | 2 => v = .pointer (some ⟨g, i, none⟩)
       | 3 => v = .int .u64 (x : Nat)
       | 4 => v = .slice (some ⟨g, 0, none⟩) n cp
       | 5 => v = .int .i64 (k : Nat)
       | 6 => v = .pointer (some ⟨g, k, none⟩)
       | 7 => v = .int .u64 (y : Nat)
       | _ => v = .bool E) wr.heap.size (Nat.le_refl _) (by kernel_rfl) (by kernel_rfl) (by kernel_rfl) (by decide) (by kernel_rfl) h1 (by kernel_rfl) ?_ ?_ ?_ ?_
      ·intro j v W W' h hb
       match j, h with
       | 0, h => exact h
       | 1, h => exact h
       | 2, h => exact h
       | 3, h => exact h
       | 4, h => exact h
       | 5, h => exact h
       | 6, h => exact h
       | 7, h => exact h
       | _ + 8, h => exact h
      ·exact fun j hj => by cases hj
      ·refine ⟨⟨⟨⟨⟨⟨⟨⟨⟨trivial, ?_⟩, ?_⟩, ?_⟩, ?_⟩, ?_⟩, ?_⟩, ?_⟩, ?_⟩, ?_⟩
       ·refine flow_step _ 33 rfl rfl (fun d h => by simpa using h) h1 h2 fun ac xs W he hb hS K hK => ?_
        exact op_move (.tmp 5) (.inl rfl) (hK _ _ (he 5) bR nA)
       ·refine flow_step _ 34 rfl rfl (fun d h => by simpa using h) h1 h2 fun ac xs W he hb hS K hK => ?_
        exact op_move (.tmp 8) (.inl rfl) (hK _ _ (he 8) bR nA)
       ·refine flow_step _ 35 rfl rfl (fun d h => by simpa using h) h1 h2 fun ac xs W he hb hS K hK => ?_
        have e0 := (he 33).trans (hS 0 (by kernel_rfl))
        have e1 := (he 34).trans (hS 1 (by kernel_rfl))
        refine op_any (.indexAddr 39 (.tmp 33) (.tmp 34)) rfl (.pointer (some ⟨g, i, none⟩)) (fun o' ho' => ?_) (hK _ _ rfl bR nA)
        simp only [execOp, ho', e0, e1]
        go_simp
       ·refine flow_step _ 36 rfl rfl (fun d h => by simpa using h) h1 h2 fun ac xs W he hb hS K hK => ?_
        have hc := (HF.out W (HBQ.out.thru hb) i hin).trans (by rw [← HX.out])
        have e0 := (he 35).trans (hS 2 (by kernel_rfl))
        refine op_any (.load 22 (.tmp 35)) rfl (.int .u64 (x : Nat)) (fun o' ho' => ?_) (hK _ _ rfl bR nA)
        simp only [execOp, ho', e0]
        go_simp
       ·refine flow_step _ 37 rfl rfl (fun d h => by simpa using h) h1 h2 fun ac xs W he hb hS K hK => ?_
        exact op_move (.tmp 5) (.inl rfl) (hK _ _ (he 5) bR nA)
       ·refine flow_step _ 38 rfl rfl (fun d h => by simpa using h) h1 h2 fun ac xs W he hb hS K hK => ?_
        exact op_move (.tmp 10) (.inl rfl) (hK _ _ (he 10) bR nA)
       ·refine flow_step _ 39 rfl rfl (fun d h => by simpa using h) h1 h2 fun ac xs W he hb hS K hK => ?_
        have e0 := (he 37).trans (hS 4 (by kernel_rfl))
        have e1 := (he 38).trans (hS 5 (by kernel_rfl))
        refine op_any (.indexAddr 39 (.tmp 37) (.tmp 38)) rfl (.pointer (some ⟨g, k, none⟩)) (fun o' ho' => ?_) (hK _ _ rfl bR nA)
        simp only [execOp, ho', e0, e1]
        go_simp
       ·refine flow_step _ 40 rfl rfl (fun d h => by simpa using h) h1 h2 fun ac xs W he hb hS K hK => ?_
        have hc := (HF.out W (HBQ.out.thru hb) k hkn).trans (by rw [← HY.out])
        have e0 := (he 39).trans (hS 6 (by kernel_rfl))
        refine op_any (.load 22 (.tmp 39)) rfl (.int .u64 (y : Nat)) (fun o' ho' => ?_) (hK _ _ rfl bR nA)
        simp only [execOp, ho', e0]
        go_simp
       ·refine flow_step _ 41 rfl rfl (fun d h => by simpa using h) h1 h2 fun ac xs W he hb hS K hK => ?_
        have e0 := (he 36).trans (hS 3 (by kernel_rfl))
        have e1 := (he 40).trans (hS 7 (by kernel_rfl))
        refine op_call 88 _ _ rfl _ (by simp only [List.map, e0, e1]) (by go_simp) (HEQ.out W) ?_
        rintro e' W' ⟨rfl, hb'⟩
        exact ⟨_, rfl, hK _ _ (rfl) hb' nA⟩
      ·intro xs w2 hb hS hD
       have s8 : xs 8 = _ := hS 8 (by decide)
       generalize xs 0 = y0 at *
       generalize xs 1 = y1 at *
       generalize xs 2 = y2 at *
       generalize xs 3 = y3 at *
       generalize xs 4 = y4 at *
       generalize xs 5 = y5 at *
       generalize xs 6 = y6 at *
       generalize xs 7 = y7 at *
       simp only [layAll, s8]
       have HB2 : Hid (Below w1.heap.size w1 w2) := HBQ.out.thru hb
       clear hS hD s8 hb
       go_upto_region 14 with fail
       have h1 : once [(42, 0), (43, 1), (44, 2), (45, 3), (46, 4), (47, 5), (48, 6), (49, 7), (50, 8)] = true := by kernel_rfl
       have h2 : within [(42, 0), (43, 1), (44, 2), (45, 3), (46, 4), (47, 5), (48, 6), (49, 7), (50, 8)] 67 = true := by kernel_rfl
       refine wp_region_flow 9 10 [(42, 0), (43, 1), (44, 2), (45, 3), (46, 4), (47, 5), (48, 6), (49, 7), (50, 8)] [] (fun ix v W => match ix with
        | 0 => v = .slice (some ⟨g, 0, none⟩) n cp
        | 1 => v = .int .i64 (i : Nat)
        | 2 => v = .pointer (some ⟨g, i, none⟩)
        | 3 => v = .int .u64 (x : Nat)
        | 4 => v = .slice (some ⟨g, 0, none⟩) n cp
        | 5 => v = .int .i64 (k : Nat)
        | 6 => v = .pointer (some ⟨g, k, none⟩)
        | 7 => v = .int .u64 (y : Nat)
        | _ => v = .bool S1) w2.heap.size (Nat.le_refl _) (by kernel_rfl) (by kernel_rfl) (by kernel_rfl) (by decide) (by kernel_rfl) h1 (by kernel_rfl) ?_ ?_ ?_ ?_
       ·intro j v W W' h hb
        match j, h with
        | 0, h => exact h
        | 1, h => exact h
        | 2, h => exact h
        | 3, h => exact h
        | 4, h => exact h
        | 5, h => exact h
        | 6, h => exact h
        | 7, h => exact h
        | _ + 8, h => exact h
       ·exact fun j hj => by cases hj
       ·refine ⟨⟨⟨⟨⟨⟨⟨⟨⟨trivial, ?_⟩, ?_⟩, ?_⟩, ?_⟩, ?_⟩, ?_⟩, ?_⟩, ?_⟩, ?_⟩
        ·refine flow_step _ 42 rfl rfl (fun d h => by simpa using h) h1 h2 fun ac xs W he hb hS K hK => ?_
         exact op_move (.tmp 5) (.inl rfl) (hK _ _ (he 5) bR nA)
        ·refine flow_step _ 43 rfl rfl (fun d h => by simpa using h) h1 h2 fun ac xs W he hb hS K hK => ?_
         exact op_move (.tmp 8) (.inl rfl) (hK _ _ (he 8) bR nA)
        ·refine flow_step _ 44 rfl rfl (fun d h => by simpa using h) h1 h2 fun ac xs W he hb hS K hK => ?_
         have e0 := (he 42).trans (hS 0 (by kernel_rfl))
         have e1 := (he 43).trans (hS 1 (by kernel_rfl))
         refine op_any (.indexAddr 39 (.tmp 42) (.tmp 43)) rfl (.pointer (some ⟨g, i, none⟩)) (fun o' ho' => ?_) (hK _ _ rfl bR nA)
         simp only [execOp, ho', e0, e1]
         go_simp
        ·refine flow_step _ 45 rfl rfl (fun d h => by simpa using h) h1 h2 fun ac xs W he hb hS K hK => ?_
         have hc := (HF.out W (HB2.out.thru hb) i hin).trans (by rw [← HX.out])
         have e0 := (he 44).trans (hS 2 (by kernel_rfl))
         refine op_any (.load 22 (.tmp 44)) rfl (.int .u64 (x : Nat)) (fun o' ho' => ?_) (hK _ _ rfl bR nA)
         simp only [execOp, ho', e0]
         go_simp
        ·refine flow_step _ 46 rfl rfl (fun d h => by simpa using h) h1 h2 fun ac xs W he hb hS K hK => ?_
         exact op_move (.tmp 5) (.inl rfl) (hK _ _ (he 5) bR nA)
        ·refine flow_step _ 47 rfl rfl (fun d h => by simpa using h) h1 h2 fun ac xs W he hb hS K hK => ?_
         exact op_move (.tmp 10) (.inl rfl) (hK _ _ (he 10) bR nA)
        ·refine flow_step _ 48 rfl rfl (fun d h => by simpa using h) h1 h2 fun ac xs W he hb hS K hK => ?_
         have e0 := (he 46).trans (hS 4 (by kernel_rfl))
         have e1 := (he 47).trans (hS 5 (by kernel_rfl))
         refine op_any (.indexAddr 39 (.tmp 46) (.tmp 47)) rfl (.pointer (some ⟨g, k, none⟩)) (fun o' ho' => ?_) (hK _ _ rfl bR nA)
         simp only [execOp, ho', e0, e1]
         go_simp
        ·refine flow_step _ 49 rfl rfl (fun d h => by simpa using h) h1 h2 fun ac xs W he hb hS K hK => ?_
         have hc := (HF.out W (HB2.out.thru hb) k hkn).trans (by rw [← HY.out])
         have e0 := (he 48).trans (hS 6 (by kernel_rfl))
         refine op_any (.load 22 (.tmp 48)) rfl (.int .u64 (y : Nat)) (fun o' ho' => ?_) (hK _ _ rfl bR nA)
         simp only [execOp, ho', e0]
         go_simp
        ·refine flow_step _ 50 rfl rfl (fun d h => by simpa using h) h1 h2 fun ac xs W he hb hS K hK => ?_
         have e0 := (he 45).trans (hS 3 (by kernel_rfl))
         have e1 := (he 49).trans (hS 7 (by kernel_rfl))
         refine op_call 89 _ _ rfl _ (by simp only [List.map, e0, e1]) (by go_simp) (HSM.out W) ?_
         rintro e' W' ⟨rfl, hb'⟩
         exact ⟨_, rfl, hK _ _ (rfl) hb' nA⟩
       ·intro xs w3 hb hS hD
        have s8 : xs 8 = _ := hS 8 (by decide)
        generalize xs 0 = y0 at *
        generalize xs 1 = y1 at *
        generalize xs 2 = y2 at *
        generalize xs 3 = y3 at *
        generalize xs 4 = y4 at *
        generalize xs 5 = y5 at *
        generalize xs 6 = y6 at *
        generalize xs 7 = y7 at *
        simp only [layAll, s8]
        have HB3 : Hid (Below w1.heap.size w1 w3) := HB2.out.thru hb
        clear hS hD s8 hb
        cases E
        ·cases S1
         ·
          go_wp2_with fail
          go_roundw
          case rel => exact ⟨k + 1, ⟨by omega, by first | rfl | rw [hw2] | go_num, by rw [HNX.out]; first | rfl | (simp only [Bool.true_or, Bool.or_true, Bool.or_false, if_true]; first | rfl | rw [hw3] | go_num) | simp⟩, HB3.out⟩
          case measure => simp [intOf]; omega
         ·
          go_wp2_with fail
          go_roundw
          case rel => exact ⟨k + 1, ⟨by omega, by first | rfl | rw [hw2] | go_num, by rw [HNX.out]; first | rfl | (simp only [Bool.true_or, Bool.or_true, Bool.or_false, if_true]; first | rfl | rw [hw3] | go_num) | simp⟩, HB3.out⟩
          case measure => simp [intOf]; omega
        ·
         go_wp2_with fail
         go_roundw
         case rel => exact ⟨k + 1, ⟨by omega, by first | rfl | rw [hw2] | go_num, by rw [HNX.out]; first | rfl | (simp only [Bool.true_or, Bool.or_true, Bool.or_false, if_true]; first | rfl | rw [hw3] | go_num) | simp⟩, HB3.out⟩
         case measure => simp [intOf]; omega
     ·obtain rfl : k = n := by omega
      have hall : m = cntK s (kcl x) := by
       rw [HM.out, List.take_of_length_le (by have := HSL.out; omega)]; rfl
      have hbs : bstK s (i + 1) = if m1 < m then (i, m) else (b1, m1) := by
       show (if (bstK s i).2 < cntK s (kcl (s.getD i 0)) then (i, cntK s (kcl (s.getD i 0))) else bstK s i) = _
       rw [← HX.out, ← hall, HBM.out]
      have hcx := (HF.out wr HBQ.out i hin).trans (by rw [← HX.out])
      clear hall
      by_cases hmm : m1 < m
      ·rw [if_pos hmm] at hbs
       have HBS : Hid (bstK s (i + 1) = (i, m)) := hbs
       have hmm2 : (m1 : Int) < m := by omega
       clear hbs
       go_wp2_with fail
       go_roundw
       case rel => exact ⟨i + 1, ⟨by omega, by first | rfl | rw [hw1] | go_num, by rw [HBS.out, HX.out], by rw [HBS.out]⟩, HBQ.out⟩
       case measure => simp [intOf]; omega
      ·rw [if_neg hmm] at hbs
       have HBS : Hid (bstK s (i + 1) = (b1, m1)) := hbs
       have hmm2 : ¬ (m1 : Int) < m := by omega
       clear hbs
       go_wp2_with fail
       go_roundw
       case rel => exact ⟨i + 1, ⟨by omega, by first | rfl | rw [hw1] | go_num, by rw [HBS.out, HBV.out], by rw [HBS.out]⟩, HBQ.out⟩
       case measure => simp [intOf]; omega
   ·obtain rfl : i = n := by omega
    go_wp2_with fail
    go_ret3
    exact ⟨by rw [HBM.out, HBV.out]; rfl, HB.out.thru HBR.out⟩
end Go.Proofs.YtlbokicainimnaaGreatDoor
