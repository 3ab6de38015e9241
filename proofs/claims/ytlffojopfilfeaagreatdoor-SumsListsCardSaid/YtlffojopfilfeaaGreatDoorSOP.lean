import Derived.Test.YtlffojopfilfeaaGreatDoorSOO
import Derived.Test.YtlffojopfilfeaaGreatDoorSOA
set_option maxRecDepth 100000
namespace Go.Proofs.YtlffojopfilfeaaGreatDoor
open Go Go.RowKit Go.Lib
def AnsQ (c : Nat → Nat) (V : Int) (n : Nat) (w : World) (e : Ending) (w' : World) : Prop := e = .returned (.tuple #[.float .f64 (ansB c V n), .int .i64 (ansX c V n)]) ∧ Below w.heap.size w w'
theorem ans_spc {c : Nat → Nat} {V : Int} {n b : Nat} (h : spcI c = true) (hb : spcB c = b) : ansB c V n = b ∧ ansX c V n = 0 := by unfold ansB ansX; rw [h, if_pos rfl, if_pos rfl]; exact ⟨hb, rfl⟩
theorem ans_tot {c : Nat → Nat} {V : Int} {n : Nat} (h : spcI c = false) (h0 : V ≠ 0) : ansB c V n = totB V n ∧ ansX c V n = totX V n := by unfold ansB ansX; simp [h, h0]
theorem ans_nil {c : Nat → Nat} {V : Int} {n : Nat} (h : spcI c = false) (h0 : V = 0) : ansB c V n = nilB c ∧ ansX c V n = 0 := by unfold ansB ansX; simp [h, h0]
set_option maxHeartbeats 4000000 in
theorem whole8_v {g : Nat} {T : List Term1} (n : Nat) (w : World) (h : AccT w g T) (hT : Fit T) (hn : 0 < n) (hn2 : n < 4611686018427387904) (htab : Tab w) (htw : TabW w) :
  Calls Tryz.prog 36 #[.pointer (some ⟨g, 0, none⟩), .int .i64 (n : Nat)] w (AnsQ (cntT T) (sumT T) n w) := by
 have hall := cnt_all hT.1
 have HCT : Hid (∀ W, Below w.heap.size w W → Calls Tryz.prog 28 #[.pointer (some ⟨g, 0, none⟩)] W fun e w' => e = .returned (.int .i64 (T.length : Nat)) ∧ w' = W) := fun W hW => (count8_v W (h.below hW) hT).mono fun e w' ⟨h1, h2⟩ => ⟨h1, h2.symm⟩
 have HQU : Hid (∀ W x y, Below w.heap.size w W → sumT T ≠ 0 → WideI W x (sumT T) → WideI W y (n : Int) → Calls Tryz.prog 45 #[x, .int .i64 (-2148), y] W fun e w' => e = .returned (.tuple #[.float .f64 (totB (sumT T) n), .int .i64 (totX (sumT T) n)]) ∧ Below W.heap.size W w') := fun W x y hW h0 hx hy =>
  quo8_v x y (sumT T) n (64 + LQ) W hx hy h0 hT.room (by rw [LQ_eq]; decide) hn (Nat.lt_trans hn2 (by decide)) (htab.below hW) (htw.below hW)
 have HOF : Hid (∀ W, Calls Tryz.prog 41 #[.int .i64 (n : Nat)] W (WideR (n : Int) W)) := fun W => iof_v n W (by omega) (by omega)
 have HIN : Hid (∀ W, Below w.heap.size w W → Calls Tryz.prog 63 #[] W fun e w' => e = .returned (.float .f64 9218868437227405312) ∧ W = w') := fun W hW => infinity_v W (htw.below hW)
 have HNA : Hid (∀ W, Calls Tryz.prog 39 #[] W fun e w' => e = .returned (.float .f64 theNaN) ∧ W = w') := fun W => nan_any W
 have HJO : Hid (∀ W, Below w.heap.size w W → Calls Tryz.prog 64 #[.bool true, .int .u64 0, .int .i64 0] W fun e w' => e = .returned (.tuple #[.float .f64 9223372036854775808, .int .i64 0]) ∧ W = w') := fun W hW => join_zero true 0 W
 have hneg : Go.Op.negFloat .f64 9218868437227405312 = 18442240474082181120 := by decide
 obtain ⟨a, m, q, h1, hnum⟩ := id h
 obtain ⟨V, hV⟩ : ∃ V, V = sumT T := ⟨_, rfl⟩
 obtain ⟨c, hc⟩ : ∃ c, c = cntT T := ⟨_, rfl⟩
 obtain ⟨L, hL⟩ : ∃ L, L = T.length := ⟨_, rfl⟩
 have hLb : L < 4611686018427387904 := by rw [hL]; exact hT.2.2
 rw [← hL] at HCT hall
 rw [← hV] at HQU hnum ⊢
 rw [← hV, ← hc] at h1
 rw [← hc] at hall ⊢
 obtain ⟨ng, hng⟩ : ∃ b, b = decide (V < 0) := ⟨_, rfl⟩
 have hI : WideI w (.agg #[.bool ng, .slice a m q]) V := by rw [hng]; exact ⟨a, m, q, rfl, hnum⟩
 rw [← hng] at h1
 have HSG : Hid (∀ W, Below w.heap.size w W → Calls Tryz.prog 44 #[.agg #[.bool ng, .slice a m q]] W fun e w' => e = .returned (.int .i64 (if V = 0 then 0 else if V < 0 then -1 else 1)) ∧ Below W.heap.size W w') := fun W hW => sign_s _ V W (hI.below hW)
 have HIV : Hid (∀ W, Below w.heap.size w W → WideI W (.agg #[.bool ng, .slice a m q]) V) := fun W hW => hI.below hW
 obtain ⟨c0, e0⟩ : ∃ k, k = c 0 := ⟨_, rfl⟩
 obtain ⟨c1, e1⟩ : ∃ k, k = c 1 := ⟨_, rfl⟩
 obtain ⟨c2, e2⟩ : ∃ k, k = c 2 := ⟨_, rfl⟩
 obtain ⟨c3, e3⟩ : ∃ k, k = c 3 := ⟨_, rfl⟩
 obtain ⟨c4, e4⟩ : ∃ k, k = c 4 := ⟨_, rfl⟩
 rw [← e0, ← e1, ← e2, ← e3, ← e4] at hall h1
 have hg := blk_lt h1
 have HC : Hid (∀ W, Below w.heap.size w W → ((W.cell? ⟨g, 0, none⟩ = some (.int .i64 (c0 : Nat)) ∧ W.cell? ⟨g, 1, none⟩ = some (.int .i64 (c1 : Nat))) ∧ W.cell? ⟨g, 2, none⟩ = some (.int .i64 (c2 : Nat)) ∧ W.cell? ⟨g, 3, none⟩ = some (.int .i64 (c3 : Nat))) ∧ W.cell? ⟨g, 5, none⟩ = some (.bool ng) ∧ W.cell? ⟨g, 6, none⟩ = some (.slice a m q)) := fun W hW => by
  have h2 := hW.blk h1 hg
  exact ⟨⟨⟨cell_of_row _ g 0 _ _ _ h2, cell_of_row _ g 1 _ _ _ h2⟩, cell_of_row _ g 2 _ _ _ h2, cell_of_row _ g 3 _ _ _ h2⟩, cell_of_row _ g 5 _ _ _ h2, cell_of_row _ g 6 _ _ _ h2⟩
 have HSP : Hid (spcI c = (decide (0 < c0) || decide (0 < c1) || decide (0 < c2)) ∧ spcB c = if (decide (0 < c0) || (decide (0 < c1) && decide (0 < c2))) = true then 9221120237041090560 else if 0 < c1 then 9218868437227405312 else 18442240474082181120) := by
  show _ ∧ _; unfold spcI spcB; rw [← e0, ← e1, ← e2]; exact ⟨rfl, rfl⟩
 have HNI : Hid (nilB c = if (decide (0 < c3) && decide (c3 = L)) = true then 9223372036854775808 else 0) := by
  show _ = _; unfold nilB allC; rw [← e0, ← e1, ← e2, ← e3, ← e4, hall]
 obtain ⟨⟨⟨k0, k1⟩, k2, k3⟩, k5, k6⟩ := HC.out w (Below.refl _ _)
 clear h hT hn hn2 htab htw h1 hnum hV hc hL hng hI e0 e1 e2 e3 e4 hg hall
 by_cases p0 : 0 < c0
 ·have A := ans_spc (c := c) (V := V) (n := n) (b := 9221120237041090560) (by rw [HSP.out.1, decide_eq_true p0]; rfl) (by rw [HSP.out.2, decide_eq_true p0]; rfl)
  have p0' : (0 : Int) < (c0 : Int) := by omega
  go_enter Tryz.func36, Tryz.ntmps36
  go_wp2_with (go_at_call 39; (with_reducible refine (HNA.out _).mono ?_); rintro e w' ⟨rfl, rfl⟩)
  refine bodyPost_ret (results_tmp2 rfl _ _ _) rfl ⟨?_, Below.refl _ _⟩
  rw [A.1, A.2]
  rfl
 ·obtain rfl : c0 = 0 := by omega
  by_cases p1 : 0 < c1
  ·have p1' : (0 : Int) < (c1 : Int) := by omega
   by_cases p2 : 0 < c2
   ·have A := ans_spc (c := c) (V := V) (n := n) (b := 9221120237041090560) (by rw [HSP.out.1, decide_eq_true p1]; rfl) (by rw [HSP.out.2, decide_eq_true p1, decide_eq_true p2]; rfl)
    have p2' : (0 : Int) < (c2 : Int) := by omega
    go_enter Tryz.func36, Tryz.ntmps36
    go_wp2_with (go_at_call 39; (with_reducible refine (HNA.out _).mono ?_); rintro e w' ⟨rfl, rfl⟩)
    refine bodyPost_ret (results_tmp2 rfl _ _ _) rfl ⟨?_, Below.refl _ _⟩
    rw [A.1, A.2]
    rfl
   ·obtain rfl : c2 = 0 := by omega
    have A := ans_spc (c := c) (V := V) (n := n) (b := 9218868437227405312) (by rw [HSP.out.1, decide_eq_true p1]; rfl) (by rw [HSP.out.2, decide_eq_true p1, if_pos p1]; rfl)
    go_enter Tryz.func36, Tryz.ntmps36
    go_wp2_with (go_at_call 63; (with_reducible refine (HIN.out _ (Below.refl _ _)).mono ?_); rintro e w' ⟨rfl, rfl⟩)
    refine bodyPost_ret (results_tmp2 rfl _ _ _) rfl ⟨?_, Below.refl _ _⟩
    rw [A.1, A.2]
    rfl
  ·obtain rfl : c1 = 0 := by omega
   by_cases p2 : 0 < c2
   ·have A := ans_spc (c := c) (V := V) (n := n) (b := 18442240474082181120) (by rw [HSP.out.1, decide_eq_true p2]; rfl) (by rw [HSP.out.2]; rfl)
    have p2' : (0 : Int) < (c2 : Int) := by omega
    go_enter Tryz.func36, Tryz.ntmps36
    go_wp2_with (go_at_call 63; (with_reducible refine (HIN.out _ (Below.refl _ _)).mono ?_); rintro e w' ⟨rfl, rfl⟩)
    refine bodyPost_ret (results_tmp2 rfl _ _ _) rfl ⟨?_, Below.refl _ _⟩
    rw [A.1, A.2]
    rfl
   ·obtain rfl : c2 = 0 := by omega
    have hsp : spcI c = false := by rw [HSP.out.1]; rfl
    by_cases hV : V = 0
    ·have A := ans_nil (n := n) hsp hV
     rw [HNI.out] at A
     have HA : Hid _ := A
     clear A
     rw [hV, if_pos rfl] at HSG
     by_cases p3 : 0 < c3
     ·have p3' : (0 : Int) < (c3 : Int) := by omega
      by_cases p4 : c3 = L
      ·have p4' : ((c3 : Int) == (L : Int)) = true := by simp; omega
       have HP4 : Hid (c3 = L) := p4
       clear p4
       clear HQU
       go_enter Tryz.func36, Tryz.ntmps36
       go_wp2_with fail
       (with_reducible refine (HSG.out _ (Below.refl _ _)).mono ?_)
       rintro e w1 ⟨rfl, hb⟩
       obtain ⟨⟨⟨k0, k1⟩, k2, k3⟩, k5, k6⟩ := HC.out w1 hb
       have HB1 : Hid (Below w.heap.size w w1) := hb
       clear hb
       go_wp2_with fail
       go_quiet ((go_at_call 28; with_reducible refine Calls.quiet_of_same (HCT.out _ (HB1.out.drewM _))))
       go_wp2_with (go_at_call 64; (with_reducible refine (HJO.out _ (HB1.out.drewM _)).mono ?_); rintro e w' ⟨rfl, rfl⟩)
       refine bodyPost_ret (results_tmp2 rfl _ _ _) rfl ⟨?_, HB1.out.drewM _⟩
       rw [HA.out.1, HA.out.2]
       rw [decide_eq_true p3, decide_eq_true HP4.out]; rfl
      ·have p4' : ((c3 : Int) == (L : Int)) = false := by simp; omega
       clear HQU
       go_enter Tryz.func36, Tryz.ntmps36
       go_wp2_with fail
       (with_reducible refine (HSG.out _ (Below.refl _ _)).mono ?_)
       rintro e w1 ⟨rfl, hb⟩
       obtain ⟨⟨⟨k0, k1⟩, k2, k3⟩, k5, k6⟩ := HC.out w1 hb
       have HB1 : Hid (Below w.heap.size w w1) := hb
       clear hb
       go_wp2_with fail
       go_quiet ((go_at_call 28; with_reducible refine Calls.quiet_of_same (HCT.out _ (HB1.out.drewM _))))
       go_wp2_with (go_at_call 64; (with_reducible refine (HJO.out _ (HB1.out.drewM _)).mono ?_); rintro e w' ⟨rfl, rfl⟩)
       refine bodyPost_ret (results_tmp2 rfl _ _ _) rfl ⟨?_, HB1.out.drewM _⟩
       rw [HA.out.1, HA.out.2]
       rw [decide_eq_false p4, Bool.and_false]; rfl
     ·obtain rfl : c3 = 0 := by omega
      clear HQU
      go_enter Tryz.func36, Tryz.ntmps36
      go_wp2_with fail
      (with_reducible refine (HSG.out _ (Below.refl _ _)).mono ?_)
      rintro e w1 ⟨rfl, hb⟩
      obtain ⟨⟨⟨k0, k1⟩, k2, k3⟩, k5, k6⟩ := HC.out w1 hb
      have HB1 : Hid (Below w.heap.size w w1) := hb
      clear hb
      go_wp2_with fail
      go_quiet ((go_at_call 28; with_reducible refine Calls.quiet_of_same (HCT.out _ (HB1.out.drewM _))))
      go_wp2_with (go_at_call 64; (with_reducible refine (HJO.out _ (HB1.out.drewM _)).mono ?_); rintro e w' ⟨rfl, rfl⟩)
      refine bodyPost_ret (results_tmp2 rfl _ _ _) rfl ⟨?_, HB1.out.drewM _⟩
      rw [HA.out.1, HA.out.2]
      rfl
    ·have A := ans_tot (n := n) hsp hV
     have HA : Hid _ := A
     have HV0 : Hid (V ≠ 0) := hV
     obtain ⟨z, hz⟩ : ∃ z : Int, z = if V = 0 then 0 else if V < 0 then -1 else 1 := ⟨_, rfl⟩
     rw [← hz] at HSG
     have hz0 : (z == 0) = false := by
      rw [hz, if_neg hV]
      split <;> rfl
     clear A hsp hz
     go_enter Tryz.func36, Tryz.ntmps36
     go_wp2_with fail
     (with_reducible refine (HSG.out _ (Below.refl _ _)).mono ?_)
     rintro e w1 ⟨rfl, hb⟩
     have HB1 : Hid (Below w.heap.size w w1) := hb
     clear hb k0 k1 k2 k3 k5 k6
     go_upto_region 8 with fail
     have h1 : once [(56, 0), (57, 1), (58, 2), (59, 3), (60, 4), (61, 5), (62, 6), (63, 7), (64, 8), (4, 9), (5, 10)] = true := by kernel_rfl
     have h2 : within [(56, 0), (57, 1), (58, 2), (59, 3), (60, 4), (61, 5), (62, 6), (63, 7), (64, 8), (4, 9), (5, 10)] 87 = true := by kernel_rfl
     let S : Nat → (Nat → Value) → World → Prop := fun i xs W => match i with
      | 0 => xs 0 = .pointer (some ⟨g, 0, none⟩)
      | 1 => xs 1 = .pointer (some ⟨g, 0, none⟩)
      | 2 => xs 2 = .pointer (some ⟨g, 5, none⟩)
      | 3 => xs 3 = .agg #[.bool ng, .slice a m q]
      | 4 => xs 4 = .int .i64 (n : Nat)
      | 5 => WideI W (xs 5) ((n : Int))
      | 6 => xs 6 = .tuple #[.float .f64 (totB V n), .int .i64 (totX V n)]
      | 7 => xs 7 = .float .f64 (totB V n)
      | 8 => xs 8 = .int .i64 (totX V n)
      | 9 => xs 9 = .float .f64 (totB V n)
      | 10 => xs 10 = .int .i64 (totX V n)
      | _ => True
     have hstab : ∀ j ys W W', S j ys W → Below W.heap.size W W' → S j ys W' := by
      intro j ys W W' h hb
      match j, h with
      | 0, h => exact h
      | 1, h => exact h
      | 2, h => exact h
      | 3, h => exact h
      | 4, h => exact h
      | 5, h => exact h.below hb
      | 6, h => exact h
      | 7, h => exact h
      | 8, h => exact h
      | 9, h => exact h
      | 10, h => exact h
      | _ + 11, h => exact trivial
     refine wp_region_flow3T 11 11 4 [(56, 0), (57, 1), (58, 2), (59, 3), (60, 4), (61, 5), (62, 6), (63, 7), (64, 8), (4, 9), (5, 10)] [] S (fun _ W => Below w1.heap.size w1 W) ((Below.refl _ _).drew) (by kernel_rfl) (by kernel_rfl) (by kernel_rfl) (by decide) (by kernel_rfl) h1 (by kernel_rfl) ?_ ?_ ?_ ?_
     ·exact fun j hj => by cases hj
     ·intro j xs ys W e h
      match j, e, h with
      | 0, e, h => exact c_ (e 0 (.inl rfl)) h
      | 1, e, h => exact c_ (e 1 (.inl rfl)) h
      | 2, e, h => exact c_ (e 2 (.inl rfl)) h
      | 3, e, h => exact c_ (e 3 (.inl rfl)) h
      | 4, e, h => exact c_ (e 4 (.inl rfl)) h
      | 5, e, h => exact (congrArg (fun z => WideI W z _) (e 5 (.inl rfl))).mp h
      | 6, e, h => exact c_ (e 6 (.inl rfl)) h
      | 7, e, h => exact c_ (e 7 (.inl rfl)) h
      | 8, e, h => exact c_ (e 8 (.inl rfl)) h
      | 9, e, h => exact c_ (e 9 (.inl rfl)) h
      | 10, e, h => exact c_ (e 10 (.inl rfl)) h
      | _ + 11, e, h => exact trivial
     ·refine ⟨⟨⟨⟨⟨⟨⟨⟨⟨⟨⟨trivial, ?_⟩, ?_⟩, ?_⟩, ?_⟩, ?_⟩, ?_⟩, ?_⟩, ?_⟩, ?_⟩, ?_⟩, ?_⟩
      ·refine flow3_step _ (some 56) rfl rfl rfl h1 h2 gI gB hstab fun ac xs W Dn he hni hG hS K hK => ?_
       exact op_move (.tmp 0) (.inl rfl) (hK _ _ (he 0) bR nA)
      ·refine flow3_step _ (some 57) rfl rfl rfl h1 h2 gI gB hstab fun ac xs W Dn he hni hG hS K hK => ?_
       have e0 := (he 56).trans (hS 0 (by kernel_rfl))
       refine op_any (.nilCheck (.tmp 56)) rfl (.pointer (some ⟨g, 0, none⟩)) (fun o' ho' => ?_) (hK _ _ rfl bR nA)
       simp only [execOp, ho', e0]
       go_simp
      ·refine flow3_step _ (some 58) rfl rfl rfl h1 h2 gI gB hstab fun ac xs W Dn he hni hG hS K hK => ?_
       have e0 := (he 57).trans (hS 1 (by kernel_rfl))
       refine op_any (.fieldAddr 75 (.tmp 57) 1) rfl (.pointer (some ⟨g, 5, none⟩)) (fun o' ho' => ?_) (hK _ _ rfl bR nA)
       simp only [execOp, ho', e0]
       go_simp
      ·refine flow3_step _ (some 59) rfl rfl rfl h1 h2 gI gB hstab fun ac xs W Dn he hni hG hS K hK => ?_
       have hc5 := (HC.out W (HB1.out.thru hG)).2.1
       have hc6 := (HC.out W (HB1.out.thru hG)).2.2
       have e0 := (he 58).trans (hS 2 (by kernel_rfl))
       refine op_any (.load 73 (.tmp 58)) rfl (.agg #[.bool ng, .slice a m q]) (fun o' ho' => ?_) (hK _ _ rfl bR nA)
       simp only [execOp, ho', e0]
       go_simp
      ·refine flow3_step _ (some 60) rfl rfl rfl h1 h2 gI gB hstab fun ac xs W Dn he hni hG hS K hK => ?_
       exact op_move (.tmp 1) (.inl rfl) (hK _ _ (he 1) bR nA)
      ·refine flow3_step _ (some 61) rfl rfl rfl h1 h2 gI gB hstab fun ac xs W Dn he hni hG hS K hK => ?_
       have e0 := (he 60).trans (hS 4 (by kernel_rfl))
       refine op_call 41 _ _ rfl _ (by simp only [List.map, e0]) (by go_simp) (HOF.out W) ?_
       rintro e' W' ⟨u, rfl, hi', hb'⟩
       exact ⟨_, rfl, hK _ _ hi' hb' nA⟩
      ·refine flow3_step _ (some 62) rfl rfl rfl h1 h2 gI gB hstab fun ac xs W Dn he hni hG hS K hK => ?_
       have e0 := (he 59).trans (hS 3 (by kernel_rfl))
       have e1 : ac.eval (.tmp 61) = xs 5 := he 61
       refine op_call 45 _ _ rfl _ (by simp only [List.map, eval_const, e0, e1]) (by go_simp) (HQU.out W _ _ (HB1.out.thru hG) HV0.out (HIV.out W (HB1.out.thru hG)) (hS 5 (by kernel_rfl))) ?_
       rintro e' W' ⟨rfl, hb'⟩
       exact ⟨_, rfl, hK _ _ (rfl) hb' nA⟩
      ·refine flow3_step _ (some 63) rfl rfl rfl h1 h2 gI gB hstab fun ac xs W Dn he hni hG hS K hK => ?_
       have e0 := (he 62).trans (hS 6 (by kernel_rfl))
       refine op_any (.extract (.tmp 62) 0) rfl (.float .f64 (totB V n)) (fun o' ho' => ?_) (hK _ _ rfl bR nA)
       simp only [execOp, ho', e0]
       go_simp
      ·refine flow3_step _ (some 64) rfl rfl rfl h1 h2 gI gB hstab fun ac xs W Dn he hni hG hS K hK => ?_
       have e0 := (he 62).trans (hS 6 (by kernel_rfl))
       refine op_any (.extract (.tmp 62) 1) rfl (.int .i64 (totX V n)) (fun o' ho' => ?_) (hK _ _ rfl bR nA)
       simp only [execOp, ho', e0]
       go_simp
      ·refine flow3_step _ (some 4) rfl rfl rfl h1 h2 gI gB hstab fun ac xs W Dn he hni hG hS K hK => ?_
       exact op_move (.tmp 63) (.inr rfl) (hK _ _ ((he 63).trans (hS 7 (by kernel_rfl))) bR nA)
      ·refine flow3_step _ (some 5) rfl rfl rfl h1 h2 gI gB hstab fun ac xs W Dn he hni hG hS K hK => ?_
       exact op_move (.tmp 64) (.inr rfl) (hK _ _ ((he 64).trans (hS 8 (by kernel_rfl))) bR nA)
     ·intro xs w2 Dn hall hG hS hD
      have s4 : xs 9 = _ := hS 9 (by decide)
      have s5 : xs 10 = _ := hS 10 (by decide)
      have HGB : Hid (Below w1.heap.size w1 w2) := hG
      simp only [layAll, s4, s5, List.setIfInBounds_toArray, List.set_cons_succ, List.set_cons_zero]
      clear hS hD hall hstab S hG h1 h2
      generalize xs 0 = x0 at *
      generalize xs 1 = x1 at *
      generalize xs 2 = x2 at *
      generalize xs 3 = x3 at *
      generalize xs 4 = x4 at *
      generalize xs 5 = x5 at *
      generalize xs 6 = x6 at *
      generalize xs 7 = x7 at *
      generalize xs 8 = x8 at *
      clear s4 s5
      show wpList Tryz.prog _ _ [] _ _
      go_wp2
      refine bodyPost_ret (results_tmp2 rfl _ _ _) rfl ⟨?_, HB1.out.thru HGB.out⟩
      rw [HA.out.1, HA.out.2]
      rfl
end Go.Proofs.YtlffojopfilfeaaGreatDoor
namespace Go.Proofs.YtlffojopfilfeaaGreatDoor
open Go Go.RowKit
open Go.Lib hiding intOf
def FCells (w : World) (a : Option Addr) (n : Nat) (l : List Nat) : Prop := 0 < n → ∃ b o, a = some ⟨b, o, none⟩ ∧ b < w.heap.size ∧ ∀ k, k < n → w.cell? ⟨b, o + k, none⟩ = some (.float .f64 (l.getD k 0))
theorem FCells.below {w w' : World} {a : Option Addr} {n : Nat} {l : List Nat} (h : FCells w a n l) (hb : Below w.heap.size w w') : FCells w' a n l := fun hn => by
 obtain ⟨b, o, h1, h2, h3⟩ := h hn
 exact ⟨b, o, h1, Nat.lt_of_lt_of_le h2 hb.size, fun k hk => (hb.cell (p := ⟨b, o + k, none⟩) h2).trans (h3 k hk)⟩
theorem fit_L {l : List Nat} (h : l.length < 4611686018427387904) : Fit (tmL l) := ⟨five_L l, small_L l, by rw [tmL_len]; exact h⟩
theorem fit_D {l k : List Nat} (h : l.length < 4611686018427387904) : Fit (tmD l k) := ⟨five_D l k, small_D l k, by rw [tmD_len]; omega⟩
theorem total8_v {g : Nat} {T : List Term1} (w : World) (h : AccT w g T) (hT : Fit T) (htab : Tab w) (htw : TabW w) :
  Calls Tryz.prog 26 #[.pointer (some ⟨g, 0, none⟩)] w (AnsQ (cntT T) (sumT T) 1 w) := by
 have HW : Hid (Calls Tryz.prog 36 #[.pointer (some ⟨g, 0, none⟩), .int .i64 1] w (AnsQ (cntT T) (sumT T) 1 w)) := whole8_v 1 w h hT (by decide) (by decide) htab htw
 clear h hT htab htw
 go_enter Tryz.func26, Tryz.ntmps26
 go_wp2_with fail
 (with_reducible refine Calls.mono HW.out ?_)
 rintro e w1 ⟨rfl, hb⟩
 go_wp2
 exact bodyPost_ret (results_tmp2 rfl _ _ _) rfl ⟨rfl, hb⟩
set_option maxHeartbeats 1000000 in
theorem sum8_v {a : Option Addr} {n c : Nat} {l : List Nat} (w : World) (hn : l.length = n) (hmax : n < 4611686018427387904) (hl : ∀ x ∈ l, W64 x) (hcell : FCells w a n l) (htab : Tab w) (htw : TabW w) :
  Calls Tryz.prog 10 #[.slice a n c] w fun e w' => e = .returned (.tuple #[.float .f64 (lsB l), .int .i64 (lsX l)]) ∧ Below w.heap.size w w' := by
 unfold lsB lsX
 rw [hn]
 by_cases hlong : 65536 < n
 ·rw [if_pos hlong, if_pos hlong]
  have h1 : (65536 : Int) < (n : Int) := by omega
  clear hcell htab htw hl hn
  go_enter Tryz.func10, Tryz.ntmps10
  go_wp2
  exact bodyPost_ret (results_tmp2 rfl _ _ _) rfl ⟨rfl, Below.refl _ _⟩
 ·rw [if_neg hlong, if_neg hlong]
  have h1 : ¬ (65536 : Int) < (n : Int) := by omega
  have HN : Hid (∀ W, Calls Tryz.prog 24 #[] W fun e w' => ∃ g, e = .returned (.pointer (some ⟨g, 0, none⟩)) ∧ W.heap.size ≤ g ∧ AccT w' g [] ∧ Below W.heap.size W w') := fun W => new8_v W
  have HAD : Hid (∀ W g, Below w.heap.size w W → w.heap.size ≤ g → AccT W g [] → Calls Tryz.prog 25 #[.pointer (some ⟨g, 0, none⟩), .slice a n c] W fun e w' => e = .returned (.tuple #[]) ∧ AccT w' g (tmL l) ∧ But g W w') := fun W g hW hg hA => by
   have := add8_v (g := g) (T := []) (a := a) (n := n) (cap := c) (l := l) W hA (by rw [List.nil_append]; exact fit_L (by omega)) hn hl (fun h0 => by
    obtain ⟨b, o, h1, h2, h3⟩ := hcell h0
    exact ⟨b, o, h1, Nat.lt_of_lt_of_le h2 hW.size, by omega, fun k hk => (hW.cell (p := ⟨b, o + k, none⟩) h2).trans (h3 k hk)⟩)
   rw [List.nil_append] at this
   exact this
  have HTO : Hid (∀ W g, Below w.heap.size w W → AccT W g (tmL l) → Calls Tryz.prog 26 #[.pointer (some ⟨g, 0, none⟩)] W (AnsQ (cntT (tmL l)) (sumT (tmL l)) 1 W)) := fun W g hW hA => total8_v W hA (fit_L (by omega)) (htab.below hW) (htw.below hW)
  clear hcell htab htw hl hn
  go_enter Tryz.func10, Tryz.ntmps10
  go_wp2_with fail
  (with_reducible refine (HN.out _).mono ?_)
  rintro e w1 ⟨g, rfl, hg, hacc, hb⟩
  have HG : Hid (w.heap.size ≤ g) := hg
  have HA : Hid (AccT w1 g []) := hacc
  have HB : Hid (Below w.heap.size w w1) := hb
  clear hg hacc hb
  go_wp2_with fail
  (with_reducible refine (HAD.out _ _ HB.out HG.out HA.out).mono ?_)
  rintro e w2 ⟨rfl, hacc, hbut⟩
  have HA2 : Hid (AccT w2 g (tmL l)) := hacc
  have HB2 : Hid (Below w.heap.size w w2) := But.over HB.out hbut HG.out HB.out.size
  clear hacc hbut
  go_wp2_with fail
  (with_reducible refine (HTO.out _ _ HB2.out HA2.out).mono ?_)
  rintro e w3 ⟨rfl, hb⟩
  have HB3 : Hid (Below w.heap.size w w3) := HB2.out.thru hb
  clear hb
  go_wp2
  exact bodyPost_ret (results_tmp2 rfl _ _ _) rfl ⟨rfl, HB3.out⟩
set_option maxHeartbeats 1000000 in
theorem mean8_v {a : Option Addr} {n c : Nat} {l : List Nat} (w : World) (hn : l.length = n) (hmax : n < 4611686018427387904) (hl : ∀ x ∈ l, W64 x) (hcell : FCells w a n l) (htab : Tab w) (htw : TabW w) :
  Calls Tryz.prog 16 #[.slice a n c] w fun e w' => e = .returned (.tuple #[.float .f64 (mnB l), .int .i64 (mnX l)]) ∧ Below w.heap.size w w' := by
 unfold mnB mnX
 rw [hn]
 by_cases hlong : 65536 < n
 ·rw [if_pos hlong, if_pos hlong]
  have h1 : (65536 : Int) < (n : Int) := by omega
  clear hcell htab htw hl hn
  go_enter Tryz.func16, Tryz.ntmps16
  go_wp2
  exact bodyPost_ret (results_tmp2 rfl _ _ _) rfl ⟨rfl, Below.refl _ _⟩
 ·rw [if_neg hlong, if_neg hlong]
  have h1 : ¬ (65536 : Int) < (n : Int) := by omega
  by_cases h0 : n = 0
  ·subst h0
   rw [if_pos rfl, if_pos rfl]
   clear hcell htab htw hl hn
   go_enter Tryz.func16, Tryz.ntmps16
   go_wp2
   exact bodyPost_ret (results_tmp2 rfl _ _ _) rfl ⟨rfl, Below.refl _ _⟩
  rw [if_neg h0, if_neg h0]
  have h2 : ((n : Int) == 0) = false := by simp; omega
  have HN : Hid (∀ W, Calls Tryz.prog 24 #[] W fun e w' => ∃ g, e = .returned (.pointer (some ⟨g, 0, none⟩)) ∧ W.heap.size ≤ g ∧ AccT w' g [] ∧ Below W.heap.size W w') := fun W => new8_v W
  have HAD : Hid (∀ W g, Below w.heap.size w W → w.heap.size ≤ g → AccT W g [] → Calls Tryz.prog 25 #[.pointer (some ⟨g, 0, none⟩), .slice a n c] W fun e w' => e = .returned (.tuple #[]) ∧ AccT w' g (tmL l) ∧ But g W w') := fun W g hW hg hA => by
   have := add8_v (g := g) (T := []) (a := a) (n := n) (cap := c) (l := l) W hA (by rw [List.nil_append]; exact fit_L (by omega)) hn hl (fun h0 => by
    obtain ⟨b, o, h1, h2, h3⟩ := hcell h0
    exact ⟨b, o, h1, Nat.lt_of_lt_of_le h2 hW.size, by omega, fun k hk => (hW.cell (p := ⟨b, o + k, none⟩) h2).trans (h3 k hk)⟩)
   rw [List.nil_append] at this
   exact this
  have HTO : Hid (∀ W g, Below w.heap.size w W → AccT W g (tmL l) → Calls Tryz.prog 36 #[.pointer (some ⟨g, 0, none⟩), .int .i64 (n : Nat)] W (AnsQ (cntT (tmL l)) (sumT (tmL l)) n W)) := fun W g hW hA => whole8_v n W hA (fit_L (by omega)) (by omega) (by omega) (htab.below hW) (htw.below hW)
  clear hcell htab htw hl hn
  go_enter Tryz.func16, Tryz.ntmps16
  go_wp2_with fail
  (with_reducible refine (HN.out _).mono ?_)
  rintro e w1 ⟨g, rfl, hg, hacc, hb⟩
  have HG : Hid (w.heap.size ≤ g) := hg
  have HA : Hid (AccT w1 g []) := hacc
  have HB : Hid (Below w.heap.size w w1) := hb
  clear hg hacc hb
  go_wp2_with fail
  (with_reducible refine (HAD.out _ _ HB.out HG.out HA.out).mono ?_)
  rintro e w2 ⟨rfl, hacc, hbut⟩
  have HA2 : Hid (AccT w2 g (tmL l)) := hacc
  have HB2 : Hid (Below w.heap.size w w2) := But.over HB.out hbut HG.out HB.out.size
  clear hacc hbut
  go_wp2_with fail
  (with_reducible refine (HTO.out _ _ HB2.out HA2.out).mono ?_)
  rintro e w3 ⟨rfl, hb⟩
  have HB3 : Hid (Below w.heap.size w w3) := HB2.out.thru hb
  clear hb
  go_wp2
  exact bodyPost_ret (results_tmp2 rfl _ _ _) rfl ⟨rfl, HB3.out⟩
set_option maxHeartbeats 4000000 in
theorem dot8_v {a a' : Option Addr} {n c n' c' : Nat} {l l' : List Nat} (w : World) (hn : l.length = n) (hn' : l'.length = n') (hmax : n < 4611686018427387904) (hmax' : n' < 4611686018427387904) (hl : ∀ x ∈ l, W64 x) (hl' : ∀ x ∈ l', W64 x) (hcell : FCells w a n l) (hcell' : FCells w a' n' l') (htab : Tab w) (htw : TabW w) :
  Calls Tryz.prog 13 #[.slice a n c, .slice a' n' c'] w fun e w' => e = .returned (.tuple #[.float .f64 (dtB l l'), .int .i64 (dtX l l')]) ∧ Below w.heap.size w w' := by
 unfold dtB dtX
 rw [hn, hn']
 by_cases hlong : 65536 < n
 ·rw [if_pos (.inl hlong), if_pos (.inl hlong)]
  have h1 : (65536 : Int) < (n : Int) := by omega
  clear hcell htab htw hl hn hcell' hl' hn'
  go_enter Tryz.func13, Tryz.ntmps13
  go_wp2
  exact bodyPost_ret (results_tmp2 rfl _ _ _) rfl ⟨rfl, Below.refl _ _⟩
 have h1 : ¬ (65536 : Int) < (n : Int) := by omega
 by_cases hlong' : 65536 < n'
 ·rw [if_pos (.inr hlong'), if_pos (.inr hlong')]
  have h2 : (65536 : Int) < (n' : Int) := by omega
  clear hcell htab htw hl hn hcell' hl' hn'
  go_enter Tryz.func13, Tryz.ntmps13
  go_wp2
  exact bodyPost_ret (results_tmp2 rfl _ _ _) rfl ⟨rfl, Below.refl _ _⟩
 have h2 : ¬ (65536 : Int) < (n' : Int) := by omega
 rw [if_neg (show ¬ (65536 < n ∨ 65536 < n') by omega), if_neg (show ¬ (65536 < n ∨ 65536 < n') by omega)]
 by_cases hne : n = n'
 ·subst hne
  rw [if_neg (by simp), if_neg (by simp)]
  have HN : Hid (∀ W, Calls Tryz.prog 24 #[] W fun e w' => ∃ g, e = .returned (.pointer (some ⟨g, 0, none⟩)) ∧ W.heap.size ≤ g ∧ AccT w' g [] ∧ Below W.heap.size W w') := fun W => new8_v W
  obtain ⟨S, hS⟩ : ∃ S : Nat → List Term1, ∀ k, S k = tmD (l.take k) (l'.take k) := ⟨_, fun _ => rfl⟩
  have HSL : Hid (∀ k, k ≤ n → Fit (S k)) := fun k hk => by rw [hS]; exact fit_D (by rw [List.length_take]; omega)
  have HS0 : Hid (S 0 = []) := by show _ = _; rw [hS]; simp [tmD]
  have HSN : Hid (S n = tmD l l') := by
   have e1 : l.take n = l := by rw [← hn]; exact List.take_length
   have e2 : l'.take n = l' := by rw [← hn']; exact List.take_length
   show _ = _; rw [hS, e1, e2]
  have HPR : Hid (∀ W g k, k < n → AccT W g (S k) → Calls Tryz.prog 31 #[.pointer (some ⟨g, 0, none⟩), .float .f64 (l.getD k 0), .float .f64 (l'.getD k 0)] W fun e w' => e = .returned (.tuple #[]) ∧ AccT w' g (S (k + 1)) ∧ But g W w') := fun W g k hk hA => by
   have e : S (k + 1) = S k ++ [tmP (l.getD k 0) (l'.getD k 0)] := by rw [hS, hS]; exact tmD_take (by omega) (by omega)
   have hf := HSL.out (k + 1) (by omega)
   rw [e] at hf ⊢
   exact prod8_v W hA hf (get_W hl k) (get_W hl' k)
  have HTO : Hid (∀ W g, Below w.heap.size w W → AccT W g (S n) → Calls Tryz.prog 26 #[.pointer (some ⟨g, 0, none⟩)] W (AnsQ (cntT (S n)) (sumT (S n)) 1 W)) := fun W g hW hA => total8_v W hA (HSL.out n (Nat.le_refl _)) (htab.below hW) (htw.below hW)
  rw [← HSN.out]
  have HCE : Hid (FCells w a n l ∧ FCells w a' n l') := ⟨hcell, hcell'⟩
  clear hcell htab htw hl hn hcell' hl' hn' hS HSN hlong hlong'
  obtain ⟨x, hx⟩ : ∃ x : Nat → Nat, ∀ k, x k = l.getD k 0 := ⟨_, fun _ => rfl⟩
  obtain ⟨y, hy⟩ : ∃ y : Nat → Nat, ∀ k, y k = l'.getD k 0 := ⟨_, fun _ => rfl⟩
  simp only [FCells, ← hx, ← hy] at HPR HCE
  clear hx hy
  go_enter Tryz.func13, Tryz.ntmps13
  go_wp2_with fail
  (with_reducible refine (HN.out _).mono ?_)
  rintro e w1 ⟨g, rfl, hg, hacc, hb⟩
  have HG : Hid (w.heap.size ≤ g) := hg
  have HA : Hid (AccT w1 g []) := hacc
  have HB : Hid (Below w.heap.size w w1) := hb
  clear hg hacc hb
  go_wp2_with fail
  go_loopw [7, 26] (fun u i wr => ∃ k : Nat, k ≤ n ∧ i = .int .i64 (k : Nat) ∧ AccT wr g (S k) ∧ Below w.heap.size w wr) (fun _ i _ => n - (intOf i).toNat)
  case atStart => exact ⟨0, Nat.zero_le _, rfl, by rw [HS0.out]; exact HA.out, HB.out⟩
  case round =>
   obtain ⟨k, hk, rfl, hacc, hbk⟩ := hrel
   have HA : Hid (AccT wr g (S k)) := hacc
   have HB : Hid (Below w.heap.size w wr) := hbk
   clear hacc hbk
   by_cases hkn : k < n
   ·obtain ⟨b, o, rfl, hb, hcc⟩ := HCE.out.1 (by omega)
    obtain ⟨b', o', rfl, hb', hcc'⟩ := HCE.out.2 (by omega)
    have HC : Hid (∀ W, Below wr.heap.size wr W → W.cell? ⟨b, o + k, none⟩ = some (.float .f64 (x k)) ∧ W.cell? ⟨b', o' + k, none⟩ = some (.float .f64 (y k))) := fun W hW =>
     ⟨((HB.out.thru hW).cell (p := ⟨b, o + k, none⟩) hb).trans (hcc k hkn), ((HB.out.thru hW).cell (p := ⟨b', o' + k, none⟩) hb').trans (hcc' k hkn)⟩
    have HK : Hid (k < n) := hkn
    have hkn2 : (k : Int) < (n : Int) := by omega
    have hk0 : (0 : Int) ≤ (k : Int) := by omega
    clear hcc hcc' hb hb'
    go_upto_region 9 with fail
    have h1 : once [(29, 0), (30, 1), (31, 2), (32, 3), (33, 4), (34, 5), (35, 6), (36, 7), (37, 8)] = true := by kernel_rfl
    have h2 : within [(29, 0), (30, 1), (31, 2), (32, 3), (33, 4), (34, 5), (35, 6), (36, 7), (37, 8)] 44 = true := by kernel_rfl
    let S : Nat → (Nat → Value) → World → Prop := fun i xs W => match i with
     | 0 => xs 0 = .pointer (some ⟨g, 0, none⟩)
     | 1 => xs 1 = .slice (some ⟨b, o, none⟩) n c
     | 2 => xs 2 = .int .i64 (k : Nat)
     | 3 => xs 3 = .pointer (some ⟨b, o + k, none⟩)
     | 4 => xs 4 = .float .f64 (x k)
     | 5 => xs 5 = .slice (some ⟨b', o', none⟩) n c'
     | 6 => xs 6 = .int .i64 (k : Nat)
     | 7 => xs 7 = .pointer (some ⟨b', o' + k, none⟩)
     | 8 => xs 8 = .float .f64 (y k)
     | _ => True
    have hstab : ∀ j ys W W', S j ys W → Below W.heap.size W W' → S j ys W' := by
     intro j ys W W' h hb
     match j, h with
     | 0, h => exact h
     | 1, h => exact h
     | 2, h => exact h
     | 3, h => exact h
     | 4, h => exact h
     | 5, h => exact h
     | 6, h => exact h
     | 7, h => exact h
     | 8, h => exact h
     | _ + 9, h => exact trivial
    refine wp_region_flow3T 9 10 4 [(29, 0), (30, 1), (31, 2), (32, 3), (33, 4), (34, 5), (35, 6), (36, 7), (37, 8)] [] S (fun _ W => Below wr.heap.size wr W) ((Below.refl _ _).drew) (by kernel_rfl) (by kernel_rfl) (by kernel_rfl) (by decide) (by kernel_rfl) h1 (by kernel_rfl) ?_ ?_ ?_ ?_
    ·exact fun j hj => by cases hj
    ·intro j xs ys W e h
     match j, e, h with
     | 0, e, h => exact c_ (e 0 (.inl rfl)) h
     | 1, e, h => exact c_ (e 1 (.inl rfl)) h
     | 2, e, h => exact c_ (e 2 (.inl rfl)) h
     | 3, e, h => exact c_ (e 3 (.inl rfl)) h
     | 4, e, h => exact c_ (e 4 (.inl rfl)) h
     | 5, e, h => exact c_ (e 5 (.inl rfl)) h
     | 6, e, h => exact c_ (e 6 (.inl rfl)) h
     | 7, e, h => exact c_ (e 7 (.inl rfl)) h
     | 8, e, h => exact c_ (e 8 (.inl rfl)) h
     | _ + 9, e, h => exact trivial
    ·refine ⟨⟨⟨⟨⟨⟨⟨⟨⟨trivial, ?_⟩, ?_⟩, ?_⟩, ?_⟩, ?_⟩, ?_⟩, ?_⟩, ?_⟩, ?_⟩
     ·refine flow3_step _ (some 29) rfl rfl rfl h1 h2 gI gB hstab fun ac xs W Dn he hni hG hS K hK => ?_
      exact op_move (.tmp 6) (.inl rfl) (hK _ _ (he 6) bR nA)
     ·refine flow3_step _ (some 30) rfl rfl rfl h1 h2 gI gB hstab fun ac xs W Dn he hni hG hS K hK => ?_
      exact op_move (.tmp 0) (.inl rfl) (hK _ _ (he 0) bR nA)
     ·refine flow3_step _ (some 31) rfl rfl rfl h1 h2 gI gB hstab fun ac xs W Dn he hni hG hS K hK => ?_
      exact op_move (.tmp 7) (.inl rfl) (hK _ _ (he 7) bR nA)
     ·refine flow3_step _ (some 32) rfl rfl rfl h1 h2 gI gB hstab fun ac xs W Dn he hni hG hS K hK => ?_
      have e0 := (he 30).trans (hS 1 (by kernel_rfl))
      have e1 := (he 31).trans (hS 2 (by kernel_rfl))
      refine op_any (.indexAddr 24 (.tmp 30) (.tmp 31)) rfl (.pointer (some ⟨b, o + k, none⟩)) (fun o' ho' => ?_) (hK _ _ rfl bR nA)
      simp only [execOp, ho', e0, e1]
      go_simp
     ·refine flow3_step _ (some 33) rfl rfl rfl h1 h2 gI gB hstab fun ac xs W Dn he hni hG hS K hK => ?_
      have e0 := (he 32).trans (hS 3 (by kernel_rfl))
      refine op_any (.load 26 (.tmp 32)) rfl (.float .f64 (x k)) (fun o' ho' => ?_) (hK _ _ rfl bR nA)
      simp only [execOp, ho', e0]
      have hc := (HC.out W hG).1
      go_simp
     ·refine flow3_step _ (some 34) rfl rfl rfl h1 h2 gI gB hstab fun ac xs W Dn he hni hG hS K hK => ?_
      exact op_move (.tmp 1) (.inl rfl) (hK _ _ (he 1) bR nA)
     ·refine flow3_step _ (some 35) rfl rfl rfl h1 h2 gI gB hstab fun ac xs W Dn he hni hG hS K hK => ?_
      exact op_move (.tmp 7) (.inl rfl) (hK _ _ (he 7) bR nA)
     ·refine flow3_step _ (some 36) rfl rfl rfl h1 h2 gI gB hstab fun ac xs W Dn he hni hG hS K hK => ?_
      have e0 := (he 34).trans (hS 5 (by kernel_rfl))
      have e1 := (he 35).trans (hS 6 (by kernel_rfl))
      refine op_any (.indexAddr 24 (.tmp 34) (.tmp 35)) rfl (.pointer (some ⟨b', o' + k, none⟩)) (fun o' ho' => ?_) (hK _ _ rfl bR nA)
      simp only [execOp, ho', e0, e1]
      go_simp
     ·refine flow3_step _ (some 37) rfl rfl rfl h1 h2 gI gB hstab fun ac xs W Dn he hni hG hS K hK => ?_
      have e0 := (he 36).trans (hS 7 (by kernel_rfl))
      refine op_any (.load 26 (.tmp 36)) rfl (.float .f64 (y k)) (fun o' ho' => ?_) (hK _ _ rfl bR nA)
      simp only [execOp, ho', e0]
      have hc := (HC.out W hG).2
      go_simp
    ·intro xs w3 Dn hall hG hS hD
     have s29 : xs 0 = _ := hS 0 (by decide)
     have s33 : xs 4 = _ := hS 4 (by decide)
     have s37 : xs 8 = _ := hS 8 (by decide)
     have HGB : Hid (Below wr.heap.size wr w3) := hG
     simp only [layAll, s29, s33, s37, List.setIfInBounds_toArray, List.set_cons_succ, List.set_cons_zero]
     clear hS hD hall hstab S hG h1 h2
     generalize xs 1 = x1 at *
     generalize xs 2 = x2 at *
     generalize xs 3 = x3 at *
     generalize xs 5 = x5 at *
     generalize xs 6 = x6 at *
     generalize xs 7 = x7 at *
     clear s29 s33 s37
     have HA3 : Hid (AccT w3 g (S k)) := HA.out.below HGB.out
     go_wp2_with fail
     (with_reducible refine (HPR.out _ _ _ HK.out HA3.out).mono ?_)
     rintro e w4 ⟨rfl, hacc, hbut⟩
     have HA4 : Hid (AccT w4 g (S (k + 1))) := hacc
     have HB4 : Hid (Below w.heap.size w w4) := But.over (HB.out.thru HGB.out) hbut HG.out (HB.out.thru HGB.out).size
     have hw1 : IntKind.i64.wrap ((k : Int) + 1) = ((k + 1 : Nat) : Int) := by rw [IntWalk.i64_in _ (by omega)]; omega
     clear hacc hbut
     go_wp2
     go_roundw
     case rel => exact ⟨k + 1, by omega, by first | rfl | rw [hw1], HA4.out, HB4.out⟩
     case measure => simp [intOf]; omega
   ·obtain rfl : k = n := by omega
    clear hk hkn
    go_wp2_with fail
    (with_reducible refine (HTO.out _ _ HB.out HA.out).mono ?_)
    rintro e w3 ⟨rfl, hb⟩
    have HB3 : Hid (Below w.heap.size w w3) := HB.out.thru hb
    clear hb
    go_wp2
    exact bodyPost_ret (results_tmp2 rfl _ _ _) rfl ⟨rfl, HB3.out⟩
 ·rw [if_pos hne, if_pos hne]
  have h3 : ((n : Int) == (n' : Int)) = false := by simp; omega
  clear hcell htab htw hl hn hcell' hl' hn' hne
  go_enter Tryz.func13, Tryz.ntmps13
  go_wp2
  exact bodyPost_ret (results_tmp2 rfl _ _ _) rfl ⟨rfl, Below.refl _ _⟩
theorem squares8_v {a : Option Addr} {n c : Nat} {l : List Nat} (w : World) (hn : l.length = n) (hmax : n < 4611686018427387904) (hl : ∀ x ∈ l, W64 x) (hcell : FCells w a n l) (htab : Tab w) (htw : TabW w) :
  Calls Tryz.prog 15 #[.slice a n c] w fun e w' => e = .returned (.tuple #[.float .f64 (dtB l l), .int .i64 (dtX l l)]) ∧ Below w.heap.size w w' := by
 have HD : Hid (Calls Tryz.prog 13 #[.slice a n c, .slice a n c] w fun e w' => e = .returned (.tuple #[.float .f64 (dtB l l), .int .i64 (dtX l l)]) ∧ Below w.heap.size w w') := dot8_v w hn hn hmax hmax hl hl hcell hcell htab htw
 clear hn hmax hl hcell htab htw
 go_enter Tryz.func15, Tryz.ntmps15
 go_wp2_with fail
 (with_reducible refine Calls.mono HD.out ?_)
 rintro e w1 ⟨rfl, hb⟩
 go_wp2
 exact bodyPost_ret (results_tmp2 rfl _ _ _) rfl ⟨rfl, hb⟩
end Go.Proofs.YtlffojopfilfeaaGreatDoor
