import Derived.Test.YtlbokicainimnaaGreatDoorQIA
import Derived.Test.YtlbokicainimnaaGreatDoorQJR
set_option maxRecDepth 100000
namespace Go.Proofs.YtlbokicainimnaaGreatDoor
open Go Go.RowKit
open Go.Lib hiding intOf
theorem is9_v (x : Nat) (b : Nat) (w : World) : Calls Tryz.prog 25 #[.float .f64 x,.int .u64 (b : Nat)] w fun e w'=>e = .returned (.bool (decide (x = b))) ∧ w = w':=by
 have h : ((x : Int) == (b : Int)) = decide (x = b):=by
  rw [Bool.eq_iff_iff,beq_iff_eq,decide_eq_true_eq]; omega
 go_enter Tryz.func25,Tryz.ntmps25
 go_wp2
 go_ret
 exact ⟨rfl,rfl⟩
set_option maxHeartbeats 8000000 in
theorem whole9_v {a : Option Addr} {n c g cp : Nat} {l : List Nat} (w : World) (hn : l.length = n) (hmax : n * 8 ≤ 140737488351232) (hcell : UIn w a n l) (hown : FIn w (some ⟨g, 0, none⟩) (n + 8) (l ++ List.replicate 8 mark9)) :
  Calls Tryz.prog 24 #[.slice (some ⟨g,0,none⟩) (n + 8 : Nat) cp,.slice a n c] w fun e w'=>e = .returned (.bool true) ∧ Below w.heap.size w w':=by
 have HCELL : Hid (UIn w a n l):=hcell
 obtain ⟨b0,o0,hb0,hb1,hb2⟩:=hown (by omega)
 cases hb0
 have HG : Hid (∀ W,Below w.heap.size w W → ∀ k,k < n → W.cell? ⟨g,k,none⟩ = some (.float .f64 (l.getD k 0))):=fun W hW k hk=>by
  rw [hW.cell (by exact hb1)]
  have:=hb2 k (by omega)
  rw [Nat.zero_add] at this
  rw [this]
  simp [List.getD,List.getElem?_append_left (show k < l.length by omega)]
 have HK : Hid (∀ W,Below w.heap.size w W → ∀ k,n ≤ k → k < n + 8 → W.cell? ⟨g,k,none⟩ = some (.float .f64 4620130267728707584)):=fun W hW k h1 h2=>by
  rw [hW.cell (by exact hb1)]
  have:=hb2 k h2
  rw [Nat.zero_add] at this
  rw [this]
  have e : (l ++ List.replicate 8 mark9).getD k 0 = mark9:=by
   rw [List.getD_eq_getElem?_getD,List.getElem?_append_right (by omega),List.getElem?_replicate,if_pos (by omega)]
   rfl
  rw [e]
  rfl
 clear hcell hown hb1 hb2
 have hw0 : IntKind.i64.wrap ((n : Int) + 8) = ((n + 8 : Nat) : Int):=by rw [IntWalk.i64_in _ (by omega)]; omega
 have hqe : (Go.FloatKind.f64.format.order 4620130267728707584 4620130267728707584 != some .eq) = false:=by decide
 have HQE : Hid _:=hqe
 clear hqe
 go_enter Tryz.func24,Tryz.ntmps24
 go_wp2_with fail
 go_loopw [5] (fun i wr=>∃ k : Nat,k ≤ n + 8 ∧ i = .int .i64 (k : Nat) ∧ Below w.heap.size w wr) (fun i _=>n + 8 - (intOf i).toNat)
 case atStart=>exact ⟨0,Nat.zero_le _,rfl,Below.refl _ _⟩
 case round=>
  obtain ⟨k,hk,rfl,hbk⟩:=hrel
  have HBK : Hid (Below w.heap.size w wr):=hbk
  clear hbk
  by_cases hkn : k < n + 8
  ·have g1 : (k : Int) < ((n + 8 : Nat) : Int):=by omega
   have g3 : (0 : Int) ≤ (k : Int):=by omega
   have hw1 : IntKind.i64.wrap ((k : Int) + 1) = ((k + 1 : Nat) : Int):=by rw [IntWalk.i64_in _ (by omega)]; omega
   by_cases hkl : k < n
   ·obtain ⟨b,o,rfl,hb,hcc⟩:=HCELL.out (by omega)
    have HC : Hid (∀ W,Below w.heap.size w W → W.cell? ⟨b,o + k,none⟩ = some (.int .u64 (l.getD k 0 : Nat))):=fun W hW=>(hW.cell (p:=⟨b,o + k,none⟩) hb).trans (hcc k hkl)
    obtain ⟨x,hx⟩ : ∃ x,x = l.getD k 0:=⟨_,rfl⟩
    have HX : Hid (x = l.getD k 0):=hx
    have g2 : (k : Int) < (n : Int):=by omega
    have g4 : ((x : Int) != (x : Int)) = false:=by simp
    have g5 : ¬ (n : Int) ≤ (k : Int):=by omega
    clear hcc hx hb
    go_upto_region 4 with fail
    have h1 : once [(12,0),(13,1),(14,2),(15,3),(16,4),(17,5),(18,6),(19,7),(20,8),(21,9),(22,10),(23,11),(24,12),(25,13),(26,14),(27,15),(28,16),(29,17),(30,18),(31,19),(32,20),(33,21),(34,22),(35,23),(36,24),(37,25),(38,26),(39,27),(40,28)] = true:=by kernel_rfl
    have h2 : within [(12,0),(13,1),(14,2),(15,3),(16,4),(17,5),(18,6),(19,7),(20,8),(21,9),(22,10),(23,11),(24,12),(25,13),(26,14),(27,15),(28,16),(29,17),(30,18),(31,19),(32,20),(33,21),(34,22),(35,23),(36,24),(37,25),(38,26),(39,27),(40,28)] 47 = true:=by kernel_rfl
    let S : Nat → (Nat → Value) → World → Prop:=fun ix xs W=>match ix with
     | 0=>xs 0 = .int .i64 (k : Nat)
     | 1=>xs 1 = .slice (some ⟨b,o,none⟩) n c
     | 2=>xs 2 = .int .i64 (n : Nat)
     | 3=>xs 3 = .bool true
     | 4=>xs 4 = .bool true
     | 5=>xs 5 = .slice (some ⟨g,0,none⟩) (n + 8 : Nat) cp
     | 6=>xs 6 = .int .i64 (k : Nat)
     | 7=>xs 7 = .pointer (some ⟨g,k,none⟩)
     | 8=>xs 8 = .float .f64 x
     | 9=>xs 9 = .int .u64 (x : Nat)
     | 10=>xs 10 = .slice (some ⟨b,o,none⟩) n c
     | 11=>xs 11 = .int .i64 (k : Nat)
     | 12=>xs 12 = .pointer (some ⟨b,o + k,none⟩)
     | 13=>xs 13 = .int .u64 (x : Nat)
     | 14=>xs 14 = .bool false
     | 15=>xs 15 = .bool false
     | 16=>xs 16 = .bool false
     | 17=>xs 17 = .int .i64 (k : Nat)
     | 18=>xs 18 = .slice (some ⟨b,o,none⟩) n c
     | 19=>xs 19 = .int .i64 (n : Nat)
     | 20=>xs 20 = .bool false
     | 21=>xs 21 = .bool false
     | 22=>True
     | 23=>True
     | 24=>True
     | 25=>True
     | 26=>True
     | 27=>xs 27 = .bool false
     | 28=>xs 28 = .bool false
     | _=>True
    have hstab : ∀ j ys W W',S j ys W → Below W.heap.size W W' → S j ys W':=by
     intro j ys W W' h hb
     match j,h with
     | 0,h=>exact h
     | 1,h=>exact h
     | 2,h=>exact h
     | 3,h=>exact h
     | 4,h=>exact h
     | 5,h=>exact h
     | 6,h=>exact h
     | 7,h=>exact h
     | 8,h=>exact h
     | 9,h=>exact h
     | 10,h=>exact h
     | 11,h=>exact h
     | 12,h=>exact h
     | 13,h=>exact h
     | 14,h=>exact h
     | 15,h=>exact h
     | 16,h=>exact h
     | 17,h=>exact h
     | 18,h=>exact h
     | 19,h=>exact h
     | 20,h=>exact h
     | 21,h=>exact h
     | 22,h=>exact h
     | 23,h=>exact h
     | 24,h=>exact h
     | 25,h=>exact h
     | 26,h=>exact h
     | 27,h=>exact h
     | 28,h=>exact h
     | _ + 29,h=>exact trivial
    refine wp_region_flow3 29 29 [(12,0),(13,1),(14,2),(15,3),(16,4),(17,5),(18,6),(19,7),(20,8),(21,9),(22,10),(23,11),(24,12),(25,13),(26,14),(27,15),(28,16),(29,17),(30,18),(31,19),(32,20),(33,21),(34,22),(35,23),(36,24),(37,25),(38,26),(39,27),(40,28)] [] S (fun _ W=>(fun W=>Below w.heap.size w W) W) HBK.out.drew (by kernel_rfl) (by kernel_rfl) (by kernel_rfl) (by decide) (by kernel_rfl) h1 (by kernel_rfl) (fun j hj=>by cases hj) ?_ ?_ ?_
    ·intro j xs ys W e h
     match j,e,h with
     | 0,e,h=>exact c_ (e 0 (.inl rfl)) h
     | 1,e,h=>exact c_ (e 1 (.inl rfl)) h
     | 2,e,h=>exact c_ (e 2 (.inl rfl)) h
     | 3,e,h=>exact c_ (e 3 (.inl rfl)) h
     | 4,e,h=>exact c_ (e 4 (.inl rfl)) h
     | 5,e,h=>exact c_ (e 5 (.inl rfl)) h
     | 6,e,h=>exact c_ (e 6 (.inl rfl)) h
     | 7,e,h=>exact c_ (e 7 (.inl rfl)) h
     | 8,e,h=>exact c_ (e 8 (.inl rfl)) h
     | 9,e,h=>exact c_ (e 9 (.inl rfl)) h
     | 10,e,h=>exact c_ (e 10 (.inl rfl)) h
     | 11,e,h=>exact c_ (e 11 (.inl rfl)) h
     | 12,e,h=>exact c_ (e 12 (.inl rfl)) h
     | 13,e,h=>exact c_ (e 13 (.inl rfl)) h
     | 14,e,h=>exact c_ (e 14 (.inl rfl)) h
     | 15,e,h=>exact c_ (e 15 (.inl rfl)) h
     | 16,e,h=>exact c_ (e 16 (.inl rfl)) h
     | 17,e,h=>exact c_ (e 17 (.inl rfl)) h
     | 18,e,h=>exact c_ (e 18 (.inl rfl)) h
     | 19,e,h=>exact c_ (e 19 (.inl rfl)) h
     | 20,e,h=>exact c_ (e 20 (.inl rfl)) h
     | 21,e,h=>exact c_ (e 21 (.inl rfl)) h
     | 22,e,h=>exact h
     | 23,e,h=>exact h
     | 24,e,h=>exact h
     | 25,e,h=>exact h
     | 26,e,h=>exact h
     | 27,e,h=>exact c_ (e 27 (.inl rfl)) h
     | 28,e,h=>exact c_ (e 28 (.inl rfl)) h
     | _ + 29,e,h=>exact trivial
    ·refine ⟨⟨⟨⟨⟨⟨⟨⟨⟨⟨⟨⟨⟨⟨⟨⟨⟨⟨⟨⟨⟨⟨⟨⟨⟨⟨⟨⟨⟨trivial,?_⟩,?_⟩,?_⟩,?_⟩,?_⟩,?_⟩,?_⟩,?_⟩,?_⟩,?_⟩,?_⟩,?_⟩,?_⟩,?_⟩,?_⟩,?_⟩,?_⟩,?_⟩,?_⟩,?_⟩,?_⟩,?_⟩,?_⟩,?_⟩,?_⟩,?_⟩,?_⟩,?_⟩,?_⟩
     ·refine flow3_step _ (some 12) rfl rfl rfl h1 h2 gI gB hstab fun ac xs W Dn he hni hG hS K hK=>?_
      exact op_move (.tmp 5) (.inl rfl) (hK _ _ (he 5) bR nA)
     ·refine flow3_step _ (some 13) rfl rfl rfl h1 h2 gI gB hstab fun ac xs W Dn he hni hG hS K hK=>?_
      exact op_move (.tmp 1) (.inl rfl) (hK _ _ (he 1) bR nA)
     ·refine flow3_step _ (some 14) rfl rfl rfl h1 h2 gI gB hstab fun ac xs W Dn he hni hG hS K hK=>?_
      have e0 : ac.tmps[13]?.getD undef = .slice (some ⟨b,o,none⟩) n c:=by rw [← Array.getD_eq_getD_getElem?]; exact (he 13).trans (hS 1 (by kernel_rfl))
      refine op_any (.call ⟨.builtin .len,#[.tmp 13],#[39]⟩) rfl (.int .i64 (n : Nat)) (fun o' ho'=>?_) (hK _ _ rfl bR nA)
      simp only [execOp,ho']
      go_simp
     ·refine flow3_step _ (some 15) rfl rfl rfl h1 h2 gI gB hstab fun ac xs W Dn he hni hG hS K hK=>?_
      have e0:=(he 12).trans (hS 0 (by kernel_rfl))
      have e1:=(he 14).trans (hS 2 (by kernel_rfl))
      refine op_any (.binOp .lss 3 (.tmp 12) (.tmp 14) 3) rfl (.bool true) (fun o' ho'=>?_) (hK _ _ rfl bR nA)
      simp only [execOp,ho',e0,e1]
      go_simp
     ·refine flow3_step _ (some 16) rfl rfl rfl h1 h2 gI gB hstab fun ac xs W Dn he hni hG hS K hK=>?_
      exact op_move (.tmp 15) (.inl rfl) (hK _ _ ((he 15).trans (hS 3 (by kernel_rfl))) bR nA)
     ·refine flow3_stepG _ 17 4 16 true rfl rfl rfl (by kernel_rfl) (fun _=>rfl) (fun xs W h=>h) (fun d h=>by simpa using h) rfl h1 h2 gI gB hstab fun ac xs W Dn he hni hG hS K hK=>?_
      exact op_move (.tmp 0) (.inl rfl) (hK _ _ (he 0) bR nA)
     ·refine flow3_stepG _ 18 4 16 true rfl rfl rfl (by kernel_rfl) (fun _=>rfl) (fun xs W h=>h) (fun d h=>by simpa using h) rfl h1 h2 gI gB hstab fun ac xs W Dn he hni hG hS K hK=>?_
      exact op_move (.tmp 5) (.inl rfl) (hK _ _ (he 5) bR nA)
     ·refine flow3_stepG _ 19 4 16 true rfl rfl rfl (by kernel_rfl) (fun _=>rfl) (fun xs W h=>h) (fun d h=>by simpa using h) rfl h1 h2 gI gB hstab fun ac xs W Dn he hni hG hS K hK=>?_
      have e0:=(he 17).trans (hS 5 (by kernel_rfl))
      have e1:=(he 18).trans (hS 6 (by kernel_rfl))
      refine op_any (.indexAddr 40 (.tmp 17) (.tmp 18)) rfl (.pointer (some ⟨g,k,none⟩)) (fun o' ho'=>?_) (hK _ _ rfl bR nA)
      simp only [execOp,ho',e0,e1]
      go_simp
     ·refine flow3_stepG _ 20 4 16 true rfl rfl rfl (by kernel_rfl) (fun _=>rfl) (fun xs W h=>h) (fun d h=>by simpa using h) rfl h1 h2 gI gB hstab fun ac xs W Dn he hni hG hS K hK=>?_
      have hc:=(HG.out W hG k hkl).trans (by rw [← HX.out])
      have e0:=(he 19).trans (hS 7 (by kernel_rfl))
      refine op_any (.load 24 (.tmp 19)) rfl (.float .f64 x) (fun o' ho'=>?_) (hK _ _ rfl bR nA)
      simp only [execOp,ho',e0]
      go_simp
     ·refine flow3_stepG _ 21 4 16 true rfl rfl rfl (by kernel_rfl) (fun _=>rfl) (fun xs W h=>h) (fun d h=>by simpa using h) rfl h1 h2 gI gB hstab fun ac xs W Dn he hni hG hS K hK=>?_
      have e0 : ac.tmps[20]?.getD undef = .float .f64 x:=by rw [← Array.getD_eq_getD_getElem?]; exact (he 20).trans (hS 8 (by kernel_rfl))
      refine op_any (.call ⟨.value (.func 28),#[.tmp 20],#[24]⟩) rfl (.int .u64 (x : Nat)) (fun o' ho'=>?_) (hK _ _ rfl bR nA)
      simp only [execOp,ho']
      go_simp
     ·refine flow3_stepG _ 22 4 16 true rfl rfl rfl (by kernel_rfl) (fun _=>rfl) (fun xs W h=>h) (fun d h=>by simpa using h) rfl h1 h2 gI gB hstab fun ac xs W Dn he hni hG hS K hK=>?_
      exact op_move (.tmp 1) (.inl rfl) (hK _ _ (he 1) bR nA)
     ·refine flow3_stepG _ 23 4 16 true rfl rfl rfl (by kernel_rfl) (fun _=>rfl) (fun xs W h=>h) (fun d h=>by simpa using h) rfl h1 h2 gI gB hstab fun ac xs W Dn he hni hG hS K hK=>?_
      exact op_move (.tmp 5) (.inl rfl) (hK _ _ (he 5) bR nA)
     ·refine flow3_stepG _ 24 4 16 true rfl rfl rfl (by kernel_rfl) (fun _=>rfl) (fun xs W h=>h) (fun d h=>by simpa using h) rfl h1 h2 gI gB hstab fun ac xs W Dn he hni hG hS K hK=>?_
      have e0:=(he 22).trans (hS 10 (by kernel_rfl))
      have e1:=(he 23).trans (hS 11 (by kernel_rfl))
      refine op_any (.indexAddr 39 (.tmp 22) (.tmp 23)) rfl (.pointer (some ⟨b,o + k,none⟩)) (fun o' ho'=>?_) (hK _ _ rfl bR nA)
      simp only [execOp,ho',e0,e1]
      go_simp
     ·refine flow3_stepG _ 25 4 16 true rfl rfl rfl (by kernel_rfl) (fun _=>rfl) (fun xs W h=>h) (fun d h=>by simpa using h) rfl h1 h2 gI gB hstab fun ac xs W Dn he hni hG hS K hK=>?_
      have hc:=(HC.out W hG).trans (by rw [← HX.out])
      have e0:=(he 24).trans (hS 12 (by kernel_rfl))
      refine op_any (.load 22 (.tmp 24)) rfl (.int .u64 (x : Nat)) (fun o' ho'=>?_) (hK _ _ rfl bR nA)
      simp only [execOp,ho',e0]
      go_simp
     ·refine flow3_stepG _ 26 4 16 true rfl rfl rfl (by kernel_rfl) (fun _=>rfl) (fun xs W h=>h) (fun d h=>by simpa using h) rfl h1 h2 gI gB hstab fun ac xs W Dn he hni hG hS K hK=>?_
      have e0:=(he 21).trans (hS 9 (by kernel_rfl))
      have e1:=(he 25).trans (hS 13 (by kernel_rfl))
      refine op_any (.binOp .neq 22 (.tmp 21) (.tmp 25) 22) rfl (.bool false) (fun o' ho'=>?_) (hK _ _ rfl bR nA)
      simp only [execOp,ho',e0,e1]
      go_simp
     ·refine flow3_step _ (some 27) rfl rfl rfl h1 h2 gI gB hstab fun ac xs W Dn he hni hG hS K hK=>?_
      have e0:=(he 16).trans (hS 4 (by kernel_rfl))
      have e1:=(he 26).trans (hS 14 (by kernel_rfl))
      refine op_any (.pick (.tmp 16) (.tmp 26) (.const (.bool false))) rfl (.bool false) (fun o' ho'=>?_) (hK _ _ rfl bR nA)
      simp only [execOp,ho',e0,e1]
      go_simp
     ·refine flow3_step _ (some 28) rfl rfl rfl h1 h2 gI gB hstab fun ac xs W Dn he hni hG hS K hK=>?_
      exact op_move (.tmp 27) (.inl rfl) (hK _ _ ((he 27).trans (hS 15 (by kernel_rfl))) bR nA)
     ·refine flow3_stepG _ 29 16 28 false rfl rfl rfl (by kernel_rfl) (fun _=>rfl) (fun xs W h=>h) (fun d h=>by simpa using h) rfl h1 h2 gI gB hstab fun ac xs W Dn he hni hG hS K hK=>?_
      exact op_move (.tmp 5) (.inl rfl) (hK _ _ (he 5) bR nA)
     ·refine flow3_stepG _ 30 16 28 false rfl rfl rfl (by kernel_rfl) (fun _=>rfl) (fun xs W h=>h) (fun d h=>by simpa using h) rfl h1 h2 gI gB hstab fun ac xs W Dn he hni hG hS K hK=>?_
      exact op_move (.tmp 1) (.inl rfl) (hK _ _ (he 1) bR nA)
     ·refine flow3_stepG _ 31 16 28 false rfl rfl rfl (by kernel_rfl) (fun _=>rfl) (fun xs W h=>h) (fun d h=>by simpa using h) rfl h1 h2 gI gB hstab fun ac xs W Dn he hni hG hS K hK=>?_
      have e0 : ac.tmps[30]?.getD undef = .slice (some ⟨b,o,none⟩) n c:=by rw [← Array.getD_eq_getD_getElem?]; exact (he 30).trans (hS 18 (by kernel_rfl))
      refine op_any (.call ⟨.builtin .len,#[.tmp 30],#[39]⟩) rfl (.int .i64 (n : Nat)) (fun o' ho'=>?_) (hK _ _ rfl bR nA)
      simp only [execOp,ho']
      go_simp
     ·refine flow3_stepG _ 32 16 28 false rfl rfl rfl (by kernel_rfl) (fun _=>rfl) (fun xs W h=>h) (fun d h=>by simpa using h) rfl h1 h2 gI gB hstab fun ac xs W Dn he hni hG hS K hK=>?_
      have e0:=(he 29).trans (hS 17 (by kernel_rfl))
      have e1:=(he 31).trans (hS 19 (by kernel_rfl))
      refine op_any (.binOp .geq 3 (.tmp 29) (.tmp 31) 3) rfl (.bool false) (fun o' ho'=>?_) (hK _ _ rfl bR nA)
      simp only [execOp,ho',e0,e1]
      go_simp
     ·refine flow3_stepG _ 33 16 28 false rfl rfl rfl (by kernel_rfl) (fun _=>rfl) (fun xs W h=>h) (fun d h=>by simpa using h) rfl h1 h2 gI gB hstab fun ac xs W Dn he hni hG hS K hK=>?_
      exact op_move (.tmp 32) (.inl rfl) (hK _ _ ((he 32).trans (hS 20 (by kernel_rfl))) bR nA)
     ·refine flow3_skipV _ 34 21 33 true rfl rfl rfl (by kernel_rfl) (fun _=>rfl) (fun xs W h=>.inr h) (fun d h=>by simpa using h) rfl h1 h2 (fun D W _ h=>h) (fun xs W h=>trivial) (by decide)
     ·refine flow3_skipV _ 35 21 33 true rfl rfl rfl (by kernel_rfl) (fun _=>rfl) (fun xs W h=>.inr h) (fun d h=>by simpa using h) rfl h1 h2 (fun D W _ h=>h) (fun xs W h=>trivial) (by decide)
     ·refine flow3_skipV _ 36 21 33 true rfl rfl rfl (by kernel_rfl) (fun _=>rfl) (fun xs W h=>.inr h) (fun d h=>by simpa using h) rfl h1 h2 (fun D W _ h=>h) (fun xs W h=>trivial) (by decide)
     ·refine flow3_skipV _ 37 21 33 true rfl rfl rfl (by kernel_rfl) (fun _=>rfl) (fun xs W h=>.inr h) (fun d h=>by simpa using h) rfl h1 h2 (fun D W _ h=>h) (fun xs W h=>trivial) (by decide)
     ·refine flow3_skipV _ 38 21 33 true rfl rfl rfl (by kernel_rfl) (fun _=>rfl) (fun xs W h=>.inr h) (fun d h=>by simpa using h) rfl h1 h2 (fun D W _ h=>h) (fun xs W h=>trivial) (by decide)
     ·refine flow3_stepG _ 39 16 28 false rfl rfl rfl (by kernel_rfl) (fun _=>rfl) (fun xs W h=>h) (fun d h=>by simpa using h) rfl h1 h2 gI gB hstab fun ac xs W Dn he hni hG hS K hK=>?_
      have e0:=(he 33).trans (hS 21 (by kernel_rfl))
      refine op_any (.pick (.tmp 33) (.tmp 38) (.const (.bool false))) rfl (.bool false) (fun o' ho'=>?_) (hK _ _ rfl bR nA)
      simp only [execOp,ho',e0]
      go_simp
     ·refine flow3_step _ (some 40) rfl rfl rfl h1 h2 gI gB hstab fun ac xs W Dn he hni hG hS K hK=>?_
      have e0:=(he 28).trans (hS 16 (by kernel_rfl))
      have e1:=(he 39).trans (hS 27 (by kernel_rfl))
      refine op_any (.pick (.tmp 28) (.const (.bool true)) (.tmp 39)) rfl (.bool false) (fun o' ho'=>?_) (hK _ _ rfl bR nA)
      simp only [execOp,ho',e0,e1]
      go_simp
    ·intro xs W9 Dn hall hG hS hD
     have s28 : xs 28 = .bool false:=hS 28 (by decide)
     have HB9 : Hid (Below w.heap.size w W9):=hG
     simp only [layAll,s28,List.setIfInBounds_toArray,List.set_cons_succ,List.set_cons_zero]
     generalize xs 0 = x0
     generalize xs 1 = x1
     generalize xs 2 = x2
     generalize xs 3 = x3
     generalize xs 4 = x4
     generalize xs 5 = x5
     generalize xs 6 = x6
     generalize xs 7 = x7
     generalize xs 8 = x8
     generalize xs 9 = x9
     generalize xs 10 = x10
     generalize xs 11 = x11
     generalize xs 12 = x12
     generalize xs 13 = x13
     generalize xs 14 = x14
     generalize xs 15 = x15
     generalize xs 16 = x16
     generalize xs 17 = x17
     generalize xs 18 = x18
     generalize xs 19 = x19
     generalize xs 20 = x20
     generalize xs 21 = x21
     generalize xs 22 = x22
     generalize xs 23 = x23
     generalize xs 24 = x24
     generalize xs 25 = x25
     generalize xs 26 = x26
     generalize xs 27 = x27
     clear hS hD hall hstab S s28 hG h1 h2 xs Dn
     show wpList Tryz.prog _ _ [] _ _
     go_wp2_with fail
     go_roundw
     case rel=>exact ⟨k + 1,by omega,by first | rfl | rw [hw1] | go_num,HB9.out⟩
     case measure=>simp [intOf]; omega
   ·have g2 : ¬ (k : Int) < (n : Int):=by omega
    have g5 : (n : Int) ≤ (k : Int):=by omega
    have hkl : n ≤ k:=by omega
    go_upto_region 4 with fail
    have h1 : once [(12,0),(13,1),(14,2),(15,3),(16,4),(17,5),(18,6),(19,7),(20,8),(21,9),(22,10),(23,11),(24,12),(25,13),(26,14),(27,15),(28,16),(29,17),(30,18),(31,19),(32,20),(33,21),(34,22),(35,23),(36,24),(37,25),(38,26),(39,27),(40,28)] = true:=by kernel_rfl
    have h2 : within [(12,0),(13,1),(14,2),(15,3),(16,4),(17,5),(18,6),(19,7),(20,8),(21,9),(22,10),(23,11),(24,12),(25,13),(26,14),(27,15),(28,16),(29,17),(30,18),(31,19),(32,20),(33,21),(34,22),(35,23),(36,24),(37,25),(38,26),(39,27),(40,28)] 47 = true:=by kernel_rfl
    let S : Nat → (Nat → Value) → World → Prop:=fun ix xs W=>match ix with
     | 0=>xs 0 = .int .i64 (k : Nat)
     | 1=>xs 1 = .slice a n c
     | 2=>xs 2 = .int .i64 (n : Nat)
     | 3=>xs 3 = .bool false
     | 4=>xs 4 = .bool false
     | 5=>True
     | 6=>True
     | 7=>True
     | 8=>True
     | 9=>True
     | 10=>True
     | 11=>True
     | 12=>True
     | 13=>True
     | 14=>True
     | 15=>xs 15 = .bool false
     | 16=>xs 16 = .bool false
     | 17=>xs 17 = .int .i64 (k : Nat)
     | 18=>xs 18 = .slice a n c
     | 19=>xs 19 = .int .i64 (n : Nat)
     | 20=>xs 20 = .bool true
     | 21=>xs 21 = .bool true
     | 22=>xs 22 = .slice (some ⟨g,0,none⟩) (n + 8 : Nat) cp
     | 23=>xs 23 = .int .i64 (k : Nat)
     | 24=>xs 24 = .pointer (some ⟨g,k,none⟩)
     | 25=>xs 25 = .float .f64 4620130267728707584
     | 26=>xs 26 = .bool false
     | 27=>xs 27 = .bool false
     | 28=>xs 28 = .bool false
     | _=>True
    have hstab : ∀ j ys W W',S j ys W → Below W.heap.size W W' → S j ys W':=by
     intro j ys W W' h hb
     match j,h with
     | 0,h=>exact h
     | 1,h=>exact h
     | 2,h=>exact h
     | 3,h=>exact h
     | 4,h=>exact h
     | 5,h=>exact h
     | 6,h=>exact h
     | 7,h=>exact h
     | 8,h=>exact h
     | 9,h=>exact h
     | 10,h=>exact h
     | 11,h=>exact h
     | 12,h=>exact h
     | 13,h=>exact h
     | 14,h=>exact h
     | 15,h=>exact h
     | 16,h=>exact h
     | 17,h=>exact h
     | 18,h=>exact h
     | 19,h=>exact h
     | 20,h=>exact h
     | 21,h=>exact h
     | 22,h=>exact h
     | 23,h=>exact h
     | 24,h=>exact h
     | 25,h=>exact h
     | 26,h=>exact h
     | 27,h=>exact h
     | 28,h=>exact h
     | _ + 29,h=>exact trivial
    refine wp_region_flow3 29 29 [(12,0),(13,1),(14,2),(15,3),(16,4),(17,5),(18,6),(19,7),(20,8),(21,9),(22,10),(23,11),(24,12),(25,13),(26,14),(27,15),(28,16),(29,17),(30,18),(31,19),(32,20),(33,21),(34,22),(35,23),(36,24),(37,25),(38,26),(39,27),(40,28)] [] S (fun _ W=>(fun W=>Below w.heap.size w W) W) HBK.out.drew (by kernel_rfl) (by kernel_rfl) (by kernel_rfl) (by decide) (by kernel_rfl) h1 (by kernel_rfl) (fun j hj=>by cases hj) ?_ ?_ ?_
    ·intro j xs ys W e h
     match j,e,h with
     | 0,e,h=>exact c_ (e 0 (.inl rfl)) h
     | 1,e,h=>exact c_ (e 1 (.inl rfl)) h
     | 2,e,h=>exact c_ (e 2 (.inl rfl)) h
     | 3,e,h=>exact c_ (e 3 (.inl rfl)) h
     | 4,e,h=>exact c_ (e 4 (.inl rfl)) h
     | 5,e,h=>exact h
     | 6,e,h=>exact h
     | 7,e,h=>exact h
     | 8,e,h=>exact h
     | 9,e,h=>exact h
     | 10,e,h=>exact h
     | 11,e,h=>exact h
     | 12,e,h=>exact h
     | 13,e,h=>exact h
     | 14,e,h=>exact h
     | 15,e,h=>exact c_ (e 15 (.inl rfl)) h
     | 16,e,h=>exact c_ (e 16 (.inl rfl)) h
     | 17,e,h=>exact c_ (e 17 (.inl rfl)) h
     | 18,e,h=>exact c_ (e 18 (.inl rfl)) h
     | 19,e,h=>exact c_ (e 19 (.inl rfl)) h
     | 20,e,h=>exact c_ (e 20 (.inl rfl)) h
     | 21,e,h=>exact c_ (e 21 (.inl rfl)) h
     | 22,e,h=>exact c_ (e 22 (.inl rfl)) h
     | 23,e,h=>exact c_ (e 23 (.inl rfl)) h
     | 24,e,h=>exact c_ (e 24 (.inl rfl)) h
     | 25,e,h=>exact c_ (e 25 (.inl rfl)) h
     | 26,e,h=>exact c_ (e 26 (.inl rfl)) h
     | 27,e,h=>exact c_ (e 27 (.inl rfl)) h
     | 28,e,h=>exact c_ (e 28 (.inl rfl)) h
     | _ + 29,e,h=>exact trivial
    ·refine ⟨⟨⟨⟨⟨⟨⟨⟨⟨⟨⟨⟨⟨⟨⟨⟨⟨⟨⟨⟨⟨⟨⟨⟨⟨⟨⟨⟨⟨trivial,?_⟩,?_⟩,?_⟩,?_⟩,?_⟩,?_⟩,?_⟩,?_⟩,?_⟩,?_⟩,?_⟩,?_⟩,?_⟩,?_⟩,?_⟩,?_⟩,?_⟩,?_⟩,?_⟩,?_⟩,?_⟩,?_⟩,?_⟩,?_⟩,?_⟩,?_⟩,?_⟩,?_⟩,?_⟩
     ·refine flow3_step _ (some 12) rfl rfl rfl h1 h2 gI gB hstab fun ac xs W Dn he hni hG hS K hK=>?_
      exact op_move (.tmp 5) (.inl rfl) (hK _ _ (he 5) bR nA)
     ·refine flow3_step _ (some 13) rfl rfl rfl h1 h2 gI gB hstab fun ac xs W Dn he hni hG hS K hK=>?_
      exact op_move (.tmp 1) (.inl rfl) (hK _ _ (he 1) bR nA)
     ·refine flow3_step _ (some 14) rfl rfl rfl h1 h2 gI gB hstab fun ac xs W Dn he hni hG hS K hK=>?_
      have e0 : ac.tmps[13]?.getD undef = .slice a n c:=by rw [← Array.getD_eq_getD_getElem?]; exact (he 13).trans (hS 1 (by kernel_rfl))
      refine op_any (.call ⟨.builtin .len,#[.tmp 13],#[39]⟩) rfl (.int .i64 (n : Nat)) (fun o' ho'=>?_) (hK _ _ rfl bR nA)
      simp only [execOp,ho']
      go_simp
     ·refine flow3_step _ (some 15) rfl rfl rfl h1 h2 gI gB hstab fun ac xs W Dn he hni hG hS K hK=>?_
      have e0:=(he 12).trans (hS 0 (by kernel_rfl))
      have e1:=(he 14).trans (hS 2 (by kernel_rfl))
      refine op_any (.binOp .lss 3 (.tmp 12) (.tmp 14) 3) rfl (.bool false) (fun o' ho'=>?_) (hK _ _ rfl bR nA)
      simp only [execOp,ho',e0,e1]
      go_simp
     ·refine flow3_step _ (some 16) rfl rfl rfl h1 h2 gI gB hstab fun ac xs W Dn he hni hG hS K hK=>?_
      exact op_move (.tmp 15) (.inl rfl) (hK _ _ ((he 15).trans (hS 3 (by kernel_rfl))) bR nA)
     ·refine flow3_skipV _ 17 4 16 true rfl rfl rfl (by kernel_rfl) (fun _=>rfl) (fun xs W h=>.inr h) (fun d h=>by simpa using h) rfl h1 h2 (fun D W _ h=>h) (fun xs W h=>trivial) (by decide)
     ·refine flow3_skipV _ 18 4 16 true rfl rfl rfl (by kernel_rfl) (fun _=>rfl) (fun xs W h=>.inr h) (fun d h=>by simpa using h) rfl h1 h2 (fun D W _ h=>h) (fun xs W h=>trivial) (by decide)
     ·refine flow3_skipV _ 19 4 16 true rfl rfl rfl (by kernel_rfl) (fun _=>rfl) (fun xs W h=>.inr h) (fun d h=>by simpa using h) rfl h1 h2 (fun D W _ h=>h) (fun xs W h=>trivial) (by decide)
     ·refine flow3_skipV _ 20 4 16 true rfl rfl rfl (by kernel_rfl) (fun _=>rfl) (fun xs W h=>.inr h) (fun d h=>by simpa using h) rfl h1 h2 (fun D W _ h=>h) (fun xs W h=>trivial) (by decide)
     ·refine flow3_skipV _ 21 4 16 true rfl rfl rfl (by kernel_rfl) (fun _=>rfl) (fun xs W h=>.inr h) (fun d h=>by simpa using h) rfl h1 h2 (fun D W _ h=>h) (fun xs W h=>trivial) (by decide)
     ·refine flow3_skipV _ 22 4 16 true rfl rfl rfl (by kernel_rfl) (fun _=>rfl) (fun xs W h=>.inr h) (fun d h=>by simpa using h) rfl h1 h2 (fun D W _ h=>h) (fun xs W h=>trivial) (by decide)
     ·refine flow3_skipV _ 23 4 16 true rfl rfl rfl (by kernel_rfl) (fun _=>rfl) (fun xs W h=>.inr h) (fun d h=>by simpa using h) rfl h1 h2 (fun D W _ h=>h) (fun xs W h=>trivial) (by decide)
     ·refine flow3_skipV _ 24 4 16 true rfl rfl rfl (by kernel_rfl) (fun _=>rfl) (fun xs W h=>.inr h) (fun d h=>by simpa using h) rfl h1 h2 (fun D W _ h=>h) (fun xs W h=>trivial) (by decide)
     ·refine flow3_skipV _ 25 4 16 true rfl rfl rfl (by kernel_rfl) (fun _=>rfl) (fun xs W h=>.inr h) (fun d h=>by simpa using h) rfl h1 h2 (fun D W _ h=>h) (fun xs W h=>trivial) (by decide)
     ·refine flow3_skipV _ 26 4 16 true rfl rfl rfl (by kernel_rfl) (fun _=>rfl) (fun xs W h=>.inr h) (fun d h=>by simpa using h) rfl h1 h2 (fun D W _ h=>h) (fun xs W h=>trivial) (by decide)
     ·refine flow3_step _ (some 27) rfl rfl rfl h1 h2 gI gB hstab fun ac xs W Dn he hni hG hS K hK=>?_
      have e0:=(he 16).trans (hS 4 (by kernel_rfl))
      refine op_any (.pick (.tmp 16) (.tmp 26) (.const (.bool false))) rfl (.bool false) (fun o' ho'=>?_) (hK _ _ rfl bR nA)
      simp only [execOp,ho',e0]
      go_simp
     ·refine flow3_step _ (some 28) rfl rfl rfl h1 h2 gI gB hstab fun ac xs W Dn he hni hG hS K hK=>?_
      exact op_move (.tmp 27) (.inl rfl) (hK _ _ ((he 27).trans (hS 15 (by kernel_rfl))) bR nA)
     ·refine flow3_stepG _ 29 16 28 false rfl rfl rfl (by kernel_rfl) (fun _=>rfl) (fun xs W h=>h) (fun d h=>by simpa using h) rfl h1 h2 gI gB hstab fun ac xs W Dn he hni hG hS K hK=>?_
      exact op_move (.tmp 5) (.inl rfl) (hK _ _ (he 5) bR nA)
     ·refine flow3_stepG _ 30 16 28 false rfl rfl rfl (by kernel_rfl) (fun _=>rfl) (fun xs W h=>h) (fun d h=>by simpa using h) rfl h1 h2 gI gB hstab fun ac xs W Dn he hni hG hS K hK=>?_
      exact op_move (.tmp 1) (.inl rfl) (hK _ _ (he 1) bR nA)
     ·refine flow3_stepG _ 31 16 28 false rfl rfl rfl (by kernel_rfl) (fun _=>rfl) (fun xs W h=>h) (fun d h=>by simpa using h) rfl h1 h2 gI gB hstab fun ac xs W Dn he hni hG hS K hK=>?_
      have e0 : ac.tmps[30]?.getD undef = .slice a n c:=by rw [← Array.getD_eq_getD_getElem?]; exact (he 30).trans (hS 18 (by kernel_rfl))
      refine op_any (.call ⟨.builtin .len,#[.tmp 30],#[39]⟩) rfl (.int .i64 (n : Nat)) (fun o' ho'=>?_) (hK _ _ rfl bR nA)
      simp only [execOp,ho']
      go_simp
     ·refine flow3_stepG _ 32 16 28 false rfl rfl rfl (by kernel_rfl) (fun _=>rfl) (fun xs W h=>h) (fun d h=>by simpa using h) rfl h1 h2 gI gB hstab fun ac xs W Dn he hni hG hS K hK=>?_
      have e0:=(he 29).trans (hS 17 (by kernel_rfl))
      have e1:=(he 31).trans (hS 19 (by kernel_rfl))
      refine op_any (.binOp .geq 3 (.tmp 29) (.tmp 31) 3) rfl (.bool true) (fun o' ho'=>?_) (hK _ _ rfl bR nA)
      simp only [execOp,ho',e0,e1]
      go_simp
     ·refine flow3_stepG _ 33 16 28 false rfl rfl rfl (by kernel_rfl) (fun _=>rfl) (fun xs W h=>h) (fun d h=>by simpa using h) rfl h1 h2 gI gB hstab fun ac xs W Dn he hni hG hS K hK=>?_
      exact op_move (.tmp 32) (.inl rfl) (hK _ _ ((he 32).trans (hS 20 (by kernel_rfl))) bR nA)
     ·refine flow3_stepG _ 34 21 33 true rfl rfl rfl (by kernel_rfl) (fun _=>rfl) (fun xs W h=>h) (fun d h=>by simpa using h) rfl h1 h2 gI gB hstab fun ac xs W Dn he hni hG hS K hK=>?_
      exact op_move (.tmp 0) (.inl rfl) (hK _ _ (he 0) bR nA)
     ·refine flow3_stepG _ 35 21 33 true rfl rfl rfl (by kernel_rfl) (fun _=>rfl) (fun xs W h=>h) (fun d h=>by simpa using h) rfl h1 h2 gI gB hstab fun ac xs W Dn he hni hG hS K hK=>?_
      exact op_move (.tmp 5) (.inl rfl) (hK _ _ (he 5) bR nA)
     ·refine flow3_stepG _ 36 21 33 true rfl rfl rfl (by kernel_rfl) (fun _=>rfl) (fun xs W h=>h) (fun d h=>by simpa using h) rfl h1 h2 gI gB hstab fun ac xs W Dn he hni hG hS K hK=>?_
      have e0:=(he 34).trans (hS 22 (by kernel_rfl))
      have e1:=(he 35).trans (hS 23 (by kernel_rfl))
      refine op_any (.indexAddr 40 (.tmp 34) (.tmp 35)) rfl (.pointer (some ⟨g,k,none⟩)) (fun o' ho'=>?_) (hK _ _ rfl bR nA)
      simp only [execOp,ho',e0,e1]
      go_simp
     ·refine flow3_stepG _ 37 21 33 true rfl rfl rfl (by kernel_rfl) (fun _=>rfl) (fun xs W h=>h) (fun d h=>by simpa using h) rfl h1 h2 gI gB hstab fun ac xs W Dn he hni hG hS K hK=>?_
      have hc:=HK.out W hG k hkl hkn
      have e0:=(he 36).trans (hS 24 (by kernel_rfl))
      refine op_any (.load 24 (.tmp 36)) rfl (.float .f64 4620130267728707584) (fun o' ho'=>?_) (hK _ _ rfl bR nA)
      simp only [execOp,ho',e0]
      go_simp
     ·refine flow3_stepG _ 38 21 33 true rfl rfl rfl (by kernel_rfl) (fun _=>rfl) (fun xs W h=>h) (fun d h=>by simpa using h) rfl h1 h2 gI gB hstab fun ac xs W Dn he hni hG hS K hK=>?_
      have k0:=HQE.out
      have e0:=(he 37).trans (hS 25 (by kernel_rfl))
      refine op_any (.binOp .neq 24 (.tmp 37) (.const (.float .f64 4620130267728707584)) 24) rfl (.bool false) (fun o' ho'=>?_) (hK _ _ rfl bR nA)
      simp only [execOp,ho',e0]
      go_simp
     ·refine flow3_stepG _ 39 16 28 false rfl rfl rfl (by kernel_rfl) (fun _=>rfl) (fun xs W h=>h) (fun d h=>by simpa using h) rfl h1 h2 gI gB hstab fun ac xs W Dn he hni hG hS K hK=>?_
      have e0:=(he 33).trans (hS 21 (by kernel_rfl))
      have e1:=(he 38).trans (hS 26 (by kernel_rfl))
      refine op_any (.pick (.tmp 33) (.tmp 38) (.const (.bool false))) rfl (.bool false) (fun o' ho'=>?_) (hK _ _ rfl bR nA)
      simp only [execOp,ho',e0,e1]
      go_simp
     ·refine flow3_step _ (some 40) rfl rfl rfl h1 h2 gI gB hstab fun ac xs W Dn he hni hG hS K hK=>?_
      have e0:=(he 28).trans (hS 16 (by kernel_rfl))
      have e1:=(he 39).trans (hS 27 (by kernel_rfl))
      refine op_any (.pick (.tmp 28) (.const (.bool true)) (.tmp 39)) rfl (.bool false) (fun o' ho'=>?_) (hK _ _ rfl bR nA)
      simp only [execOp,ho',e0,e1]
      go_simp
    ·intro xs W9 Dn hall hG hS hD
     have s28 : xs 28 = .bool false:=hS 28 (by decide)
     have HB9 : Hid (Below w.heap.size w W9):=hG
     simp only [layAll,s28,List.setIfInBounds_toArray,List.set_cons_succ,List.set_cons_zero]
     generalize xs 0 = x0
     generalize xs 1 = x1
     generalize xs 2 = x2
     generalize xs 3 = x3
     generalize xs 4 = x4
     generalize xs 5 = x5
     generalize xs 6 = x6
     generalize xs 7 = x7
     generalize xs 8 = x8
     generalize xs 9 = x9
     generalize xs 10 = x10
     generalize xs 11 = x11
     generalize xs 12 = x12
     generalize xs 13 = x13
     generalize xs 14 = x14
     generalize xs 15 = x15
     generalize xs 16 = x16
     generalize xs 17 = x17
     generalize xs 18 = x18
     generalize xs 19 = x19
     generalize xs 20 = x20
     generalize xs 21 = x21
     generalize xs 22 = x22
     generalize xs 23 = x23
     generalize xs 24 = x24
     generalize xs 25 = x25
     generalize xs 26 = x26
     generalize xs 27 = x27
     clear hS hD hall hstab S s28 hG h1 h2 xs Dn
     show wpList Tryz.prog _ _ [] _ _
     go_wp2_with fail
     go_roundw
     case rel=>exact ⟨k + 1,by omega,by first | rfl | rw [hw1] | go_num,HB9.out⟩
     case measure=>simp [intOf]; omega
  ·obtain rfl : k = n + 8:=by omega
   clear hk hkn
   go_wp2_with fail
   go_ret
   exact ⟨by simp,HBK.out⟩
def demo9 : List Nat:=[4613937818241073152,4607182418800017408,4611686018427387904]
theorem demo_ord : ordL demo9 = [4607182418800017408,4611686018427387904,4613937818241073152]:=by
 refine (ordL_one ?_ ?_ ?_).symm
 ·have e : demo9.map oneB = demo9:=by decide
  rw [e]
  decide
 ·unfold InO
  decide
 ·intro x hx
  have : demo9.all (· < 18446744073709551616) = true:=by decide
  have:=List.all_eq_true.1 this x hx
  unfold W64
  simpa using this
theorem demo_share : shareA demo9 4602678819172646912 = (4611686018427387904,0):=by
 have h3 : rv 52 4602678819172646912 * 2 = 2 ^ LP:=by rw [LP_eq]; kernel_rfl
 have hv : valB 4602678819172646912 = ((rv 52 4602678819172646912 : Nat) : Int):=valB_small _ (by decide)
 obtain ⟨V,hV⟩ : ∃ V,V = rv 52 4602678819172646912:=⟨_,rfl⟩
 rw [← hV] at hv h3
 have hp : 0 < V:=by
  rcases Nat.eq_zero_or_pos V with h | h
  ·rw [h] at h3
   have:=Nat.two_pow_pos LP
   omega
  ·exact h
 have h4 : ((2 ^ LP : Nat) : Int) = 2 ^ LP:=by rw [Int.natCast_pow]; rfl
 have hl : demo9.length = 3:=rfl
 have hq : shQ demo9 4602678819172646912 = 1:=by
  unfold shQ
  rw [hv,hl,← h3]
  exact Nat.div_self (by omega)
 have hr : shR demo9 4602678819172646912 = 0:=by
  unfold shR
  rw [hv,hl,← h3]
  exact Nat.mod_self _
 unfold shareA
 rw [if_neg (by decide),if_pos ⟨by decide,by rw [hv]; omega,by rw [hv,← h4,← h3]; omega⟩,hq,hr]
 unfold shB
 rw [if_pos rfl,demo_ord]
 rfl
theorem demo_in {w : World} {g : Nat} (h : w.heap[g]? = some (.cells #[.float .f64 4613937818241073152,.float .f64 4607182418800017408,.float .f64 4611686018427387904] 24 (0,0))) : FIn w (some ⟨g,0,none⟩) 3 demo9:=fun _=>⟨g,0,rfl,blk_lt h,fun k hk=>by
 rw [cell_of_row _ _ _ _ _ _ h]
 match k,hk with
 | 0,_=>rfl
 | 1,_=>rfl
 | 2,_=>rfl⟩
set_option maxHeartbeats 4000000 in
theorem awake9_v (w : World) (htab : Tab w) : Calls Tryz.prog 18 #[] w fun e w'=>e = .returned (.bool true) ∧ Below w.heap.size w w':=by
 have hW : ∀ x ∈ demo9,W64 x:=fun x hx=>by
  have : demo9.all (· < 18446744073709551616) = true:=by decide
  have:=List.all_eq_true.1 this x hx
  unfold W64
  simpa using this
 have HT : Hid (∀ W,Below w.heap.size w W → Tab W):=fun W hW=>htab.below hW
 have HIN : Hid (∀ W g,W.heap[g]? = some (.cells #[.float .f64 4613937818241073152,.float .f64 4607182418800017408,.float .f64 4611686018427387904] 24 (0,0)) → FIn W (some ⟨g,0,none⟩) 3 demo9):=fun W g h=>demo_in h
 have H1 : Hid (∀ W g,FIn W (some ⟨g,0,none⟩) 3 demo9 → Calls Tryz.prog 31 #[.slice (some ⟨g,0,none⟩) 3 3] W fun e w'=>(∃ g,e = .returned (.slice (some ⟨g,0,none⟩) 3 3) ∧ w'.cell? ⟨g,0,none⟩ = some (.float .f64 4607182418800017408) ∧ w'.cell? ⟨g,2,none⟩ = some (.float .f64 4613937818241073152) ∧ g < w'.heap.size) ∧ Below W.heap.size W w'):=fun W g h=>by
  refine (sorted9_v (n:=3) (c:=3) W rfl (by decide) hW h).mono ?_
  rintro e w' ⟨⟨g',rfl,ho⟩,hb⟩
  have c0:=ho.cell (show 0 < 3 by decide)
  have c2:=ho.cell (show 2 < 3 by decide)
  rw [demo_ord] at c0 c2
  exact ⟨⟨g',rfl,c0,c2,ho.lt.2⟩,hb⟩
 have H2 : Hid (∀ W g,Tab W → FIn W (some ⟨g,0,none⟩) 3 demo9 → Calls Tryz.prog 21 #[.slice (some ⟨g,0,none⟩) 3 3] W fun e w'=>e = .returned (.tuple #[.float .f64 4611686018427387904,.int .i64 0]) ∧ Below W.heap.size W w'):=fun W g ht h=>by
  have:=middle9_v (n:=3) (c:=3) W rfl (by decide) hW h ht
  rw [demo_share] at this
  exact this
 have H3 : Hid (∀ W g,FIn W (some ⟨g,0,none⟩) 3 demo9 → Calls Tryz.prog 35 #[.slice (some ⟨g,0,none⟩) 3 3,.float .f64 4613937818241073152,.bool true] W fun e w'=>e = .returned (.tuple #[.int .i64 3,.int .i64 0]) ∧ Below W.heap.size W w'):=fun W g h=>by
  have:=rank9_v (n:=3) (c:=3) 4613937818241073152 true W rfl (by decide) hW h (by unfold W64; decide)
  have e : rankA demo9 4613937818241073152 true = (3,0):=by decide +kernel
  rw [e] at this
  exact this
 have H4 : Hid (∀ W g,FIn W (some ⟨g,0,none⟩) 3 demo9 → Calls Tryz.prog 30 #[.slice (some ⟨g,0,none⟩) 3 3,.int .i64 13,.float .f64 4611686018427387904] W fun e w'=>e = .returned (.tuple #[.int .i64 2,.int .i64 0]) ∧ Below W.heap.size W w'):=fun W g h=>by
  have:=count9_v (n:=3) (c:=3) 13 4611686018427387904 W rfl (by decide) hW h (by unfold W64; decide)
  have e : cntA demo9 13 4611686018427387904 = (2,0):=by decide +kernel
  rw [e] at this
  exact this
 have q1 : (FloatKind.f64.format.order 4607182418800017408 4607182418800017408 == some Ordering.eq) = true:=by decide
 have q2 : (FloatKind.f64.format.order 4611686018427387904 4611686018427387904 == some Ordering.eq) = true:=by decide
 have q3 : (FloatKind.f64.format.order 4613937818241073152 4613937818241073152 == some Ordering.eq) = true:=by decide
 clear htab hW
 go_enter Tryz.func18,Tryz.ntmps18
 go_wp2_with fail
 obtain ⟨w0,hw0⟩ : ∃ W,W = w.alloc (.cells #[.float .f64 4613937818241073152,.float .f64 4607182418800017408,.float .f64 4611686018427387904] 24 (0,0)):=⟨_,rfl⟩
 have HF0 : Hid (FIn w0 (some ⟨w.heap.size,0,none⟩) 3 demo9):=by rw [hw0]; exact HIN.out _ _ (heap_alloc_new _ _)
 have HB0 : Hid (Below w.heap.size w w0):=by rw [hw0]; exact (Below.refl _ _).alloc (Nat.le_refl _) _
 rw [← hw0]
 clear hw0 HIN
 refine (H1.out _ _ HF0.out).mono ?_
 rintro e w1 ⟨⟨g,rfl,c0,c2,hg⟩,hb⟩
 have HC : Hid (∀ W,Below w1.heap.size w1 W → W.cell? ⟨g,0,none⟩ = some (.float .f64 4607182418800017408) ∧ W.cell? ⟨g,2,none⟩ = some (.float .f64 4613937818241073152)):=fun W hW=>⟨(hW.cell (p:=⟨g,0,none⟩) hg).trans c0,(hW.cell (p:=⟨g,2,none⟩) hg).trans c2⟩
 have HF1 : Hid (FIn w1 (some ⟨w.heap.size,0,none⟩) 3 demo9):=HF0.out.below hb
 have HB1 : Hid (Below w.heap.size w w1):=HB0.out.thru hb
 clear c0 c2 hg hb HF0 HB0 H1
 go_wp2_with fail
 refine (H2.out _ _ (HT.out _ HB1.out) HF1.out).mono ?_
 rintro e w2 ⟨rfl,hb⟩
 have HF2 : Hid (FIn w2 (some ⟨w.heap.size,0,none⟩) 3 demo9):=HF1.out.below hb
 have HB2 : Hid (Below w1.heap.size w1 w2):=hb
 clear hb HF1 H2
 go_wp2_with fail
 refine (H3.out _ _ HF2.out).mono ?_
 rintro e w3 ⟨rfl,hb⟩
 have HF3 : Hid (FIn w3 (some ⟨w.heap.size,0,none⟩) 3 demo9):=HF2.out.below hb
 have HB3 : Hid (Below w1.heap.size w1 w3):=HB2.out.thru hb
 clear hb HF2 H3 HB2
 go_wp2_with fail
 refine (H4.out _ _ HF3.out).mono ?_
 rintro e w4 ⟨rfl,hb⟩
 have HB4 : Hid (Below w1.heap.size w1 w4):=HB3.out.thru hb
 obtain ⟨c0,c2⟩:=HC.out _ HB4.out
 clear hb HF3 H4 HB3
 go_wp2
 go_ret
 exact ⟨rfl,HB1.out.thru HB4.out⟩
end Go.Proofs.YtlbokicainimnaaGreatDoor
