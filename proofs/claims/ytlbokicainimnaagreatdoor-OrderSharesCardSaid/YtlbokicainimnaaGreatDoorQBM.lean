import Derived.Test.YtlbokicainimnaaGreatDoorQBJ
set_option maxRecDepth 100000
namespace Go.Proofs.YtlbokicainimnaaGreatDoor
open Go.RowKit
theorem one_made : mkD 1 0 = oneD:=by
 have h:=(mk_self oneD_ok).1
 have h1 : oneD.v = 1:=by decide
 rw [h1] at h
 exact h
theorem int_one (w : World) (htab : Tab w) : ∀ W,Below w.heap.size w W → Calls Tryz.prog 61 #[.int .i64 1] W fun e w'=>e = .returned (.agg #[.bool oneD.neg,.string (bs oneD.s),.int .i64 oneD.e]) ∧ Below W.heap.size W w':=int_c (by decide) (by decide) one_made w htab
set_option maxHeartbeats 4000000 in
theorem to64_v (a : Dc) (m : Int) (w : World) (htab : Tab w) (hsa : a.s.length ≤ 9223372036854775807) :
  Calls Tryz.prog 49 #[.agg #[.bool a.neg,.string (bs a.s),.int .i64 a.e],.int .i64 m] w (RatioQ (to64A a m) w):=by
 obtain ⟨R,hR⟩ : ∃ R,R = to64A a m:=⟨_,rfl⟩
 rw [← hR]
 have HR : Hid (R = to64A a m):=hR
 obtain ⟨w4,hw4⟩ : ∃ W,W = ((w.alloc (.cells #[.bool a.neg,.string (bs a.s),.int .i64 a.e] 35)).alloc (.cells #[.bool false,.bool false,.bool false] 76)):=⟨_,rfl⟩
 have hba : Below w.heap.size w w4:=by rw [hw4]; exact ((Below.refl _ _).alloc (Nat.le_refl _) _).alloc (by simp) _
 have hsz : w4.heap.size = w.heap.size + 2:=by rw [hw4]; simp
 have q0 : w4.heap[w.heap.size]? = some (.cells #[.bool a.neg,.string (bs a.s),.int .i64 a.e] 35 (0,0)):=by rw [hw4]; exact heap_alloc2_old w _ _
 have q1 : w4.heap[w.heap.size + 1]? = some (.cells #[.bool false,.bool false,.bool false] 76 (0,0)):=by rw [hw4]; exact heap_alloc2_new w _ _
 have HX : Hid (∀ W,Below w4.heap.size w4 W → W.heap[w.heap.size]? = some (.cells #[.bool a.neg,.string (bs a.s),.int .i64 a.e] 35 (0,0)) ∧ W.heap[w.heap.size + 1]? = some (.cells #[.bool false,.bool false,.bool false] 76 (0,0)) ∧ Below w.heap.size w W):=fun W hW=>
  ⟨hW.blk q0 (by omega),hW.blk q1 (by omega),hba.trans (hW.mono hba.size)⟩
 have HSZ : Hid (w4.heap.size = w.heap.size + 2):=hsz
 have H1 : Hid (∀ W,Below w4.heap.size w4 W → Calls Tryz.prog 61 #[.int .i64 1] W fun e w'=>e = .returned (.agg #[.bool oneD.neg,.string (bs oneD.s),.int .i64 oneD.e]) ∧ Below W.heap.size W w'):=int_one w4 (htab.below hba)
 have HRT : Hid (∀ W,Calls Tryz.prog 109 #[.agg #[.bool a.neg,.string (bs a.s),.int .i64 a.e],.agg #[.bool oneD.neg,.string (bs oneD.s),.int .i64 oneD.e],.int .i64 m] W (RatioQ R W)):=fun W=>by
  rw [hR]; exact ratio_v a oneD m W hsa (by decide)
 clear hR hba hsz q0 q1 hsa htab HR
 go_enter Tryz.func49,Tryz.ntmps49
 go_upto_region 1 with fail
 rw [← hw4]
 clear hw4
 have h1 : once [(7,0),(8,1),(9,2),(10,3),(11,4),(12,5),(13,6),(4,7)] = true:=by kernel_rfl
 have h2 : within [(7,0),(8,1),(9,2),(10,3),(11,4),(12,5),(13,6),(4,7)] 14 = true:=by kernel_rfl
 let S : Nat → (Nat → Value) → World → Prop:=fun i xs W=>match i with
  | 0=>xs 0 = .agg #[.bool a.neg,.string (bs a.s),.int .i64 a.e]
  | 1=>xs 1 = .agg #[.bool oneD.neg,.string (bs oneD.s),.int .i64 oneD.e]
  | 2=>xs 2 = .int .i64 m
  | 3=>xs 3 = .tuple #[.float .f64 R.bits,.agg #[.bool R.ine,.bool R.ov,.bool R.un],.int .i64 R.err]
  | 4=>xs 4 = .float .f64 R.bits
  | 5=>xs 5 = .agg #[.bool R.ine,.bool R.ov,.bool R.un]
  | 6=>xs 6 = .int .i64 R.err
  | 7=>xs 7 = .float .f64 R.bits
  | _=>True
 have hstab : ∀ j ys W W',S j ys W → Below W.heap.size W W' → S j ys W':=by
  intro j ys W W' h hb
  match j,h with
  | 0,h=>exact h
  | 1,h=>exact h
  | 2,h=>exact h
  | 3,h=>exact h
  | 4,h=>exact h
  | 5,h=>exact h
  | 6,h=>exact h
  | 7,h=>exact h
  | _ + 8,h=>exact trivial
 refine wp_region_flow3T 8 10 4 [(7,0),(8,1),(9,2),(10,3),(11,4),(12,5),(13,6),(4,7)] [] S (fun _ W=>(fun W=>Below w4.heap.size w4 W) W) ((Below.refl _ _).drew) (by kernel_rfl) (by kernel_rfl) (by kernel_rfl) (by decide) (by kernel_rfl) h1 (by kernel_rfl) ?_ ?_ ?_ ?_
 ·exact fun j hj=>by cases hj
 ·intro j xs ys W e h
  match j,e,h with
  | 0,e,h=>exact c_ (e 0 (.inl rfl)) h
  | 1,e,h=>exact c_ (e 1 (.inl rfl)) h
  | 2,e,h=>exact c_ (e 2 (.inl rfl)) h
  | 3,e,h=>exact c_ (e 3 (.inl rfl)) h
  | 4,e,h=>exact c_ (e 4 (.inl rfl)) h
  | 5,e,h=>exact c_ (e 5 (.inl rfl)) h
  | 6,e,h=>exact c_ (e 6 (.inl rfl)) h
  | 7,e,h=>exact c_ (e 7 (.inl rfl)) h
  | _ + 8,e,h=>exact trivial
 ·refine ⟨⟨⟨⟨⟨⟨⟨⟨trivial,?_⟩,?_⟩,?_⟩,?_⟩,?_⟩,?_⟩,?_⟩,?_⟩
  ·refine flow3_step _ (some 7) rfl rfl rfl h1 h2 gI gB hstab fun ac xs W Dn he hni hb hS K hK=>?_
   exact wp_load_row 35 (.tmp 2) rfl w.heap.size (he 2) _ _ _ _ ((HX.out W hb).1) Tryz.underlying35 rfl (by kernel_rfl) (hK _ _ rfl bR nA)
  ·refine flow3_step _ (some 8) rfl rfl rfl h1 h2 gI gB hstab fun ac xs W Dn he hni hb hS K hK=>?_
   refine op_call 61 _ _ rfl _ (by simp only [List.map,eval_const]) (by go_simp) (H1.out W hb) ?_
   rintro e' W' ⟨rfl,hb'⟩
   exact ⟨_,rfl,hK _ _ (rfl) hb' nA⟩
  ·refine flow3_step _ (some 9) rfl rfl rfl h1 h2 gI gB hstab fun ac xs W Dn he hni hb hS K hK=>?_
   exact op_move (.tmp 1) (.inl rfl) (hK _ _ (he 1) bR nA)
  ·refine flow3_step _ (some 10) rfl rfl rfl h1 h2 gI gB hstab fun ac xs W Dn he hni hb hS K hK=>?_
   have e0:=(he 7).trans (hS 0 (by kernel_rfl))
   have e1:=(he 8).trans (hS 1 (by kernel_rfl))
   have e2:=(he 9).trans (hS 2 (by kernel_rfl))
   refine op_call 109 _ _ rfl _ (by simp only [List.map,e0,e1,e2]) (by go_simp) (HRT.out W) ?_
   rintro e' W' ⟨rfl,hb'⟩
   exact ⟨_,rfl,hK _ _ (rfl) hb' nA⟩
  ·refine flow3_step _ (some 11) rfl rfl rfl h1 h2 gI gB hstab fun ac xs W Dn he hni hb hS K hK=>?_
   have e0:=(he 10).trans (hS 3 (by kernel_rfl))
   refine op_any (.extract (.tmp 10) 0) rfl (.float .f64 R.bits) (fun o' ho'=>?_) (hK _ _ rfl bR nA)
   simp only [execOp,ho',e0]
   go_simp
  ·refine flow3_step _ (some 12) rfl rfl rfl h1 h2 gI gB hstab fun ac xs W Dn he hni hb hS K hK=>?_
   have e0:=(he 10).trans (hS 3 (by kernel_rfl))
   refine op_any (.extract (.tmp 10) 1) rfl (.agg #[.bool R.ine,.bool R.ov,.bool R.un]) (fun o' ho'=>?_) (hK _ _ rfl bR nA)
   simp only [execOp,ho',e0]
   go_simp
  ·refine flow3_step _ (some 13) rfl rfl rfl h1 h2 gI gB hstab fun ac xs W Dn he hni hb hS K hK=>?_
   have e0:=(he 10).trans (hS 3 (by kernel_rfl))
   refine op_any (.extract (.tmp 10) 2) rfl (.int .i64 R.err) (fun o' ho'=>?_) (hK _ _ rfl bR nA)
   simp only [execOp,ho',e0]
   go_simp
  ·refine flow3_step _ (some 4) rfl rfl rfl h1 h2 gI gB hstab fun ac xs W Dn he hni hb hS K hK=>?_
   exact op_move (.tmp 11) (.inr rfl) (hK _ _ ((he 11).trans (hS 4 (by kernel_rfl))) bR nA)
 ·intro xs WL Dn hall hb hS hD
  have s5 : xs 5 = _:=hS 5 (by decide)
  have s6 : xs 6 = _:=hS 6 (by decide)
  have s7 : xs 7 = _:=hS 7 (by decide)
  have r2 : WL.heap[w.heap.size + 1]? = some (.cells #[.bool false,.bool false,.bool false] 76 (0,0)):=(HX.out _ hb).2.1
  obtain ⟨f0,c0,f1,c1,f2,c2,r3⟩:=rw3 r2
  have HR3 : Hid _:=r3
  have HBW : Hid (Below w.heap.size w WL):=(HX.out _ hb).2.2
  simp only [layAll,s5,s6,s7,List.setIfInBounds_toArray,List.set_cons_succ,List.set_cons_zero]
  clear hS hD hall hstab S hb r2 r3 s5 s6 s7 h1 h2
  go_wp2
  exact ratio_end (p:=4) (u:=5) (q:=6) rfl rfl rfl rfl (HR3.out _ _ _) (below_row3 HBW.out (by omega) _ _ _) rfl
theorem emp_slice {l : List UInt8} (h : l = []) : (bs l).toList.isEmpty = true:=by rw [bs_emp,decide_eq_true h]
theorem emp_not {l : List UInt8} (h : l ≠ []) : (bs l).toList.isEmpty = false:=by rw [bs_emp,decide_eq_false h]
end Go.Proofs.YtlbokicainimnaaGreatDoor
