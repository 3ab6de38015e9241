import Derived.Test.YtlbokicainimnaaGreatDoorQBC
import Derived.Test.YtlbokicainimnaaGreatDoorQAT
import Derived.Test.YtlbokicainimnaaGreatDoorQRR
namespace Go.Proofs.YtlbokicainimnaaGreatDoor
open Go.RowKit
theorem float53_rat (mode : Int) (hm : 1 ≤ mode ∧ mode ≤ 6) (neg : Bool) (a a' : Option Addr) (m c m' c' M D : Nat) (w : World) (hM : Num .u64 18446744073709551616 w (.slice a m c) M) (hD : Num .u64 18446744073709551616 w (.slice a' m' c') D) {bb : Nat} (hb1 : M < 2 ^ bb) (hb2 : D < 2 ^ bb) (hbb : bb ≤ 900000) (hM0 : 0 < M) (hD0 : 0 < D) :
  Calls Tryz.prog 228 #[.agg #[.bool neg,.bool false,.bool false,.slice a m c,.bool false,.slice a' m' c'],.agg #[.int .i64 53,.int .i64 (-1074),.int .i64 971],.int .i64 mode] w (FloatQ (outG 53 (-1074) 971 neg mode (ratMag M D 0)) w):=by
 obtain ⟨n0,hn0⟩ : ∃ n,n = (blen M : Int) - blen D:=⟨_,rfl⟩
 have hpl : max (-1074) (n0 - 55) = -1074 ∨ 2 ^ 53 ≤ (ratMag M D 0).Q (max (-1074) (n0 - 55)):=by
  by_cases h : n0 - 55 ≤ -1074
  ·left; omega
  ·right; exact toQ_ge (by omega) hD0 (by omega)
 have hq : (ratMag M D 0).Q (max (-1074) (n0 - 55)) < 2 ^ 57:=toQ_lt (by omega) hD0 (by omega)
 exact float53_walk mode hm neg false a a' m c m' c' M D (ratMag M D 0) n0 w hM hD hb1 hb2 hbb (ratMag_ok hD0) (ratMag_half _ _ _) (fun W e hW h1 h2=>at_rat neg a a' m c m' c' M D e W (hM.below (Nat.le_refl _) hW) (hD.below (Nat.le_refl _) hW) hb1 hb2 (by omega) h1 h2) hn0 hpl hq (by decide)
end Go.Proofs.YtlbokicainimnaaGreatDoor
set_option maxRecDepth 100000
namespace Go.Proofs.YtlbokicainimnaaGreatDoor
open Go.RowKit
theorem out_inf {b : Nat} {L T : Int} {neg : Bool} {mode : Int} {g : Mag} (h : (outG b L T neg mode g).inf = true) : (outG b L T neg mode g).m = 0 ∧ (outG b L T neg mode g).e = 0:=by
 unfold outG outW at h ⊢
 generalize kW neg mode (g.Q (eOf b L g)) (g.H (eOf b L g)) (g.Z (eOf b L g)) = K at *
 by_cases h1 : T < (if K = 2 ^ b then eOf b L g + 1 else eOf b L g)
 ·rw [if_pos h1] at h ⊢
  by_cases h2 : maxW mode neg = true
  ·rw [if_pos h2] at h; cases h
  ·rw [if_neg h2]
   exact ⟨rfl,rfl⟩
 ·rw [if_neg h1] at h; cases h
def NumberQ (neg : Bool) (o : Out) (w : World) (e : Ending) (w' : World) : Prop:=e = .returned (.tuple #[.float .f64 (bits64 neg o),.agg #[.bool o.ine,.bool o.ov,.bool o.un]]) ∧ Below w.heap.size w w'
theorem results_tc {fn : Func} {p u : Tmp} {ty : TypeId} (h : fn.results = #[.tmp p, .cell u ty]) (tmps : Array Value) (P : Program) (w : World) :
  (results fn tmps).run P w =
   ((asAddr (tmps.getD u undef)).run P w).andThen fun a w₁=>((loadVar ty a).run P w₁).andThen fun x w₂=>.ok (.tuple #[tmps.getD p undef,x]) w₂:=by
 simp only [results,h]
 simp [Sem.run_bind,Result.andThen]
theorem number_end {fn : Func} {p u : Tmp} (hf : fn.results = #[.tmp p, .cell u 76]) {tmps : Array Value} {w0 w : World} {g0 x : Nat} {a b c neg : Bool} {o : Out}
  (hp : tmps.getD p undef = .float .f64 x) (hu : tmps.getD u undef = .pointer (some ⟨g0,0,none⟩))
  (hg : w.heap[g0]? = some (.cells #[.bool a,.bool b,.bool c] 76 (0,0))) (hb : Below w0.heap.size w0 w) (hx : x = bits64 neg o) (ho : a = o.ine ∧ b = o.ov ∧ c = o.un) : bodyPost Tryz.prog fn (NumberQ neg o w0) .ret ⟨tmps,[]⟩ w:=by
 obtain ⟨rfl,rfl,rfl⟩:=ho
 subst hx
 have hu' : tmps[u]?.getD undef = .pointer (some ⟨g0,0,none⟩):=by simpa using hu
 refine bodyPost_ret (v:=.tuple #[tmps.getD p undef,.agg #[.bool o.ine,.bool o.ov,.bool o.un]]) ?_ rfl ⟨?_,hb⟩
 ·rw [results_tc hf]
  simp [hu',asAddr,run_loadVar_row (P:=Tryz.prog) w g0 _ 76 #[.bool o.ine,.bool o.ov,.bool o.un] (0,0) _ hg Tryz.underlying76 rfl (by kernel_rfl),Result.andThen]
 ·show _ = Ending.returned (.tuple #[_,_])
  rw [hp]
theorem flip_low {x : Nat} (h : x < 9223372036854775808) : Go.Op.negFloat .f64 x = 9223372036854775808 + x:=by
 rw [negFloat_D x (by unfold W64; omega),if_neg (by unfold sgnB; simp; omega)]
 omega
set_option maxHeartbeats 8000000 in
theorem number_walk (mode : Int) (neg rt : Bool) (a a' : Option Addr) (m c m' c' : Nat) (O : Out) (w : World)
  (hf : ∀ W,Below w.heap.size w W → Calls Tryz.prog 228 #[.agg #[.bool neg,.bool rt,.bool false,.slice a m c,.bool false,.slice a' m' c'],.agg #[.int .i64 53,.int .i64 (-1074),.int .i64 971],.int .i64 mode] W (FloatQ O W))
  (hr : (O.inf = true ∧ O.m = 0 ∧ O.e = 0) ∨ (O.inf = false ∧ O.m < 2 ^ 53 ∧ -1074 ≤ O.e ∧ O.e ≤ 971 ∧ (O.e = -1074 ∨ 2 ^ 52 ≤ O.m))) :
  Calls Tryz.prog 169 #[.agg #[.bool neg,.bool rt,.bool false,.slice a m c,.bool false,.slice a' m' c'],.int .i64 mode] w (NumberQ neg O w):=by
 obtain ⟨w2,hw2⟩ : ∃ W,W = ((w.alloc (.cells #[.bool neg,.bool rt,.bool false,.slice a m c,.bool false,.slice a' m' c'] 202)).alloc (.cells #[.bool false,.bool false,.bool false] 76)):=⟨_,rfl⟩
 have hba : Below w.heap.size w w2:=by rw [hw2]; exact ((Below.refl _ _).alloc (Nat.le_refl _) _).alloc (by simp) _
 have q0 : w2.heap[w.heap.size]? = some (.cells #[.bool neg,.bool rt,.bool false,.slice a m c,.bool false,.slice a' m' c'] 202 (0,0)):=by rw [hw2]; exact (heap_alloc_old _ _ (by simp)).trans (heap_alloc_new _ _)
 have q1 : w2.heap[w.heap.size + 1]? = some (.cells #[.bool false,.bool false,.bool false] 76 (0,0)):=by rw [hw2]; exact heap_alloc2_new w _ _
 have hsz : w2.heap.size = w.heap.size + 2:=by rw [hw2]; simp
 have HX : Hid (∀ W,Below w2.heap.size w2 W → W.heap[w.heap.size]? = some (.cells #[.bool neg,.bool rt,.bool false,.slice a m c,.bool false,.slice a' m' c'] 202 (0,0)) ∧ W.heap[w.heap.size + 1]? = some (.cells #[.bool false,.bool false,.bool false] 76 (0,0)) ∧ Below w.heap.size w W):=fun W hW=>
  ⟨hW.blk q0 (by omega),hW.blk q1 (by omega),hba.trans (hW.mono hba.size)⟩
 have HSZ : Hid (w2.heap.size = w.heap.size + 2):=hsz
 have HF : Hid (∀ W,Below w2.heap.size w2 W → Calls Tryz.prog 228 #[.agg #[.bool neg,.bool rt,.bool false,.slice a m c,.bool false,.slice a' m' c'],.agg #[.int .i64 53,.int .i64 (-1074),.int .i64 971],.int .i64 mode] W (FloatQ O W)):=fun W hW=>hf W (hba.trans (hW.mono hba.size))
 have HR : Hid _:=hr
 clear hf hba q0 q1 hsz hr
 go_enter Tryz.func169,Tryz.ntmps169
 go_upto_region 1 with fail
 rw [← hw2]
 clear hw2
 have h1 : once [(12,0),(13,1),(14,2),(15,3),(11,4),(16,5),(17,6),(18,7),(19,8),(9,9),(6,10),(7,11),(8,12)] = true:=by kernel_rfl
 have h2 : within [(12,0),(13,1),(14,2),(15,3),(11,4),(16,5),(17,6),(18,7),(19,8),(9,9),(6,10),(7,11),(8,12)] 32 = true:=by kernel_rfl
 let S : Nat → (Nat → Value) → World → Prop:=fun i xs W=>match i with
  | 0=>xs 0 = .agg #[.bool neg,.bool rt,.bool false,.slice a m c,.bool false,.slice a' m' c']
  | 1=>xs 1 = .agg #[.int .i64 53,.int .i64 (-1074),.int .i64 971]
  | 2=>xs 2 = .int .i64 mode
  | 3=>xs 3 = .tuple #[.int .u64 (O.m : Nat),.int .i64 O.e,.bool O.inf,.agg #[.bool O.ine,.bool O.ov,.bool O.un]]
  | 4=>xs 4 = .tuple #[.int .u64 (O.m : Nat),.int .i64 O.e,.bool O.inf,.agg #[.bool O.ine,.bool O.ov,.bool O.un]]
  | 5=>xs 5 = .int .u64 (O.m : Nat)
  | 6=>xs 6 = .int .i64 O.e
  | 7=>xs 7 = .bool O.inf
  | 8=>xs 8 = .agg #[.bool O.ine,.bool O.ov,.bool O.un]
  | 9=>∃ g x y z,xs 9 = .pointer (some ⟨g,0,none⟩) ∧ w2.heap.size ≤ g ∧ g < W.heap.size ∧ W.heap[g]? = some (.cells #[x,y,z] 76 (0,0))
  | 10=>xs 10 = .int .u64 (O.m : Nat)
  | 11=>xs 11 = .int .i64 O.e
  | 12=>xs 12 = .bool O.inf
  | 13=>∃ g,xs 9 = .pointer (some ⟨g,0,none⟩) ∧ w2.heap.size ≤ g ∧ W.heap[g]? = some (.cells #[.bool O.ine,.bool O.ov,.bool O.un] 76 (0,0))
  | _=>True
 have hstab : ∀ j ys W W',S j ys W → Below W.heap.size W W' → S j ys W':=by
  intro j ys W W' h hb
  match j,h with
  | 0,h=>exact h
  | 1,h=>exact h
  | 2,h=>exact h
  | 3,h=>exact h
  | 4,h=>exact h
  | 5,h=>exact h
  | 6,h=>exact h
  | 7,h=>exact h
  | 8,h=>exact h
  | 9,⟨g,x,y,z,s1,s2,s3,s4⟩=>exact ⟨g,x,y,z,s1,s2,Nat.lt_of_lt_of_le s3 hb.size,hb.blk s4 s3⟩
  | 10,h=>exact h
  | 11,h=>exact h
  | 12,h=>exact h
  | 13,⟨g,s1,s2,s4⟩=>exact ⟨g,s1,s2,hb.blk s4 (blk_lt s4)⟩
  | _ + 14,h=>exact trivial
 refine wp_region_flow3 14 14 [(12,0),(13,1),(14,2),(15,3),(11,4),(16,5),(17,6),(18,7),(19,8),(9,9),(6,10),(7,11),(8,12)] [9] S (fun _ W=>Below w2.heap.size w2 W) ((Below.refl _ _).drew) (by kernel_rfl) (by kernel_rfl) (by kernel_rfl) (by decide) (by kernel_rfl) h1 (by kernel_rfl) ?_ ?_ ?_ ?_
 ·intro j hj xs W h
  simp only [List.mem_cons,List.not_mem_nil,or_false] at hj
  subst hj
  obtain ⟨g,_,_,_,s1,_,s3,_⟩:=h; exact ⟨g,s1,s3⟩
 ·intro j xs ys W e h
  match j,e,h with
  | 0,e,h=>exact c_ (e 0 (.inl rfl)) h
  | 1,e,h=>exact c_ (e 1 (.inl rfl)) h
  | 2,e,h=>exact c_ (e 2 (.inl rfl)) h
  | 3,e,h=>exact c_ (e 3 (.inl rfl)) h
  | 4,e,h=>exact c_ (e 4 (.inl rfl)) h
  | 5,e,h=>exact c_ (e 5 (.inl rfl)) h
  | 6,e,h=>exact c_ (e 6 (.inl rfl)) h
  | 7,e,h=>exact c_ (e 7 (.inl rfl)) h
  | 8,e,h=>exact c_ (e 8 (.inl rfl)) h
  | 9,e,⟨g,x,y,z,s1,r⟩=>exact ⟨g,x,y,z,(e 9 (.inl rfl)).symm.trans s1,r⟩
  | 10,e,h=>exact c_ (e 10 (.inl rfl)) h
  | 11,e,h=>exact c_ (e 11 (.inl rfl)) h
  | 12,e,h=>exact c_ (e 12 (.inl rfl)) h
  | 13,e,⟨g,s1,r⟩=>exact ⟨g,(e 9 (.inr (by kernel_rfl))).symm.trans s1,r⟩
  | _ + 14,e,h=>exact trivial
 ·refine ⟨⟨⟨⟨⟨⟨⟨⟨⟨⟨⟨⟨⟨⟨trivial,?_⟩,?_⟩,?_⟩,?_⟩,?_⟩,?_⟩,?_⟩,?_⟩,?_⟩,?_⟩,?_⟩,?_⟩,?_⟩,?_⟩
  ·refine flow3_step _ (some 12) rfl rfl rfl h1 h2 gI gB hstab fun ac xs W D he hni hb hS K hK=>?_
   exact wp_load_row 202 (.tmp 2) rfl w.heap.size (he 2) _ _ _ _ ((HX.out W hb).1) Tryz.underlying202 rfl (by kernel_rfl) (hK _ _ rfl bR (fun h=>absurd h (by decide)))
  ·refine flow3_step _ (some 13) rfl rfl rfl h1 h2 gI gB hstab fun ac xs W D he hni hb hS K hK=>?_
   refine op_call 229 _ _ rfl _ (by simp only [List.map]) (by go_simp) (numbers_v W) ?_
   rintro e' W' ⟨rfl,hb'⟩
   exact ⟨_,rfl,hK _ _ (rfl) hb' (fun h=>absurd h (by decide))⟩
  ·refine flow3_step _ (some 14) rfl rfl rfl h1 h2 gI gB hstab fun ac xs W D he hni hb hS K hK=>?_
   exact op_move (.tmp 1) (.inl rfl) (hK _ _ (he 1) bR (fun h=>absurd h (by decide)))
  ·refine flow3_step _ (some 15) rfl rfl rfl h1 h2 gI gB hstab fun ac xs W D he hni hb hS K hK=>?_
   have e0:=(he 12).trans (hS 0 (by kernel_rfl))
   have e1:=(he 13).trans (hS 1 (by kernel_rfl))
   have e2:=(he 14).trans (hS 2 (by kernel_rfl))
   refine op_call 228 _ _ rfl _ (by simp only [List.map,e0,e1,e2]) (by go_simp) (HF.out W hb) ?_
   rintro e' W' ⟨rfl,hb'⟩
   exact ⟨_,rfl,hK _ _ (rfl) hb' (fun h=>absurd h (by decide))⟩
  ·refine flow3_step _ (some 11) rfl rfl rfl h1 h2 gI gB hstab fun ac xs W D he hni hb hS K hK=>?_
   exact op_move (.tmp 15) (.inl rfl) (hK _ _ ((he 15).trans (hS 3 (by kernel_rfl))) bR (fun h=>absurd h (by decide)))
  ·refine flow3_step _ (some 16) rfl rfl rfl h1 h2 gI gB hstab fun ac xs W D he hni hb hS K hK=>?_
   have e0:=(he 11).trans (hS 4 (by kernel_rfl))
   refine op_any (.extract (.tmp 11) 0) rfl (.int .u64 (O.m : Nat)) (fun o' ho'=>?_) (hK _ _ rfl bR (fun h=>absurd h (by decide)))
   simp only [execOp,ho',e0]
   go_simp
  ·refine flow3_step _ (some 17) rfl rfl rfl h1 h2 gI gB hstab fun ac xs W D he hni hb hS K hK=>?_
   have e0:=(he 11).trans (hS 4 (by kernel_rfl))
   refine op_any (.extract (.tmp 11) 1) rfl (.int .i64 O.e) (fun o' ho'=>?_) (hK _ _ rfl bR (fun h=>absurd h (by decide)))
   simp only [execOp,ho',e0]
   go_simp
  ·refine flow3_step _ (some 18) rfl rfl rfl h1 h2 gI gB hstab fun ac xs W D he hni hb hS K hK=>?_
   have e0:=(he 11).trans (hS 4 (by kernel_rfl))
   refine op_any (.extract (.tmp 11) 2) rfl (.bool O.inf) (fun o' ho'=>?_) (hK _ _ rfl bR (fun h=>absurd h (by decide)))
   simp only [execOp,ho',e0]
   go_simp
  ·refine flow3_step _ (some 19) rfl rfl rfl h1 h2 gI gB hstab fun ac xs W D he hni hb hS K hK=>?_
   have e0:=(he 11).trans (hS 4 (by kernel_rfl))
   refine op_any (.extract (.tmp 11) 3) rfl (.agg #[.bool O.ine,.bool O.ov,.bool O.un]) (fun o' ho'=>?_) (hK _ _ rfl bR (fun h=>absurd h (by decide)))
   simp only [execOp,ho',e0]
   go_simp
  ·refine flow3_step _ (some 9) rfl rfl rfl h1 h2 gI gB hstab fun ac xs W D he hni hb hS K hK=>?_
   have hsz:=hb.size
   refine op_anyw (.alloc 76) rfl (.pointer (some ⟨W.heap.size,0,none⟩)) (W.alloc (.cells #[.bool false,.bool false,.bool false] 76)) ?_ ?_
   ·intro o' ho'
    simp only [execOp,ho']
    go_simp
   ·exact hK _ _ ⟨_,_,_,_,rfl,by omega,by simp,heap_alloc_new _ _⟩ (bR.alloc (Nat.le_refl _) _) (fun _=>rfl)
  ·refine flow3_step _ (some 6) rfl rfl rfl h1 h2 gI gB hstab fun ac xs W D he hni hb hS K hK=>?_
   exact op_move (.tmp 16) (.inr rfl) (hK _ _ ((he 16).trans (hS 5 (by kernel_rfl))) bR (fun h=>absurd h (by decide)))
  ·refine flow3_step _ (some 7) rfl rfl rfl h1 h2 gI gB hstab fun ac xs W D he hni hb hS K hK=>?_
   exact op_move (.tmp 17) (.inr rfl) (hK _ _ ((he 17).trans (hS 6 (by kernel_rfl))) bR (fun h=>absurd h (by decide)))
  ·refine flow3_step _ (some 8) rfl rfl rfl h1 h2 gI gB hstab fun ac xs W D he hni hb hS K hK=>?_
   exact op_move (.tmp 18) (.inr rfl) (hK _ _ ((he 18).trans (hS 7 (by kernel_rfl))) bR (fun h=>absurd h (by decide)))
  ·refine flow3_store _ rfl rfl rfl h1 h2 (by decide) fun ac xs W D he hni hb hS K hK=>?_
   obtain ⟨g,z1,z2,z3,s1,s2,s3,s4⟩:=hS 9 (by kernel_rfl)
   have hvy : ac.eval (.tmp 19) = .agg #[.bool O.ine,.bool O.ov,.bool O.un]:=(he 19).trans (hS 8 (by kernel_rfl))
   refine wp_store_row 76 (.tmp 9) (.tmp 19) rfl g #[.bool O.ine,.bool O.ov,.bool O.un] ((he 9).trans s1) hvy _ _ s4 (by kernel_rfl) rfl (by simp [Value.oneCell']) ?_
   have hself:=setRow_heap W g _ #[.bool O.ine,.bool O.ov,.bool O.un] 76 (0,0) s4
   refine hK _ ⟨g,s1,s2,hself⟩ (below_setRow hb s2 _) ?_
   intro j ys h
   match j,h with
   | 0,h=>exact h
   | 1,h=>exact h
   | 2,h=>exact h
   | 3,h=>exact h
   | 4,h=>exact h
   | 5,h=>exact h
   | 6,h=>exact h
   | 7,h=>exact h
   | 8,h=>exact h
   | 9, ⟨g1, x, y, z, u1, u2, u3, u4⟩ =>
     by_cases hg : g1 = g
     ·subst hg; exact ⟨g1,_,_,_,u1,u2,by rw [setRow_size]; exact u3,hself⟩
     ·exact ⟨g1,x,y,z,u1,u2,by rw [setRow_size]; exact u3,(setRow_other W g g1 _ hg).trans u4⟩
   | 10,h=>exact h
   | 11,h=>exact h
   | 12,h=>exact h
   | 13, ⟨g1, u1, u2, u4⟩ =>
     by_cases hg : g1 = g
     ·subst hg; exact ⟨g1,u1,u2,hself⟩
     ·exact ⟨g1,u1,u2,(setRow_other W g g1 _ hg).trans u4⟩
   | _ + 14,h=>exact trivial
 ·intro xs w3 D hall hb hS hD
  have s10 : xs 10 = _:=hS 10 (by decide)
  have s11 : xs 11 = _:=hS 11 (by decide)
  have s12 : xs 12 = _:=hS 12 (by decide)
  obtain ⟨gf,s9,hgf,hrf⟩:=hS 13 (by decide)
  simp only [layAll,s9,s10,s11,s12,List.setIfInBounds_toArray,List.set_cons_succ,List.set_cons_zero]
  clear hS hD hall hstab S s9 s10 s11 s12 h1 h2
  have HB3 : Hid (Below w2.heap.size w2 w3):=hb
  clear hb
  show wpList Tryz.prog _ _ [] _ _
  have HRF : Hid (w3.heap[gf]? = some (.cells #[.bool O.ine,.bool O.ov,.bool O.un] 76 (0,0))):=hrf
  have HGF : Hid (w2.heap.size ≤ gf):=hgf
  clear hrf hgf
  obtain ⟨x,hx⟩ : ∃ x,x = O.rung 53 (-1074) 971:=⟨_,rfl⟩
  have HXX : Hid (bits64 neg O = (if neg = true then 9223372036854775808 else 0) + x):=by show _ = _; rw [hx]; rfl
  have hbig : x ≤ 9218868437227405312 ∧ O.m ≤ 9007199254740992 ∧ -1000000 ≤ O.e ∧ O.e ≤ 1000000 ∧ (O.inf = true → x = 9218868437227405312) ∧ (O.inf = false → Ieee.double.nearest false O.m O.e = x):=by
   unfold Out.rung at hx
   rcases HR.out with ⟨h1,h2,h3⟩ | ⟨h1,h2,h3,h4,h5⟩
   ·rw [if_pos h1] at hx
    have hx2 : x = 9218868437227405312:=hx
    refine ⟨by omega,by omega,by omega,by omega,fun _=>hx2,fun h=>?_⟩
    rw [h1] at h; cases h
   ·rw [if_neg (by rw [h1]; decide)] at hx
    have hx2 : x = (O.e + 1074).toNat * 4503599627370496 + O.m:=by rw [hx,show O.e - -1074 = O.e + 1074 by omega]
    refine ⟨by omega,by omega,by omega,by omega,fun h=>?_,fun _=>?_⟩
    ·rw [h1] at h; cases h
    ·rw [hx2]
     exact nearest_rung O.m O.m O.e O.e 0 (by omega) (by omega) (by omega) h3 h4 (by omega)
  obtain ⟨xm,hxm⟩ : ∃ y,y = O.m:=⟨_,rfl⟩
  obtain ⟨xe,hxe⟩ : ∃ y,y = O.e:=⟨_,rfl⟩
  obtain ⟨xi,hxi⟩ : ∃ y,y = O.inf:=⟨_,rfl⟩
  rw [← hxm,← hxe,← hxi] at hbig ⊢
  obtain ⟨hb1,hb2,hb3,hb4,hb5,hb6⟩:=hbig
  clear hx hxm hxe hxi
  have HL : Hid (∀ W,Calls Tryz.prog 198 #[.float .f64 (floatOfInt .f64 xm),.int .i64 xe] W fun e' w'=>e' = .returned (.float .f64 (Ieee.double.nearest false xm xe)) ∧ W = w'):=fun W=>ldexp_any xm xe W hb2 hb3 hb4
  have HXB : Hid (x ≤ 9218868437227405312):=hb1
  obtain ⟨y,hy⟩ : ∃ y,y = Ieee.double.nearest false xm xe:=⟨_,rfl⟩
  rw [← hy] at HL hb6
  clear hy hb1 hb2 hb3 hb4
  have r0:=(HX.out _ HB3.out).1
  have b0:=cell_of_row w3 w.heap.size 0 _ _ _ r0
  have HRES : Hid (∀ W,Below w3.heap.size w3 W → W.heap[gf]? = some (.cells #[.bool O.ine,.bool O.ov,.bool O.un] 76 (0,0))):=fun W hW=>hW.blk HRF.out (blk_lt HRF.out)
  clear r0 HF HR
  have hfl : Go.Op.negFloat .f64 x = 9223372036854775808 + x:=flip_low (by have:=HXB.out; omega)
  cases xi
  ·have hyx : y = x:=by exact hb6 rfl
   clear hb5 hb6
   subst hyx
   cases neg
   ·go_wp2_with fail
    refine (HL.out _).mono ?_
    rintro e w4 ⟨rfl,rfl⟩
    go_wp2_with (first | (go_at_call 141; refine (inf_one _).mono ?_; rintro e w' ⟨rfl,rfl⟩) | fail)
    clear b0
    have h1 : once [(30,0),(31,1),(4,2)] = true:=by kernel_rfl
    have h2 : within [(30,0),(31,1),(4,2)] 32 = true:=by kernel_rfl
    refine wp_region_flow 3 4 [(30,0),(31,1),(4,2)] [] (fun i v W=>match i with
     | 0=>v = .float .f64 y
     | 1=>v = .agg #[.bool O.ine,.bool O.ov,.bool O.un]
     | _=>v = .float .f64 y) w3.heap.size (Nat.le_refl _) (by kernel_rfl) (by kernel_rfl) (by kernel_rfl) (by decide) (by kernel_rfl) h1 (by kernel_rfl) ?_ ?_ ?_ ?_
    ·intro j v W W' h hb
     match j,h with
     | 0,h=>exact h
     | 1,h=>exact h
     | _ + 2,h=>exact h
    ·exact fun j hj=>by cases hj
    ·refine ⟨⟨⟨trivial,?_⟩,?_⟩,?_⟩
     ·refine flow_step _ 30 rfl rfl (fun d h=>by simpa using h) h1 h2 fun ac xs W he hb hS K hK=>?_
      exact op_move (.tmp 10) (.inl rfl) (hK _ _ (he 10) bR nA)
     ·refine flow_step _ 31 rfl rfl (fun d h=>by simpa using h) h1 h2 fun ac xs W he hb hS K hK=>?_
      exact wp_load_row 76 (.tmp 9) rfl gf (he 9) _ _ _ _ (hb.blk HRF.out (blk_lt HRF.out)) Tryz.underlying76 rfl (by kernel_rfl) (hK _ _ rfl bR nA)
     ·refine flow_step _ 4 rfl rfl (fun d h=>by simpa using h) h1 h2 fun ac xs W he hb hS K hK=>?_
      exact op_move (.tmp 30) (.inr rfl) (hK _ _ ((he 30).trans (hS 0 (by kernel_rfl))) bR nA)
    ·intro xs WL hb hS hD
     have s0 : xs 0 = _:=hS 0 (by decide)
     have s1 : xs 1 = _:=hS 1 (by decide)
     have s2 : xs 2 = _:=hS 2 (by decide)
     have HBL : Hid (Below w2.heap.size w2 WL):=HB3.out.thru hb
     have r2 : WL.heap[w.heap.size + 1]? = some (.cells #[.bool false,.bool false,.bool false] 76 (0,0)):=(HX.out _ HBL.out).2.1
     obtain ⟨f0,c0,f1,c1,f2,c2,r3⟩:=rw3 r2
     have HR3 : Hid _:=r3
     have HBW : Hid (Below w.heap.size w WL):=(HX.out _ HBL.out).2.2
     simp only [layAll,s0,s1,s2,List.setIfInBounds_toArray,List.set_cons_succ,List.set_cons_zero]
     clear hS hD hb r2 r3 s0 s1 s2 h1 h2
     go_wp2
     exact number_end (p:=4) (u:=5) rfl rfl rfl (HR3.out _ _ _) (below_row3 HBW.out (by omega) _ _ _) (by rw [HXX.out]; simp) ⟨rfl,rfl,rfl⟩
   ·go_wp2_with fail
    refine (HL.out _).mono ?_
    rintro e w4 ⟨rfl,rfl⟩
    go_wp2_with (first | (go_at_call 141; refine (inf_one _).mono ?_; rintro e w' ⟨rfl,rfl⟩) | fail)
    clear b0
    have h1 : once [(30,0),(31,1),(4,2)] = true:=by kernel_rfl
    have h2 : within [(30,0),(31,1),(4,2)] 32 = true:=by kernel_rfl
    refine wp_region_flow 3 4 [(30,0),(31,1),(4,2)] [] (fun i v W=>match i with
     | 0=>v = .float .f64 (9223372036854775808 + y)
     | 1=>v = .agg #[.bool O.ine,.bool O.ov,.bool O.un]
     | _=>v = .float .f64 (9223372036854775808 + y)) w3.heap.size (Nat.le_refl _) (by kernel_rfl) (by kernel_rfl) (by kernel_rfl) (by decide) (by kernel_rfl) h1 (by kernel_rfl) ?_ ?_ ?_ ?_
    ·intro j v W W' h hb
     match j,h with
     | 0,h=>exact h
     | 1,h=>exact h
     | _ + 2,h=>exact h
    ·exact fun j hj=>by cases hj
    ·refine ⟨⟨⟨trivial,?_⟩,?_⟩,?_⟩
     ·refine flow_step _ 30 rfl rfl (fun d h=>by simpa using h) h1 h2 fun ac xs W he hb hS K hK=>?_
      exact op_move (.tmp 10) (.inl rfl) (hK _ _ (he 10) bR nA)
     ·refine flow_step _ 31 rfl rfl (fun d h=>by simpa using h) h1 h2 fun ac xs W he hb hS K hK=>?_
      exact wp_load_row 76 (.tmp 9) rfl gf (he 9) _ _ _ _ (hb.blk HRF.out (blk_lt HRF.out)) Tryz.underlying76 rfl (by kernel_rfl) (hK _ _ rfl bR nA)
     ·refine flow_step _ 4 rfl rfl (fun d h=>by simpa using h) h1 h2 fun ac xs W he hb hS K hK=>?_
      exact op_move (.tmp 30) (.inr rfl) (hK _ _ ((he 30).trans (hS 0 (by kernel_rfl))) bR nA)
    ·intro xs WL hb hS hD
     have s0 : xs 0 = _:=hS 0 (by decide)
     have s1 : xs 1 = _:=hS 1 (by decide)
     have s2 : xs 2 = _:=hS 2 (by decide)
     have HBL : Hid (Below w2.heap.size w2 WL):=HB3.out.thru hb
     have r2 : WL.heap[w.heap.size + 1]? = some (.cells #[.bool false,.bool false,.bool false] 76 (0,0)):=(HX.out _ HBL.out).2.1
     obtain ⟨f0,c0,f1,c1,f2,c2,r3⟩:=rw3 r2
     have HR3 : Hid _:=r3
     have HBW : Hid (Below w.heap.size w WL):=(HX.out _ HBL.out).2.2
     simp only [layAll,s0,s1,s2,List.setIfInBounds_toArray,List.set_cons_succ,List.set_cons_zero]
     clear hS hD hb r2 r3 s0 s1 s2 h1 h2
     go_wp2
     exact number_end (p:=4) (u:=5) rfl rfl rfl (HR3.out _ _ _) (below_row3 HBW.out (by omega) _ _ _) (by rw [HXX.out]; simp) ⟨rfl,rfl,rfl⟩
  ·have hyx : x = 9218868437227405312:=by exact hb5 rfl
   clear hb5 hb6
   subst hyx
   cases neg
   ·go_wp2_with fail
    refine (HL.out _).mono ?_
    rintro e w4 ⟨rfl,rfl⟩
    go_wp2_with (first | (go_at_call 141; refine (inf_one _).mono ?_; rintro e w' ⟨rfl,rfl⟩) | fail)
    clear b0
    have h1 : once [(30,0),(31,1),(4,2)] = true:=by kernel_rfl
    have h2 : within [(30,0),(31,1),(4,2)] 32 = true:=by kernel_rfl
    refine wp_region_flow 3 4 [(30,0),(31,1),(4,2)] [] (fun i v W=>match i with
     | 0=>v = .float .f64 9218868437227405312
     | 1=>v = .agg #[.bool O.ine,.bool O.ov,.bool O.un]
     | _=>v = .float .f64 9218868437227405312) w3.heap.size (Nat.le_refl _) (by kernel_rfl) (by kernel_rfl) (by kernel_rfl) (by decide) (by kernel_rfl) h1 (by kernel_rfl) ?_ ?_ ?_ ?_
    ·intro j v W W' h hb
     match j,h with
     | 0,h=>exact h
     | 1,h=>exact h
     | _ + 2,h=>exact h
    ·exact fun j hj=>by cases hj
    ·refine ⟨⟨⟨trivial,?_⟩,?_⟩,?_⟩
     ·refine flow_step _ 30 rfl rfl (fun d h=>by simpa using h) h1 h2 fun ac xs W he hb hS K hK=>?_
      exact op_move (.tmp 10) (.inl rfl) (hK _ _ (he 10) bR nA)
     ·refine flow_step _ 31 rfl rfl (fun d h=>by simpa using h) h1 h2 fun ac xs W he hb hS K hK=>?_
      exact wp_load_row 76 (.tmp 9) rfl gf (he 9) _ _ _ _ (hb.blk HRF.out (blk_lt HRF.out)) Tryz.underlying76 rfl (by kernel_rfl) (hK _ _ rfl bR nA)
     ·refine flow_step _ 4 rfl rfl (fun d h=>by simpa using h) h1 h2 fun ac xs W he hb hS K hK=>?_
      exact op_move (.tmp 30) (.inr rfl) (hK _ _ ((he 30).trans (hS 0 (by kernel_rfl))) bR nA)
    ·intro xs WL hb hS hD
     have s0 : xs 0 = _:=hS 0 (by decide)
     have s1 : xs 1 = _:=hS 1 (by decide)
     have s2 : xs 2 = _:=hS 2 (by decide)
     have HBL : Hid (Below w2.heap.size w2 WL):=HB3.out.thru hb
     have r2 : WL.heap[w.heap.size + 1]? = some (.cells #[.bool false,.bool false,.bool false] 76 (0,0)):=(HX.out _ HBL.out).2.1
     obtain ⟨f0,c0,f1,c1,f2,c2,r3⟩:=rw3 r2
     have HR3 : Hid _:=r3
     have HBW : Hid (Below w.heap.size w WL):=(HX.out _ HBL.out).2.2
     simp only [layAll,s0,s1,s2,List.setIfInBounds_toArray,List.set_cons_succ,List.set_cons_zero]
     clear hS hD hb r2 r3 s0 s1 s2 h1 h2
     go_wp2
     exact number_end (p:=4) (u:=5) rfl rfl rfl (HR3.out _ _ _) (below_row3 HBW.out (by omega) _ _ _) (by rw [HXX.out]; simp) ⟨rfl,rfl,rfl⟩
   ·go_wp2_with fail
    refine (HL.out _).mono ?_
    rintro e w4 ⟨rfl,rfl⟩
    go_wp2_with (first | (go_at_call 141; refine (inf_one _).mono ?_; rintro e w' ⟨rfl,rfl⟩) | fail)
    clear b0
    have h1 : once [(30,0),(31,1),(4,2)] = true:=by kernel_rfl
    have h2 : within [(30,0),(31,1),(4,2)] 32 = true:=by kernel_rfl
    refine wp_region_flow 3 4 [(30,0),(31,1),(4,2)] [] (fun i v W=>match i with
     | 0=>v = .float .f64 18442240474082181120
     | 1=>v = .agg #[.bool O.ine,.bool O.ov,.bool O.un]
     | _=>v = .float .f64 18442240474082181120) w3.heap.size (Nat.le_refl _) (by kernel_rfl) (by kernel_rfl) (by kernel_rfl) (by decide) (by kernel_rfl) h1 (by kernel_rfl) ?_ ?_ ?_ ?_
    ·intro j v W W' h hb
     match j,h with
     | 0,h=>exact h
     | 1,h=>exact h
     | _ + 2,h=>exact h
    ·exact fun j hj=>by cases hj
    ·refine ⟨⟨⟨trivial,?_⟩,?_⟩,?_⟩
     ·refine flow_step _ 30 rfl rfl (fun d h=>by simpa using h) h1 h2 fun ac xs W he hb hS K hK=>?_
      exact op_move (.tmp 10) (.inl rfl) (hK _ _ (he 10) bR nA)
     ·refine flow_step _ 31 rfl rfl (fun d h=>by simpa using h) h1 h2 fun ac xs W he hb hS K hK=>?_
      exact wp_load_row 76 (.tmp 9) rfl gf (he 9) _ _ _ _ (hb.blk HRF.out (blk_lt HRF.out)) Tryz.underlying76 rfl (by kernel_rfl) (hK _ _ rfl bR nA)
     ·refine flow_step _ 4 rfl rfl (fun d h=>by simpa using h) h1 h2 fun ac xs W he hb hS K hK=>?_
      exact op_move (.tmp 30) (.inr rfl) (hK _ _ ((he 30).trans (hS 0 (by kernel_rfl))) bR nA)
    ·intro xs WL hb hS hD
     have s0 : xs 0 = _:=hS 0 (by decide)
     have s1 : xs 1 = _:=hS 1 (by decide)
     have s2 : xs 2 = _:=hS 2 (by decide)
     have HBL : Hid (Below w2.heap.size w2 WL):=HB3.out.thru hb
     have r2 : WL.heap[w.heap.size + 1]? = some (.cells #[.bool false,.bool false,.bool false] 76 (0,0)):=(HX.out _ HBL.out).2.1
     obtain ⟨f0,c0,f1,c1,f2,c2,r3⟩:=rw3 r2
     have HR3 : Hid _:=r3
     have HBW : Hid (Below w.heap.size w WL):=(HX.out _ HBL.out).2.2
     simp only [layAll,s0,s1,s2,List.setIfInBounds_toArray,List.set_cons_succ,List.set_cons_zero]
     clear hS hD hb r2 r3 s0 s1 s2 h1 h2
     go_wp2
     exact number_end (p:=4) (u:=5) rfl rfl rfl (HR3.out _ _ _) (below_row3 HBW.out (by omega) _ _ _) (by rw [HXX.out]; simp) ⟨rfl,rfl,rfl⟩
end Go.Proofs.YtlbokicainimnaaGreatDoor
