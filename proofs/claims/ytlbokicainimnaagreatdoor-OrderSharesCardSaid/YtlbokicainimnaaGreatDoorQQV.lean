import Derived.Test.YtlbokicainimnaaGreatDoorQQO
import Derived.Test.YtlbokicainimnaaGreatDoorQQU
set_option maxRecDepth 100000
namespace Go.Proofs.YtlbokicainimnaaGreatDoor
open Go.RowKit
def dcV (d : Dc) : Value:=.agg #[.bool d.neg,.string (bs d.s),.int .i64 d.e]
def DcQ (d : Dc) (x : Int) (w : World) (en : Ending) (w' : World) : Prop:=en = .returned (.tuple #[dcV d,.int .i64 x]) ∧ Below w.heap.size w w'
theorem dc_end {fn : Func} {p u : Tmp} (hf : fn.results = #[.cell p 35, .tmp u]) {tmps : Array Value} {w0 w : World} {g : Nat} {b : Bool} {s : ByteArray} {e x y : Int} {d : Dc}
  (hp : tmps.getD p undef = .pointer (some ⟨g,0,none⟩)) (hu : tmps.getD u undef = .int .i64 x) (hg : w.heap[g]? = some (.cells #[.bool b,.string s,.int .i64 e] 35 (0,0)))
  (hd : d = ⟨b,bl s,e⟩) (hx : x = y) (hb : Below w0.heap.size w0 w) :
  bodyPost Tryz.prog fn (DcQ d y w0) .ret ⟨tmps,[]⟩ w:=by
 subst hd hx
 refine bodyPost_ret (dec_row_tmp hf _ _ g _ _ _ hp hg) rfl ⟨?_,hb⟩
 show _ = Ending.returned (.tuple #[_,_])
 rw [← hu]
 rfl
theorem WideI.neg {w : World} {v : Value} {V : Int} (h : WideI w v V) : ∃ a m c,v = .agg #[.bool (decide (V < 0)),.slice a m c] ∧ Num .u64 18446744073709551616 w (.slice a m c) V.natAbs:=h
set_option maxHeartbeats 2000000 in
theorem whole_any (v : Value) (V e : Int) (w : World) (h : WideI w v V) {bb : Nat} (hV : V.natAbs < 2 ^ bb) (hbb : bb ≤ 4294967296) (htab : Tab w) :
  Calls Tryz.prog 120 #[v,.int .i64 e] w (DcQ (mkD V e) (mkX V e) w):=by
 obtain ⟨a,m,c,rfl,hn⟩:=h
 obtain ⟨ng,hng⟩ : ∃ b,b = decide (V < 0):=⟨_,rfl⟩
 obtain ⟨z,hz⟩ : ∃ z : Int,z = if V.natAbs = 0 then 0 else if ng = true then -1 else 1:=⟨_,rfl⟩
 have hzn : decide (z < 0) = ng:=by
  rw [hz,hng]
  by_cases h0 : V.natAbs = 0
  ·rw [if_pos h0,decide_eq_false (show ¬ V < 0 by omega)]; rfl
  ·rw [if_neg h0]
   by_cases h1 : V < 0
   ·rw [decide_eq_true h1,if_pos rfl]; rfl
   ·rw [decide_eq_false h1,if_neg (by simp)]; rfl
 rw [← hng]
 have HSG : Hid (∀ W,Below w.heap.size w W → Calls Tryz.prog 178 #[.agg #[.bool ng,.slice a m c]] W fun e w'=>e = .returned (.int .i64 z) ∧ Below W.heap.size W w'):=fun W hW=>by
  rw [hz]; exact sign_any ng _ _ W (hn.below (Nat.le_refl _) hW)
 have HAB : Hid (∀ W,Below w.heap.size w W → Calls Tryz.prog 151 #[.agg #[.bool ng,.slice a m c]] W (WideQ false V.natAbs W)):=fun W hW=>iabs_any _ _ _ W (hn.below (Nat.le_refl _) hW)
 have HTX : Hid (∀ W s,Below w.heap.size w W → Num .u64 18446744073709551616 W s V.natAbs → Calls Tryz.prog 105 #[.agg #[.bool false,s]] W fun e w'=>e = .returned (.string (bs (Lib.decDigits V.natAbs))) ∧ Below W.heap.size W w'):=fun W s hW hs=>itext_any s _ W hs hV hbb (htab.below hW)
 have HMD : Hid (∀ W,Calls Tryz.prog 102 #[.bool ng,.string (bs (Lib.decDigits V.natAbs)),.int .i64 e] W (DcQ (mkD V e) (mkX V e) W)):=fun W=>by
  have hd : allDig (bl (bs (Lib.decDigits V.natAbs))):=dec_all _
  have hs : (bs (Lib.decDigits V.natAbs)).size ≤ 4611686018427387904:=by
   show (Lib.decDigits V.natAbs).length ≤ _
   by_cases h0 : V.natAbs = 0
   ·rw [h0,Go.Lib.decDigits,dif_pos (by decide)]; decide
   ·rw [dec_bare (by omega)]
    have:=bare_len_bits hV
    omega
  refine (dmade_any ng (bs (Lib.decDigits V.natAbs)) e W hd hs).mono ?_
  rintro en w' ⟨rfl,hb⟩
  refine ⟨?_,hb⟩
  rw [bl_bs,dval_dec,hng]
  rfl
 have hb0 : Below w.heap.size w ((w.alloc (.cells #[.bool ng,.slice a m c] 123)).alloc (.cells #[.bool false,.string ⟨#[]⟩,.int .i64 0] 35)):=((Below.refl _ _).alloc (Nat.le_refl _) _).alloc (by simp) _
 have q0:=heap_alloc2_old w (.cells #[.bool ng,.slice a m c] 123) (.cells #[.bool false,.string ⟨#[]⟩,.int .i64 0] 35)
 have q1:=heap_alloc2_new w (.cells #[.bool ng,.slice a m c] 123) (.cells #[.bool false,.string ⟨#[]⟩,.int .i64 0] 35)
 have hs1 : ((w.alloc (.cells #[.bool ng,.slice a m c] 123)).alloc (.cells #[.bool false,.string ⟨#[]⟩,.int .i64 0] 35)).heap.size = w.heap.size + 2:=by simp
 obtain ⟨D,hD⟩ : ∃ D,D = mkD V e:=⟨_,rfl⟩
 obtain ⟨X,hX⟩ : ∃ X,X = mkX V e:=⟨_,rfl⟩
 rw [← hD,← hX] at HMD ⊢
 have HZN : Hid (decide (z < 0) = ng):=hzn
 clear hD hX hng hz hV hbb htab hzn hn
 go_enter Tryz.func120,Tryz.ntmps120
 go_upto_region 1 with fail
 generalize (w.alloc (.cells #[.bool ng,.slice a m c] 123)).alloc (.cells #[.bool false,.string ⟨#[]⟩,.int .i64 0] 35) = w1 at *
 have h1 : once [(6,0),(7,1),(8,2),(9,3),(10,4),(11,5),(12,6),(13,7),(14,8),(15,9)] = true:=by kernel_rfl
 have h2 : within [(6,0),(7,1),(8,2),(9,3),(10,4),(11,5),(12,6),(13,7),(14,8),(15,9)] 16 = true:=by kernel_rfl
 refine wp_region_flow 10 12 [(6,0),(7,1),(8,2),(9,3),(10,4),(11,5),(12,6),(13,7),(14,8),(15,9)] [] (fun i v W=>match i with
  | 0=>v = .agg #[.bool ng,.slice a m c]
  | 1=>v = .int .i64 z
  | 2=>v = .bool ng
  | 3=>v = .agg #[.bool ng,.slice a m c]
  | 4=>∃ s,v = .agg #[.bool false,s] ∧ Num .u64 18446744073709551616 W s V.natAbs
  | 5=>v = .string (bs (Lib.decDigits V.natAbs))
  | 6=>v = .int .i64 e
  | 7=>v = .tuple #[dcV D,.int .i64 X]
  | 8=>v = dcV D
  | _=>v = .int .i64 X) w1.heap.size (Nat.le_refl _) (by kernel_rfl) (by kernel_rfl) (by kernel_rfl) (by decide) (by kernel_rfl) h1 (by kernel_rfl) ?_ (fun j hj=>by cases hj) ?_ ?_
 ·intro j v W W' h hb
  match j,h with
  | 4,⟨s,h1,h2⟩=>exact ⟨s,h1,h2.below (Nat.le_refl _) hb⟩
  | 0,h=>exact h
  | 1,h=>exact h
  | 2,h=>exact h
  | 3,h=>exact h
  | 5,h=>exact h
  | 6,h=>exact h
  | 7,h=>exact h
  | 8,h=>exact h
  | _ + 9,h=>exact h
 ·refine ⟨⟨⟨⟨⟨⟨⟨⟨⟨⟨trivial,?_⟩,?_⟩,?_⟩,?_⟩,?_⟩,?_⟩,?_⟩,?_⟩,?_⟩,?_⟩
  ·refine flow_step _ 6 rfl rfl (fun d h=>by simpa using h) h1 h2 fun a xs W he hb hS K hK=>wp_load_row 123 (.tmp 2) rfl w.heap.size (he 2) _ _ _ _ (hb.blk q0 (by omega)) Tryz.underlying123 rfl (by kernel_rfl) (hK _ _ rfl bR (fun h=>by cases h))
  ·refine flow_step _ 7 rfl rfl (fun d h=>by simpa using h) h1 h2 fun a xs W he hb hS K hK=>?_
   have e0 : a.eval (.tmp 6) = _:=(he 6).trans (hS 0 (by kernel_rfl))
   refine op_call 178 _ _ rfl _ (by simp only [List.map,e0]) (by go_simp) (HSG.out W (hb0.thru hb)) ?_
   rintro e' W' ⟨rfl,hb'⟩
   exact ⟨_,rfl,hK _ _ rfl hb' (fun h=>by cases h)⟩
  ·refine flow_step _ 8 rfl rfl (fun d h=>by simpa using h) h1 h2 fun a xs W he hb hS K hK=>?_
   have e0 : a.eval (.tmp 7) = _:=(he 7).trans (hS 1 (by kernel_rfl))
   refine op_any (.binOp .lss 3 (.tmp 7) (.const (.int .i64 0)) 3) rfl (.bool ng) (fun o' ho'=>?_) (hK _ _ rfl bR (fun h=>by cases h))
   simp only [execOp,ho',e0]
   rw [← HZN.out]; rfl
  ·refine flow_step _ 9 rfl rfl (fun d h=>by simpa using h) h1 h2 fun a xs W he hb hS K hK=>wp_load_row 123 (.tmp 2) rfl w.heap.size (he 2) _ _ _ _ (hb.blk q0 (by omega)) Tryz.underlying123 rfl (by kernel_rfl) (hK _ _ rfl bR (fun h=>by cases h))
  ·refine flow_step _ 10 rfl rfl (fun d h=>by simpa using h) h1 h2 fun a xs W he hb hS K hK=>?_
   have e0 : a.eval (.tmp 9) = _:=(he 9).trans (hS 3 (by kernel_rfl))
   refine op_call 151 _ _ rfl _ (by simp only [List.map,e0]) (by go_simp) (HAB.out W (hb0.thru hb)) ?_
   rintro e' W' ⟨v,rfl,⟨s,rfl,hs,-⟩,hb'⟩
   exact ⟨_,rfl,hK _ _ ⟨s,rfl,hs⟩ hb' (fun h=>by cases h)⟩
  ·refine flow_step _ 11 rfl rfl (fun d h=>by simpa using h) h1 h2 fun a xs W he hb hS K hK=>?_
   obtain ⟨s,x0,hs⟩ : ∃ s,xs 4 = .agg #[.bool false,s] ∧ Num .u64 18446744073709551616 W s V.natAbs:=hS 4 (by kernel_rfl)
   have e0 : a.eval (.tmp 10) = _:=(he 10).trans x0
   refine op_call 105 _ _ rfl _ (by simp only [List.map,e0]) (by go_simp) (HTX.out W s (hb0.thru hb) hs) ?_
   rintro e' W' ⟨rfl,hb'⟩
   exact ⟨_,rfl,hK _ _ rfl hb' (fun h=>by cases h)⟩
  ·refine flow_step _ 12 rfl rfl (fun d h=>by simpa using h) h1 h2 fun a xs W he hb hS K hK=>op_move (.tmp 1) (.inl rfl) (hK _ _ (he 1) bR (fun h=>by cases h))
  ·refine flow_step _ 13 rfl rfl (fun d h=>by simpa using h) h1 h2 fun a xs W he hb hS K hK=>?_
   have e0 : a.eval (.tmp 8) = _:=(he 8).trans (hS 2 (by kernel_rfl))
   have e1 : a.eval (.tmp 11) = _:=(he 11).trans (hS 5 (by kernel_rfl))
   have e2 : a.eval (.tmp 12) = _:=(he 12).trans (hS 6 (by kernel_rfl))
   refine op_call 102 _ _ rfl _ (by simp only [List.map,e0,e1,e2]) (by go_simp) (HMD.out W) ?_
   rintro e' W' ⟨rfl,hb'⟩
   exact ⟨_,rfl,hK _ _ rfl hb' (fun h=>by cases h)⟩
  ·refine flow_step _ 14 rfl rfl (fun d h=>by simpa using h) h1 h2 fun a xs W he hb hS K hK=>?_
   have e0 : a.eval (.tmp 13) = _:=(he 13).trans (hS 7 (by kernel_rfl))
   refine op_any (.extract (.tmp 13) 0) rfl (dcV D) (fun o' ho'=>?_) (hK _ _ rfl bR (fun h=>by cases h))
   simp only [execOp,ho',e0]
   go_simp
  ·refine flow_step _ 15 rfl rfl (fun d h=>by simpa using h) h1 h2 fun a xs W he hb hS K hK=>?_
   have e0 : a.eval (.tmp 13) = _:=(he 13).trans (hS 7 (by kernel_rfl))
   refine op_any (.extract (.tmp 13) 1) rfl (.int .i64 X) (fun o' ho'=>?_) (hK _ _ rfl bR (fun h=>by cases h))
   simp only [execOp,ho',e0]
   go_simp
 ·intro xs W hb hS hD
  have s0 : xs 0 = _:=hS 0 (by decide)
  have s1 : xs 1 = _:=hS 1 (by decide)
  have s2 : xs 2 = _:=hS 2 (by decide)
  have s3 : xs 3 = _:=hS 3 (by decide)
  have s5 : xs 5 = _:=hS 5 (by decide)
  have s6 : xs 6 = _:=hS 6 (by decide)
  have s7 : xs 7 = _:=hS 7 (by decide)
  have s8 : xs 8 = _:=hS 8 (by decide)
  have s9 : xs 9 = _:=hS 9 (by decide)
  have hrow:=hb.blk q1 (by omega)
  obtain ⟨f0,c0,f1,c1,f2,c2,r3⟩:=rw3 hrow
  have HR : Hid _:=r3
  have HBB : Hid (Below w.heap.size w W):=hb0.thru hb
  generalize xs 4 = x4 at *
  simp only [layAll,s0,s1,s2,s3,s5,s6,s7,s8,s9]
  clear s0 s1 s2 s3 s5 s6 s7 s8 s9 hS hD r3 hb q0 q1 hb0
  go_simp
  simp only [dcV]
  go_wp2
  exact dc_end rfl rfl rfl (HR.out _ _ _) rfl rfl (below_row3 HBB.out (Nat.le_add_right _ 1) _ _ _)
theorem imul_v (x y : Value) (U V : Int) (w : World) (h : WideI w x U) (h' : WideI w y V) {bb : Nat} (hU : U.natAbs < 2 ^ bb) (hV : V.natAbs < 2 ^ bb) (hbb : bb ≤ 4294967296) :
  Calls Tryz.prog 106 #[x,y] w (WideR (U * V) w):=by
 obtain ⟨a,m,c,rfl,hn⟩:=h
 obtain ⟨a',m',c',rfl,hn'⟩:=h'
 refine (mul_any _ _ _ _ _ _ w hn hn' hU hV hbb).mono fun e w' hq=>hq.toR ?_ ?_
 ·have hm : (U.natAbs * V.natAbs : Nat) = (U * V).natAbs:=(Int.natAbs_mul U V).symm
  rw [hm]
  rcases Int.lt_trichotomy U 0 with h1 | h1 | h1 <;> rcases Int.lt_trichotomy V 0 with h2 | h2 | h2
  ·have:=Int.mul_pos_of_neg_of_neg h1 h2
   rw [decide_eq_true h1,decide_eq_true h2,decide_eq_false (by omega)]; simp
  ·subst h2; simp
  ·have:=Int.mul_neg_of_neg_of_pos h1 h2
   rw [decide_eq_true h1,decide_eq_false (by omega),decide_eq_true this]; simp; omega
  ·subst h1; simp
  ·subst h1; simp
  ·subst h1; simp
  ·have:=Int.mul_neg_of_pos_of_neg h1 h2
   rw [decide_eq_false (by omega),decide_eq_true h2,decide_eq_true this]; simp; omega
  ·subst h2; simp
  ·have:=Int.mul_pos h1 h2
   rw [decide_eq_false (by omega),decide_eq_false (by omega),decide_eq_false (by omega)]; simp
 ·exact (Int.natAbs_mul U V).symm
theorem word_v (n : Nat) (w : World) (hn : n < 18446744073709551616) : Calls Tryz.prog 103 #[.int .u64 n] w (WideR n w):=
 (word_any n w hn).mono fun e w' hq=>hq.toR (by rw [decide_eq_false (by omega)]) (by omega)
theorem power_v (N n : Nat) (w : World) (hN : N < 18446744073709551616) {bb : Nat} (hbd : ∀ i, i ≤ n → N ^ i < 2 ^ bb) (hbb : bb ≤ 4294967296) (hn : n ≤ 4294967296) :
  Calls Tryz.prog 99 #[.int .u64 N,.int .i64 n] w (WideR ((N ^ n : Nat) : Int) w):=
 (wpower_any N n w hN hbd hbb hn).mono fun e w' hq=>hq.toR (by rw [decide_eq_false (by omega)]) (by omega)
theorem WideR.shape {V : Int} {w : World} {e : Ending} {w' : World} (h : WideR V w e w') : ∃ a m c,e = .returned (.agg #[.bool (decide (V < 0)),.slice a m c]) ∧ Num .u64 18446744073709551616 w' (.slice a m c) V.natAbs ∧ Below w.heap.size w w':=by
 obtain ⟨v,rfl,⟨a,m,c,rfl,hn⟩,hb⟩:=h
 exact ⟨a,m,c,rfl,hn,hb⟩
theorem wide_endV {fn : Func} {p : Tmp} (hf : fn.results = #[.cell p 123]) {tmps : Array Value} {w0 w : World} {g : Nat} {x b : Bool} {a : Option Addr} {n c : Nat} {s : Value} {V : Int}
  (hp : tmps.getD p undef = .pointer (some ⟨g,0,none⟩)) (hg : w.heap[g]? = some (.cells #[.bool x,.slice a n c] 123 (0,0))) (hv : Num .u64 18446744073709551616 w s V.natAbs)
  (hb : Below w0.heap.size w0 w) (h0 : w0.heap.size ≤ g) (hn : b = decide (V < 0)) :
  bodyPost Tryz.prog fn (WideR V w0) .ret ⟨tmps,[]⟩ ((w.setCell ⟨g,0,none⟩ (.bool b)).setCell ⟨g,1,none⟩ s):=by
 subst hn
 exact bodyPost_ret (int_row hf _ _ g _ _ hp (row2_set hg _ _)) rfl ⟨_,rfl,(by obtain ⟨a',m',c',rfl⟩:=hv.shape; exact ⟨a',m',c',rfl,hv.row hg _ _⟩),(hb.setCell (by exact h0) _).setCell (by exact h0) _⟩
theorem neg_u64 (n : Int) (h0 : n < 0) (h1 : -9223372036854775808 ≤ n) : IntKind.u64.wrap (-IntKind.u64.wrap n) = ((n.natAbs : Nat) : Int):=by
 rw [IntKind.wrap_u64,IntKind.wrap_u64]; omega
theorem pos_u64 (n : Int) (h0 : 0 ≤ n) (h1 : n ≤ 9223372036854775807) : IntKind.u64.wrap n = ((n.natAbs : Nat) : Int):=by
 rw [IntKind.wrap_u64]; omega
theorem iof_v (n : Int) (w : World) (h0 : -9223372036854775808 ≤ n) (h1 : n ≤ 9223372036854775807) : Calls Tryz.prog 122 #[.int .i64 n] w (WideR n w):=by
 obtain ⟨N,hN⟩ : ∃ N,N = n.natAbs:=⟨_,rfl⟩
 have hNb : N < 18446744073709551616:=by omega
 have HN : Hid (N = n.natAbs):=hN
 have HNB : Hid (N < 18446744073709551616):=hNb
 by_cases hn : n < 0
 ·have hw:=neg_u64 n hn h0
  rw [← hN] at hw
  have HP : Hid (decide (n < 0) = true ∧ N ≠ 0):=⟨decide_eq_true hn,by omega⟩
  clear hN hNb h0 h1
  go_enter Tryz.func122,Tryz.ntmps122
  go_wp2_with fail
  have hc:=heap_alloc_new (w.alloc (Obj.cells #[Value.bool false,Value.slice none 0 0] 123)) (Obj.cells #[Value.int IntKind.u64 ↑N] 22)
  refine (made_any true _ [N] _ ⟨_,1,1,rfl,rfl,Nat.le_refl _,by decide,by simpa using HNB.out,fun _=>⟨_,0,rfl,by simp,fun i hi=>?_⟩⟩).mono ?_
  ·have : i = 0:=by omega
   subst this
   rw [cell_of_row _ _ _ _ _ _ (by simpa using hc)]
   rfl
  rintro e w' ⟨v,rfl,⟨s,rfl,hnum,-⟩,hb⟩
  obtain ⟨sa,sn,sc,rfl⟩:=hnum.shape
  have hres:=hb.blk (heap_alloc2_old w _ _) (by simp; omega)
  have hl : lval 18446744073709551616 [N] = N:=by simp [lval]
  rw [hl] at hnum ⊢
  obtain ⟨q,hq⟩ : ∃ q,q = (true && N != 0):=⟨_,rfl⟩
  rw [← hq]
  have HQ : Hid (q = decide (n < 0)):=by
   show _ = _
   rw [hq,HP.out.1,Bool.true_and,bne_iff_ne]; exact HP.out.2
  clear hq
  obtain ⟨f0,f1,c0,c1,f2,c2⟩:=row2 hres
  rw [HN.out] at hnum
  have HNUM : Hid (Num .u64 18446744073709551616 w' (.slice sa sn sc) n.natAbs):=hnum
  have HB : Hid _:=hb
  clear hnum hb
  go_wp2
  refine wide_endV (p:=2) rfl rfl hres HNUM.out ?_ (Nat.le_refl _) HQ.out
  exact (((Below.refl _ _).alloc (Nat.le_refl _) _).alloc (by simp) _).trans (HB.out.mono (by simp; omega))
 ·have hw:=pos_u64 n (by omega) h1
  rw [← hN] at hw
  have HP : Hid (decide (n < 0) = false):=decide_eq_false hn
  have HW : Hid (∀ W,Calls Tryz.prog 103 #[.int .u64 N] W (WideQ false N W)):=fun W=>word_any N W HNB.out
  clear hN hNb h0 h1
  go_enter Tryz.func122,Tryz.ntmps122
  go_wp2_with fail
  refine (HW.out _).mono ?_
  rintro e w' ⟨v,rfl,⟨s,rfl,hnum,-⟩,hb⟩
  obtain ⟨sa,sn,sc,rfl⟩:=hnum.shape
  have hres:=hb.blk (new_blk w _) (by simp)
  obtain ⟨f0,f1,c0,c1,f2,c2⟩:=row2 hres
  rw [HN.out] at hnum
  have HNUM : Hid (Num .u64 18446744073709551616 w' (.slice sa sn sc) n.natAbs):=hnum
  have HB : Hid _:=hb
  clear hnum hb
  go_wp2
  refine wide_endV (p:=2) rfl rfl hres HNUM.out ?_ (Nat.le_refl _) HP.out.symm
  exact ((Below.refl _ _).alloc (Nat.le_refl _) _).trans (HB.out.mono (by simp))
end Go.Proofs.YtlbokicainimnaaGreatDoor
