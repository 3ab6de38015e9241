import Derived.Test.YtlbokicainimnaaGreatDoorQAX
import Derived.Test.YtlbokicainimnaaGreatDoorQAD
set_option maxRecDepth 100000
namespace Go.Proofs.YtlbokicainimnaaGreatDoor
open Go.RowKit
def FloatQ (o : Out) (w : World) (e : Ending) (w' : World) : Prop:=e = .returned (.tuple #[.int .u64 (o.m : Nat),.int .i64 o.e,.bool o.inf,.agg #[.bool o.ine,.bool o.ov,.bool o.un]]) ∧ Below w.heap.size w w'
theorem results_tttc {fn : Func} {p q r u : Tmp} {ty : TypeId} (h : fn.results = #[.tmp p, .tmp q, .tmp r, .cell u ty]) (tmps : Array Value) (P : Program) (w : World) :
  (results fn tmps).run P w =
   ((asAddr (tmps.getD u undef)).run P w).andThen fun a w₁=>((loadVar ty a).run P w₁).andThen fun x w₂=>.ok (.tuple #[tmps.getD p undef,tmps.getD q undef,tmps.getD r undef,x]) w₂:=by
 simp only [results,h]
 simp [Sem.run_bind,Result.andThen]
theorem float_end {fn : Func} {p q r u : Tmp} (hf : fn.results = #[.tmp p, .tmp q, .tmp r, .cell u 76]) {tmps : Array Value} {w0 w : World} {g0 m : Nat} {e : Int} {inf a b c : Bool} {o : Out}
  (hp : tmps.getD p undef = .int .u64 (m : Nat)) (hq : tmps.getD q undef = .int .i64 e) (hr : tmps.getD r undef = .bool inf) (hu : tmps.getD u undef = .pointer (some ⟨g0,0,none⟩))
  (hg : w.heap[g0]? = some (.cells #[.bool a,.bool b,.bool c] 76 (0,0))) (hb : Below w0.heap.size w0 w) (ho : o = ⟨inf,m,e,a,b,c⟩) : bodyPost Tryz.prog fn (FloatQ o w0) .ret ⟨tmps,[]⟩ w:=by
 subst ho
 have hu' : tmps[u]?.getD undef = .pointer (some ⟨g0,0,none⟩):=by simpa using hu
 refine bodyPost_ret (v:=.tuple #[tmps.getD p undef,tmps.getD q undef,tmps.getD r undef,.agg #[.bool a,.bool b,.bool c]]) ?_ rfl ⟨?_,hb⟩
 ·rw [results_tttc hf]
  simp [hu',asAddr,run_loadVar_row (P:=Tryz.prog) w g0 _ 76 #[.bool a,.bool b,.bool c] (0,0) _ hg Tryz.underlying76 rfl (by kernel_rfl),Result.andThen]
 ·show _ = Ending.returned (.tuple #[_,_,_,_])
  rw [hp,hq,hr]
set_option maxHeartbeats 8000000 in
theorem float53_walk (mode : Int) (hm : 1 ≤ mode ∧ mode ≤ 6) (neg rt : Bool) (a a' : Option Addr) (m c m' c' M D : Nat) (g : Mag) (n0 : Int) (w : World) (hM : Num .u64 18446744073709551616 w (.slice a m c) M) (hD : Num .u64 18446744073709551616 w (.slice a' m' c') D) {bb : Nat} (hb1 : M < 2 ^ bb) (hb2 : D < 2 ^ bb) (hbb : bb ≤ 900000)
  (hok : g.Ok) (hH : ∀ e,g.H e = -1 ∨ g.H e = 0 ∨ g.H e = 1) (hat : ∀ W e,Below w.heap.size w W → -1000000 ≤ e → e ≤ 1000000 → Calls Tryz.prog 253 #[.agg #[.bool neg,.bool rt,.bool false,.slice a m c,.bool false,.slice a' m' c'],.int .i64 e] W (AtQ g e W))
  (hn0 : n0 = if rt = true then Int.tdiv ((blen M : Int) - blen D - 1) 2 else (blen M : Int) - blen D) (hpl : max (-1074) (n0 - 55) = -1074 ∨ 2 ^ 53 ≤ g.Q (max (-1074) (n0 - 55))) {bq : Nat} (hq : g.Q (max (-1074) (n0 - 55)) < 2 ^ bq) (hbq : bq ≤ 4000) :
  Calls Tryz.prog 228 #[.agg #[.bool neg,.bool rt,.bool false,.slice a m c,.bool false,.slice a' m' c'],.agg #[.int .i64 53,.int .i64 (-1074),.int .i64 971],.int .i64 mode] w (FloatQ (outG 53 (-1074) 971 neg mode g) w):=by
 obtain ⟨O,hO⟩ : ∃ O,O = outG 53 (-1074) 971 neg mode g:=⟨_,rfl⟩
 rw [← hO]
 have HO : Hid (O = outG 53 (-1074) 971 neg mode g):=hO
 obtain ⟨w2,hw2⟩ : ∃ W,W = (((w.alloc (.cells #[.bool neg,.bool rt,.bool false,.slice a m c,.bool false,.slice a' m' c'] 202)).alloc (.cells #[.int .i64 53,.int .i64 (-1074),.int .i64 971] 248)).alloc (.cells #[.bool false,.bool false,.bool false] 76)):=⟨_,rfl⟩
 have hba : Below w.heap.size w w2:=by rw [hw2]; exact (((Below.refl _ _).alloc (Nat.le_refl _) _).alloc (by simp) _).alloc (by simp; omega) _
 have hsz : w2.heap.size = w.heap.size + 3:=by rw [hw2]; simp
 have q0 : w2.heap[w.heap.size]? = some (.cells #[.bool neg,.bool rt,.bool false,.slice a m c,.bool false,.slice a' m' c'] 202 (0,0)):=by rw [hw2]; exact (heap_alloc_old _ _ (by simp; omega)).trans ((heap_alloc_old _ _ (by simp)).trans (heap_alloc_new _ _))
 have q1 : w2.heap[w.heap.size + 1]? = some (.cells #[.int .i64 53,.int .i64 (-1074),.int .i64 971] 248 (0,0)):=by rw [hw2]; exact (heap_alloc_old _ _ (by simp)).trans (heap_alloc2_new w _ _)
 have q2 : w2.heap[w.heap.size + 2]? = some (.cells #[.bool false,.bool false,.bool false] 76 (0,0)):=by
  rw [hw2]
  have:=heap_alloc2_new (w.alloc (.cells #[.bool neg,.bool rt,.bool false,.slice a m c,.bool false,.slice a' m' c'] 202)) (.cells #[.int .i64 53,.int .i64 (-1074),.int .i64 971] 248) (.cells #[.bool false,.bool false,.bool false] 76)
  simpa using this
 have HX : Hid (∀ W, Below w2.heap.size w2 W → W.heap[w.heap.size]? = some (.cells #[.bool neg, .bool rt, .bool false, .slice a m c, .bool false, .slice a' m' c'] 202 (0, 0)) ∧ W.heap[w.heap.size + 1]? = some (.cells #[.int .i64 53, .int .i64 (-1074), .int .i64 971] 248 (0, 0)) ∧ W.heap[w.heap.size + 2]? = some (.cells #[.bool false, .bool false, .bool false] 76 (0, 0)) ∧
   Num .u64 18446744073709551616 W (.slice a m c) M ∧ Num .u64 18446744073709551616 W (.slice a' m' c') D ∧ Below w.heap.size w W):=fun W hW=>
  ⟨hW.blk q0 (by omega),hW.blk q1 (by omega),hW.blk q2 (by omega),hM.below (Nat.le_refl _) (hba.trans (hW.mono hba.size)),hD.below (Nat.le_refl _) (hba.trans (hW.mono hba.size)),hba.trans (hW.mono hba.size)⟩
 have HSZ : Hid (w2.heap.size = w.heap.size + 3):=hsz
 have HBD : Hid (M < 2 ^ bb ∧ D < 2 ^ bb ∧ bb ≤ 900000):=⟨hb1,hb2,hbb⟩
 have HOK : Hid g.Ok:=hok
 have HHH : Hid (∀ e,g.H e = -1 ∨ g.H e = 0 ∨ g.H e = 1):=hH
 have HAT : Hid (∀ W e,Below w2.heap.size w2 W → -1000000 ≤ e → e ≤ 1000000 → Calls Tryz.prog 253 #[.agg #[.bool neg,.bool rt,.bool false,.slice a m c,.bool false,.slice a' m' c'],.int .i64 e] W (AtQ g e W)):=fun W e hW=>hat W e (hba.trans (hW.mono hba.size))
 obtain ⟨bM,hbM⟩ : ∃ b,b = blen M:=⟨_,rfl⟩
 obtain ⟨bD,hbD⟩ : ∃ b,b = blen D:=⟨_,rfl⟩
 have hbM2 : bM ≤ 900000:=by rw [hbM]; exact Nat.le_trans (blen_le hb1) hbb
 have hbD2 : bD ≤ 900000:=by rw [hbD]; exact Nat.le_trans (blen_le hb2) hbb
 rw [← hbM,← hbD] at hn0
 obtain ⟨e0,he0⟩ : ∃ e0,max (-1074) (n0 - 55) = e0:=⟨_,rfl⟩
 rw [he0] at hpl hq
 have HN0 : Hid (n0 = if rt = true then Int.tdiv ((bM : Int) - bD - 1) 2 else (bM : Int) - bD):=hn0
 have HPL : Hid (e0 = -1074 ∨ 2 ^ 53 ≤ g.Q e0):=hpl
 have HQ0 : Hid (g.Q e0 < 2 ^ bq ∧ bq ≤ 4000):=⟨hq,hbq⟩
 have HE0 : Hid (max (-1074) (n0 - 55) = e0):=he0
 have HBM : Hid (bM = blen M):=hbM
 have HBL : Hid (bD = blen D):=hbD
 have HM6 : Hid (1 ≤ mode ∧ mode ≤ 6):=hm
 have hnb : -2000000 ≤ n0 ∧ n0 ≤ 2000000 ∧ -950000 ≤ n0 ∧ n0 ≤ 950000:=by
  have h2 : -950000 ≤ n0 ∧ n0 ≤ 950000:=by
   rw [hn0]
   by_cases h : rt = true
   ·rw [if_pos h]
    by_cases hs : 0 ≤ (bM : Int) - bD - 1
    ·rw [Int.tdiv_eq_ediv_of_nonneg hs]; omega
    ·rw [show (bM : Int) - bD - 1 = -(1 + bD - bM) by omega,Int.neg_tdiv,Int.tdiv_eq_ediv_of_nonneg (by omega)]; omega
   ·rw [if_neg h]; omega
  omega
 have HNB : Hid (-950000 ≤ n0 ∧ n0 ≤ 950000):=hnb.2.2
 have HEB : Hid (-1074 ≤ e0 ∧ e0 ≤ 950000):=by show _ ∧ _; omega
 clear hM hD hb1 hb2 hbb hok hH hat hn0 hpl hq hbq hO hba hsz q0 q1 q2 hbM hbD he0 hm hnb
 go_enter Tryz.func228,Tryz.ntmps228
 go_upto_region 1 with fail
 rw [← hw2]
 clear hw2
 have h1 : once [(18,0),(19,1),(20,2),(21,3),(22,4),(23,5),(24,6)] = true:=by kernel_rfl
 have h2 : within [(18,0),(19,1),(20,2),(21,3),(22,4),(23,5),(24,6)] 143 = true:=by kernel_rfl
 refine wp_region_flow 7 8 [(18,0),(19,1),(20,2),(21,3),(22,4),(23,5),(24,6)] [] (fun i v W=>match i with
  | 0=>v = .pointer (some ⟨w.heap.size,2,none⟩)
  | 1=>v = .agg #[.bool false,.slice a m c]
  | 2=>v = .int .i64 (bM : Nat)
  | 3=>v = .pointer (some ⟨w.heap.size,4,none⟩)
  | 4=>v = .agg #[.bool false,.slice a' m' c']
  | 5=>v = .int .i64 (bD : Nat)
  | _=>v = .int .i64 ((bM : Int) - bD)) w2.heap.size (Nat.le_refl _) (by kernel_rfl) (by kernel_rfl) (by kernel_rfl) (by decide) (by kernel_rfl) h1 (by kernel_rfl) ?_ ?_ ?_ ?_
 ·intro j v W W' h hb
  match j,h with
  | 0,h=>exact h
  | 1,h=>exact h
  | 2,h=>exact h
  | 3,h=>exact h
  | 4,h=>exact h
  | 5,h=>exact h
  | _ + 6,h=>exact h
 ·exact fun j hj=>by cases hj
 ·refine ⟨⟨⟨⟨⟨⟨⟨trivial,?_⟩,?_⟩,?_⟩,?_⟩,?_⟩,?_⟩,?_⟩
  ·refine flow_step _ 18 rfl rfl (fun d h=>by simpa using h) h1 h2 fun ac xs W he hb hS K hK=>?_
   have e0 : ac.eval (.tmp 3) = .pointer (some ⟨w.heap.size,0,none⟩):=he 3
   refine op_any (.fieldAddr 202 (.tmp 3) 2) rfl (.pointer (some ⟨w.heap.size,2,none⟩)) (fun o' ho'=>?_) (hK _ _ rfl bR nA)
   simp only [execOp,ho',e0]
   go_simp
  ·refine flow_step _ 19 rfl rfl (fun d h=>by simpa using h) h1 h2 fun ac xs W he hb hS K hK=>?_
   have k2:=cell_of_row W w.heap.size 2 _ _ _ (HX.out W hb).1
   have k3:=cell_of_row W w.heap.size 3 _ _ _ (HX.out W hb).1
   have e0:=(he 18).trans (hS 0 (by kernel_rfl))
   refine op_any (.load 123 (.tmp 18)) rfl (.agg #[.bool false,.slice a m c]) (fun o' ho'=>?_) (hK _ _ rfl bR nA)
   simp only [execOp,ho',e0]
   go_simp
  ·refine flow_step _ 20 rfl rfl (fun d h=>by simpa using h) h1 h2 fun ac xs W he hb hS K hK=>?_
   have hl:=bits_n _ M W (.mk (HX.out W hb).2.2.2.1) HBD.out.1 (by have:=HBD.out.2.2; omega)
   rw [← HBM.out] at hl
   have e0:=(he 19).trans (hS 1 (by kernel_rfl))
   refine op_call 196 _ _ rfl _ (by simp only [List.map,e0]) (by go_simp) (hl) ?_
   rintro e' W' ⟨rfl,hb'⟩
   exact ⟨_,rfl,hK _ _ (rfl) hb' nA⟩
  ·refine flow_step _ 21 rfl rfl (fun d h=>by simpa using h) h1 h2 fun ac xs W he hb hS K hK=>?_
   have e0 : ac.eval (.tmp 3) = .pointer (some ⟨w.heap.size,0,none⟩):=he 3
   refine op_any (.fieldAddr 202 (.tmp 3) 3) rfl (.pointer (some ⟨w.heap.size,4,none⟩)) (fun o' ho'=>?_) (hK _ _ rfl bR nA)
   simp only [execOp,ho',e0]
   go_simp
  ·refine flow_step _ 22 rfl rfl (fun d h=>by simpa using h) h1 h2 fun ac xs W he hb hS K hK=>?_
   have k4:=cell_of_row W w.heap.size 4 _ _ _ (HX.out W hb).1
   have k5:=cell_of_row W w.heap.size 5 _ _ _ (HX.out W hb).1
   have e0:=(he 21).trans (hS 3 (by kernel_rfl))
   refine op_any (.load 123 (.tmp 21)) rfl (.agg #[.bool false,.slice a' m' c']) (fun o' ho'=>?_) (hK _ _ rfl bR nA)
   simp only [execOp,ho',e0]
   go_simp
  ·refine flow_step _ 23 rfl rfl (fun d h=>by simpa using h) h1 h2 fun ac xs W he hb hS K hK=>?_
   have hl:=bits_n _ D W (.mk (HX.out W hb).2.2.2.2.1) HBD.out.2.1 (by have:=HBD.out.2.2; omega)
   rw [← HBL.out] at hl
   have e0:=(he 22).trans (hS 4 (by kernel_rfl))
   refine op_call 196 _ _ rfl _ (by simp only [List.map,e0]) (by go_simp) (hl) ?_
   rintro e' W' ⟨rfl,hb'⟩
   exact ⟨_,rfl,hK _ _ (rfl) hb' nA⟩
  ·refine flow_step _ 24 rfl rfl (fun d h=>by simpa using h) h1 h2 fun ac xs W he hb hS K hK=>?_
   have k0 : IntKind.i64.wrap ((bM : Int) - bD) = (bM : Int) - bD:=IntWalk.i64_in _ (by omega)
   have e0:=(he 20).trans (hS 2 (by kernel_rfl))
   have e1:=(he 23).trans (hS 5 (by kernel_rfl))
   refine op_any (.binOp .sub 3 (.tmp 20) (.tmp 23) 3) rfl (.int .i64 ((bM : Int) - bD)) (fun o' ho'=>?_) (hK _ _ rfl bR nA)
   simp only [execOp,ho',e0,e1]
   go_simp
 ·intro xs w3 hb hS hD
  have s6 : xs 6 = _:=hS 6 (by decide)
  generalize xs 0 = x0 at *
  generalize xs 1 = x1 at *
  generalize xs 2 = x2 at *
  generalize xs 3 = x3 at *
  generalize xs 4 = x4 at *
  generalize xs 5 = x5 at *
  simp only [layAll,s6]
  have HB3 : Hid (Below w2.heap.size w2 w3):=hb
  clear hS hD s6 hb
  have kb:=cell_of_row w3 w.heap.size 1 _ _ _ (HX.out _ HB3.out).1
  go_upto_if 26 with fail
  go_cut [10] (fun nv wx=>nv = .int .i64 n0 ∧ Below w2.heap.size w2 wx)
  case first=>as_aux_lemma=>
   cases rt
   ·have hn:=HN0.out
    rw [if_neg (by decide)] at hn
    rw [← hn]
    clear hn
    repeat (first | go_values | go_skip | go_guarded | go_step | go_upon | go_in | go_back)
    go_meet
    exact ⟨rfl,HB3.out⟩
   ·have hn:=HN0.out
    rw [if_pos rfl] at hn
    have hnb:=HNB.out
    have i1 : IntKind.i64.wrap ((bM : Int) - bD - 1) = (bM : Int) - bD - 1:=IntWalk.i64_in _ (by omega)
    have i2 : IntKind.i64.wrap n0 = n0:=IntWalk.i64_in _ (by omega)
    clear hnb
    have hn2 : Int.tdiv ((bM : Int) - bD - 1) 2 = n0:=hn.symm
    clear hn
    repeat (first | go_values | go_skip | go_guarded | go_step | go_upon | go_in | go_back)
    go_meet
    exact ⟨rfl,HB3.out⟩
  case rest=>
  obtain ⟨rfl,hb4⟩:=hcut
  have HB4 : Hid (Below w2.heap.size w2 wc):=hb4
  have d0:=cell_of_row wc (w.heap.size + 1) 0 _ _ _ (HX.out _ hb4).2.1
  have d1:=cell_of_row wc (w.heap.size + 1) 1 _ _ _ (HX.out _ hb4).2.1
  have r0:=(HX.out _ hb4).1
  have b0:=cell_of_row wc w.heap.size 0 _ _ _ r0
  have b1:=cell_of_row wc w.heap.size 1 _ _ _ r0
  have b2:=cell_of_row wc w.heap.size 2 _ _ _ r0
  have b3:=cell_of_row wc w.heap.size 3 _ _ _ r0
  have b4:=cell_of_row wc w.heap.size 4 _ _ _ r0
  have b5:=cell_of_row wc w.heap.size 5 _ _ _ r0
  have hnb:=HNB.out
  have i1 : IntKind.i64.wrap (n0 - 53) = n0 - 53:=IntWalk.i64_in _ (by omega)
  have i2 : IntKind.i64.wrap (n0 - 53 - 2) = n0 - 55:=by rw [show n0 - 53 - 2 = n0 - 55 by omega]; exact IntWalk.i64_in _ (by omega)
  have he0:=HE0.out
  clear hb4 kb HB3 r0 hnb
  go_wp2_with fail
  refine (HAT.out _ e0 HB4.out (by have:=HEB.out; omega) (by have:=HEB.out; omega)).mono ?_
  rintro ev w5 ⟨v,rfl,hv,hb5⟩
  obtain ⟨qa,qm,qc,rfl,hq⟩:=hv.nat
  obtain ⟨w6,hw6⟩ : ∃ W,W = w5.alloc (.cells #[.bool false,.slice qa qm qc] 123):=⟨_,rfl⟩
  have hb6 : Below w5.heap.size w5 w6:=by rw [hw6]; exact (Below.refl _ _).alloc (Nat.le_refl _) _
  have HR12 : Hid (IR w6 w5.heap.size (g.Q e0)):=by rw [hw6]; exact .new (.mk hq)
  have HB6 : Hid (Below w2.heap.size w2 w6):=HB4.out.thru (hb5.thru hb6)
  have HZ5 : Hid (w2.heap.size ≤ w5.heap.size):=(HB4.out.thru hb5).size
  clear hv hq hb5 hb6 d0 d1 b0 b1 b2 b3 b4 b5 i1 i2 he0 HB4
  obtain ⟨Q0,hQ0⟩ : ∃ q,q = g.Q e0:=⟨_,rfl⟩
  obtain ⟨H0,hH0⟩ : ∃ q,q = g.H e0:=⟨_,rfl⟩
  obtain ⟨Z0,hZ0⟩ : ∃ q,q = g.Z e0:=⟨_,rfl⟩
  obtain ⟨bQ,hbQ⟩ : ∃ q,q = blen Q0:=⟨_,rfl⟩
  have HQZ : Hid (Q0 = g.Q e0 ∧ H0 = g.H e0 ∧ Z0 = g.Z e0):=⟨hQ0,hH0,hZ0⟩
  have HQB : Hid (bQ = blen Q0):=hbQ
  rw [← hQ0] at HR12
  have hbQ4 : bQ ≤ 4000:=by rw [hbQ,hQ0]; exact Nat.le_trans (blen_le HQ0.out.1) HQ0.out.2
  have HQ2 : Hid (Q0 < 2 ^ bq ∧ bq ≤ 4000):=by rw [hQ0]; exact HQ0.out
  rw [← hH0,← hZ0]
  obtain ⟨ov,hov⟩ : ∃ x,x = (bQ : Int) - 53:=⟨_,rfl⟩
  have HOV : Hid (ov = (bQ : Int) - 53):=hov
  have HOW : Hid (IntKind.i64.wrap ((bQ : Int) - 53) = ov):=by show _ = _; rw [hov]; exact IntWalk.i64_in _ (by omega)
  clear hQ0 hH0 hZ0 hbQ HQ0 hov hbQ4
  go_upto_region 6 with fail
  rw [← hw6]
  clear hw6
  have h1 : once [(45,0),(46,1),(47,2),(48,3),(49,4)] = true:=by kernel_rfl
  have h2 : within [(45,0),(46,1),(47,2),(48,3),(49,4)] 143 = true:=by kernel_rfl
  refine wp_region_flow 5 6 [(45,0),(46,1),(47,2),(48,3),(49,4)] [] (fun i v W=>match i with
   | 0=>WideI W v ((Q0 : Nat) : Int)
   | 1=>v = .int .i64 (bQ : Nat)
   | 2=>v = .pointer (some ⟨w.heap.size + 1,0,none⟩)
   | 3=>v = .int .i64 53
   | _=>v = .int .i64 ov) w6.heap.size (Nat.le_refl _) (by kernel_rfl) (by kernel_rfl) (by kernel_rfl) (by decide) (by kernel_rfl) h1 (by kernel_rfl) ?_ ?_ ?_ ?_
  ·intro j v W W' h hb
   match j,h with
   | 0,h=>exact h.below hb
   | 1,h=>exact h
   | 2,h=>exact h
   | 3,h=>exact h
   | _ + 4,h=>exact h
  ·exact fun j hj=>by cases hj
  ·refine ⟨⟨⟨⟨⟨trivial,?_⟩,?_⟩,?_⟩,?_⟩,?_⟩
   ·refine flow_step _ 45 rfl rfl (fun d h=>by simpa using h) h1 h2 fun ac xs W he hb hS K hK=>?_
    obtain ⟨ra,rm,rc,hrow,hval⟩:=(HR12.out.below hb).val
    exact wp_load_row 123 (.tmp 12) rfl w5.heap.size (he 12) _ _ _ _ hrow Tryz.underlying123 rfl (by kernel_rfl) (hK _ _ hval bR nA)
   ·refine flow_step _ 46 rfl rfl (fun d h=>by simpa using h) h1 h2 fun ac xs W he hb hS K hK=>?_
    have hl:=bits_n (xs 0) Q0 W (hS 0 (by kernel_rfl)) HQ2.out.1 (by have:=HQ2.out.2; omega)
    rw [← HQB.out] at hl
    have e0 : ac.eval (.tmp 45) = xs 0:=he 45
    refine op_call 196 _ _ rfl _ (by simp only [List.map,e0]) (by go_simp) (hl) ?_
    rintro e' W' ⟨rfl,hb'⟩
    exact ⟨_,rfl,hK _ _ (rfl) hb' nA⟩
   ·refine flow_step _ 47 rfl rfl (fun d h=>by simpa using h) h1 h2 fun ac xs W he hb hS K hK=>?_
    have e0 : ac.eval (.tmp 4) = .pointer (some ⟨w.heap.size + 1,0,none⟩):=he 4
    refine op_any (.fieldAddr 248 (.tmp 4) 0) rfl (.pointer (some ⟨w.heap.size + 1,0,none⟩)) (fun o' ho'=>?_) (hK _ _ rfl bR nA)
    simp only [execOp,ho',e0]
    go_simp
   ·refine flow_step _ 48 rfl rfl (fun d h=>by simpa using h) h1 h2 fun ac xs W he hb hS K hK=>?_
    have k0:=cell_of_row W (w.heap.size + 1) 0 _ _ _ (HX.out W (HB6.out.thru hb)).2.1
    have e0:=(he 47).trans (hS 2 (by kernel_rfl))
    refine op_any (.load 3 (.tmp 47)) rfl (.int .i64 53) (fun o' ho'=>?_) (hK _ _ rfl bR nA)
    simp only [execOp,ho',e0]
    go_simp
   ·refine flow_step _ 49 rfl rfl (fun d h=>by simpa using h) h1 h2 fun ac xs W he hb hS K hK=>?_
    have k0:=HOW.out
    have e0:=(he 46).trans (hS 1 (by kernel_rfl))
    have e1:=(he 48).trans (hS 3 (by kernel_rfl))
    refine op_any (.binOp .sub 3 (.tmp 46) (.tmp 48) 3) rfl (.int .i64 ov) (fun o' ho'=>?_) (hK _ _ rfl bR nA)
    simp only [execOp,ho',e0,e1]
    go_simp
  ·intro xs w7 hb hS hD
   have s4 : xs 4 = _:=hS 4 (by decide)
   generalize xs 0 = x0 at *
   generalize xs 1 = x1 at *
   generalize xs 2 = x2 at *
   generalize xs 3 = x3 at *
   simp only [layAll,s4]
   have HB7 : Hid (Below w2.heap.size w2 w7):=HB6.out.thru hb
   have HR7 : Hid (IR w7 w5.heap.size Q0):=HR12.out.below hb
   clear hS hD s4 hb
   clear HR12 HB6
   go_upto_if 51 with fail
   go_cut [11,13,14] (fun ev hv zv wx=>∃ e1 : Int,ev = .int .i64 e1 ∧ hv = .int .i64 (g.H e1) ∧ zv = .bool (g.Z e1) ∧ IR wx w5.heap.size (g.Q e1) ∧ Below w2.heap.size w2 wx ∧ Hid (IsE 53 (-1074) g e1 ∧ -1000000 ≤ e1 ∧ e1 ≤ 1000000))
   case first=>as_aux_lemma=>
    have hfp:=float_place (b:=53) (by decide) HOK.out HEB.out.1 HPL.out
    rw [← HQZ.out.1,← HQB.out] at hfp
    by_cases hov : 53 < bQ
    ·rw [if_pos hov] at hfp
     have hov2 : (0 : Int) < ov:=by have:=HOV.out; omega
     have hb4 : bQ ≤ 4000:=by rw [HQB.out]; exact Nat.le_trans (blen_le HQ2.out.1) HQ2.out.2
     obtain ⟨e1,he1⟩ : ∃ e1,e1 = e0 + ov:=⟨_,rfl⟩
     have i1 : IntKind.i64.wrap (e0 + ov) = e1:=by rw [he1]; exact IntWalk.i64_in _ (by have:=HEB.out; have:=HOV.out; omega)
     have HIE : Hid (IsE 53 (-1074) g e1):=by rw [he1,show e0 + ov = e0 + ((bQ - 53 : Nat) : Int) by have:=HOV.out; omega]; exact hfp
     have HEB1 : Hid (-1000000 ≤ e1 ∧ e1 ≤ 1000000):=by show _ ∧ _; have:=HEB.out; have:=HOV.out; omega
     have r0:=(HX.out _ HB7.out).1
     have b0:=cell_of_row w7 w.heap.size 0 _ _ _ r0
     have b1:=cell_of_row w7 w.heap.size 1 _ _ _ r0
     have b2:=cell_of_row w7 w.heap.size 2 _ _ _ r0
     have b3:=cell_of_row w7 w.heap.size 3 _ _ _ r0
     have b4:=cell_of_row w7 w.heap.size 4 _ _ _ r0
     have b5:=cell_of_row w7 w.heap.size 5 _ _ _ r0
     clear r0 hfp he1 hov hb4
     go_wp2_with fail
     refine (HAT.out _ e1 HB7.out HEB1.out.1 HEB1.out.2).mono ?_
     rintro ev w8 ⟨v,rfl,hv,hb8⟩
     obtain ⟨ya,ym,yc,rfl,hy⟩:=hv.nat
     obtain ⟨za,zm,zc,q7,-⟩:=HR7.out
     have q8:=hb8.blk q7 (blk_lt q7)
     obtain ⟨f0,f1,c0,c1,f2,c2⟩:=row2 q8
     have HRW : Hid (IR ((w8.setCell ⟨w5.heap.size,0,none⟩ (.bool false)).setCell ⟨w5.heap.size,1,none⟩ (.slice ya ym yc)) w5.heap.size (g.Q e1)):=.put ⟨_,_,_,_,q8⟩ hy
     have HBW : Hid (Below w2.heap.size w2 ((w8.setCell ⟨w5.heap.size,0,none⟩ (.bool false)).setCell ⟨w5.heap.size,1,none⟩ (.slice ya ym yc))):=below_row (HB7.out.thru hb8) HZ5.out _ _
     clear hv hy q7 q8 hb8 b0 b1 b2 b3 b4 b5 i1
     go_wp2
     go_meet
     exact ⟨e1,rfl,rfl,rfl,HRW.out,HBW.out,HIE.out,HEB1.out⟩
    ·rw [if_neg hov] at hfp
     have HIE : Hid (IsE 53 (-1074) g e0):=hfp
     have hov2 : ¬ (0 : Int) < ov:=by have:=HOV.out; omega
     clear hov hfp
     repeat (first | go_values | go_skip | go_guarded | go_step | go_upon | go_in | go_back)
     go_meet
     exact ⟨e0,rfl,by rw [HQZ.out.2.1],by rw [HQZ.out.2.2],by rw [← HQZ.out.1]; exact HR7.out,HB7.out,HIE.out,by have:=HEB.out; omega⟩
   case rest=>
   obtain ⟨e1,rfl,rfl,rfl,hr,hb,hie⟩:=hcut
   obtain ⟨q,hq⟩ : ∃ q,q = g.Q e1:=⟨_,rfl⟩
   obtain ⟨h,hh⟩ : ∃ h,h = g.H e1:=⟨_,rfl⟩
   obtain ⟨z,hz⟩ : ∃ z,z = g.Z e1:=⟨_,rfl⟩
   have HOO : Hid (O = outW 53 971 neg mode q h z e1):=by show _ = _; rw [HO.out,outG_eq (by decide) HOK.out hie.out.1,← hq,← hh,← hz]
   have hqb : q < 9007199254740992:=by rw [hq]; exact hie.out.1.2.1
   have hh3 : h = -1 ∨ h = 0 ∨ h = 1:=by rw [hh]; exact HHH.out _
   have HEE : Hid (-1000000 ≤ e1 ∧ e1 ≤ 1000000):=hie.out.2
   have HBC : Hid (Below w2.heap.size w2 wc):=hb
   rw [← hq] at hr
   rw [← hh,← hz]
   obtain ⟨ra,rm,rc,p12,n12⟩:=hr
   obtain ⟨f0,f1,c0,c1,-,-⟩:=row2 p12
   have N12 : Hid (Num .u64 18446744073709551616 wc (.slice ra rm rc) q):=n12
   have hlow:=low_n _ q wc (.mk N12.out)
   rw [Nat.mod_eq_of_lt (show q < 18446744073709551616 by omega)] at hlow
   have HLOW : Hid _:=hlow
   clear hq hh hz hie hb p12 n12 HAT HOK HO HHH HPL HE0 HN0 HNB HEB HQZ HQB HQ2 HOV HOW HR7 HB7 hlow HBM HBL HBD h1 h2
   go_wp2_with fail
   refine Calls.mono HLOW.out ?_
   rintro ev w9 ⟨rfl,hb9⟩
   have HB9 : Hid (Below w2.heap.size w2 w9):=HBC.out.thru hb9
   have d0:=cell_of_row w9 (w.heap.size + 1) 0 _ _ _ (HX.out _ HB9.out).2.1
   clear hb9 f0 f1 c0 c1 HLOW N12 HBC
   go_upto_region 11 with fail
   obtain ⟨un,hun⟩ : ∃ x,x = decide (q < 4503599627370496):=⟨_,rfl⟩
   have HUN : Hid (un = decide (q < 4503599627370496)):=hun
   have HUN2 : Hid (((q : Int) / 4503599627370496 == 0) = un):=by
    show _ = _
    rw [hun,Bool.eq_iff_iff,beq_iff_eq,decide_eq_true_eq]; omega
   obtain ⟨od,hod⟩ : ∃ x,x = decide (q % 2 = 1):=⟨_,rfl⟩
   obtain ⟨uu,huu⟩ : ∃ x,x = upW mode neg od h:=⟨_,rfl⟩
   have HUU : Hid (uu = upW mode neg (decide (q % 2 = 1)) h):=by show _ = _; rw [huu,hod]
   have HUV : Hid (upW mode neg od h = uu):=huu.symm
   have HOD : Hid (((q : Int) % 2 == 1) = od):=by
    show _ = _
    rw [hod,Bool.eq_iff_iff,beq_iff_eq,decide_eq_true_eq]; omega
   clear hun hod huu
   obtain ⟨uf,huf⟩ : ∃ x,x = (!z && un):=⟨_,rfl⟩
   have HUF : Hid (uf = (!z && un)):=huf
   clear huf
   go_cut [17] (fun fv wx=>∃ gf,fv = .pointer (some ⟨gf,0,none⟩) ∧ Below w2.heap.size w2 wx ∧ w2.heap.size ≤ gf ∧ wx.heap[gf]? = some (.cells #[.bool (!z),.bool false,.bool uf] 76 (0,0)))
   case first=>as_aux_lemma=>
    have hz9 : w2.heap.size ≤ w9.heap.size:=HB9.out.size
    have HZ9 : Hid (w2.heap.size ≤ w9.heap.size):=hz9
    have HBN : Hid (∀ o,Below w2.heap.size w2 (w9.alloc o)):=fun o=>HB9.out.alloc HZ9.out o
    clear hz9
    cases z
    ·have hfu : uf = un:=by rw [HUF.out]; rfl
     have hun2 : ((q : Int) / 4503599627370496 == 0) = uf:=by rw [HUN2.out,hfu]
     clear hfu
     go_wp2
     go_meet
     exact ⟨_,rfl,HBN.out _,HZ9.out,heap_alloc_new _ _⟩
    ·have HFU : Hid (uf = false):=by show _ = _; rw [HUF.out]; rfl
     go_wp2
     go_meet
     exact ⟨_,rfl,HBN.out _,HZ9.out,by rw [HFU.out]; exact heap_alloc_new _ _⟩
   case rest=>
   obtain ⟨gf,rfl,hb10,hgf,hrf⟩:=hcut
   obtain ⟨w10,hw10⟩ : ∃ W,W = wc:=⟨_,rfl⟩
   rw [← hw10] at hb10 hrf ⊢
   clear hw10 d0
   have HB10 : Hid (Below w2.heap.size w2 w10):=hb10
   have HRF : Hid (∀ W,Below w10.heap.size w10 W → W.heap[gf]? = some (.cells #[.bool (!z),.bool false,.bool uf] 76 (0,0))):=fun W hW=>hW.blk hrf (blk_lt hrf)
   have HGF : Hid (w2.heap.size ≤ gf):=hgf
   clear hb10 hrf hgf
   obtain ⟨uz,huz⟩ : ∃ x,x = (!z && uu):=⟨_,rfl⟩
   have HUZ : Hid (uz = (!z && uu)):=huz
   clear huz
   go_upto_region 12 with fail
   go_cut [91] (fun v wx=>v = .bool uz ∧ Below w10.heap.size w10 wx)
   case first=>as_aux_lemma=>
    cases z
    ·have HUZ1 : Hid (uz = uu):=by show _ = _; rw [HUZ.out]; rfl
     have h1 : once [(77,0),(78,1),(79,2),(80,3),(81,4),(82,5),(83,6),(84,7),(85,8),(86,9),(87,10),(88,11),(89,12),(90,13),(91,14)] = true:=by kernel_rfl
     have h2 : within [(77,0),(78,1),(79,2),(80,3),(81,4),(82,5),(83,6),(84,7),(85,8),(86,9),(87,10),(88,11),(89,12),(90,13),(91,14)] 143 = true:=by kernel_rfl
     let S : Nat → (Nat → Value) → World → Prop:=fun i xs W=>match i with
      | 0=>xs 0 = .bool false
      | 1=>xs 1 = .bool true
      | 2=>xs 2 = .bool true
      | 3=>∃ g1 g2,(xs 3) = waysV g1 g2 ∧ W.cell? ⟨g1,0,none⟩ = some (.bool false) ∧ W.cell? ⟨g2,0,none⟩ = some (.bool true)
      | 4=>xs 4 = .int .i64 mode
      | 5=>∃ g1 g2,(xs 5) = wayF mode g1 g2 ∧ W.cell? ⟨g1,0,none⟩ = some (.bool false) ∧ W.cell? ⟨g2,0,none⟩ = some (.bool true)
      | 6=>xs 6 = .int .i64 h
      | 7=>xs 7 = .int .u64 (q : Nat)
      | 8=>xs 8 = .int .u64 ((q : Int) % 2)
      | 9=>xs 9 = .bool od
      | 10=>xs 10 = .pointer (some ⟨w.heap.size,0,none⟩)
      | 11=>xs 11 = .bool neg
      | 12=>xs 12 = leftV h od neg
      | 13=>xs 13 = .bool uu
      | 14=>xs 14 = .bool uu
      | _=>True
     have hstab : ∀ j ys W W',S j ys W → Below W.heap.size W W' → S j ys W':=by
      intro j ys W W' h hb
      match j,h with
      | 0,h=>exact h
      | 1,h=>exact h
      | 2,h=>exact h
      | 3,⟨g1,g2,e1,k1,k2⟩=>exact ⟨g1,g2,e1,(hb.cell (cellA_lt k1)).trans k1,(hb.cell (cellA_lt k2)).trans k2⟩
      | 4,h=>exact h
      | 5,⟨g1,g2,e1,k1,k2⟩=>exact ⟨g1,g2,e1,(hb.cell (cellA_lt k1)).trans k1,(hb.cell (cellA_lt k2)).trans k2⟩
      | 6,h=>exact h
      | 7,h=>exact h
      | 8,h=>exact h
      | 9,h=>exact h
      | 10,h=>exact h
      | 11,h=>exact h
      | 12,h=>exact h
      | 13,h=>exact h
      | 14,h=>exact h
      | _ + 15,h=>exact trivial
     refine wp_region_flow3 15 15 [(77,0),(78,1),(79,2),(80,3),(81,4),(82,5),(83,6),(84,7),(85,8),(86,9),(87,10),(88,11),(89,12),(90,13),(91,14)] [] S (fun _ W=>(fun W=>Below w10.heap.size w10 W) W) ((Below.refl _ _).drew) (by kernel_rfl) (by kernel_rfl) (by kernel_rfl) (by decide) (by kernel_rfl) h1 (by kernel_rfl) (fun j hj=>by cases hj) ?_ ?_ ?_
     ·intro j xs ys W e h
      match j,e,h with
      | 0,e,h=>exact c_ (e 0 (.inl rfl)) h
      | 1,e,h=>exact c_ (e 1 (.inl rfl)) h
      | 2,e,h=>exact c_ (e 2 (.inl rfl)) h
      | 3,e,⟨g1,g2,e1,r⟩=>exact ⟨g1,g2,(e 3 (.inl rfl)).symm.trans e1,r⟩
      | 4,e,h=>exact c_ (e 4 (.inl rfl)) h
      | 5,e,⟨g1,g2,e1,r⟩=>exact ⟨g1,g2,(e 5 (.inl rfl)).symm.trans e1,r⟩
      | 6,e,h=>exact c_ (e 6 (.inl rfl)) h
      | 7,e,h=>exact c_ (e 7 (.inl rfl)) h
      | 8,e,h=>exact c_ (e 8 (.inl rfl)) h
      | 9,e,h=>exact c_ (e 9 (.inl rfl)) h
      | 10,e,h=>exact c_ (e 10 (.inl rfl)) h
      | 11,e,h=>exact c_ (e 11 (.inl rfl)) h
      | 12,e,h=>exact c_ (e 12 (.inl rfl)) h
      | 13,e,h=>exact c_ (e 13 (.inl rfl)) h
      | 14,e,h=>exact c_ (e 14 (.inl rfl)) h
      | _ + 15,e,h=>exact trivial
     ·refine ⟨⟨⟨⟨⟨⟨⟨⟨⟨⟨⟨⟨⟨⟨⟨trivial,?_⟩,?_⟩,?_⟩,?_⟩,?_⟩,?_⟩,?_⟩,?_⟩,?_⟩,?_⟩,?_⟩,?_⟩,?_⟩,?_⟩,?_⟩
      ·refine flow3_step _ (some 77) rfl rfl rfl h1 h2 gI gB hstab fun ac xs W Dn he hni hG hS K hK=>?_
       exact op_move (.tmp 14) (.inl rfl) (hK _ _ (he 14) bR nA)
      ·refine flow3_step _ (some 78) rfl rfl rfl h1 h2 gI gB hstab fun ac xs W Dn he hni hG hS K hK=>?_
       have e0:=(he 77).trans (hS 0 (by kernel_rfl))
       refine op_any (.unOp .not 4 (.tmp 77)) rfl (.bool true) (fun o' ho'=>?_) (hK _ _ rfl bR nA)
       simp only [execOp,ho',e0]
       go_simp
      ·refine flow3_step _ (some 79) rfl rfl rfl h1 h2 gI gB hstab fun ac xs W Dn he hni hG hS K hK=>?_
       exact op_move (.tmp 78) (.inl rfl) (hK _ _ ((he 78).trans (hS 1 (by kernel_rfl))) bR nA)
      ·refine flow3_stepG _ 80 2 79 true rfl rfl rfl (by kernel_rfl) (fun _=>rfl) (fun xs W h=>h) (fun d h=>by simpa using h) rfl h1 h2 gI gB hstab fun ac xs W Dn he hni hG hS K hK=>?_
       refine op_call 164 [] _ rfl [] rfl (by go_simp) (ways_v W) ?_
       rintro e' W' ⟨g1,g2,rfl,k1,k2,hb'⟩
       exact ⟨_,rfl,hK _ _ ⟨g1,g2,rfl,k1,k2⟩ hb' nA⟩
      ·refine flow3_stepG _ 81 2 79 true rfl rfl rfl (by kernel_rfl) (fun _=>rfl) (fun xs W h=>h) (fun d h=>by simpa using h) rfl h1 h2 gI gB hstab fun ac xs W Dn he hni hG hS K hK=>?_
       exact op_move (.tmp 2) (.inl rfl) (hK _ _ (he 2) bR nA)
      ·refine flow3_stepG _ 82 2 79 true rfl rfl rfl (by kernel_rfl) (fun _=>rfl) (fun xs W h=>h) (fun d h=>by simpa using h) rfl h1 h2 gI gB hstab fun ac xs W Dn he hni hG hS K hK=>?_
       obtain ⟨g1,g2,s1,k1,k2⟩:=hS 3 (by kernel_rfl)
       have e0:=(he 80).trans s1
       have e1:=(he 81).trans (hS 4 (by kernel_rfl))
       refine op_any (.index 196 (.tmp 80) (.tmp 81)) rfl (wayF mode g1 g2) (fun o' ho'=>?_) (hK _ _ ⟨g1,g2,rfl,k1,k2⟩ bR nA)
       simp only [execOp,ho',e0,e1]
       have hwi:=way_index mode HM6.out g1 g2 W
       go_simp
      ·refine flow3_stepG _ 83 2 79 true rfl rfl rfl (by kernel_rfl) (fun _=>rfl) (fun xs W h=>h) (fun d h=>by simpa using h) rfl h1 h2 gI gB hstab fun ac xs W Dn he hni hG hS K hK=>?_
       exact op_move (.tmp 13) (.inl rfl) (hK _ _ (he 13) bR nA)
      ·refine flow3_stepG _ 84 2 79 true rfl rfl rfl (by kernel_rfl) (fun _=>rfl) (fun xs W h=>h) (fun d h=>by simpa using h) rfl h1 h2 gI gB hstab fun ac xs W Dn he hni hG hS K hK=>?_
       exact op_move (.tmp 16) (.inl rfl) (hK _ _ (he 16) bR nA)
      ·refine flow3_stepG _ 85 2 79 true rfl rfl rfl (by kernel_rfl) (fun _=>rfl) (fun xs W h=>h) (fun d h=>by simpa using h) rfl h1 h2 gI gB hstab fun ac xs W Dn he hni hG hS K hK=>?_
       have k0:=and_one q (by omega)
       have e0:=(he 84).trans (hS 7 (by kernel_rfl))
       refine op_any (.binOp .and 22 (.tmp 84) (.const (.int .u64 1)) 22) rfl (.int .u64 ((q : Int) % 2)) (fun o' ho'=>?_) (hK _ _ rfl bR nA)
       simp only [execOp,ho',e0]
       go_simp
      ·refine flow3_stepG _ 86 2 79 true rfl rfl rfl (by kernel_rfl) (fun _=>rfl) (fun xs W h=>h) (fun d h=>by simpa using h) rfl h1 h2 gI gB hstab fun ac xs W Dn he hni hG hS K hK=>?_
       have k0:=HOD.out
       have e0:=(he 85).trans (hS 8 (by kernel_rfl))
       refine op_any (.binOp .eql 22 (.tmp 85) (.const (.int .u64 1)) 22) rfl (.bool od) (fun o' ho'=>?_) (hK _ _ rfl bR nA)
       simp only [execOp,ho',e0]
       go_simp
      ·refine flow3_stepG _ 87 2 79 true rfl rfl rfl (by kernel_rfl) (fun _=>rfl) (fun xs W h=>h) (fun d h=>by simpa using h) rfl h1 h2 gI gB hstab fun ac xs W Dn he hni hG hS K hK=>?_
       have e0 : ac.eval (.tmp 3) = .pointer (some ⟨w.heap.size,0,none⟩):=he 3
       refine op_any (.fieldAddr 202 (.tmp 3) 0) rfl (.pointer (some ⟨w.heap.size,0,none⟩)) (fun o' ho'=>?_) (hK _ _ rfl bR nA)
       simp only [execOp,ho',e0]
       go_simp
      ·refine flow3_stepG _ 88 2 79 true rfl rfl rfl (by kernel_rfl) (fun _=>rfl) (fun xs W h=>h) (fun d h=>by simpa using h) rfl h1 h2 gI gB hstab fun ac xs W Dn he hni hG hS K hK=>?_
       have k0:=cell_of_row W w.heap.size 0 _ _ _ (HX.out W (HB10.out.thru hG)).1
       have e0:=(he 87).trans (hS 10 (by kernel_rfl))
       refine op_any (.load 4 (.tmp 87)) rfl (.bool neg) (fun o' ho'=>?_) (hK _ _ rfl bR nA)
       simp only [execOp,ho',e0]
       go_simp
      ·refine flow3_stepG _ 89 2 79 true rfl rfl rfl (by kernel_rfl) (fun _=>rfl) (fun xs W h=>h) (fun d h=>by simpa using h) rfl h1 h2 gI gB hstab fun ac xs W Dn he hni hG hS K hK=>?_
       refine op_any (.build 199 #[(0,.tmp 83),(1,.tmp 86),(2,.tmp 88)]) rfl (leftV h od neg) (fun o' ho'=>?_) (hK _ _ rfl bR nA)
       simp only [execOp,ho']
       have f0 : ac.tmps[83]?.getD undef = .int .i64 h:=by rw [← Array.getD_eq_getD_getElem?]; exact (he 83).trans (hS 6 (by kernel_rfl))
       have f1 : ac.tmps[86]?.getD undef = .bool od:=by rw [← Array.getD_eq_getD_getElem?]; exact (he 86).trans (hS 9 (by kernel_rfl))
       have f2 : ac.tmps[88]?.getD undef = .bool neg:=by rw [← Array.getD_eq_getD_getElem?]; exact (he 88).trans (hS 11 (by kernel_rfl))
       unfold leftV
       go_simp
      ·refine flow3_stepG _ 90 2 79 true rfl rfl rfl (by kernel_rfl) (fun _=>rfl) (fun xs W h=>h) (fun d h=>by simpa using h) rfl h1 h2 gI gB hstab fun ac xs W Dn he hni hG hS K hK=>?_
       obtain ⟨g1,g2,s1,k1,k2⟩:=hS 5 (by kernel_rfl)
       refine op_way 82 89 _ rfl mode HM6.out g1 g2 h od neg hh3 ((he 82).trans s1) ((he 89).trans (hS 12 (by kernel_rfl))) k1 k2 fun W' hb'=>hK _ _ ?_ hb' nA
       show Value.bool _ = _
       rw [HUV.out]
      ·refine flow3_step _ (some 91) rfl rfl rfl h1 h2 gI gB hstab fun ac xs W Dn he hni hG hS K hK=>?_
       have e0:=(he 79).trans (hS 2 (by kernel_rfl))
       have e1:=(he 90).trans (hS 13 (by kernel_rfl))
       refine op_any (.pick (.tmp 79) (.tmp 90) (.const (.bool false))) rfl (.bool uu) (fun o' ho'=>?_) (hK _ _ rfl bR nA)
       simp only [execOp,ho',e0,e1]
       go_simp
     ·intro xs W11 Dn hall hG hS hD
      have s14 : xs 14 = _:=hS 14 (by decide)
      have HBG : Hid (Below w10.heap.size w10 W11):=hG
      simp only [layAll,s14,List.setIfInBounds_toArray,List.set_cons_succ,List.set_cons_zero]
      clear hS hD hall hstab S s14 hG h1 h2
      show wpList Tryz.prog _ _ [] _ _
      repeat (first | go_values | go_skip | go_guarded | go_step | go_upon | go_in | go_back)
      go_meet
      exact ⟨by rw [HUZ1.out],HBG.out⟩
    ·have HUZ1 : Hid (uz = false):=by show _ = _; rw [HUZ.out]; rfl
     have h1 : once [(77,0),(78,1),(79,2),(80,3),(81,4),(82,5),(83,6),(84,7),(85,8),(86,9),(87,10),(88,11),(89,12),(90,13),(91,14)] = true:=by kernel_rfl
     have h2 : within [(77,0),(78,1),(79,2),(80,3),(81,4),(82,5),(83,6),(84,7),(85,8),(86,9),(87,10),(88,11),(89,12),(90,13),(91,14)] 143 = true:=by kernel_rfl
     let S : Nat → (Nat → Value) → World → Prop:=fun i xs W=>match i with
      | 0=>xs 0 = .bool true
      | 1=>xs 1 = .bool false
      | 2=>xs 2 = .bool false
      | 3=>True
      | 4=>True
      | 5=>True
      | 6=>True
      | 7=>True
      | 8=>True
      | 9=>True
      | 10=>True
      | 11=>True
      | 12=>True
      | 13=>True
      | 14=>xs 14 = .bool false
      | _=>True
     have hstab : ∀ j ys W W',S j ys W → Below W.heap.size W W' → S j ys W':=by
      intro j ys W W' h hb
      match j,h with
      | 0,h=>exact h
      | 1,h=>exact h
      | 2,h=>exact h
      | 3,h=>exact h
      | 4,h=>exact h
      | 5,h=>exact h
      | 6,h=>exact h
      | 7,h=>exact h
      | 8,h=>exact h
      | 9,h=>exact h
      | 10,h=>exact h
      | 11,h=>exact h
      | 12,h=>exact h
      | 13,h=>exact h
      | 14,h=>exact h
      | _ + 15,h=>exact trivial
     refine wp_region_flow3 15 15 [(77,0),(78,1),(79,2),(80,3),(81,4),(82,5),(83,6),(84,7),(85,8),(86,9),(87,10),(88,11),(89,12),(90,13),(91,14)] [] S (fun _ W=>(fun W=>Below w10.heap.size w10 W) W) ((Below.refl _ _).drew) (by kernel_rfl) (by kernel_rfl) (by kernel_rfl) (by decide) (by kernel_rfl) h1 (by kernel_rfl) (fun j hj=>by cases hj) ?_ ?_ ?_
     ·intro j xs ys W e h
      match j,e,h with
      | 0,e,h=>exact c_ (e 0 (.inl rfl)) h
      | 1,e,h=>exact c_ (e 1 (.inl rfl)) h
      | 2,e,h=>exact c_ (e 2 (.inl rfl)) h
      | 3,e,h=>exact h
      | 4,e,h=>exact h
      | 5,e,h=>exact h
      | 6,e,h=>exact h
      | 7,e,h=>exact h
      | 8,e,h=>exact h
      | 9,e,h=>exact h
      | 10,e,h=>exact h
      | 11,e,h=>exact h
      | 12,e,h=>exact h
      | 13,e,h=>exact h
      | 14,e,h=>exact c_ (e 14 (.inl rfl)) h
      | _ + 15,e,h=>exact trivial
     ·refine ⟨⟨⟨⟨⟨⟨⟨⟨⟨⟨⟨⟨⟨⟨⟨trivial,?_⟩,?_⟩,?_⟩,?_⟩,?_⟩,?_⟩,?_⟩,?_⟩,?_⟩,?_⟩,?_⟩,?_⟩,?_⟩,?_⟩,?_⟩
      ·refine flow3_step _ (some 77) rfl rfl rfl h1 h2 gI gB hstab fun ac xs W Dn he hni hG hS K hK=>?_
       exact op_move (.tmp 14) (.inl rfl) (hK _ _ (he 14) bR nA)
      ·refine flow3_step _ (some 78) rfl rfl rfl h1 h2 gI gB hstab fun ac xs W Dn he hni hG hS K hK=>?_
       have e0:=(he 77).trans (hS 0 (by kernel_rfl))
       refine op_any (.unOp .not 4 (.tmp 77)) rfl (.bool false) (fun o' ho'=>?_) (hK _ _ rfl bR nA)
       simp only [execOp,ho',e0]
       go_simp
      ·refine flow3_step _ (some 79) rfl rfl rfl h1 h2 gI gB hstab fun ac xs W Dn he hni hG hS K hK=>?_
       exact op_move (.tmp 78) (.inl rfl) (hK _ _ ((he 78).trans (hS 1 (by kernel_rfl))) bR nA)
      ·refine flow3_skip _ 80 2 79 true rfl rfl rfl (by kernel_rfl) (fun _=>rfl) (fun xs W h=>h) (fun d h=>by simpa using h) rfl h1 h2 (fun D W _ h=>h) (fun xs W=>trivial) (by decide)
      ·refine flow3_skip _ 81 2 79 true rfl rfl rfl (by kernel_rfl) (fun _=>rfl) (fun xs W h=>h) (fun d h=>by simpa using h) rfl h1 h2 (fun D W _ h=>h) (fun xs W=>trivial) (by decide)
      ·refine flow3_skip _ 82 2 79 true rfl rfl rfl (by kernel_rfl) (fun _=>rfl) (fun xs W h=>h) (fun d h=>by simpa using h) rfl h1 h2 (fun D W _ h=>h) (fun xs W=>trivial) (by decide)
      ·refine flow3_skip _ 83 2 79 true rfl rfl rfl (by kernel_rfl) (fun _=>rfl) (fun xs W h=>h) (fun d h=>by simpa using h) rfl h1 h2 (fun D W _ h=>h) (fun xs W=>trivial) (by decide)
      ·refine flow3_skip _ 84 2 79 true rfl rfl rfl (by kernel_rfl) (fun _=>rfl) (fun xs W h=>h) (fun d h=>by simpa using h) rfl h1 h2 (fun D W _ h=>h) (fun xs W=>trivial) (by decide)
      ·refine flow3_skip _ 85 2 79 true rfl rfl rfl (by kernel_rfl) (fun _=>rfl) (fun xs W h=>h) (fun d h=>by simpa using h) rfl h1 h2 (fun D W _ h=>h) (fun xs W=>trivial) (by decide)
      ·refine flow3_skip _ 86 2 79 true rfl rfl rfl (by kernel_rfl) (fun _=>rfl) (fun xs W h=>h) (fun d h=>by simpa using h) rfl h1 h2 (fun D W _ h=>h) (fun xs W=>trivial) (by decide)
      ·refine flow3_skip _ 87 2 79 true rfl rfl rfl (by kernel_rfl) (fun _=>rfl) (fun xs W h=>h) (fun d h=>by simpa using h) rfl h1 h2 (fun D W _ h=>h) (fun xs W=>trivial) (by decide)
      ·refine flow3_skip _ 88 2 79 true rfl rfl rfl (by kernel_rfl) (fun _=>rfl) (fun xs W h=>h) (fun d h=>by simpa using h) rfl h1 h2 (fun D W _ h=>h) (fun xs W=>trivial) (by decide)
      ·refine flow3_skip _ 89 2 79 true rfl rfl rfl (by kernel_rfl) (fun _=>rfl) (fun xs W h=>h) (fun d h=>by simpa using h) rfl h1 h2 (fun D W _ h=>h) (fun xs W=>trivial) (by decide)
      ·refine flow3_skip _ 90 2 79 true rfl rfl rfl (by kernel_rfl) (fun _=>rfl) (fun xs W h=>h) (fun d h=>by simpa using h) rfl h1 h2 (fun D W _ h=>h) (fun xs W=>trivial) (by decide)
      ·refine flow3_step _ (some 91) rfl rfl rfl h1 h2 gI gB hstab fun ac xs W Dn he hni hG hS K hK=>?_
       have e0:=(he 79).trans (hS 2 (by kernel_rfl))
       refine op_any (.pick (.tmp 79) (.tmp 90) (.const (.bool false))) rfl (.bool false) (fun o' ho'=>?_) (hK _ _ rfl bR nA)
       simp only [execOp,ho',e0]
       go_simp
     ·intro xs W11 Dn hall hG hS hD
      have s14 : xs 14 = _:=hS 14 (by decide)
      have HBG : Hid (Below w10.heap.size w10 W11):=hG
      simp only [layAll,s14,List.setIfInBounds_toArray,List.set_cons_succ,List.set_cons_zero]
      clear hS hD hall hstab S s14 hG h1 h2
      show wpList Tryz.prog _ _ [] _ _
      repeat (first | go_values | go_skip | go_guarded | go_step | go_upon | go_in | go_back)
      go_meet
      exact ⟨by rw [HUZ1.out],HBG.out⟩
   case rest=>
   obtain ⟨rfl,hb11⟩:=hcut
   obtain ⟨w11,hw11⟩ : ∃ W,W = wc:=⟨_,rfl⟩
   rw [← hw11] at hb11 ⊢
   clear hw11
   have HB11 : Hid (Below w2.heap.size w2 w11):=HB10.out.thru hb11
   have HRF2 : Hid (∀ W,Below w11.heap.size w11 W → W.heap[gf]? = some (.cells #[.bool (!z),.bool false,.bool uf] 76 (0,0))):=fun W hW=>HRF.out W (hb11.thru hW)
   obtain ⟨K,hK⟩ : ∃ K,K = kW neg mode q h z:=⟨_,rfl⟩
   have HKU : Hid (K = if uz = true then q + 1 else q):=by show _ = _; rw [hK]; unfold kW; rw [HUZ.out,HUU.out]
   have HOK : Hid (O = if (971 : Int) < (if K = 9007199254740992 then e1 + 1 else e1) then (if maxW mode neg = true then ⟨false,9007199254740991,971,true,true,uf⟩ else ⟨true,0,0,true,true,uf⟩) else ⟨false,if K = 9007199254740992 then 4503599627370496 else K,if K = 9007199254740992 then e1 + 1 else e1,!z,false,uf⟩):=by
    show _ = _
    rw [HOO.out]
    unfold outW
    rw [← hK,HUF.out,HUN.out]
   have HK2 : Hid (K ≤ 9007199254740992):=by
    show _ ≤ _
    have:=(kW_le (neg:=neg) (mode:=mode) (q:=q) (h:=h) (z:=z)).2
    rw [← hK] at this
    omega
   have HQB : Hid (q < 9007199254740992):=hqb
   clear hK hb11 HRF HOO HUF HUN HUU HUV HOD HUZ HUN2
   go_upto_if 91 with fail
   go_cut [16] (fun mv wx=>mv = .int .u64 (K : Nat) ∧ wx = w11)
   case first=>as_aux_lemma=>
    cases uz
    ·have hk : Hid (K = q):=HKU.out
     go_wp2
     go_meet
     exact ⟨by rw [hk.out],rfl⟩
    ·have hk : K = q + 1:=HKU.out
     have i9 : IntKind.u64.wrap ((q : Int) + 1) = (K : Int):=by rw [hk]; exact IntWalk.u64_in _ (by omega)
     clear hk
     go_wp2
     go_meet
     exact ⟨rfl,rfl⟩
   case rest=>
   obtain ⟨rfl,hwc⟩:=hcut
   rw [hwc]
   clear hwc
   have d0:=cell_of_row w11 (w.heap.size + 1) 0 _ _ _ (HX.out _ HB11.out).2.1
   obtain ⟨m2,hm2⟩ : ∃ m2,m2 = (if K = 9007199254740992 then 4503599627370496 else K):=⟨_,rfl⟩
   obtain ⟨e2,he2⟩ : ∃ e2,e2 = (if K = 9007199254740992 then e1 + 1 else e1):=⟨_,rfl⟩
   rw [← hm2,← he2] at HOK
   have HM2 : Hid (m2 = (if K = 9007199254740992 then 4503599627370496 else K)):=hm2
   have HE2 : Hid (e2 = (if K = 9007199254740992 then e1 + 1 else e1)):=he2
   clear hm2 he2
   go_upto_if 98 with fail
   go_cut [16,11] (fun mv ev wx=>mv = .int .u64 (m2 : Nat) ∧ ev = .int .i64 e2 ∧ wx = w11)
   case first=>as_aux_lemma=>
    by_cases hK : K = 9007199254740992
    ·have hd : (0 : Int) < (K : Int) / 9007199254740992:=by omega
     have HM2B : Hid (m2 = 4503599627370496):=by show _ = _; rw [HM2.out,if_pos hK]
     have hq : (K : Int) / 2 = (m2 : Int):=by have h1:=HM2B.out; rw [h1,hK]; rfl
     have i1 : IntKind.i64.wrap (e1 + 1) = e2:=by rw [HE2.out,if_pos hK]; exact IntWalk.i64_in _ (by have:=HEE.out; omega)
     clear hK
     go_wp2
     go_meet
     exact ⟨congrArg (Value.int .u64) (IntWalk.u64_in _ (by have:=HM2B.out; omega)),rfl,rfl⟩
    ·have hd : ¬ (0 : Int) < (K : Int) / 9007199254740992:=by have:=HK2.out; omega
     have e2e : e1 = e2:=by rw [HE2.out,if_neg hK]
     have m2e : K = m2:=by rw [HM2.out,if_neg hK]
     clear hK
     go_wp2
     go_meet
     exact ⟨rfl,rfl,rfl⟩
   case rest=>
   obtain ⟨rfl,rfl,hwc⟩:=hcut
   rw [hwc]
   clear hwc d0 HKU HE2 HM2 HK2
   have d2:=cell_of_row w11 (w.heap.size + 1) 2 _ _ _ (HX.out _ HB11.out).2.1
   by_cases hT : e2 ≤ 971
   ·have HOUT : Hid (O = ⟨false,m2,e2,!z,false,uf⟩):=by show _ = _; rw [HOK.out,if_neg (by omega)]
    go_upto_region 17 with fail
    clear d2 hT
    have h1 : once [(107,0),(108,1),(109,2),(6,3),(7,4),(8,5)] = true:=by kernel_rfl
    have h2 : within [(107,0),(108,1),(109,2),(6,3),(7,4),(8,5)] 143 = true:=by kernel_rfl
    refine wp_region_flow 6 7 [(107,0),(108,1),(109,2),(6,3),(7,4),(8,5)] [] (fun i v W=>match i with
     | 0=>v = .int .u64 (m2 : Nat)
     | 1=>v = .int .i64 e2
     | 2=>v = .agg #[.bool (!z),.bool false,.bool uf]
     | 3=>v = .int .u64 (m2 : Nat)
     | 4=>v = .int .i64 e2
     | _=>v = .bool false) w11.heap.size (Nat.le_refl _) (by kernel_rfl) (by kernel_rfl) (by kernel_rfl) (by decide) (by kernel_rfl) h1 (by kernel_rfl) ?_ ?_ ?_ ?_
    ·intro j v W W' h hb
     match j,h with
     | 0,h=>exact h
     | 1,h=>exact h
     | 2,h=>exact h
     | 3,h=>exact h
     | 4,h=>exact h
     | _ + 5,h=>exact h
    ·exact fun j hj=>by cases hj
    ·refine ⟨⟨⟨⟨⟨⟨trivial,?_⟩,?_⟩,?_⟩,?_⟩,?_⟩,?_⟩
     ·refine flow_step _ 107 rfl rfl (fun d h=>by simpa using h) h1 h2 fun ac xs W he hb hS K hK=>?_
      exact op_move (.tmp 16) (.inl rfl) (hK _ _ (he 16) bR nA)
     ·refine flow_step _ 108 rfl rfl (fun d h=>by simpa using h) h1 h2 fun ac xs W he hb hS K hK=>?_
      exact op_move (.tmp 11) (.inl rfl) (hK _ _ (he 11) bR nA)
     ·refine flow_step _ 109 rfl rfl (fun d h=>by simpa using h) h1 h2 fun ac xs W he hb hS K hK=>?_
      exact wp_load_row 76 (.tmp 17) rfl gf (he 17) _ _ _ _ (HRF2.out W hb) Tryz.underlying76 rfl (by kernel_rfl) (hK _ _ rfl bR nA)
     ·refine flow_step _ 6 rfl rfl (fun d h=>by simpa using h) h1 h2 fun ac xs W he hb hS K hK=>?_
      exact op_move (.tmp 107) (.inr rfl) (hK _ _ ((he 107).trans (hS 0 (by kernel_rfl))) bR nA)
     ·refine flow_step _ 7 rfl rfl (fun d h=>by simpa using h) h1 h2 fun ac xs W he hb hS K hK=>?_
      exact op_move (.tmp 108) (.inr rfl) (hK _ _ ((he 108).trans (hS 1 (by kernel_rfl))) bR nA)
     ·refine flow_step _ 8 rfl rfl (fun d h=>by simpa using h) h1 h2 fun ac xs W he hb hS K hK=>?_
      exact op_move (.const (.bool false)) (.inr rfl) (hK _ _ rfl bR nA)
    ·intro xs WL hb hS hD
     have s2 : xs 2 = _:=hS 2 (by decide)
     have s3 : xs 3 = _:=hS 3 (by decide)
     have s4 : xs 4 = _:=hS 4 (by decide)
     have s5 : xs 5 = _:=hS 5 (by decide)
     have HBL : Hid (Below w2.heap.size w2 WL):=HB11.out.thru hb
     have r2 : WL.heap[w.heap.size + 1 + 1]? = some (.cells #[.bool false,.bool false,.bool false] 76 (0,0)):=(HX.out _ HBL.out).2.2.1
     obtain ⟨f0,c0,f1,c1,f2,c2,r3⟩:=rw3 r2
     have HR3 : Hid _:=r3
     have HBW : Hid (Below w.heap.size w WL):=(HX.out _ HBL.out).2.2.2.2.2
     simp only [layAll,s2,s3,s4,s5,List.setIfInBounds_toArray,List.set_cons_succ,List.set_cons_zero]
     clear hS hD hb r2 r3 s2 s3 s4 s5
     go_wp2
     exact float_end (p:=6) (q:=7) (r:=8) (u:=9) rfl rfl rfl rfl rfl (HR3.out _ _ _) (below_row3 HBW.out (by omega) _ _ _) HOUT.out
   ·have HOUT : Hid (O = if maxW mode neg = true then ⟨false,9007199254740991,971,true,true,uf⟩ else ⟨true,0,0,true,true,uf⟩):=by show _ = _; rw [HOK.out,if_pos (by omega)]
    have hrf:=HRF2.out w11 (Below.refl _ _)
    have hsm:=heap_setCell_same w11 gf 1 _ _ (.bool true) hrf
    have f1:=frozen_of_row w11 gf 1 _ _ hrf
    have c1:=cell_of_row w11 gf 1 _ _ _ hrf
    have f0:=frozen_of_row _ gf 0 _ _ hsm
    have c0:=cell_of_row _ gf 0 _ _ _ hsm
    obtain ⟨w12,hw12⟩ : ∃ W,W = (w11.setCell ⟨gf,1,none⟩ (.bool true)).setCell ⟨gf,0,none⟩ (.bool true):=⟨_,rfl⟩
    have hr12 : w12.heap[gf]? = some (.cells #[.bool true,.bool true,.bool uf] 76 (0,0)):=by
     rw [hw12]; exact heap_setCell_same _ gf 0 _ _ _ (heap_setCell_same _ gf 1 _ _ _ hrf)
    have HB12 : Hid (Below w2.heap.size w2 w12):=by rw [hw12]; exact (HB11.out.setCell (by exact HGF.out) _).setCell (by exact HGF.out) _
    have HRF3 : Hid (∀ W,Below w12.heap.size w12 W → W.heap[gf]? = some (.cells #[.bool true,.bool true,.bool uf] 76 (0,0))):=fun W hW=>hW.blk hr12 (blk_lt hr12)
    clear hrf hr12 HOK HRF2 hsm
    go_upto_region 19 with fail
    rw [← hw12]
    clear hw12 f0 f1 c0 c1 d2
    have b0:=cell_of_row w12 w.heap.size 0 _ _ _ (HX.out _ HB12.out).1
    go_cut [134] (fun v wx=>v = .bool (maxW mode neg) ∧ wx = w12)
    case first=>as_aux_lemma=>
     have hm6:=HM6.out
     clear HRF3 HB12 HOUT HX HSZ HGF HB11
     rcases (show mode = 1 ∨ mode = 2 ∨ mode = 3 ∨ mode = 4 ∨ mode = 5 ∨ mode = 6 by omega) with rfl | rfl | rfl | rfl | rfl | rfl
     all_goals (clear hm6; cases neg)
     all_goals (go_wp2; go_meet; exact ⟨rfl,rfl⟩)
    case rest=>
    obtain ⟨rfl,hwc⟩:=hcut
    rw [hwc]
    clear hwc b0
    obtain ⟨mx,hmx⟩ : ∃ x,x = maxW mode neg:=⟨_,rfl⟩
    rw [← hmx] at HOUT ⊢
    clear hmx
    cases mx
    ·have HO2 : Hid (O = ⟨true,0,0,true,true,uf⟩):=by show _ = _; rw [HOUT.out]; rfl
     go_upto_region 21 with fail
     clear HOUT
     have h1 : once [(142,0),(6,1),(7,2),(8,3)] = true:=by kernel_rfl
     have h2 : within [(142,0),(6,1),(7,2),(8,3)] 143 = true:=by kernel_rfl
     refine wp_region_flow 4 5 [(142,0),(6,1),(7,2),(8,3)] [] (fun i v W=>match i with
      | 0=>v = .agg #[.bool true,.bool true,.bool uf]
      | 1=>v = .int .u64 0
      | 2=>v = .int .i64 0
      | _=>v = .bool true) w12.heap.size (Nat.le_refl _) (by kernel_rfl) (by kernel_rfl) (by kernel_rfl) (by decide) (by kernel_rfl) h1 (by kernel_rfl) ?_ ?_ ?_ ?_
     ·intro j v W W' h hb
      match j,h with
      | 0,h=>exact h
      | 1,h=>exact h
      | 2,h=>exact h
      | _ + 3,h=>exact h
     ·exact fun j hj=>by cases hj
     ·refine ⟨⟨⟨⟨trivial,?_⟩,?_⟩,?_⟩,?_⟩
      ·refine flow_step _ 142 rfl rfl (fun d h=>by simpa using h) h1 h2 fun ac xs W he hb hS K hK=>?_
       exact wp_load_row 76 (.tmp 17) rfl gf (he 17) _ _ _ _ (HRF3.out W hb) Tryz.underlying76 rfl (by kernel_rfl) (hK _ _ rfl bR nA)
      ·refine flow_step _ 6 rfl rfl (fun d h=>by simpa using h) h1 h2 fun ac xs W he hb hS K hK=>?_
       exact op_move (.const (.int .u64 0)) (.inr rfl) (hK _ _ rfl bR nA)
      ·refine flow_step _ 7 rfl rfl (fun d h=>by simpa using h) h1 h2 fun ac xs W he hb hS K hK=>?_
       exact op_move (.const (.int .i64 0)) (.inr rfl) (hK _ _ rfl bR nA)
      ·refine flow_step _ 8 rfl rfl (fun d h=>by simpa using h) h1 h2 fun ac xs W he hb hS K hK=>?_
       exact op_move (.const (.bool true)) (.inr rfl) (hK _ _ rfl bR nA)
     ·intro xs WL hb hS hD
      have s0 : xs 0 = _:=hS 0 (by decide)
      have s1 : xs 1 = _:=hS 1 (by decide)
      have s2 : xs 2 = _:=hS 2 (by decide)
      have s3 : xs 3 = _:=hS 3 (by decide)
      have HBL : Hid (Below w2.heap.size w2 WL):=HB12.out.thru hb
      have r2 : WL.heap[w.heap.size + 1 + 1]? = some (.cells #[.bool false,.bool false,.bool false] 76 (0,0)):=(HX.out _ HBL.out).2.2.1
      obtain ⟨f0,c0,f1,c1,f2,c2,r3⟩:=rw3 r2
      have HR3 : Hid _:=r3
      have HBW : Hid (Below w.heap.size w WL):=(HX.out _ HBL.out).2.2.2.2.2
      simp only [layAll,s0,s1,s2,s3,List.setIfInBounds_toArray,List.set_cons_succ,List.set_cons_zero]
      clear hS hD hb r2 r3 s0 s1 s2 s3
      go_wp2
      exact float_end (p:=6) (q:=7) (r:=8) (u:=9) rfl rfl rfl rfl rfl (HR3.out _ _ _) (below_row3 HBW.out (by omega) _ _ _) HO2.out
    ·have HO2 : Hid (O = ⟨false,9007199254740991,971,true,true,uf⟩):=by show _ = _; rw [HOUT.out]; rfl
     go_upto_region 20 with fail
     clear HOUT
     have h1 : once [(135,0),(136,1),(137,2),(138,3),(139,4),(140,5),(141,6),(6,7),(7,8),(8,9)] = true:=by kernel_rfl
     have h2 : within [(135,0),(136,1),(137,2),(138,3),(139,4),(140,5),(141,6),(6,7),(7,8),(8,9)] 143 = true:=by kernel_rfl
     refine wp_region_flow 10 11 [(135,0),(136,1),(137,2),(138,3),(139,4),(140,5),(141,6),(6,7),(7,8),(8,9)] [] (fun i v W=>match i with
      | 0=>v = .pointer (some ⟨w.heap.size + 1,0,none⟩)
      | 1=>v = .int .i64 53
      | 2=>v = .int .u64 9007199254740992
      | 3=>v = .int .u64 9007199254740991
      | 4=>v = .pointer (some ⟨w.heap.size + 1,2,none⟩)
      | 5=>v = .int .i64 971
      | 6=>v = .agg #[.bool true,.bool true,.bool uf]
      | 7=>v = .int .u64 9007199254740991
      | 8=>v = .int .i64 971
      | _=>v = .bool false) w12.heap.size (Nat.le_refl _) (by kernel_rfl) (by kernel_rfl) (by kernel_rfl) (by decide) (by kernel_rfl) h1 (by kernel_rfl) ?_ ?_ ?_ ?_
     ·intro j v W W' h hb
      match j,h with
      | 0,h=>exact h
      | 1,h=>exact h
      | 2,h=>exact h
      | 3,h=>exact h
      | 4,h=>exact h
      | 5,h=>exact h
      | 6,h=>exact h
      | 7,h=>exact h
      | 8,h=>exact h
      | _ + 9,h=>exact h
     ·exact fun j hj=>by cases hj
     ·refine ⟨⟨⟨⟨⟨⟨⟨⟨⟨⟨trivial,?_⟩,?_⟩,?_⟩,?_⟩,?_⟩,?_⟩,?_⟩,?_⟩,?_⟩,?_⟩
      ·refine flow_step _ 135 rfl rfl (fun d h=>by simpa using h) h1 h2 fun ac xs W he hb hS K hK=>?_
       have e0 : ac.eval (.tmp 4) = .pointer (some ⟨w.heap.size + 1,0,none⟩):=he 4
       refine op_any (.fieldAddr 248 (.tmp 4) 0) rfl (.pointer (some ⟨w.heap.size + 1,0,none⟩)) (fun o' ho'=>?_) (hK _ _ rfl bR nA)
       simp only [execOp,ho',e0]
       go_simp
      ·refine flow_step _ 136 rfl rfl (fun d h=>by simpa using h) h1 h2 fun ac xs W he hb hS K hK=>?_
       have k0:=cell_of_row W (w.heap.size + 1) 0 _ _ _ (HX.out W (HB12.out.thru hb)).2.1
       have e0:=(he 135).trans (hS 0 (by kernel_rfl))
       refine op_any (.load 3 (.tmp 135)) rfl (.int .i64 53) (fun o' ho'=>?_) (hK _ _ rfl bR nA)
       simp only [execOp,ho',e0]
       go_simp
      ·refine flow_step _ 137 rfl rfl (fun d h=>by simpa using h) h1 h2 fun ac xs W he hb hS K hK=>?_
       have e0:=(he 136).trans (hS 1 (by kernel_rfl))
       refine op_any (.binOp .shl 22 (.const (.int .u64 1)) (.tmp 136) 3) rfl (.int .u64 9007199254740992) (fun o' ho'=>?_) (hK _ _ rfl bR nA)
       simp only [execOp,ho',e0]
       go_simp
       exact IntWalk.u64_in _ (by omega)
      ·refine flow_step _ 138 rfl rfl (fun d h=>by simpa using h) h1 h2 fun ac xs W he hb hS K hK=>?_
       have e0:=(he 137).trans (hS 2 (by kernel_rfl))
       refine op_any (.binOp .sub 22 (.tmp 137) (.const (.int .u64 1)) 22) rfl (.int .u64 9007199254740991) (fun o' ho'=>?_) (hK _ _ rfl bR nA)
       simp only [execOp,ho',e0]
       go_simp
       exact IntWalk.u64_in _ (by omega)
      ·refine flow_step _ 139 rfl rfl (fun d h=>by simpa using h) h1 h2 fun ac xs W he hb hS K hK=>?_
       have e0 : ac.eval (.tmp 4) = .pointer (some ⟨w.heap.size + 1,0,none⟩):=he 4
       refine op_any (.fieldAddr 248 (.tmp 4) 2) rfl (.pointer (some ⟨w.heap.size + 1,2,none⟩)) (fun o' ho'=>?_) (hK _ _ rfl bR nA)
       simp only [execOp,ho',e0]
       go_simp
      ·refine flow_step _ 140 rfl rfl (fun d h=>by simpa using h) h1 h2 fun ac xs W he hb hS K hK=>?_
       have k0:=cell_of_row W (w.heap.size + 1) 2 _ _ _ (HX.out W (HB12.out.thru hb)).2.1
       have e0:=(he 139).trans (hS 4 (by kernel_rfl))
       refine op_any (.load 3 (.tmp 139)) rfl (.int .i64 971) (fun o' ho'=>?_) (hK _ _ rfl bR nA)
       simp only [execOp,ho',e0]
       go_simp
      ·refine flow_step _ 141 rfl rfl (fun d h=>by simpa using h) h1 h2 fun ac xs W he hb hS K hK=>?_
       exact wp_load_row 76 (.tmp 17) rfl gf (he 17) _ _ _ _ (HRF3.out W hb) Tryz.underlying76 rfl (by kernel_rfl) (hK _ _ rfl bR nA)
      ·refine flow_step _ 6 rfl rfl (fun d h=>by simpa using h) h1 h2 fun ac xs W he hb hS K hK=>?_
       exact op_move (.tmp 138) (.inr rfl) (hK _ _ ((he 138).trans (hS 3 (by kernel_rfl))) bR nA)
      ·refine flow_step _ 7 rfl rfl (fun d h=>by simpa using h) h1 h2 fun ac xs W he hb hS K hK=>?_
       exact op_move (.tmp 140) (.inr rfl) (hK _ _ ((he 140).trans (hS 5 (by kernel_rfl))) bR nA)
      ·refine flow_step _ 8 rfl rfl (fun d h=>by simpa using h) h1 h2 fun ac xs W he hb hS K hK=>?_
       exact op_move (.const (.bool false)) (.inr rfl) (hK _ _ rfl bR nA)
     ·intro xs WL hb hS hD
      have s6 : xs 6 = _:=hS 6 (by decide)
      have s7 : xs 7 = _:=hS 7 (by decide)
      have s8 : xs 8 = _:=hS 8 (by decide)
      have s9 : xs 9 = _:=hS 9 (by decide)
      have HBL : Hid (Below w2.heap.size w2 WL):=HB12.out.thru hb
      have r2 : WL.heap[w.heap.size + 1 + 1]? = some (.cells #[.bool false,.bool false,.bool false] 76 (0,0)):=(HX.out _ HBL.out).2.2.1
      obtain ⟨f0,c0,f1,c1,f2,c2,r3⟩:=rw3 r2
      have HR3 : Hid _:=r3
      have HBW : Hid (Below w.heap.size w WL):=(HX.out _ HBL.out).2.2.2.2.2
      simp only [layAll,s6,s7,s8,s9,List.setIfInBounds_toArray,List.set_cons_succ,List.set_cons_zero]
      clear hS hD hb r2 r3 s6 s7 s8 s9
      go_wp2
      exact float_end (p:=6) (q:=7) (r:=8) (u:=9) rfl rfl rfl rfl rfl (HR3.out _ _ _) (below_row3 HBW.out (by omega) _ _ _) HO2.out
end Go.Proofs.YtlbokicainimnaaGreatDoor
