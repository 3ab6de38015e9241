import Derived.Test.YtlbokicainimnaaGreatDoorQQW
set_option maxRecDepth 100000
namespace Go.Proofs.YtlbokicainimnaaGreatDoor
open Go.RowKit
theorem put_two {W : World} {g h : Nat} {x y : Bool} {a1 a2 : Option Addr} {m1 m2 c1 c2 : Nat} {s t : Value} {N M : Nat} {b1 b2 : Bool} {ty : TypeId} (r1 : W.heap[g]? = some (.cells #[.bool x, .slice a1 m1 c1] ty (0, 0))) (r2 : W.heap[h]? = some (.cells #[.bool y, .slice a2 m2 c2] ty (0, 0))) (hgh : g ≠ h)
  (n1 : Num .u64 18446744073709551616 W s N) (n2 : Num .u64 18446744073709551616 W t M) :
  ((((W.setCell ⟨g,0,none⟩ (.bool b1)).setCell ⟨g,1,none⟩ s).setCell ⟨h,0,none⟩ (.bool b2)).setCell ⟨h,1,none⟩ t).heap[g]? = some (.cells #[.bool b1,s] ty (0,0)) ∧
  ((((W.setCell ⟨g,0,none⟩ (.bool b1)).setCell ⟨g,1,none⟩ s).setCell ⟨h,0,none⟩ (.bool b2)).setCell ⟨h,1,none⟩ t).heap[h]? = some (.cells #[.bool b2,t] ty (0,0)) ∧
  Num .u64 18446744073709551616 ((((W.setCell ⟨g,0,none⟩ (.bool b1)).setCell ⟨g,1,none⟩ s).setCell ⟨h,0,none⟩ (.bool b2)).setCell ⟨h,1,none⟩ t) s N ∧
  Num .u64 18446744073709551616 ((((W.setCell ⟨g,0,none⟩ (.bool b1)).setCell ⟨g,1,none⟩ s).setCell ⟨h,0,none⟩ (.bool b2)).setCell ⟨h,1,none⟩ t) t M ∧
  ∀ k,k ≠ g → k ≠ h → ((((W.setCell ⟨g,0,none⟩ (.bool b1)).setCell ⟨g,1,none⟩ s).setCell ⟨h,0,none⟩ (.bool b2)).setCell ⟨h,1,none⟩ t).heap[k]? = W.heap[k]?:=by
 have e1:=row2_set r1 (.bool b1) s
 have e2:=row2_other r2 hgh.symm (.bool b1) s
 refine ⟨row2_other e1 hgh _ _,row2_set e2 _ _,(n1.row r1 _ _).row e2 _ _,(n2.row r1 _ _).row e2 _ _,fun k h1 h2=>?_⟩
 exact (row2_other rfl h2 _ _).trans (row2_other rfl h1 _ _)
theorem int_row_row_tmp {fn : Func} {p u q : Tmp} (h : fn.results = #[.cell p 123, .cell u 123, .tmp q]) (tmps : Array Value) (w : World) (g g' : Nat) (v s v' s' : Value)
  (hp : tmps.getD p undef = .pointer (some ⟨g,0,none⟩)) (hg : w.heap[g]? = some (.cells #[v,s] 123 (0,0)))
  (hp' : tmps.getD u undef = .pointer (some ⟨g',0,none⟩)) (hg' : w.heap[g']? = some (.cells #[v',s'] 123 (0,0))) : (results fn tmps).run Tryz.prog w = .ok (.tuple #[.agg #[v,s],.agg #[v',s'],tmps.getD q undef]) w:=by
 have h1 : tmps[p]?.getD undef = .pointer (some ⟨g,0,none⟩):=by simpa using hp
 have h2 : tmps[u]?.getD undef = .pointer (some ⟨g',0,none⟩):=by simpa using hp'
 simp only [results,h]
 simp [h1,h2,asAddr,run_loadVar_row (P:=Tryz.prog) w g _ 123 #[v,s] (0,0) _ hg Tryz.underlying123 rfl (by kernel_rfl),run_loadVar_row (P:=Tryz.prog) w g' _ 123 #[v',s'] (0,0) _ hg' Tryz.underlying123 rfl (by kernel_rfl)]
def LiftQ (a b : Dc) (w : World) (en : Ending) (w' : World) : Prop:=∃ u v,en = .returned (.tuple #[u,v,.int .i64 (liftE a b)]) ∧ WideI w' u (liftV a (liftE a b)) ∧ WideI w' v (liftV b (liftE a b)) ∧ Below w.heap.size w w'
theorem lifted_end {fn : Func} {p u q : Tmp} (hf : fn.results = #[.cell p 123, .cell u 123, .tmp q]) {tmps : Array Value} {w0 w : World} {g h : Nat} {b1 b2 : Bool} {s t : Value} {N M : Nat} {e : Int} {a b : Dc}
  (hp : tmps.getD p undef = .pointer (some ⟨g,0,none⟩)) (hu : tmps.getD u undef = .pointer (some ⟨h,0,none⟩)) (hq : tmps.getD q undef = .int .i64 e) (hg : w.heap[g]? = some (.cells #[.bool b1,s] 123 (0,0))) (hh : w.heap[h]? = some (.cells #[.bool b2,t] 123 (0,0)))
  (n1 : Num .u64 18446744073709551616 w s N) (n2 : Num .u64 18446744073709551616 w t M) (hb : Below w0.heap.size w0 w)
  (hE : e = liftE a b ∧ b1 = decide (liftV a (liftE a b) < 0) ∧ N = (liftV a (liftE a b)).natAbs ∧ b2 = decide (liftV b (liftE a b) < 0) ∧ M = (liftV b (liftE a b)).natAbs) :
  bodyPost Tryz.prog fn (LiftQ a b w0) .ret ⟨tmps,[]⟩ w:=by
 obtain ⟨rfl,rfl,rfl,rfl,rfl⟩:=hE
 obtain ⟨_,_,_,rfl⟩:=n1.shape
 obtain ⟨_,_,_,rfl⟩:=n2.shape
 refine bodyPost_ret (int_row_row_tmp hf _ _ g h _ _ _ _ hp hg hu hh) rfl ⟨_,_,?_,⟨_,_,_,rfl,n1⟩,⟨_,_,_,rfl,n2⟩,hb⟩
 rw [← hq]
structure LiftG (w : World) (a b : Dc) (g7 g8 : Nat) (ba bb : Bool) (s t : Value) (W : World) : Prop where
 bel : Below w.heap.size w W
 ra : W.heap[w.heap.size]? = some (.cells #[.bool a.neg,.string (bs a.s),.int .i64 a.e] 35 (0,0))
 rb : W.heap[w.heap.size + 1]? = some (.cells #[.bool b.neg,.string (bs b.s),.int .i64 b.e] 35 (0,0))
 r7 : W.heap[g7]? = some (.cells #[.bool ba,s] 123 (0,0))
 r8 : W.heap[g8]? = some (.cells #[.bool bb,t] 123 (0,0))
 n7 : Num .u64 18446744073709551616 W s a.v.natAbs
 n8 : Num .u64 18446744073709551616 W t b.v.natAbs
 r4 : ∃ x a m c,W.heap[w.heap.size + 2]? = some (.cells #[.bool x,.slice a m c] 123 (0,0))
 r5 : ∃ x a m c,W.heap[w.heap.size + 3]? = some (.cells #[.bool x,.slice a m c] 123 (0,0))
 d7 : w.heap.size + 4 ≤ g7
 d8 : w.heap.size + 4 ≤ g8
theorem Num.setRow {k : IntKind} {B : Nat} {w : World} {s : Value} {N : Nat} (h : Num k B w s N) {g : Nat} {x : Bool} {a : Option Addr} {n c : Nat} {t : TypeId} (hg : w.heap[g]? = some (.cells #[.bool x,.slice a n c] t (0,0))) (cs : Array Value) : Num k B (w.setRow g cs) s N:=by
 obtain ⟨xs,⟨p,m,d,rfl,h1,h2,h3,h4,h5⟩,h6,h7⟩:=h
 refine ⟨xs,⟨p,m,d,rfl,h1,h2,h3,h4,fun hn=>?_⟩,h6,h7⟩
 obtain ⟨b,o,rfl,hs,hc⟩:=h5 hn
 have hbg : b ≠ g:=by
  rintro rfl
  have:=hc 0 hn
  rw [cell_of_row _ _ _ _ _ _ hg] at this
  match o,this with
  | 0,h=>simp at h
  | 1,h=>simp at h
  | o + 2,h=>simp at h
 exact ⟨b,o,rfl,by rw [setRow_size]; exact hs,fun i hi=>(World.cell?_of_block (setRow_other w g b cs hbg)).trans (hc i hi)⟩
theorem WideI.setRow {w : World} {v : Value} {V : Int} (h : WideI w v V) {g : Nat} {x : Bool} {a : Option Addr} {n c : Nat} {t : TypeId} (hg : w.heap[g]? = some (.cells #[.bool x,.slice a n c] t (0,0))) (cs : Array Value) : WideI (w.setRow g cs) v V:=by
 obtain ⟨p,m,d,rfl,hn⟩:=h
 exact ⟨p,m,d,rfl,hn.setRow hg cs⟩
theorem LiftG.below {w : World} {a b : Dc} {g7 g8 : Nat} {ba bb : Bool} {s t : Value} {W W' : World} (h : LiftG w a b g7 g8 ba bb s t W) (hb : Below W.heap.size W W') : LiftG w a b g7 g8 ba bb s t W':=
 ⟨h.bel.thru hb,hb.blk h.ra (blk_lt h.ra),hb.blk h.rb (blk_lt h.rb),hb.blk h.r7 (blk_lt h.r7),hb.blk h.r8 (blk_lt h.r8),h.n7.below (Nat.le_refl _) hb,h.n8.below (Nat.le_refl _) hb,
  (by obtain ⟨x,a,m,c,e⟩:=h.r4; exact ⟨x,a,m,c,hb.blk e (blk_lt e)⟩),(by obtain ⟨x,a,m,c,e⟩:=h.r5; exact ⟨x,a,m,c,hb.blk e (blk_lt e)⟩),h.d7,h.d8⟩
theorem LiftG.store4 {w : World} {a b : Dc} {g7 g8 : Nat} {ba bb : Bool} {s t : Value} {W : World} (h : LiftG w a b g7 g8 ba bb s t W) {x : Bool} {p : Option Addr} {m c : Nat} (hr : W.heap[w.heap.size + 2]? = some (.cells #[.bool x,.slice p m c] 123 (0,0))) (y : Bool) {p' : Option Addr} {m' c' : Nat} (v : Value) (hv : v = .slice p' m' c':=by rfl) : LiftG w a b g7 g8 ba bb s t (W.setRow (w.heap.size + 2) #[.bool y,v]):=by
 subst hv
 have o:=fun k hk=>setRow_other W (w.heap.size + 2) k #[.bool y,.slice p' m' c'] hk
 refine ⟨below_setRow h.bel (Nat.le_add_right _ 2) _,(o _ (by omega)).trans h.ra,(o _ (by omega)).trans h.rb,(o _ (by have:=h.d7; omega)).trans h.r7,(o _ (by have:=h.d8; omega)).trans h.r8,h.n7.setRow hr _,h.n8.setRow hr _,⟨_,_,_,_,setRow_heap W _ _ _ _ _ hr⟩,?_,h.d7,h.d8⟩
 obtain ⟨x,a,m,c,e⟩:=h.r5
 exact ⟨x,a,m,c,(o _ (by omega)).trans e⟩
theorem LiftG.store5 {w : World} {a b : Dc} {g7 g8 : Nat} {ba bb : Bool} {s t : Value} {W : World} (h : LiftG w a b g7 g8 ba bb s t W) {x : Bool} {p : Option Addr} {m c : Nat} (hr : W.heap[w.heap.size + 3]? = some (.cells #[.bool x,.slice p m c] 123 (0,0))) (y : Bool) {p' : Option Addr} {m' c' : Nat} (v : Value) (hv : v = .slice p' m' c':=by rfl) : LiftG w a b g7 g8 ba bb s t (W.setRow (w.heap.size + 3) #[.bool y,v]):=by
 subst hv
 have o:=fun k hk=>setRow_other W (w.heap.size + 3) k #[.bool y,.slice p' m' c'] hk
 refine ⟨below_setRow h.bel (Nat.le_add_right _ 3) _,(o _ (by omega)).trans h.ra,(o _ (by omega)).trans h.rb,(o _ (by have:=h.d7; omega)).trans h.r7,(o _ (by have:=h.d8; omega)).trans h.r8,h.n7.setRow hr _,h.n8.setRow hr _,?_,⟨_,_,_,_,setRow_heap W _ _ _ _ _ hr⟩,h.d7,h.d8⟩
 obtain ⟨x,a,m,c,e⟩:=h.r4
 exact ⟨x,a,m,c,(o _ (by omega)).trans e⟩
def ResS (W : World) (g : Nat) (b : Bool) (N : Nat) : Prop:=∃ p m c,W.heap[g]? = some (.cells #[.bool b,.slice p m c] 123 (0,0)) ∧ Num .u64 18446744073709551616 W (.slice p m c) N
theorem ResS.new {W : World} {g : Nat} {x b : Bool} {p p' : Option Addr} {m m' c c' N : Nat} (hr : W.heap[g]? = some (.cells #[.bool x,.slice p m c] 123 (0,0))) (hn : Num .u64 18446744073709551616 W (.slice p' m' c') N) : ResS (W.setRow g #[.bool b,.slice p' m' c']) g b N:=
 ⟨p',m',c',setRow_heap W _ _ _ _ _ hr,hn.setRow hr _⟩
theorem ResS.below {W W' : World} {g : Nat} {b : Bool} {N : Nat} (h : ResS W g b N) (hb : Below W.heap.size W W') : ResS W' g b N:=by
 obtain ⟨p,m,c,h1,h2⟩:=h
 exact ⟨p,m,c,hb.blk h1 (blk_lt h1),h2.below (Nat.le_refl _) hb⟩
theorem ResS.other {W : World} {g g' : Nat} {b : Bool} {N : Nat} (h : ResS W g b N) {x : Bool} {p : Option Addr} {m c : Nat} (hr : W.heap[g']? = some (.cells #[.bool x,.slice p m c] 123 (0,0))) (hne : g ≠ g') (cs : Array Value) : ResS (W.setRow g' cs) g b N:=by
 obtain ⟨p',m',c',h1,h2⟩:=h
 exact ⟨p',m',c',(setRow_other W g' g cs hne).trans h1,h2.setRow hr cs⟩
theorem liftV_self (a : Dc) : liftV a a.e = a.v:=by unfold liftV; rw [Int.sub_self]; show a.v * 10 ^ 0 = _; rw [Int.pow_zero,Int.mul_one]
theorem liftV_none {a : Dc} (h : a.ok) (h0 : a.s = []) (e : Int) : liftV a e = a.v:=by
 have:=ok_nil h h0
 subst this
 unfold liftV; rw [none_v,Int.zero_mul]
theorem v_lt {a : Dc} (h : a.ok) {bb : Nat} (hbb : 32769 ≤ bb) : a.v.natAbs < 2 ^ bb:=by
 rw [v_abs]
 have h1:=ok_len h
 exact Nat.lt_trans (ok_val h) (ten_lt (Nat.le_refl _) (by omega))
set_option maxHeartbeats 4000000 in
theorem lifted_v (a b : Dc) (w : World) (ha : a.ok) (hbk : b.ok) : Calls Tryz.prog 180 #[dcV a,dcV b] w (LiftQ a b w):=by
 have HSA : Hid (∀ W,Calls Tryz.prog 121 #[dcV a] W (WideR a.v W)):=fun W=>signed_v a W (ok_dig ha) (by have:=ok_len ha; omega)
 have HSB : Hid (∀ W,Calls Tryz.prog 121 #[dcV b] W (WideR b.v W)):=fun W=>signed_v b W (ok_dig hbk) (by have:=ok_len hbk; omega)
 have HOA : Hid (a.ok):=ha
 have HOB : Hid (b.ok):=hbk
 have HB0 : Hid (Below w.heap.size w ((((w.alloc (.cells #[.bool a.neg,.string (bs a.s),.int .i64 a.e] 35)).alloc (.cells #[.bool b.neg,.string (bs b.s),.int .i64 b.e] 35)).alloc (.cells #[.bool false,.slice none 0 0] 123)).alloc (.cells #[.bool false,.slice none 0 0] 123))):=
  ((((Below.refl _ _).alloc (Nat.le_refl _) _).alloc (by simp) _).alloc (by simp; omega) _).alloc (by simp; omega) _
 have q4:=new_blk (((w.alloc (.cells #[.bool a.neg,.string (bs a.s),.int .i64 a.e] 35)).alloc (.cells #[.bool b.neg,.string (bs b.s),.int .i64 b.e] 35)).alloc (.cells #[.bool false,.slice none 0 0] 123)) (.cells #[.bool false,.slice none 0 0] 123)
 have bz : ∀ W : World,Below W.heap.size W (W.alloc (.cells #[.bool false,.slice none 0 0] 123)):=fun W=>(Below.refl _ _).alloc (Nat.le_refl _) _
 have hz3 : (((w.alloc (.cells #[.bool a.neg,.string (bs a.s),.int .i64 a.e] 35)).alloc (.cells #[.bool b.neg,.string (bs b.s),.int .i64 b.e] 35)).alloc (.cells #[.bool false,.slice none 0 0] 123)).heap.size = w.heap.size + 3:=by simp
 have HA : Hid (((((w.alloc (.cells #[.bool a.neg,.string (bs a.s),.int .i64 a.e] 35)).alloc (.cells #[.bool b.neg,.string (bs b.s),.int .i64 b.e] 35)).alloc (.cells #[.bool false,.slice none 0 0] 123)).alloc (.cells #[.bool false,.slice none 0 0] 123)).heap[w.heap.size]? = some (.cells #[.bool a.neg,.string (bs a.s),.int .i64 a.e] 35 (0,0))):=
  (bz _).blk (heap_alloc3_0 w _ _ _) (by simp; omega)
 have HB : Hid (((((w.alloc (.cells #[.bool a.neg,.string (bs a.s),.int .i64 a.e] 35)).alloc (.cells #[.bool b.neg,.string (bs b.s),.int .i64 b.e] 35)).alloc (.cells #[.bool false,.slice none 0 0] 123)).alloc (.cells #[.bool false,.slice none 0 0] 123)).heap[w.heap.size + 1]? = some (.cells #[.bool b.neg,.string (bs b.s),.int .i64 b.e] 35 (0,0))):=
  (bz _).blk (heap_alloc3_1 w _ _ _) (by simp <;> omega)
 have H4 : Hid (((((w.alloc (.cells #[.bool a.neg,.string (bs a.s),.int .i64 a.e] 35)).alloc (.cells #[.bool b.neg,.string (bs b.s),.int .i64 b.e] 35)).alloc (.cells #[.bool false,.slice none 0 0] 123)).alloc (.cells #[.bool false,.slice none 0 0] 123)).heap[w.heap.size + 2]? = some (.cells #[.bool false,.slice none 0 0] 123 (0,0))):=
  (bz _).blk (heap_alloc3_2 w _ _ _) (by simp)
 have H5 : Hid (((((w.alloc (.cells #[.bool a.neg,.string (bs a.s),.int .i64 a.e] 35)).alloc (.cells #[.bool b.neg,.string (bs b.s),.int .i64 b.e] 35)).alloc (.cells #[.bool false,.slice none 0 0] 123)).alloc (.cells #[.bool false,.slice none 0 0] 123)).heap[w.heap.size + 3]? = some (.cells #[.bool false,.slice none 0 0] 123 (0,0))):=by
  rw [hz3] at q4; exact q4
 clear q4 bz hz3 ha hbk
 show Calls Tryz.prog 180 #[.agg #[.bool a.neg,.string (bs a.s),.int .i64 a.e],.agg #[.bool b.neg,.string (bs b.s),.int .i64 b.e]] w _
 go_enter Tryz.func180,Tryz.ntmps180
 go_upto_region 1 with fail
 generalize ((((w.alloc (.cells #[.bool a.neg,.string (bs a.s),.int .i64 a.e] 35)).alloc (.cells #[.bool b.neg,.string (bs b.s),.int .i64 b.e] 35)).alloc (.cells #[.bool false,.slice none 0 0] 123)).alloc (.cells #[.bool false,.slice none 0 0] 123)) = w1 at *
 have h1 : once [(10,0),(11,1),(12,2),(13,3),(7,4),(8,5)] = true:=by kernel_rfl
 have h2 : within [(10,0),(11,1),(12,2),(13,3),(7,4),(8,5)] 48 = true:=by kernel_rfl
 refine wp_region_flow 6 8 [(10,0),(11,1),(12,2),(13,3),(7,4),(8,5)] [4,5] (fun i v W=>match i with
  | 0=>v = dcV a
  | 1=>WideI W v a.v
  | 2=>v = dcV b
  | 3=>WideI W v b.v
  | 4=>∃ g,v = .pointer (some ⟨g,0,none⟩) ∧ w1.heap.size ≤ g ∧ g < W.heap.size ∧ W.heap[g]? = some (.cells #[.bool false,.slice none 0 0] 123 (0,0))
  | _=>∃ g,v = .pointer (some ⟨g,0,none⟩) ∧ w1.heap.size ≤ g ∧ g < W.heap.size ∧ W.heap[g]? = some (.cells #[.bool false,.slice none 0 0] 123 (0,0))) w1.heap.size (Nat.le_refl _) (by kernel_rfl) (by kernel_rfl) (by kernel_rfl) (by decide) (by kernel_rfl) h1 (by kernel_rfl) ?_ ?_ ?_ ?_
 ·intro j v W W' h hb
  match j,h with
  | 0,h=>exact h
  | 1,h=>exact WideI.below h hb
  | 2,h=>exact h
  | 3,h=>exact WideI.below h hb
  | 4,⟨g,s1,s2,s3,s4⟩=>exact ⟨g,s1,s2,Nat.lt_of_lt_of_le s3 hb.size,hb.blk s4 s3⟩
  | _ + 5,⟨g,s1,s2,s3,s4⟩=>exact ⟨g,s1,s2,Nat.lt_of_lt_of_le s3 hb.size,hb.blk s4 s3⟩
 ·intro j hj v W h
  simp only [List.mem_cons,List.not_mem_nil,or_false] at hj
  rcases hj with rfl | rfl
  ·obtain ⟨g,s1,s2,s3,s4⟩:=h; exact ⟨g,s1,s3⟩
  ·obtain ⟨g,s1,s2,s3,s4⟩:=h; exact ⟨g,s1,s3⟩
 ·refine ⟨⟨⟨⟨⟨⟨trivial,?_⟩,?_⟩,?_⟩,?_⟩,?_⟩,?_⟩
  ·refine flow_step _ 10 rfl rfl (fun d h=>by simpa using h) h1 h2 fun ac xs W he hb hS K hK=>?_
   exact wp_load_row 35 (.tmp 2) rfl w.heap.size (he 2) _ _ _ _ (hb.blk HA.out (blk_lt HA.out)) Tryz.underlying35 rfl (by kernel_rfl) (hK _ _ rfl bR (fun h=>absurd h (by decide)))
  ·refine flow_step _ 11 rfl rfl (fun d h=>by simpa using h) h1 h2 fun ac xs W he hb hS K hK=>?_
   have e0:=(he 10).trans (hS 0 (by kernel_rfl))
   refine op_call 121 _ _ rfl _ (by simp only [List.map,e0]) (by go_simp) (HSA.out W) ?_
   rintro e' W' ⟨v,rfl,hi,hb'⟩
   exact ⟨_,rfl,hK _ _ (hi) hb' (fun h=>absurd h (by decide))⟩
  ·refine flow_step _ 12 rfl rfl (fun d h=>by simpa using h) h1 h2 fun ac xs W he hb hS K hK=>?_
   exact wp_load_row 35 (.tmp 3) rfl (w.heap.size + 1) (he 3) _ _ _ _ (hb.blk HB.out (blk_lt HB.out)) Tryz.underlying35 rfl (by kernel_rfl) (hK _ _ rfl bR (fun h=>absurd h (by decide)))
  ·refine flow_step _ 13 rfl rfl (fun d h=>by simpa using h) h1 h2 fun ac xs W he hb hS K hK=>?_
   have e0:=(he 12).trans (hS 2 (by kernel_rfl))
   refine op_call 121 _ _ rfl _ (by simp only [List.map,e0]) (by go_simp) (HSB.out W) ?_
   rintro e' W' ⟨v,rfl,hi,hb'⟩
   exact ⟨_,rfl,hK _ _ (hi) hb' (fun h=>absurd h (by decide))⟩
  ·refine flow_step _ 7 rfl rfl (fun d h=>by simpa using h) h1 h2 fun ac xs W he hb hS K hK=>?_
   have hsz:=hb.size
   refine op_anyw (.alloc 123) rfl (.pointer (some ⟨W.heap.size,0,none⟩)) (W.alloc (.cells #[.bool false,.slice none 0 0] 123)) ?_ ?_
   ·intro o' ho'
    simp only [execOp,ho']
    go_simp
   ·exact hK _ _ ⟨_,rfl,by omega,by simp,heap_alloc_new _ _⟩ (bR.alloc (Nat.le_refl _) _) (fun _=>rfl)
  ·refine flow_step _ 8 rfl rfl (fun d h=>by simpa using h) h1 h2 fun ac xs W he hb hS K hK=>?_
   have hsz:=hb.size
   refine op_anyw (.alloc 123) rfl (.pointer (some ⟨W.heap.size,0,none⟩)) (W.alloc (.cells #[.bool false,.slice none 0 0] 123)) ?_ ?_
   ·intro o' ho'
    simp only [execOp,ho']
    go_simp
   ·exact hK _ _ ⟨_,rfl,by omega,by simp,heap_alloc_new _ _⟩ (bR.alloc (Nat.le_refl _) _) (fun _=>rfl)
 ·intro xs W hb hS hD
  obtain ⟨p1,p2,p3,s1,hn1⟩:=(hS 1 (by decide) : WideI W (xs 1) a.v)
  obtain ⟨q1,q2,q3,s3,hn3⟩:=(hS 3 (by decide) : WideI W (xs 3) b.v)
  obtain ⟨g7,s4,k41,k42,k43⟩ : ∃ g,xs 4 = .pointer (some ⟨g,0,none⟩) ∧ w1.heap.size ≤ g ∧ g < W.heap.size ∧ W.heap[g]? = some (.cells #[.bool false,.slice none 0 0] 123 (0,0)):=hS 4 (by decide)
  obtain ⟨g8,s5,k51,k52,k53⟩ : ∃ g,xs 5 = .pointer (some ⟨g,0,none⟩) ∧ w1.heap.size ≤ g ∧ g < W.heap.size ∧ W.heap[g]? = some (.cells #[.bool false,.slice none 0 0] 123 (0,0)):=hS 5 (by decide)
  have h78 : g7 ≠ g8:=fun e=>hD 4 (by decide) 5 (by decide) (by decide) (by decide) (by decide) (by rw [s4,s5,e])
  have s0 : xs 0 = _:=hS 0 (by decide)
  have s2 : xs 2 = _:=hS 2 (by decide)
  obtain ⟨ba,hba⟩ : ∃ x,x = decide (a.v < 0):=⟨_,rfl⟩
  obtain ⟨bb,hbb⟩ : ∃ x,x = decide (b.v < 0):=⟨_,rfl⟩
  rw [← hba] at s1
  rw [← hbb] at s3
  obtain ⟨t7,t8,n7,n8,hoth⟩:=put_two k43 k53 h78 hn1 hn3 (b1:=ba) (b2:=bb)
  obtain ⟨f0,f1,c0,c1,f2,c2⟩:=row2 k43
  obtain ⟨e0,e1,d0,d1,e2,d2⟩:=row2 ((row2_other k53 h78.symm (.bool ba) (.slice p1 p2 p3)))
  have HT7 : Hid _:=t7
  have HT8 : Hid _:=t8
  have HN7 : Hid (Num .u64 18446744073709551616 _ (.slice p1 p2 p3) a.v.natAbs):=n7
  have HN8 : Hid (Num .u64 18446744073709551616 _ (.slice q1 q2 q3) b.v.natAbs):=n8
  have HBA : Hid (ba = decide (a.v < 0)):=hba
  have HBB : Hid (bb = decide (b.v < 0)):=hbb
  have HRA : Hid _:=(hoth w.heap.size (by have:=blk_lt HA.out; omega) (by have:=blk_lt HA.out; omega)).trans (hb.blk HA.out (blk_lt HA.out))
  have HRB : Hid _:=(hoth (w.heap.size + 1) (by have:=blk_lt HB.out; omega) (by have:=blk_lt HB.out; omega)).trans (hb.blk HB.out (blk_lt HB.out))
  have HR4 : Hid _:=(hoth (w.heap.size + 2) (by have:=blk_lt H4.out; omega) (by have:=blk_lt H4.out; omega)).trans (hb.blk H4.out (blk_lt H4.out))
  have HR5 : Hid _:=(hoth (w.heap.size + 3) (by have:=blk_lt H5.out; omega) (by have:=blk_lt H5.out; omega)).trans (hb.blk H5.out (blk_lt H5.out))
  have HBL : Hid (Below w.heap.size w _):=HB0.out.thru (below_row (below_row hb k41 (.bool ba) (.slice p1 p2 p3)) k51 (.bool bb) (.slice q1 q2 q3))
  have HG : Hid (w.heap.size + 4 ≤ g7 ∧ w.heap.size + 4 ≤ g8):=⟨by have:=blk_lt H5.out; omega,by have:=blk_lt H5.out; omega⟩
  simp only [layAll,s0,s1,s2,s3,s4,s5]
  clear s0 s1 s2 s3 s4 s5 hS hD hb hn1 hn3 k41 k42 k43 k51 k52 k53 hba hbb t7 t8 n7 n8 hoth h78
  go_simp
  simp only [dcV]
  go_upto_region 2 with fail
  generalize hW4 : ((((W.setCell ⟨g7,0,none⟩ (.bool ba)).setCell ⟨g7,1,none⟩ (.slice p1 p2 p3)).setCell ⟨g8,0,none⟩ (.bool bb)).setCell ⟨g8,1,none⟩ (.slice q1 q2 q3)) = w4 at *
  clear f0 f1 c0 c1 f2 c2 e0 e1 d0 d1 e2 d2 hW4
  have HG0 : Hid (LiftG w a b g7 g8 ba bb (.slice p1 p2 p3) (.slice q1 q2 q3) w4):=⟨HBL.out,HRA.out,HRB.out,HT7.out,HT8.out,HN7.out,HN8.out,⟨_,_,_,_,HR4.out⟩,⟨_,_,_,_,HR5.out⟩,HG.out.1,HG.out.2⟩
  have hca : w4.cell? ⟨w.heap.size,1,none⟩ = some (.string (bs a.s)):=cell_of_row w4 _ 1 _ _ _ HRA.out
  have hca2 : w4.cell? ⟨w.heap.size,2,none⟩ = some (.int .i64 a.e):=cell_of_row w4 _ 2 _ _ _ HRA.out
  have hcb : w4.cell? ⟨w.heap.size + 1,1,none⟩ = some (.string (bs b.s)):=cell_of_row w4 _ 1 _ _ _ HRB.out
  have hcb2 : w4.cell? ⟨w.heap.size + 1,2,none⟩ = some (.int .i64 b.e):=cell_of_row w4 _ 2 _ _ _ HRB.out
  by_cases h0 : a.s = []
  ·have hea : (bs a.s).toList.isEmpty = true:=by rw [h0]; show (ByteArray.mk _).toList.isEmpty = true; rw [ByteArray.toList_mk]; rfl
   have HE1 : Hid (b.e = liftE a b ∧ ba = decide (liftV a (liftE a b) < 0) ∧ a.v.natAbs = (liftV a (liftE a b)).natAbs ∧ bb = decide (liftV b (liftE a b) < 0) ∧ b.v.natAbs = (liftV b (liftE a b)).natAbs):=by
    have e1 : liftE a b = b.e:=by unfold liftE; rw [if_pos h0]
    rw [e1,liftV_none HOA.out h0,liftV_self]
    exact ⟨rfl,HBA.out,rfl,HBB.out,rfl⟩
   clear h0
   go_upto_region 3 with fail
   have h1 : once [(17,0),(18,1),(19,2),(20,3)] = true:=by kernel_rfl
   have h2 : within [(17,0),(18,1),(19,2),(20,3)] 48 = true:=by kernel_rfl
   have hstab : ∀ j v W W',(fun (i : Nat) (v : Value) (W : World)=>match i with
    | 0=>v = .agg #[.bool ba,.slice p1 p2 p3]
    | 1=>v = .agg #[.bool bb,.slice q1 q2 q3]
    | 2=>v = .pointer (some ⟨w.heap.size + 1,2,none⟩)
    | 3=>v = .int .i64 b.e
    | 4=>ResS W (w.heap.size + 2) (ba) (a.v.natAbs)
    | _=>ResS W (w.heap.size + 3) (bb) (b.v.natAbs)) j v W → Below W.heap.size W W' → (fun (i : Nat) (v : Value) (W : World)=>match i with
    | 0=>v = .agg #[.bool ba,.slice p1 p2 p3]
    | 1=>v = .agg #[.bool bb,.slice q1 q2 q3]
    | 2=>v = .pointer (some ⟨w.heap.size + 1,2,none⟩)
    | 3=>v = .int .i64 b.e
    | 4=>ResS W (w.heap.size + 2) (ba) (a.v.natAbs)
    | _=>ResS W (w.heap.size + 3) (bb) (b.v.natAbs)) j v W':=by
    intro j v W W' h hb
    match j,h with
    | 0,h=>exact h
    | 1,h=>exact h
    | 2,h=>exact h
    | 3,h=>exact h
    | 4,h=>exact h.below hb
    | _ + 5,h=>exact h.below hb
   refine wp_region_flow2 6 7 [(17,0),(18,1),(19,2),(20,3)] [] (fun (i : Nat) (v : Value) (W : World)=>match i with
    | 0=>v = .agg #[.bool ba,.slice p1 p2 p3]
    | 1=>v = .agg #[.bool bb,.slice q1 q2 q3]
    | 2=>v = .pointer (some ⟨w.heap.size + 1,2,none⟩)
    | 3=>v = .int .i64 b.e
    | 4=>ResS W (w.heap.size + 2) (ba) (a.v.natAbs)
    | _=>ResS W (w.heap.size + 3) (bb) (b.v.natAbs)) (fun _ W=>LiftG w a b g7 g8 ba bb (.slice p1 p2 p3) (.slice q1 q2 q3) W) (HG0.out.below (Below.refl _ _).drew) (by kernel_rfl) (by kernel_rfl) (by kernel_rfl) (by decide) (by kernel_rfl) h1 (by kernel_rfl) (fun j hj=>by cases hj) ?_ ?_
   ·refine ⟨⟨⟨⟨⟨⟨trivial,?_⟩,?_⟩,?_⟩,?_⟩,?_⟩,?_⟩
    ·refine flow2_step _ (some 17) rfl rfl rfl h1 h2 (fun D W _ h=>h) (fun D W W' h hb=>h.below hb) hstab fun ac xs W D he hni hG hS K hK=>?_
     exact wp_load_row 123 (.tmp 7) rfl g7 (he 7) _ _ _ _ (hG.r7) Tryz.underlying123 rfl (by kernel_rfl) (hK _ _ rfl bR nA)
    ·refine flow2_step _ (some 18) rfl rfl rfl h1 h2 (fun D W _ h=>h) (fun D W W' h hb=>h.below hb) hstab fun ac xs W D he hni hG hS K hK=>?_
     exact wp_load_row 123 (.tmp 8) rfl g8 (he 8) _ _ _ _ (hG.r8) Tryz.underlying123 rfl (by kernel_rfl) (hK _ _ rfl bR nA)
    ·refine flow2_step _ (some 19) rfl rfl rfl h1 h2 (fun D W _ h=>h) (fun D W W' h hb=>h.below hb) hstab fun ac xs W D he hni hG hS K hK=>?_
     have e0 : ac.eval (.tmp 3) = .pointer (some ⟨w.heap.size + 1,0,none⟩):=he 3
     refine op_any (.fieldAddr 35 (.tmp 3) 2) rfl (.pointer (some ⟨w.heap.size + 1,2,none⟩)) (fun o' ho'=>?_) (hK _ _ rfl bR nA)
     simp only [execOp,ho',e0]
     go_simp
    ·refine flow2_step _ (some 20) rfl rfl rfl h1 h2 (fun D W _ h=>h) (fun D W W' h hb=>h.below hb) hstab fun ac xs W D he hni hG hS K hK=>?_
     have e0:=(he 19).trans (hS 2 (by kernel_rfl))
     refine op_any (.load 3 (.tmp 19)) rfl (.int .i64 b.e) (fun o' ho'=>?_) (hK _ _ rfl bR nA)
     simp only [execOp,ho',e0]
     have hc:=cell_of_row W _ 2 _ _ _ hG.rb
     go_simp
    ·refine flow2_store _ rfl rfl rfl h1 h2 (by decide) fun ac xs W D he hni hG hS K hK=>?_
     obtain ⟨z1,z2,z3,z4,hr⟩:=hG.r4
     have hn:=hG.n7
     have hrow:=hr
     have hvy : ac.eval (.tmp 17) = .agg #[.bool ba,.slice p1 p2 p3]:=(he 17).trans (hS 0 (by kernel_rfl))
     refine wp_store_row 123 (.tmp 4) (.tmp 17) rfl (w.heap.size + 2) #[.bool ba,.slice p1 p2 p3] (he 4) hvy _ _ hrow (by kernel_rfl) rfl (by simp [Value.oneCell']) ?_
     have hself : (fun W=>ResS W (w.heap.size + 2) (ba) (a.v.natAbs)) (W.setRow (w.heap.size + 2) #[.bool ba,.slice p1 p2 p3]):=ResS.new hr hn
     refine hK _ hself (hG.store4 hr _ _) ?_
     intro j u h
     match j,h with
     | 0,h=>exact h
     | 1,h=>exact h
     | 2,h=>exact h
     | 3,h=>exact h
     | 4,_=>exact hself
     | _ + 5,h=>exact h.other hr (by omega) _
    ·refine flow2_store _ rfl rfl rfl h1 h2 (by decide) fun ac xs W D he hni hG hS K hK=>?_
     obtain ⟨z1,z2,z3,z4,hr⟩:=hG.r5
     have hn:=hG.n8
     have hrow:=hr
     have hvy : ac.eval (.tmp 18) = .agg #[.bool bb,.slice q1 q2 q3]:=(he 18).trans (hS 1 (by kernel_rfl))
     refine wp_store_row 123 (.tmp 5) (.tmp 18) rfl (w.heap.size + 3) #[.bool bb,.slice q1 q2 q3] (he 5) hvy _ _ hrow (by kernel_rfl) rfl (by simp [Value.oneCell']) ?_
     have hself : (fun W=>ResS W (w.heap.size + 3) (bb) (b.v.natAbs)) (W.setRow (w.heap.size + 3) #[.bool bb,.slice q1 q2 q3]):=ResS.new hr hn
     refine hK _ hself (hG.store5 hr _ _) ?_
     intro j u h
     match j,h with
     | 0,h=>exact h
     | 1,h=>exact h
     | 2,h=>exact h
     | 3,h=>exact h
     | 4,h=>exact h.other hr (by omega) _
     | _ + 5,_=>exact hself
   ·intro xs W D hall hG hS hD
    have s0 : xs 0 = _:=hS 0 (by decide)
    have s1 : xs 1 = _:=hS 1 (by decide)
    have s2 : xs 2 = _:=hS 2 (by decide)
    have s3 : xs 3 = _:=hS 3 (by decide)
    simp only [layAll,s0,s1,s2,s3]
    clear s0 s1 s2 s3
    obtain ⟨t41,t42,t43,hT4,hN4⟩:=hS 4 (by decide)
    obtain ⟨t51,t52,t53,hT5,hN5⟩:=hS 5 (by decide)
    have HT4 : Hid _:=hT4
    have HT5 : Hid _:=hT5
    have HN4 : Hid (Num .u64 18446744073709551616 W (.slice t41 t42 t43) _):=hN4
    have HN5 : Hid (Num .u64 18446744073709551616 W (.slice t51 t52 t53) _):=hN5
    have HBE : Hid (Below w.heap.size w W):=hG.bel
    clear hS hD hT4 hT5 hN4 hN5 hG hall hstab
    go_simp
    go_wp2
    exact lifted_end rfl rfl rfl rfl HT4.out HT5.out HN4.out HN5.out HBE.out HE1.out
  ·obtain ⟨x, y, hxy⟩ : ∃ x y, a.s = x :: y := by
    cases g : a.s with
    | nil=>exact absurd g h0
    | cons x y=>exact ⟨x,y,rfl⟩
   have hea : (bs a.s).toList.isEmpty = false:=by rw [hxy]; show (ByteArray.mk _).toList.isEmpty = false; rw [ByteArray.toList_mk]; rfl
   clear hxy
   by_cases h1 : b.s = []
   ·have heb : (bs b.s).toList.isEmpty = true:=by rw [h1]; show (ByteArray.mk _).toList.isEmpty = true; rw [ByteArray.toList_mk]; rfl
    have HE1 : Hid (a.e = liftE a b ∧ ba = decide (liftV a (liftE a b) < 0) ∧ a.v.natAbs = (liftV a (liftE a b)).natAbs ∧ bb = decide (liftV b (liftE a b) < 0) ∧ b.v.natAbs = (liftV b (liftE a b)).natAbs):=by
     have e1 : liftE a b = a.e:=by unfold liftE; rw [if_neg h0,if_pos h1]
     rw [e1,liftV_none HOB.out h1,liftV_self]
     exact ⟨rfl,HBA.out,rfl,HBB.out,rfl⟩
    clear h0 h1
    go_upto_region 5 with fail
    have h1 : once [(24,0),(25,1),(26,2),(27,3)] = true:=by kernel_rfl
    have h2 : within [(24,0),(25,1),(26,2),(27,3)] 48 = true:=by kernel_rfl
    have hstab : ∀ j v W W',(fun (i : Nat) (v : Value) (W : World)=>match i with
     | 0=>v = .agg #[.bool ba,.slice p1 p2 p3]
     | 1=>v = .agg #[.bool bb,.slice q1 q2 q3]
     | 2=>v = .pointer (some ⟨w.heap.size,2,none⟩)
     | 3=>v = .int .i64 a.e
     | 4=>ResS W (w.heap.size + 2) (ba) (a.v.natAbs)
     | _=>ResS W (w.heap.size + 3) (bb) (b.v.natAbs)) j v W → Below W.heap.size W W' → (fun (i : Nat) (v : Value) (W : World)=>match i with
     | 0=>v = .agg #[.bool ba,.slice p1 p2 p3]
     | 1=>v = .agg #[.bool bb,.slice q1 q2 q3]
     | 2=>v = .pointer (some ⟨w.heap.size,2,none⟩)
     | 3=>v = .int .i64 a.e
     | 4=>ResS W (w.heap.size + 2) (ba) (a.v.natAbs)
     | _=>ResS W (w.heap.size + 3) (bb) (b.v.natAbs)) j v W':=by
     intro j v W W' h hb
     match j,h with
     | 0,h=>exact h
     | 1,h=>exact h
     | 2,h=>exact h
     | 3,h=>exact h
     | 4,h=>exact h.below hb
     | _ + 5,h=>exact h.below hb
    refine wp_region_flow2 6 7 [(24,0),(25,1),(26,2),(27,3)] [] (fun (i : Nat) (v : Value) (W : World)=>match i with
     | 0=>v = .agg #[.bool ba,.slice p1 p2 p3]
     | 1=>v = .agg #[.bool bb,.slice q1 q2 q3]
     | 2=>v = .pointer (some ⟨w.heap.size,2,none⟩)
     | 3=>v = .int .i64 a.e
     | 4=>ResS W (w.heap.size + 2) (ba) (a.v.natAbs)
     | _=>ResS W (w.heap.size + 3) (bb) (b.v.natAbs)) (fun _ W=>LiftG w a b g7 g8 ba bb (.slice p1 p2 p3) (.slice q1 q2 q3) W) (HG0.out.below (Below.refl _ _).drew) (by kernel_rfl) (by kernel_rfl) (by kernel_rfl) (by decide) (by kernel_rfl) h1 (by kernel_rfl) (fun j hj=>by cases hj) ?_ ?_
    ·refine ⟨⟨⟨⟨⟨⟨trivial,?_⟩,?_⟩,?_⟩,?_⟩,?_⟩,?_⟩
     ·refine flow2_step _ (some 24) rfl rfl rfl h1 h2 (fun D W _ h=>h) (fun D W W' h hb=>h.below hb) hstab fun ac xs W D he hni hG hS K hK=>?_
      exact wp_load_row 123 (.tmp 7) rfl g7 (he 7) _ _ _ _ (hG.r7) Tryz.underlying123 rfl (by kernel_rfl) (hK _ _ rfl bR nA)
     ·refine flow2_step _ (some 25) rfl rfl rfl h1 h2 (fun D W _ h=>h) (fun D W W' h hb=>h.below hb) hstab fun ac xs W D he hni hG hS K hK=>?_
      exact wp_load_row 123 (.tmp 8) rfl g8 (he 8) _ _ _ _ (hG.r8) Tryz.underlying123 rfl (by kernel_rfl) (hK _ _ rfl bR nA)
     ·refine flow2_step _ (some 26) rfl rfl rfl h1 h2 (fun D W _ h=>h) (fun D W W' h hb=>h.below hb) hstab fun ac xs W D he hni hG hS K hK=>?_
      have e0 : ac.eval (.tmp 2) = .pointer (some ⟨w.heap.size,0,none⟩):=he 2
      refine op_any (.fieldAddr 35 (.tmp 2) 2) rfl (.pointer (some ⟨w.heap.size,2,none⟩)) (fun o' ho'=>?_) (hK _ _ rfl bR nA)
      simp only [execOp,ho',e0]
      go_simp
     ·refine flow2_step _ (some 27) rfl rfl rfl h1 h2 (fun D W _ h=>h) (fun D W W' h hb=>h.below hb) hstab fun ac xs W D he hni hG hS K hK=>?_
      have e0:=(he 26).trans (hS 2 (by kernel_rfl))
      refine op_any (.load 3 (.tmp 26)) rfl (.int .i64 a.e) (fun o' ho'=>?_) (hK _ _ rfl bR nA)
      simp only [execOp,ho',e0]
      have hc:=cell_of_row W _ 2 _ _ _ hG.ra
      go_simp
     ·refine flow2_store _ rfl rfl rfl h1 h2 (by decide) fun ac xs W D he hni hG hS K hK=>?_
      obtain ⟨z1,z2,z3,z4,hr⟩:=hG.r4
      have hn:=hG.n7
      have hrow:=hr
      have hvy : ac.eval (.tmp 24) = .agg #[.bool ba,.slice p1 p2 p3]:=(he 24).trans (hS 0 (by kernel_rfl))
      refine wp_store_row 123 (.tmp 4) (.tmp 24) rfl (w.heap.size + 2) #[.bool ba,.slice p1 p2 p3] (he 4) hvy _ _ hrow (by kernel_rfl) rfl (by simp [Value.oneCell']) ?_
      have hself : (fun W=>ResS W (w.heap.size + 2) (ba) (a.v.natAbs)) (W.setRow (w.heap.size + 2) #[.bool ba,.slice p1 p2 p3]):=ResS.new hr hn
      refine hK _ hself (hG.store4 hr _ _) ?_
      intro j u h
      match j,h with
      | 0,h=>exact h
      | 1,h=>exact h
      | 2,h=>exact h
      | 3,h=>exact h
      | 4,_=>exact hself
      | _ + 5,h=>exact h.other hr (by omega) _
     ·refine flow2_store _ rfl rfl rfl h1 h2 (by decide) fun ac xs W D he hni hG hS K hK=>?_
      obtain ⟨z1,z2,z3,z4,hr⟩:=hG.r5
      have hn:=hG.n8
      have hrow:=hr
      have hvy : ac.eval (.tmp 25) = .agg #[.bool bb,.slice q1 q2 q3]:=(he 25).trans (hS 1 (by kernel_rfl))
      refine wp_store_row 123 (.tmp 5) (.tmp 25) rfl (w.heap.size + 3) #[.bool bb,.slice q1 q2 q3] (he 5) hvy _ _ hrow (by kernel_rfl) rfl (by simp [Value.oneCell']) ?_
      have hself : (fun W=>ResS W (w.heap.size + 3) (bb) (b.v.natAbs)) (W.setRow (w.heap.size + 3) #[.bool bb,.slice q1 q2 q3]):=ResS.new hr hn
      refine hK _ hself (hG.store5 hr _ _) ?_
      intro j u h
      match j,h with
      | 0,h=>exact h
      | 1,h=>exact h
      | 2,h=>exact h
      | 3,h=>exact h
      | 4,h=>exact h.other hr (by omega) _
      | _ + 5,_=>exact hself
    ·intro xs W D hall hG hS hD
     have s0 : xs 0 = _:=hS 0 (by decide)
     have s1 : xs 1 = _:=hS 1 (by decide)
     have s2 : xs 2 = _:=hS 2 (by decide)
     have s3 : xs 3 = _:=hS 3 (by decide)
     simp only [layAll,s0,s1,s2,s3]
     clear s0 s1 s2 s3
     obtain ⟨t41,t42,t43,hT4,hN4⟩:=hS 4 (by decide)
     obtain ⟨t51,t52,t53,hT5,hN5⟩:=hS 5 (by decide)
     have HT4 : Hid _:=hT4
     have HT5 : Hid _:=hT5
     have HN4 : Hid (Num .u64 18446744073709551616 W (.slice t41 t42 t43) _):=hN4
     have HN5 : Hid (Num .u64 18446744073709551616 W (.slice t51 t52 t53) _):=hN5
     have HBE : Hid (Below w.heap.size w W):=hG.bel
     clear hS hD hT4 hT5 hN4 hN5 hG hall hstab
     go_simp
     go_wp2
     exact lifted_end rfl rfl rfl rfl HT4.out HT5.out HN4.out HN5.out HBE.out HE1.out
   ·obtain ⟨x, y, hxy⟩ : ∃ x y, b.s = x :: y := by
     cases g : b.s with
     | nil=>exact absurd g h1
     | cons x y=>exact ⟨x,y,rfl⟩
    have heb : (bs b.s).toList.isEmpty = false:=by rw [hxy]; show (ByteArray.mk _).toList.isEmpty = false; rw [ByteArray.toList_mk]; rfl
    clear hxy
    obtain ⟨E,hmin⟩ : ∃ E,min a.e b.e = E:=⟨_,rfl⟩
    obtain ⟨na,hna⟩ : ∃ n,n = (a.e - E).toNat:=⟨_,rfl⟩
    obtain ⟨nb,hnb⟩ : ∃ n,n = (b.e - E).toNat:=⟨_,rfl⟩
    obtain ⟨k1,k2⟩:=ok_exp HOA.out
    obtain ⟨k3,k4⟩:=ok_exp HOB.out
    have HWa : Hid (IntKind.i64.wrap (a.e - E) = (na : Int)):=by show _ = _; rw [IntWalk.i64_in _ (by omega)]; omega
    have HWb : Hid (IntKind.i64.wrap (b.e - E) = (nb : Int)):=by show _ = _; rw [IntWalk.i64_in _ (by omega)]; omega
    have HBDa : Hid (na ≤ 40000):=by show _ ≤ _; omega
    have HBDb : Hid (nb ≤ 40000):=by show _ ≤ _; omega
    obtain ⟨bt,hbt,hbt2⟩ : ∃ bt,200001 ≤ bt ∧ bt ≤ 4294967296:=⟨200001,by decide,by decide⟩
    have HPW : Hid (∀ W (n : Nat),n ≤ 40000 → Calls Tryz.prog 99 #[.int .u64 10,.int .i64 (n : Nat)] W (WideR ((10 ^ n : Nat) : Int) W)):=fun W n hn=>power_v 10 n W (by decide) (bb:=bt) (fun i hi=>ten_lt hi (by omega)) hbt2 (by omega)
    have HMLa : Hid (∀ W v,Num .u64 18446744073709551616 W (.slice p1 p2 p3) a.v.natAbs → WideI W v ((10 ^ na : Nat) : Int) → Calls Tryz.prog 106 #[.agg #[.bool ba,.slice p1 p2 p3],v] W (WideR (a.v * ((10 ^ na : Nat) : Int)) W)):=fun W v hW hv=>
     imul_v _ v a.v _ W ⟨p1,p2,p3,by rw [HBA.out],hW⟩ hv (bb:=bt) (v_lt HOA.out (by omega)) (by rw [Int.natAbs_natCast]; exact ten_lt (Nat.le_refl _) (by have:=HBDa.out; omega)) hbt2
    have HMLb : Hid (∀ W v,Num .u64 18446744073709551616 W (.slice q1 q2 q3) b.v.natAbs → WideI W v ((10 ^ nb : Nat) : Int) → Calls Tryz.prog 106 #[.agg #[.bool bb,.slice q1 q2 q3],v] W (WideR (b.v * ((10 ^ nb : Nat) : Int)) W)):=fun W v hW hv=>
     imul_v _ v b.v _ W ⟨q1,q2,q3,by rw [HBB.out],hW⟩ hv (bb:=bt) (v_lt HOB.out (by omega)) (by rw [Int.natAbs_natCast]; exact ten_lt (Nat.le_refl _) (by have:=HBDb.out; omega)) hbt2
    have HE1 : Hid (∀ x y : Bool,x = decide (a.v * ((10 ^ na : Nat) : Int) < 0) → y = decide (b.v * ((10 ^ nb : Nat) : Int) < 0) → E = liftE a b ∧ x = decide (liftV a (liftE a b) < 0) ∧ (a.v * ((10 ^ na : Nat) : Int)).natAbs = (liftV a (liftE a b)).natAbs ∧ y = decide (liftV b (liftE a b) < 0) ∧ (b.v * ((10 ^ nb : Nat) : Int)).natAbs = (liftV b (liftE a b)).natAbs):=fun x y hx hy=>by
     have e1 : liftE a b = E:=by unfold liftE; rw [if_neg h0,if_neg h1]; exact hmin
     have e2 : ∀ n : Nat,((10 ^ n : Nat) : Int) = 10 ^ n:=fun n=>Int.natCast_pow 10 n
     rw [e2] at hx hy ⊢
     rw [e2,e1]
     unfold liftV
     rw [← hna,← hnb]
     exact ⟨rfl,hx,rfl,hy,rfl⟩
    clear h0 h1 hna hnb k1 k2 k3 k4 hbt hbt2
    go_upto_region 7 with fail
    have h1 : once [(33,0),(34,1),(35,2),(36,3),(37,4),(38,5),(39,6),(40,7),(41,8),(42,9),(43,10),(44,11),(45,12),(46,13),(47,14)] = true:=by kernel_rfl
    have h2 : within [(33,0),(34,1),(35,2),(36,3),(37,4),(38,5),(39,6),(40,7),(41,8),(42,9),(43,10),(44,11),(45,12),(46,13),(47,14)] 48 = true:=by kernel_rfl
    have hstab : ∀ j v W W',(fun (i : Nat) (v : Value) (W : World)=>match i with
     | 0=>v = .agg #[.bool ba,.slice p1 p2 p3]
     | 1=>v = .pointer (some ⟨w.heap.size,2,none⟩)
     | 2=>v = .int .i64 a.e
     | 3=>v = .int .i64 E
     | 4=>v = .int .i64 (na : Nat)
     | 5=>WideI W v ((10 ^ na : Nat) : Int)
     | 6=>WideI W v (a.v * ((10 ^ na : Nat) : Int))
     | 7=>v = .agg #[.bool bb,.slice q1 q2 q3]
     | 8=>v = .pointer (some ⟨w.heap.size + 1,2,none⟩)
     | 9=>v = .int .i64 b.e
     | 10=>v = .int .i64 E
     | 11=>v = .int .i64 (nb : Nat)
     | 12=>WideI W v ((10 ^ nb : Nat) : Int)
     | 13=>WideI W v (b.v * ((10 ^ nb : Nat) : Int))
     | 14=>v = .int .i64 E
     | 15=>ResS W (w.heap.size + 2) (decide ((a.v * ((10 ^ na : Nat) : Int)) < 0)) ((a.v * ((10 ^ na : Nat) : Int)).natAbs)
     | _=>ResS W (w.heap.size + 3) (decide ((b.v * ((10 ^ nb : Nat) : Int)) < 0)) ((b.v * ((10 ^ nb : Nat) : Int)).natAbs)) j v W → Below W.heap.size W W' → (fun (i : Nat) (v : Value) (W : World)=>match i with
     | 0=>v = .agg #[.bool ba,.slice p1 p2 p3]
     | 1=>v = .pointer (some ⟨w.heap.size,2,none⟩)
     | 2=>v = .int .i64 a.e
     | 3=>v = .int .i64 E
     | 4=>v = .int .i64 (na : Nat)
     | 5=>WideI W v ((10 ^ na : Nat) : Int)
     | 6=>WideI W v (a.v * ((10 ^ na : Nat) : Int))
     | 7=>v = .agg #[.bool bb,.slice q1 q2 q3]
     | 8=>v = .pointer (some ⟨w.heap.size + 1,2,none⟩)
     | 9=>v = .int .i64 b.e
     | 10=>v = .int .i64 E
     | 11=>v = .int .i64 (nb : Nat)
     | 12=>WideI W v ((10 ^ nb : Nat) : Int)
     | 13=>WideI W v (b.v * ((10 ^ nb : Nat) : Int))
     | 14=>v = .int .i64 E
     | 15=>ResS W (w.heap.size + 2) (decide ((a.v * ((10 ^ na : Nat) : Int)) < 0)) ((a.v * ((10 ^ na : Nat) : Int)).natAbs)
     | _=>ResS W (w.heap.size + 3) (decide ((b.v * ((10 ^ nb : Nat) : Int)) < 0)) ((b.v * ((10 ^ nb : Nat) : Int)).natAbs)) j v W':=by
     intro j v W W' h hb
     match j,h with
     | 0,h=>exact h
     | 1,h=>exact h
     | 2,h=>exact h
     | 3,h=>exact h
     | 4,h=>exact h
     | 5,h=>exact WideI.below h hb
     | 6,h=>exact WideI.below h hb
     | 7,h=>exact h
     | 8,h=>exact h
     | 9,h=>exact h
     | 10,h=>exact h
     | 11,h=>exact h
     | 12,h=>exact WideI.below h hb
     | 13,h=>exact WideI.below h hb
     | 14,h=>exact h
     | 15,h=>exact h.below hb
     | _ + 16,h=>exact h.below hb
    refine wp_region_flow2 17 18 [(33,0),(34,1),(35,2),(36,3),(37,4),(38,5),(39,6),(40,7),(41,8),(42,9),(43,10),(44,11),(45,12),(46,13),(47,14)] [] (fun (i : Nat) (v : Value) (W : World)=>match i with
     | 0=>v = .agg #[.bool ba,.slice p1 p2 p3]
     | 1=>v = .pointer (some ⟨w.heap.size,2,none⟩)
     | 2=>v = .int .i64 a.e
     | 3=>v = .int .i64 E
     | 4=>v = .int .i64 (na : Nat)
     | 5=>WideI W v ((10 ^ na : Nat) : Int)
     | 6=>WideI W v (a.v * ((10 ^ na : Nat) : Int))
     | 7=>v = .agg #[.bool bb,.slice q1 q2 q3]
     | 8=>v = .pointer (some ⟨w.heap.size + 1,2,none⟩)
     | 9=>v = .int .i64 b.e
     | 10=>v = .int .i64 E
     | 11=>v = .int .i64 (nb : Nat)
     | 12=>WideI W v ((10 ^ nb : Nat) : Int)
     | 13=>WideI W v (b.v * ((10 ^ nb : Nat) : Int))
     | 14=>v = .int .i64 E
     | 15=>ResS W (w.heap.size + 2) (decide ((a.v * ((10 ^ na : Nat) : Int)) < 0)) ((a.v * ((10 ^ na : Nat) : Int)).natAbs)
     | _=>ResS W (w.heap.size + 3) (decide ((b.v * ((10 ^ nb : Nat) : Int)) < 0)) ((b.v * ((10 ^ nb : Nat) : Int)).natAbs)) (fun _ W=>LiftG w a b g7 g8 ba bb (.slice p1 p2 p3) (.slice q1 q2 q3) W) (HG0.out.below (Below.refl _ _).drew) (by kernel_rfl) (by kernel_rfl) (by kernel_rfl) (by decide) (by kernel_rfl) h1 (by kernel_rfl) (fun j hj=>by cases hj) ?_ ?_
    ·refine ⟨⟨⟨⟨⟨⟨⟨⟨⟨⟨⟨⟨⟨⟨⟨⟨⟨trivial,?_⟩,?_⟩,?_⟩,?_⟩,?_⟩,?_⟩,?_⟩,?_⟩,?_⟩,?_⟩,?_⟩,?_⟩,?_⟩,?_⟩,?_⟩,?_⟩,?_⟩
     ·refine flow2_step _ (some 33) rfl rfl rfl h1 h2 (fun D W _ h=>h) (fun D W W' h hb=>h.below hb) hstab fun ac xs W D he hni hG hS K hK=>?_
      exact wp_load_row 123 (.tmp 7) rfl g7 (he 7) _ _ _ _ (hG.r7) Tryz.underlying123 rfl (by kernel_rfl) (hK _ _ rfl bR nA)
     ·refine flow2_step _ (some 34) rfl rfl rfl h1 h2 (fun D W _ h=>h) (fun D W W' h hb=>h.below hb) hstab fun ac xs W D he hni hG hS K hK=>?_
      have e0 : ac.eval (.tmp 2) = .pointer (some ⟨w.heap.size,0,none⟩):=he 2
      refine op_any (.fieldAddr 35 (.tmp 2) 2) rfl (.pointer (some ⟨w.heap.size,2,none⟩)) (fun o' ho'=>?_) (hK _ _ rfl bR nA)
      simp only [execOp,ho',e0]
      go_simp
     ·refine flow2_step _ (some 35) rfl rfl rfl h1 h2 (fun D W _ h=>h) (fun D W W' h hb=>h.below hb) hstab fun ac xs W D he hni hG hS K hK=>?_
      have e0:=(he 34).trans (hS 1 (by kernel_rfl))
      refine op_any (.load 3 (.tmp 34)) rfl (.int .i64 a.e) (fun o' ho'=>?_) (hK _ _ rfl bR nA)
      simp only [execOp,ho',e0]
      have hc:=cell_of_row W _ 2 _ _ _ hG.ra
      go_simp
     ·refine flow2_step _ (some 36) rfl rfl rfl h1 h2 (fun D W _ h=>h) (fun D W W' h hb=>h.below hb) hstab fun ac xs W D he hni hG hS K hK=>?_
      exact op_move (.tmp 9) (.inl rfl) (hK _ _ (he 9) bR nA)
     ·refine flow2_step _ (some 37) rfl rfl rfl h1 h2 (fun D W _ h=>h) (fun D W W' h hb=>h.below hb) hstab fun ac xs W D he hni hG hS K hK=>?_
      have e0:=(he 35).trans (hS 2 (by kernel_rfl))
      have e1:=(he 36).trans (hS 3 (by kernel_rfl))
      refine op_any (.binOp .sub 3 (.tmp 35) (.tmp 36) 3) rfl (.int .i64 (na : Nat)) (fun o' ho'=>?_) (hK _ _ rfl bR nA)
      simp only [execOp,ho',e0,e1]
      rw [← HWa.out]
      go_simp
     ·refine flow2_step _ (some 38) rfl rfl rfl h1 h2 (fun D W _ h=>h) (fun D W W' h hb=>h.below hb) hstab fun ac xs W D he hni hG hS K hK=>?_
      have e0:=(he 37).trans (hS 4 (by kernel_rfl))
      refine op_call 99 _ _ rfl _ (by simp only [List.map,eval_const,e0]) (by go_simp) (HPW.out W na HBDa.out) ?_
      rintro e' W' ⟨v,rfl,hi,hb'⟩
      exact ⟨_,rfl,hK _ _ (hi) hb' nA⟩
     ·refine flow2_step _ (some 39) rfl rfl rfl h1 h2 (fun D W _ h=>h) (fun D W W' h hb=>h.below hb) hstab fun ac xs W D he hni hG hS K hK=>?_
      have y5 : xs 5 = xs 5:=rfl
      have e0:=(he 33).trans (hS 0 (by kernel_rfl))
      have e1:=(he 38).trans y5
      refine op_call 106 _ _ rfl _ (by simp only [List.map,e0,e1]) (by go_simp) (HMLa.out W _ hG.n7 (hS 5 (by kernel_rfl))) ?_
      rintro e' W' ⟨v,rfl,hi,hb'⟩
      exact ⟨_,rfl,hK _ _ (hi) hb' nA⟩
     ·refine flow2_step _ (some 40) rfl rfl rfl h1 h2 (fun D W _ h=>h) (fun D W W' h hb=>h.below hb) hstab fun ac xs W D he hni hG hS K hK=>?_
      exact wp_load_row 123 (.tmp 8) rfl g8 (he 8) _ _ _ _ (hG.r8) Tryz.underlying123 rfl (by kernel_rfl) (hK _ _ rfl bR nA)
     ·refine flow2_step _ (some 41) rfl rfl rfl h1 h2 (fun D W _ h=>h) (fun D W W' h hb=>h.below hb) hstab fun ac xs W D he hni hG hS K hK=>?_
      have e0 : ac.eval (.tmp 3) = .pointer (some ⟨w.heap.size + 1,0,none⟩):=he 3
      refine op_any (.fieldAddr 35 (.tmp 3) 2) rfl (.pointer (some ⟨w.heap.size + 1,2,none⟩)) (fun o' ho'=>?_) (hK _ _ rfl bR nA)
      simp only [execOp,ho',e0]
      go_simp
     ·refine flow2_step _ (some 42) rfl rfl rfl h1 h2 (fun D W _ h=>h) (fun D W W' h hb=>h.below hb) hstab fun ac xs W D he hni hG hS K hK=>?_
      have e0:=(he 41).trans (hS 8 (by kernel_rfl))
      refine op_any (.load 3 (.tmp 41)) rfl (.int .i64 b.e) (fun o' ho'=>?_) (hK _ _ rfl bR nA)
      simp only [execOp,ho',e0]
      have hc:=cell_of_row W _ 2 _ _ _ hG.rb
      go_simp
     ·refine flow2_step _ (some 43) rfl rfl rfl h1 h2 (fun D W _ h=>h) (fun D W W' h hb=>h.below hb) hstab fun ac xs W D he hni hG hS K hK=>?_
      exact op_move (.tmp 9) (.inl rfl) (hK _ _ (he 9) bR nA)
     ·refine flow2_step _ (some 44) rfl rfl rfl h1 h2 (fun D W _ h=>h) (fun D W W' h hb=>h.below hb) hstab fun ac xs W D he hni hG hS K hK=>?_
      have e0:=(he 42).trans (hS 9 (by kernel_rfl))
      have e1:=(he 43).trans (hS 10 (by kernel_rfl))
      refine op_any (.binOp .sub 3 (.tmp 42) (.tmp 43) 3) rfl (.int .i64 (nb : Nat)) (fun o' ho'=>?_) (hK _ _ rfl bR nA)
      simp only [execOp,ho',e0,e1]
      rw [← HWb.out]
      go_simp
     ·refine flow2_step _ (some 45) rfl rfl rfl h1 h2 (fun D W _ h=>h) (fun D W W' h hb=>h.below hb) hstab fun ac xs W D he hni hG hS K hK=>?_
      have e0:=(he 44).trans (hS 11 (by kernel_rfl))
      refine op_call 99 _ _ rfl _ (by simp only [List.map,eval_const,e0]) (by go_simp) (HPW.out W nb HBDb.out) ?_
      rintro e' W' ⟨v,rfl,hi,hb'⟩
      exact ⟨_,rfl,hK _ _ (hi) hb' nA⟩
     ·refine flow2_step _ (some 46) rfl rfl rfl h1 h2 (fun D W _ h=>h) (fun D W W' h hb=>h.below hb) hstab fun ac xs W D he hni hG hS K hK=>?_
      have y5 : xs 12 = xs 12:=rfl
      have e0:=(he 40).trans (hS 7 (by kernel_rfl))
      have e1:=(he 45).trans y5
      refine op_call 106 _ _ rfl _ (by simp only [List.map,e0,e1]) (by go_simp) (HMLb.out W _ hG.n8 (hS 12 (by kernel_rfl))) ?_
      rintro e' W' ⟨v,rfl,hi,hb'⟩
      exact ⟨_,rfl,hK _ _ (hi) hb' nA⟩
     ·refine flow2_step _ (some 47) rfl rfl rfl h1 h2 (fun D W _ h=>h) (fun D W W' h hb=>h.below hb) hstab fun ac xs W D he hni hG hS K hK=>?_
      exact op_move (.tmp 9) (.inl rfl) (hK _ _ (he 9) bR nA)
     ·refine flow2_store _ rfl rfl rfl h1 h2 (by decide) fun ac xs W D he hni hG hS K hK=>?_
      obtain ⟨z1,z2,z3,z4,hr⟩:=hG.r4
      obtain ⟨u1,u2,u3,hvv,hn⟩:=(hS 6 (by kernel_rfl) : WideI W (xs 6) (a.v * ((10 ^ na : Nat) : Int)))
      have hrow:=hr
      have hvy : ac.eval (.tmp 39) = .agg #[.bool (decide ((a.v * ((10 ^ na : Nat) : Int)) < 0)),.slice u1 u2 u3]:=(he 39).trans (hvv)
      refine wp_store_row 123 (.tmp 4) (.tmp 39) rfl (w.heap.size + 2) #[.bool (decide ((a.v * ((10 ^ na : Nat) : Int)) < 0)),.slice u1 u2 u3] (he 4) hvy _ _ hrow (by kernel_rfl) rfl (by simp [Value.oneCell']) ?_
      have hself : (fun W=>ResS W (w.heap.size + 2) (decide ((a.v * ((10 ^ na : Nat) : Int)) < 0)) ((a.v * ((10 ^ na : Nat) : Int)).natAbs)) (W.setRow (w.heap.size + 2) #[.bool (decide ((a.v * ((10 ^ na : Nat) : Int)) < 0)),.slice u1 u2 u3]):=ResS.new hr hn
      refine hK _ hself (hG.store4 hr _ _) ?_
      intro j u h
      match j,h with
      | 0,h=>exact h
      | 1,h=>exact h
      | 2,h=>exact h
      | 3,h=>exact h
      | 4,h=>exact h
      | 5,h=>exact WideI.setRow h hr _
      | 6,h=>exact WideI.setRow h hr _
      | 7,h=>exact h
      | 8,h=>exact h
      | 9,h=>exact h
      | 10,h=>exact h
      | 11,h=>exact h
      | 12,h=>exact WideI.setRow h hr _
      | 13,h=>exact WideI.setRow h hr _
      | 14,h=>exact h
      | 15,_=>exact hself
      | _ + 16,h=>exact h.other hr (by omega) _
     ·refine flow2_store _ rfl rfl rfl h1 h2 (by decide) fun ac xs W D he hni hG hS K hK=>?_
      obtain ⟨z1,z2,z3,z4,hr⟩:=hG.r5
      obtain ⟨u1,u2,u3,hvv,hn⟩:=(hS 13 (by kernel_rfl) : WideI W (xs 13) (b.v * ((10 ^ nb : Nat) : Int)))
      have hrow:=hr
      have hvy : ac.eval (.tmp 46) = .agg #[.bool (decide ((b.v * ((10 ^ nb : Nat) : Int)) < 0)),.slice u1 u2 u3]:=(he 46).trans (hvv)
      refine wp_store_row 123 (.tmp 5) (.tmp 46) rfl (w.heap.size + 3) #[.bool (decide ((b.v * ((10 ^ nb : Nat) : Int)) < 0)),.slice u1 u2 u3] (he 5) hvy _ _ hrow (by kernel_rfl) rfl (by simp [Value.oneCell']) ?_
      have hself : (fun W=>ResS W (w.heap.size + 3) (decide ((b.v * ((10 ^ nb : Nat) : Int)) < 0)) ((b.v * ((10 ^ nb : Nat) : Int)).natAbs)) (W.setRow (w.heap.size + 3) #[.bool (decide ((b.v * ((10 ^ nb : Nat) : Int)) < 0)),.slice u1 u2 u3]):=ResS.new hr hn
      refine hK _ hself (hG.store5 hr _ _) ?_
      intro j u h
      match j,h with
      | 0,h=>exact h
      | 1,h=>exact h
      | 2,h=>exact h
      | 3,h=>exact h
      | 4,h=>exact h
      | 5,h=>exact WideI.setRow h hr _
      | 6,h=>exact WideI.setRow h hr _
      | 7,h=>exact h
      | 8,h=>exact h
      | 9,h=>exact h
      | 10,h=>exact h
      | 11,h=>exact h
      | 12,h=>exact WideI.setRow h hr _
      | 13,h=>exact WideI.setRow h hr _
      | 14,h=>exact h
      | 15,h=>exact h.other hr (by omega) _
      | _ + 16,_=>exact hself
    ·intro xs W D hall hG hS hD
     obtain ⟨u1,u2,u3,s6,-⟩:=(hS 6 (by decide) : WideI W (xs 6) (a.v * ((10 ^ na : Nat) : Int)))
     obtain ⟨v1,v2,v3,s13,-⟩:=(hS 13 (by decide) : WideI W (xs 13) (b.v * ((10 ^ nb : Nat) : Int)))
     have s0 : xs 0 = _:=hS 0 (by decide)
     have s1 : xs 1 = _:=hS 1 (by decide)
     have s2 : xs 2 = _:=hS 2 (by decide)
     have s3 : xs 3 = _:=hS 3 (by decide)
     have s4 : xs 4 = _:=hS 4 (by decide)
     have s7 : xs 7 = _:=hS 7 (by decide)
     have s8 : xs 8 = _:=hS 8 (by decide)
     have s9 : xs 9 = _:=hS 9 (by decide)
     have s10 : xs 10 = _:=hS 10 (by decide)
     have s11 : xs 11 = _:=hS 11 (by decide)
     have s14 : xs 14 = _:=hS 14 (by decide)
     generalize xs 5 = x5 at *
     generalize xs 12 = x12 at *
     simp only [layAll,s0,s1,s2,s3,s4,s6,s7,s8,s9,s10,s11,s13,s14]
     clear s0 s1 s2 s3 s4 s6 s7 s8 s9 s10 s11 s13 s14
     obtain ⟨t41,t42,t43,hT4,hN4⟩:=hS 15 (by decide)
     obtain ⟨t51,t52,t53,hT5,hN5⟩:=hS 16 (by decide)
     have HT4 : Hid _:=hT4
     have HT5 : Hid _:=hT5
     have HN4 : Hid (Num .u64 18446744073709551616 W (.slice t41 t42 t43) _):=hN4
     have HN5 : Hid (Num .u64 18446744073709551616 W (.slice t51 t52 t53) _):=hN5
     have HBE : Hid (Below w.heap.size w W):=hG.bel
     clear hS hD hT4 hT5 hN4 hN5 hG hall hstab
     go_simp
     go_wp2
     exact lifted_end rfl rfl rfl rfl HT4.out HT5.out HN4.out HN5.out HBE.out (HE1.out _ _ rfl rfl)
theorem liftV_lt {a b : Dc} (ha : a.ok) (hb : b.ok) {bb : Nat} (hbb : 250000 ≤ bb) : (liftV a (liftE a b)).natAbs < 2 ^ bb ∧ (liftV b (liftE a b)).natAbs < 2 ^ bb ∧ (addV a b).natAbs < 2 ^ bb:=by
 obtain ⟨M,hM⟩ : ∃ M,M = 8192:=⟨_,rfl⟩
 obtain ⟨L,hL⟩ : ∃ L,L = 40000:=⟨_,rfl⟩
 have key : ∀ (x : Dc),x.ok → ∀ f : Int,-20000 ≤ f → (liftV x f).natAbs < 10 ^ (M + L):=fun x hx f hf=>by
  unfold liftV
  rw [abs_mul_pow,v_abs]
  have h1:=ok_val hx
  have h2:=ok_exp hx
  have h3 : (10 : Nat) ^ (x.e - f).toNat ≤ 10 ^ L:=Nat.pow_le_pow_right (by decide) (by omega)
  have h4 : dval x.s < 10 ^ M:=Nat.lt_of_lt_of_le h1 (Nat.pow_le_pow_right (by decide) (by rw [hM]; exact ok_len hx))
  have h6 : dval x.s * 10 ^ (x.e - f).toNat < 10 ^ M * 10 ^ L:=by
   have hp : 0 < (10 : Nat) ^ L:=Nat.pow_pos (by decide)
   exact Nat.lt_of_le_of_lt (Nat.mul_le_mul_left _ h3) (Nat.mul_lt_mul_of_pos_right h4 hp)
  rwa [← Nat.pow_add] at h6
 obtain ⟨-,-,h1,h2⟩:=liftE_cases ha hb
 have ka:=key a ha (liftE a b) h1
 have kb:=key b hb (liftE a b) h1
 have hm2 : 2 * 10 ^ (M + L) ≤ 10 ^ (M + L + 1):=by rw [Nat.pow_succ]; omega
 have h9 : (10 : Nat) ^ (M + L + 1) < 2 ^ bb:=ten_lt (Nat.le_refl _) (by omega)
 generalize (10 : Nat) ^ (M + L) = T at *
 generalize (10 : Nat) ^ (M + L + 1) = T1 at *
 unfold addV
 clear key
 omega
set_option maxHeartbeats 2000000 in
theorem add_v (a b : Dc) (w : World) (hsa : a.s.length ≤ 9223372036854775807) (hsb : b.s.length ≤ 9223372036854775807) (htab : Tab w) :
  Calls Tryz.prog 124 #[dcV a,dcV b] w (DcQ (if (a.okB && b.okB) = true then addD a b else Dc.none) (if (a.okB && b.okB) = true then addX a b else 1) w):=by
 have HV : Hid (∀ W,Calls Tryz.prog 119 #[.agg #[.bool a.neg,.string (bs a.s),.int .i64 a.e]] W fun en w'=>en = .returned (.bool a.okB) ∧ Below W.heap.size W w'):=fun W=>valid_v a W hsa
 have HU : Hid (∀ W,Calls Tryz.prog 119 #[.agg #[.bool b.neg,.string (bs b.s),.int .i64 b.e]] W fun en w'=>en = .returned (.bool b.okB) ∧ Below W.heap.size W w'):=fun W=>valid_v b W hsb
 have hb0 : Below w.heap.size w (((w.alloc (.cells #[.bool a.neg,.string (bs a.s),.int .i64 a.e] 35)).alloc (.cells #[.bool b.neg,.string (bs b.s),.int .i64 b.e] 35)).alloc (.cells #[.bool false,.string ⟨#[]⟩,.int .i64 0] 35)):=(((Below.refl _ _).alloc (Nat.le_refl _) _).alloc (by simp) _).alloc (by simp; omega) _
 have q0:=heap_alloc3_0 w (.cells #[.bool a.neg,.string (bs a.s),.int .i64 a.e] 35) (.cells #[.bool b.neg,.string (bs b.s),.int .i64 b.e] 35) (.cells #[.bool false,.string ⟨#[]⟩,.int .i64 0] 35)
 have q1:=heap_alloc3_1 w (.cells #[.bool a.neg,.string (bs a.s),.int .i64 a.e] 35) (.cells #[.bool b.neg,.string (bs b.s),.int .i64 b.e] 35) (.cells #[.bool false,.string ⟨#[]⟩,.int .i64 0] 35)
 have q2:=heap_alloc3_2 w (.cells #[.bool a.neg,.string (bs a.s),.int .i64 a.e] 35) (.cells #[.bool b.neg,.string (bs b.s),.int .i64 b.e] 35) (.cells #[.bool false,.string ⟨#[]⟩,.int .i64 0] 35)
 have HQ0 : Hid _:=q0
 have HQ1 : Hid _:=q1
 have HQ2 : Hid _:=q2
 have HB0 : Hid _:=hb0
 clear hb0 q0 q1 q2
 cases hao : a.okB
 ·rw [hao] at HV
  rw [Bool.false_and,if_neg (by simp),if_neg (by simp)]
  clear hao HU hsa hsb htab
  show Calls Tryz.prog 124 #[.agg #[.bool a.neg,.string (bs a.s),.int .i64 a.e],.agg #[.bool b.neg,.string (bs b.s),.int .i64 b.e]] w _
  go_enter Tryz.func124,Tryz.ntmps124
  go_wp2_with fail
  refine (HV.out _).mono ?_
  rintro e' w1 ⟨rfl,hb⟩
  have r2:=hb.blk HQ2.out (blk_lt HQ2.out)
  obtain ⟨f0,c0,f1,c1,f2,c2,r3⟩:=rw3 r2
  have HR : Hid _:=r3
  have HBB : Hid (Below w.heap.size w w1):=HB0.out.thru hb
  clear r2 r3 hb
  go_wp2
  exact dc_end rfl rfl rfl (HR.out _ _ _) rfl rfl (below_row3 HBB.out (Nat.le_add_right _ 2) _ _ _)
 ·rw [hao] at HV
  cases hbo : b.okB
  ·rw [hbo] at HU
   rw [Bool.and_false,if_neg (by simp),if_neg (by simp)]
   clear hao hbo hsa hsb htab
   show Calls Tryz.prog 124 #[.agg #[.bool a.neg,.string (bs a.s),.int .i64 a.e],.agg #[.bool b.neg,.string (bs b.s),.int .i64 b.e]] w _
   go_enter Tryz.func124,Tryz.ntmps124
   go_wp2_with fail
   refine (HV.out _).mono ?_
   rintro e' w1 ⟨rfl,hb⟩
   have HQ11 : Hid _:=hb.blk HQ1.out (blk_lt HQ1.out)
   have HB1 : Hid (Below w.heap.size w w1):=HB0.out.thru hb
   have HQ12 : Hid _:=hb.blk HQ2.out (blk_lt HQ2.out)
   have k0:=cell_of_row _ _ 0 _ _ _ HQ11.out
   have k1:=cell_of_row _ _ 1 _ _ _ HQ11.out
   have k2:=cell_of_row _ _ 2 _ _ _ HQ11.out
   clear hb
   go_wp2_with fail
   refine (HU.out _).mono ?_
   rintro e' w2 ⟨rfl,hb⟩
   have r2:=hb.blk HQ12.out (blk_lt HQ12.out)
   obtain ⟨f0,c0,f1,c1,f2,c2,r3⟩:=rw3 r2
   have HR : Hid _:=r3
   have HBB : Hid (Below w.heap.size w w2):=HB1.out.thru hb
   clear r2 r3 hb
   go_wp2
   exact dc_end rfl rfl rfl (HR.out _ _ _) rfl rfl (below_row3 HBB.out (Nat.le_add_right _ 2) _ _ _)
  ·rw [hbo] at HU
   have hA:=(okB_iff a).1 hao
   have hB:=(okB_iff b).1 hbo
   rw [Bool.and_true,if_pos rfl,if_pos rfl]
   have HL : Hid (∀ W,Calls Tryz.prog 180 #[.agg #[.bool a.neg,.string (bs a.s),.int .i64 a.e],.agg #[.bool b.neg,.string (bs b.s),.int .i64 b.e]] W (LiftQ a b W)):=fun W=>lifted_v a b W hA hB
   obtain ⟨bt,hbt,hbt2⟩ : ∃ bt,250000 ≤ bt ∧ bt ≤ 4294967296:=⟨250000,by decide,by decide⟩
   obtain ⟨l1,l2,l3⟩:=liftV_lt hA hB hbt
   have HAD : Hid (∀ W u v,WideI W u (liftV a (liftE a b)) → WideI W v (liftV b (liftE a b)) → Calls Tryz.prog 166 #[u,v] W (WideR (addV a b) W)):=fun W u v hu hv=>iadd_v u v _ _ W hu hv l1 l2 hbt2
   have HWH : Hid (∀ W v,Below w.heap.size w W → WideI W v (addV a b) → Calls Tryz.prog 120 #[v,.int .i64 (liftE a b)] W (DcQ (addD a b) (addX a b) W)):=fun W v hW hv=>whole_any v (addV a b) _ W hv l3 hbt2 (htab.below hW)
   clear hbt hbt2 l1 l2 l3 htab
   clear hao hbo hsa hsb hA hB
   show Calls Tryz.prog 124 #[.agg #[.bool a.neg,.string (bs a.s),.int .i64 a.e],.agg #[.bool b.neg,.string (bs b.s),.int .i64 b.e]] w _
   go_enter Tryz.func124,Tryz.ntmps124
   go_wp2_with fail
   refine (HV.out _).mono ?_
   rintro e' w1 ⟨rfl,hb⟩
   have P0 : Hid _:=hb.blk HQ0.out (blk_lt HQ0.out)
   have P1 : Hid _:=hb.blk HQ1.out (blk_lt HQ1.out)
   have P2 : Hid _:=hb.blk HQ2.out (blk_lt HQ2.out)
   have HB1 : Hid (Below w.heap.size w w1):=HB0.out.thru hb
   have k0:=cell_of_row _ _ 0 _ _ _ P1.out
   have k1:=cell_of_row _ _ 1 _ _ _ P1.out
   have k2:=cell_of_row _ _ 2 _ _ _ P1.out
   clear hb
   go_wp2_with fail
   refine (HU.out _).mono ?_
   rintro e' w2 ⟨rfl,hb⟩
   have R0 : Hid _:=hb.blk P0.out (blk_lt P0.out)
   have R1 : Hid _:=hb.blk P1.out (blk_lt P1.out)
   have R2 : Hid _:=hb.blk P2.out (blk_lt P2.out)
   have HB2 : Hid (Below w.heap.size w w2):=HB1.out.thru hb
   have j0:=cell_of_row _ _ 0 _ _ _ R0.out
   have j1:=cell_of_row _ _ 1 _ _ _ R0.out
   have j2:=cell_of_row _ _ 2 _ _ _ R0.out
   have i0:=cell_of_row _ _ 0 _ _ _ R1.out
   have i1:=cell_of_row _ _ 1 _ _ _ R1.out
   have i2:=cell_of_row _ _ 2 _ _ _ R1.out
   clear hb k0 k1 k2
   go_wp2_with fail
   refine (HL.out _).mono ?_
   rintro e' w3 ⟨u,v,rfl,hu,hv,hb⟩
   have hu2:=hu
   have hv2:=hv
   obtain ⟨p1,p2,p3,rfl,-⟩:=hu2
   obtain ⟨q1,q2,q3,rfl,-⟩:=hv2
   obtain ⟨ba,hba⟩ : ∃ x,x = decide (liftV a (liftE a b) < 0):=⟨_,rfl⟩
   obtain ⟨bb,hbb⟩ : ∃ x,x = decide (liftV b (liftE a b) < 0):=⟨_,rfl⟩
   rw [← hba] at hu
   rw [← hbb] at hv
   simp only [← hba,← hbb]
   have HWU : Hid (WideI w3 (.agg #[.bool ba,.slice p1 p2 p3]) (liftV a (liftE a b))):=hu
   have HWV : Hid (WideI w3 (.agg #[.bool bb,.slice q1 q2 q3]) (liftV b (liftE a b))):=hv
   have HB3 : Hid (Below w.heap.size w w3):=HB2.out.thru hb
   have S2 : Hid _:=hb.blk R2.out (blk_lt R2.out)
   have HX : Hid (Below w3.heap.size w3 ((w3.alloc (.cells #[.bool ba,.slice p1 p2 p3] 123)).alloc (.cells #[.bool bb,.slice q1 q2 q3] 123))):=((Below.refl _ _).alloc (Nat.le_refl _) _).alloc (by simp) _
   clear hb hu hv hba hbb j0 j1 j2 i0 i1 i2
   generalize liftE a b = E at *
   go_wp2_with fail
   refine (HAD.out _ _ _ (HWU.out.below HX.out) (HWV.out.below HX.out)).mono ?_
   rintro e' w4 ⟨v,rfl,hi,hb⟩
   have HB4 : Hid (Below w.heap.size w w4):=(HB3.out.thru HX.out).thru hb
   have HI : Hid (WideI w4 v (addV a b)):=hi
   have T2 : Hid _:=hb.blk (HX.out.blk S2.out (blk_lt S2.out)) (by have:=blk_lt S2.out; simp; omega)
   clear hb hi
   go_wp2_with fail
   refine (HWH.out _ _ HB4.out HI.out).mono ?_
   rintro e' w5 ⟨rfl,hb⟩
   have r2:=hb.blk T2.out (blk_lt T2.out)
   obtain ⟨f0,c0,f1,c1,f2,c2,r3⟩:=rw3 r2
   have HR : Hid _:=r3
   have HBB : Hid (Below w.heap.size w w5):=HB4.out.thru hb
   clear r2 r3 hb
   simp only [dcV]
   go_wp2
   exact dc_end rfl rfl rfl (HR.out _ _ _) rfl rfl (below_row3 HBB.out (Nat.le_add_right _ 2) _ _ _)
theorem row3_other {w : World} {g k : Nat} {x : Option Obj} (h : w.heap[k]? = x) (hk : k ≠ g) (u v y : Value) : (((w.setCell ⟨g,0,none⟩ u).setCell ⟨g,1,none⟩ v).setCell ⟨g,2,none⟩ y).heap[k]? = x:=by
 rw [heap_setCell_other _ _ _ _ hk]; exact row2_other h hk u v
set_option maxHeartbeats 2000000 in
theorem sub_v (a b : Dc) (w : World) (hsa : a.s.length ≤ 9223372036854775807) (hsb : b.s.length ≤ 9223372036854775807) (htab : Tab w) :
  Calls Tryz.prog 62 #[dcV a,dcV b] w (DcQ (if (a.okB && b.okB) = true then addD a (negD b) else Dc.none) (if (a.okB && b.okB) = true then addX a (negD b) else 1) w):=by
 have HVx : Hid (∀ W,Calls Tryz.prog 119 #[.agg #[.bool a.neg,.string (bs a.s),.int .i64 a.e]] W fun en w'=>en = .returned (.bool a.okB) ∧ Below W.heap.size W w'):=fun W=>valid_v a W hsa
 have HUx : Hid (∀ W,Calls Tryz.prog 119 #[.agg #[.bool b.neg,.string (bs b.s),.int .i64 b.e]] W fun en w'=>en = .returned (.bool b.okB) ∧ Below W.heap.size W w'):=fun W=>valid_v b W hsb
 have hb0 : Below w.heap.size w (((w.alloc (.cells #[.bool a.neg,.string (bs a.s),.int .i64 a.e] 35)).alloc (.cells #[.bool b.neg,.string (bs b.s),.int .i64 b.e] 35)).alloc (.cells #[.bool false,.string ⟨#[]⟩,.int .i64 0] 35)):=(((Below.refl _ _).alloc (Nat.le_refl _) _).alloc (by simp) _).alloc (by simp; omega) _
 have q0:=heap_alloc3_0 w (.cells #[.bool a.neg,.string (bs a.s),.int .i64 a.e] 35) (.cells #[.bool b.neg,.string (bs b.s),.int .i64 b.e] 35) (.cells #[.bool false,.string ⟨#[]⟩,.int .i64 0] 35)
 have q1:=heap_alloc3_1 w (.cells #[.bool a.neg,.string (bs a.s),.int .i64 a.e] 35) (.cells #[.bool b.neg,.string (bs b.s),.int .i64 b.e] 35) (.cells #[.bool false,.string ⟨#[]⟩,.int .i64 0] 35)
 have q2:=heap_alloc3_2 w (.cells #[.bool a.neg,.string (bs a.s),.int .i64 a.e] 35) (.cells #[.bool b.neg,.string (bs b.s),.int .i64 b.e] 35) (.cells #[.bool false,.string ⟨#[]⟩,.int .i64 0] 35)
 have HQ0 : Hid _:=q0
 have HQ1 : Hid _:=q1
 have HQ2 : Hid _:=q2
 have HB0 : Hid _:=hb0
 clear hb0 q0 q1 q2
 clear HVx HUx
 cases hbo : b.okB
 ·rw [Bool.and_false,if_neg (by simp),if_neg (by simp)]
  have HN : Hid (∀ W,Calls Tryz.prog 123 #[.agg #[.bool b.neg,.string (bs b.s),.int .i64 b.e]] W (DcQ Dc.none 1 W)):=fun W=>neg_bad b W hsb hbo
  clear hbo hsa hsb htab
  show Calls Tryz.prog 62 #[.agg #[.bool a.neg,.string (bs a.s),.int .i64 a.e],.agg #[.bool b.neg,.string (bs b.s),.int .i64 b.e]] w _
  go_enter Tryz.func62,Tryz.ntmps62
  go_wp2_with fail
  refine (HN.out _).mono ?_
  rintro e' w1 ⟨rfl,hb⟩
  simp only [dcV_none]
  have r1:=hb.blk HQ1.out (blk_lt HQ1.out)
  have r2:=hb.blk HQ2.out (blk_lt HQ2.out)
  obtain ⟨g0,d0,g1,d1,g2,d2,t3⟩:=rw3 r1
  have n2 : ((((w1.setCell ⟨w.heap.size + 1,0,none⟩ (.bool false)).setCell ⟨w.heap.size + 1,1,none⟩ (.string ⟨#[]⟩)).setCell ⟨w.heap.size + 1,2,none⟩ (.int .i64 0))).heap[w.heap.size + 2]? = some (.cells #[.bool false,.string ⟨#[]⟩,.int .i64 0] 35 (0,0)):=row3_other r2 (by omega) _ _ _
  obtain ⟨f0,c0,f1,c1,f2,c2,r3⟩:=rw3 n2
  have HR : Hid _:=r3
  have HBB : Hid (Below w.heap.size w _):=below_row3 (HB0.out.thru hb) (Nat.le_add_right _ 1) (.bool false) (.string ⟨#[]⟩) (.int .i64 0)
  clear r1 r2 r3 t3 n2 hb
  go_wp2
  exact dc_end rfl rfl rfl (HR.out _ _ _) rfl rfl (below_row3 HBB.out (Nat.le_add_right _ 2) _ _ _)
 ·have hB:=(okB_iff b).1 hbo
  rw [Bool.and_true]
  have HN : Hid (∀ W,Calls Tryz.prog 123 #[.agg #[.bool b.neg,.string (bs b.s),.int .i64 b.e]] W (DcQ (negD b) 0 W)):=fun W=>neg_ok b W hB
  have HA : Hid (∀ W,Below w.heap.size w W → Calls Tryz.prog 124 #[.agg #[.bool a.neg,.string (bs a.s),.int .i64 a.e],.agg #[.bool (negD b).neg,.string (bs (negD b).s),.int .i64 (negD b).e]] W (DcQ (if a.okB = true then addD a (negD b) else Dc.none) (if a.okB = true then addX a (negD b) else 1) W)):=fun W hW=>by
   have:=add_v a (negD b) W hsa (by rw [negD_s]; exact hsb) (htab.below hW)
   rwa [okB_ok (negD_ok hB),Bool.and_true] at this
  generalize (if a.okB = true then addD a (negD b) else Dc.none) = D at *
  generalize (if a.okB = true then addX a (negD b) else 1) = X at *
  generalize negD b = nb at *
  clear hbo hsa hsb htab hB
  show Calls Tryz.prog 62 #[.agg #[.bool a.neg,.string (bs a.s),.int .i64 a.e],.agg #[.bool b.neg,.string (bs b.s),.int .i64 b.e]] w _
  go_enter Tryz.func62,Tryz.ntmps62
  go_wp2_with fail
  refine (HN.out _).mono ?_
  rintro e' w1 ⟨rfl,hb⟩
  simp only [dcV]
  have r0:=hb.blk HQ0.out (blk_lt HQ0.out)
  have r1:=hb.blk HQ1.out (blk_lt HQ1.out)
  have r2:=hb.blk HQ2.out (blk_lt HQ2.out)
  obtain ⟨g0,d0,g1,d1,g2,d2,t3⟩:=rw3 r1
  have HM : Hid _:=t3 (.bool nb.neg) (.string (bs nb.s)) (.int .i64 nb.e)
  have n2 : ((((w1.setCell ⟨w.heap.size + 1,0,none⟩ (.bool nb.neg)).setCell ⟨w.heap.size + 1,1,none⟩ (.string (bs nb.s))).setCell ⟨w.heap.size + 1,2,none⟩ (.int .i64 nb.e))).heap[w.heap.size + 2]? = some (.cells #[.bool false,.string ⟨#[]⟩,.int .i64 0] 35 (0,0)):=row3_other r2 (by omega) _ _ _
  have n0 : ((((w1.setCell ⟨w.heap.size + 1,0,none⟩ (.bool nb.neg)).setCell ⟨w.heap.size + 1,1,none⟩ (.string (bs nb.s))).setCell ⟨w.heap.size + 1,2,none⟩ (.int .i64 nb.e))).heap[w.heap.size]? = some (.cells #[.bool a.neg,.string (bs a.s),.int .i64 a.e] 35 (0,0)):=row3_other r0 (by omega) _ _ _
  have HN2 : Hid _:=n2
  have HBB : Hid (Below w.heap.size w _):=below_row3 (HB0.out.thru hb) (Nat.le_add_right _ 1) (.bool nb.neg) (.string (bs nb.s)) (.int .i64 nb.e)
  have a0:=cell_of_row _ _ 0 _ _ _ n0
  have a1:=cell_of_row _ _ 1 _ _ _ n0
  have a2:=cell_of_row _ _ 2 _ _ _ n0
  have b0:=cell_of_row _ _ 0 _ _ _ HM.out
  have b1:=cell_of_row _ _ 1 _ _ _ HM.out
  have b2:=cell_of_row _ _ 2 _ _ _ HM.out
  clear r0 r1 r2 t3 n2 n0 hb
  go_wp2_with fail
  refine (HA.out _ HBB.out).mono ?_
  rintro e' w5 ⟨rfl,hb⟩
  have r2:=hb.blk HN2.out (blk_lt HN2.out)
  obtain ⟨f0,c0,f1,c1,f2,c2,r3⟩:=rw3 r2
  have HR : Hid _:=r3
  have HB5 : Hid (Below w.heap.size w w5):=HBB.out.thru hb
  clear r2 r3 hb g0 d0 g1 d1 g2 d2 a0 a1 a2 b0 b1 b2
  simp only [dcV]
  go_wp2
  exact dc_end rfl rfl rfl (HR.out _ _ _) rfl rfl (below_row3 HB5.out (Nat.le_add_right _ 2) _ _ _)
set_option maxHeartbeats 2000000 in
theorem mul_v (a b : Dc) (w : World) (hsa : a.s.length ≤ 9223372036854775807) (hsb : b.s.length ≤ 9223372036854775807) (htab : Tab w) :
  Calls Tryz.prog 60 #[dcV a,dcV b] w (DcQ (if (a.okB && b.okB) = true then mulD a b else Dc.none) (if (a.okB && b.okB) = true then mulX a b else 1) w):=by
 have HV : Hid (∀ W,Calls Tryz.prog 119 #[.agg #[.bool a.neg,.string (bs a.s),.int .i64 a.e]] W fun en w'=>en = .returned (.bool a.okB) ∧ Below W.heap.size W w'):=fun W=>valid_v a W hsa
 have HU : Hid (∀ W,Calls Tryz.prog 119 #[.agg #[.bool b.neg,.string (bs b.s),.int .i64 b.e]] W fun en w'=>en = .returned (.bool b.okB) ∧ Below W.heap.size W w'):=fun W=>valid_v b W hsb
 have hb0 : Below w.heap.size w (((w.alloc (.cells #[.bool a.neg,.string (bs a.s),.int .i64 a.e] 35)).alloc (.cells #[.bool b.neg,.string (bs b.s),.int .i64 b.e] 35)).alloc (.cells #[.bool false,.string ⟨#[]⟩,.int .i64 0] 35)):=(((Below.refl _ _).alloc (Nat.le_refl _) _).alloc (by simp) _).alloc (by simp; omega) _
 have q0:=heap_alloc3_0 w (.cells #[.bool a.neg,.string (bs a.s),.int .i64 a.e] 35) (.cells #[.bool b.neg,.string (bs b.s),.int .i64 b.e] 35) (.cells #[.bool false,.string ⟨#[]⟩,.int .i64 0] 35)
 have q1:=heap_alloc3_1 w (.cells #[.bool a.neg,.string (bs a.s),.int .i64 a.e] 35) (.cells #[.bool b.neg,.string (bs b.s),.int .i64 b.e] 35) (.cells #[.bool false,.string ⟨#[]⟩,.int .i64 0] 35)
 have q2:=heap_alloc3_2 w (.cells #[.bool a.neg,.string (bs a.s),.int .i64 a.e] 35) (.cells #[.bool b.neg,.string (bs b.s),.int .i64 b.e] 35) (.cells #[.bool false,.string ⟨#[]⟩,.int .i64 0] 35)
 have HQ0 : Hid _:=q0
 have HQ1 : Hid _:=q1
 have HQ2 : Hid _:=q2
 have HB0 : Hid _:=hb0
 clear hb0 q0 q1 q2
 cases hao : a.okB
 ·rw [hao] at HV
  rw [Bool.false_and,if_neg (by simp),if_neg (by simp)]
  clear hao HU hsa hsb htab
  show Calls Tryz.prog 60 #[.agg #[.bool a.neg,.string (bs a.s),.int .i64 a.e],.agg #[.bool b.neg,.string (bs b.s),.int .i64 b.e]] w _
  go_enter Tryz.func60,Tryz.ntmps60
  go_wp2_with fail
  refine (HV.out _).mono ?_
  rintro e' w1 ⟨rfl,hb⟩
  have r2:=hb.blk HQ2.out (blk_lt HQ2.out)
  obtain ⟨f0,c0,f1,c1,f2,c2,r3⟩:=rw3 r2
  have HR : Hid _:=r3
  have HBB : Hid (Below w.heap.size w w1):=HB0.out.thru hb
  clear r2 r3 hb
  go_wp2
  exact dc_end rfl rfl rfl (HR.out _ _ _) rfl rfl (below_row3 HBB.out (Nat.le_add_right _ 2) _ _ _)
 ·rw [hao] at HV
  cases hbo : b.okB
  ·rw [hbo] at HU
   rw [Bool.and_false,if_neg (by simp),if_neg (by simp)]
   clear hao hbo hsa hsb htab
   show Calls Tryz.prog 60 #[.agg #[.bool a.neg,.string (bs a.s),.int .i64 a.e],.agg #[.bool b.neg,.string (bs b.s),.int .i64 b.e]] w _
   go_enter Tryz.func60,Tryz.ntmps60
   go_wp2_with fail
   refine (HV.out _).mono ?_
   rintro e' w1 ⟨rfl,hb⟩
   have HQ11 : Hid _:=hb.blk HQ1.out (blk_lt HQ1.out)
   have HB1 : Hid (Below w.heap.size w w1):=HB0.out.thru hb
   have HQ12 : Hid _:=hb.blk HQ2.out (blk_lt HQ2.out)
   have k0:=cell_of_row _ _ 0 _ _ _ HQ11.out
   have k1:=cell_of_row _ _ 1 _ _ _ HQ11.out
   have k2:=cell_of_row _ _ 2 _ _ _ HQ11.out
   clear hb
   go_wp2_with fail
   refine (HU.out _).mono ?_
   rintro e' w2 ⟨rfl,hb⟩
   have r2:=hb.blk HQ12.out (blk_lt HQ12.out)
   obtain ⟨f0,c0,f1,c1,f2,c2,r3⟩:=rw3 r2
   have HR : Hid _:=r3
   have HBB : Hid (Below w.heap.size w w2):=HB1.out.thru hb
   clear r2 r3 hb
   go_wp2
   exact dc_end rfl rfl rfl (HR.out _ _ _) rfl rfl (below_row3 HBB.out (Nat.le_add_right _ 2) _ _ _)
  ·rw [hbo] at HU
   have hA:=(okB_iff a).1 hao
   have hB:=(okB_iff b).1 hbo
   rw [Bool.and_true,if_pos rfl,if_pos rfl]
   have HSA : Hid (∀ W,Calls Tryz.prog 121 #[dcV a] W (WideR a.v W)):=fun W=>signed_v a W (ok_dig hA) (by have:=ok_len hA; omega)
   have HSB : Hid (∀ W,Calls Tryz.prog 121 #[dcV b] W (WideR b.v W)):=fun W=>signed_v b W (ok_dig hB) (by have:=ok_len hB; omega)
   obtain ⟨bt,hbt,hbt2⟩ : ∃ bt,250000 ≤ bt ∧ bt ≤ 4294967296:=⟨250000,by decide,by decide⟩
   have lm : (a.v * b.v).natAbs < 2 ^ bt:=by
    rw [Int.natAbs_mul,v_abs,v_abs]
    have h1:=Nat.lt_of_lt_of_le (ok_val hA) (Nat.pow_le_pow_right (show 0 < 10 by decide) (ok_len hA))
    have h2:=Nat.lt_of_lt_of_le (ok_val hB) (Nat.pow_le_pow_right (show 0 < 10 by decide) (ok_len hB))
    obtain ⟨M,hM⟩ : ∃ M,M = 8192:=⟨_,rfl⟩
    rw [← hM] at h1 h2
    have h3 : dval a.s * dval b.s < 10 ^ (M + M):=by rw [Nat.pow_add]; exact Nat.lt_of_le_of_lt (Nat.mul_le_mul_left _ (Nat.le_of_lt h2)) (Nat.mul_lt_mul_of_pos_right h1 (Nat.pow_pos (by decide)))
    exact Nat.lt_trans h3 (ten_lt (Nat.le_refl _) (by omega))
   have HML : Hid (∀ W u v,WideI W u a.v → WideI W v b.v → Calls Tryz.prog 106 #[u,v] W (WideR (a.v * b.v) W)):=fun W u v hu hv=>imul_v u v _ _ W hu hv (v_lt hA (by omega)) (v_lt hB (by omega)) hbt2
   have HE : Hid (IntKind.i64.wrap (a.e + b.e) = a.e + b.e):=by have:=ok_exp hA; have:=ok_exp hB; exact IntWalk.i64_in _ (by omega)
   have HWH : Hid (∀ W v,Below w.heap.size w W → WideI W v (a.v * b.v) → Calls Tryz.prog 120 #[v,.int .i64 (a.e + b.e)] W (DcQ (mulD a b) (mulX a b) W)):=fun W v hW hv=>whole_any v (a.v * b.v) _ W hv lm hbt2 (htab.below hW)
   clear hbt hbt2 lm htab
   clear hao hbo hsa hsb hA hB
   show Calls Tryz.prog 60 #[.agg #[.bool a.neg,.string (bs a.s),.int .i64 a.e],.agg #[.bool b.neg,.string (bs b.s),.int .i64 b.e]] w _
   go_enter Tryz.func60,Tryz.ntmps60
   go_wp2_with fail
   refine (HV.out _).mono ?_
   rintro e' w1 ⟨rfl,hb⟩
   have P0 : Hid _:=hb.blk HQ0.out (blk_lt HQ0.out)
   have P1 : Hid _:=hb.blk HQ1.out (blk_lt HQ1.out)
   have P2 : Hid _:=hb.blk HQ2.out (blk_lt HQ2.out)
   have HB1 : Hid (Below w.heap.size w w1):=HB0.out.thru hb
   have k0:=cell_of_row _ _ 0 _ _ _ P1.out
   have k1:=cell_of_row _ _ 1 _ _ _ P1.out
   have k2:=cell_of_row _ _ 2 _ _ _ P1.out
   clear hb
   go_wp2_with fail
   refine (HU.out _).mono ?_
   rintro e' w2 ⟨rfl,hb⟩
   have R0 : Hid _:=hb.blk P0.out (blk_lt P0.out)
   have R1 : Hid _:=hb.blk P1.out (blk_lt P1.out)
   have R2 : Hid _:=hb.blk P2.out (blk_lt P2.out)
   have HB2 : Hid (Below w.heap.size w w2):=HB1.out.thru hb
   have j0:=cell_of_row _ _ 0 _ _ _ R0.out
   have j1:=cell_of_row _ _ 1 _ _ _ R0.out
   have j2:=cell_of_row _ _ 2 _ _ _ R0.out
   have i0:=cell_of_row _ _ 0 _ _ _ R1.out
   have i1:=cell_of_row _ _ 1 _ _ _ R1.out
   have i2:=cell_of_row _ _ 2 _ _ _ R1.out
   clear hb k0 k1 k2
   go_upto_region 3 with fail
   clear j0 j1 j2 i0 i1 i2
   have h1 : once [(15,0),(16,1),(17,2),(18,3),(19,4),(20,5),(21,6),(22,7),(23,8),(24,9),(25,10),(26,11),(27,12)] = true:=by kernel_rfl
   have h2 : within [(15,0),(16,1),(17,2),(18,3),(19,4),(20,5),(21,6),(22,7),(23,8),(24,9),(25,10),(26,11),(27,12)] 28 = true:=by kernel_rfl
   refine wp_region_flow 13 15 [(15,0),(16,1),(17,2),(18,3),(19,4),(20,5),(21,6),(22,7),(23,8),(24,9),(25,10),(26,11),(27,12)] [] (fun i v W=>match i with
    | 0=>v = dcV a
    | 1=>WideI W v a.v
    | 2=>v = dcV b
    | 3=>WideI W v b.v
    | 4=>WideI W v (a.v * b.v)
    | 5=>v = .pointer (some ⟨w.heap.size,2,none⟩)
    | 6=>v = .int .i64 a.e
    | 7=>v = .pointer (some ⟨w.heap.size + 1,2,none⟩)
    | 8=>v = .int .i64 b.e
    | 9=>v = .int .i64 (a.e + b.e)
    | 10=>v = .tuple #[dcV (mulD a b),.int .i64 (mulX a b)]
    | 11=>v = dcV (mulD a b)
    | _=>v = .int .i64 (mulX a b)) w2.heap.size (Nat.le_refl _) (by kernel_rfl) (by kernel_rfl) (by kernel_rfl) (by decide) (by kernel_rfl) h1 (by kernel_rfl) ?_ ?_ ?_ ?_
   ·intro j v W W' h hb
    match j,h with
    | 0,h=>exact h
    | 1,h=>exact WideI.below h hb
    | 2,h=>exact h
    | 3,h=>exact WideI.below h hb
    | 4,h=>exact WideI.below h hb
    | 5,h=>exact h
    | 6,h=>exact h
    | 7,h=>exact h
    | 8,h=>exact h
    | 9,h=>exact h
    | 10,h=>exact h
    | 11,h=>exact h
    | _ + 12,h=>exact h
   ·exact fun j hj=>by cases hj
   ·refine ⟨⟨⟨⟨⟨⟨⟨⟨⟨⟨⟨⟨⟨trivial,?_⟩,?_⟩,?_⟩,?_⟩,?_⟩,?_⟩,?_⟩,?_⟩,?_⟩,?_⟩,?_⟩,?_⟩,?_⟩
    ·refine flow_step _ 15 rfl rfl (fun d h=>by simpa using h) h1 h2 fun ac xs W he hb hS K hK=>?_
     exact wp_load_row 35 (.tmp 2) rfl w.heap.size (he 2) _ _ _ _ (hb.blk R0.out (blk_lt R0.out)) Tryz.underlying35 rfl (by kernel_rfl) (hK _ _ rfl bR nA)
    ·refine flow_step _ 16 rfl rfl (fun d h=>by simpa using h) h1 h2 fun ac xs W he hb hS K hK=>?_
     have e0:=(he 15).trans (hS 0 (by kernel_rfl))
     refine op_call 121 _ _ rfl _ (by simp only [List.map,e0]) (by go_simp) (HSA.out W) ?_
     rintro e' W' ⟨v,rfl,hi,hb'⟩
     exact ⟨_,rfl,hK _ _ (hi) hb' nA⟩
    ·refine flow_step _ 17 rfl rfl (fun d h=>by simpa using h) h1 h2 fun ac xs W he hb hS K hK=>?_
     exact wp_load_row 35 (.tmp 3) rfl (w.heap.size + 1) (he 3) _ _ _ _ (hb.blk R1.out (blk_lt R1.out)) Tryz.underlying35 rfl (by kernel_rfl) (hK _ _ rfl bR nA)
    ·refine flow_step _ 18 rfl rfl (fun d h=>by simpa using h) h1 h2 fun ac xs W he hb hS K hK=>?_
     have e0:=(he 17).trans (hS 2 (by kernel_rfl))
     refine op_call 121 _ _ rfl _ (by simp only [List.map,e0]) (by go_simp) (HSB.out W) ?_
     rintro e' W' ⟨v,rfl,hi,hb'⟩
     exact ⟨_,rfl,hK _ _ (hi) hb' nA⟩
    ·refine flow_step _ 19 rfl rfl (fun d h=>by simpa using h) h1 h2 fun ac xs W he hb hS K hK=>?_
     have y1 : xs 1 = xs 1:=rfl
     have y3 : xs 3 = xs 3:=rfl
     have e0:=(he 16).trans y1
     have e1:=(he 18).trans y3
     refine op_call 106 _ _ rfl _ (by simp only [List.map,e0,e1]) (by go_simp) (HML.out W _ _ (hS 1 (by kernel_rfl)) (hS 3 (by kernel_rfl))) ?_
     rintro e' W' ⟨v,rfl,hi,hb'⟩
     exact ⟨_,rfl,hK _ _ (hi) hb' nA⟩
    ·refine flow_step _ 20 rfl rfl (fun d h=>by simpa using h) h1 h2 fun ac xs W he hb hS K hK=>?_
     have e0 : ac.eval (.tmp 2) = .pointer (some ⟨w.heap.size,0,none⟩):=he 2
     refine op_any (.fieldAddr 35 (.tmp 2) 2) rfl (.pointer (some ⟨w.heap.size,2,none⟩)) (fun o' ho'=>?_) (hK _ _ rfl bR nA)
     simp only [execOp,ho',e0]
     go_simp
    ·refine flow_step _ 21 rfl rfl (fun d h=>by simpa using h) h1 h2 fun ac xs W he hb hS K hK=>?_
     have e0:=(he 20).trans (hS 5 (by kernel_rfl))
     refine op_any (.load 3 (.tmp 20)) rfl (.int .i64 a.e) (fun o' ho'=>?_) (hK _ _ rfl bR nA)
     simp only [execOp,ho',e0]
     have hc:=cell_of_row W _ 2 _ _ _ (hb.blk R0.out (blk_lt R0.out))
     go_simp
    ·refine flow_step _ 22 rfl rfl (fun d h=>by simpa using h) h1 h2 fun ac xs W he hb hS K hK=>?_
     have e0 : ac.eval (.tmp 3) = .pointer (some ⟨w.heap.size + 1,0,none⟩):=he 3
     refine op_any (.fieldAddr 35 (.tmp 3) 2) rfl (.pointer (some ⟨w.heap.size + 1,2,none⟩)) (fun o' ho'=>?_) (hK _ _ rfl bR nA)
     simp only [execOp,ho',e0]
     go_simp
    ·refine flow_step _ 23 rfl rfl (fun d h=>by simpa using h) h1 h2 fun ac xs W he hb hS K hK=>?_
     have e0:=(he 22).trans (hS 7 (by kernel_rfl))
     refine op_any (.load 3 (.tmp 22)) rfl (.int .i64 b.e) (fun o' ho'=>?_) (hK _ _ rfl bR nA)
     simp only [execOp,ho',e0]
     have hc:=cell_of_row W _ 2 _ _ _ (hb.blk R1.out (blk_lt R1.out))
     go_simp
    ·refine flow_step _ 24 rfl rfl (fun d h=>by simpa using h) h1 h2 fun ac xs W he hb hS K hK=>?_
     have e0:=(he 21).trans (hS 6 (by kernel_rfl))
     have e1:=(he 23).trans (hS 8 (by kernel_rfl))
     refine op_any (.binOp .add 3 (.tmp 21) (.tmp 23) 3) rfl (.int .i64 (a.e + b.e)) (fun o' ho'=>?_) (hK _ _ rfl bR nA)
     simp only [execOp,ho',e0,e1]
     rw [← HE.out]
     go_simp
    ·refine flow_step _ 25 rfl rfl (fun d h=>by simpa using h) h1 h2 fun ac xs W he hb hS K hK=>?_
     have y4 : xs 4 = xs 4:=rfl
     have e0:=(he 19).trans y4
     have e1:=(he 24).trans (hS 9 (by kernel_rfl))
     refine op_call 120 _ _ rfl _ (by simp only [List.map,e0,e1]) (by go_simp) (HWH.out W _ (HB2.out.thru hb) (hS 4 (by kernel_rfl))) ?_
     rintro e' W' ⟨rfl,hb'⟩
     exact ⟨_,rfl,hK _ _ (rfl) hb' nA⟩
    ·refine flow_step _ 26 rfl rfl (fun d h=>by simpa using h) h1 h2 fun ac xs W he hb hS K hK=>?_
     have e0:=(he 25).trans (hS 10 (by kernel_rfl))
     refine op_any (.extract (.tmp 25) 0) rfl (dcV (mulD a b)) (fun o' ho'=>?_) (hK _ _ rfl bR nA)
     simp only [execOp,ho',e0]
     go_simp
    ·refine flow_step _ 27 rfl rfl (fun d h=>by simpa using h) h1 h2 fun ac xs W he hb hS K hK=>?_
     have e0:=(he 25).trans (hS 10 (by kernel_rfl))
     refine op_any (.extract (.tmp 25) 1) rfl (.int .i64 (mulX a b)) (fun o' ho'=>?_) (hK _ _ rfl bR nA)
     simp only [execOp,ho',e0]
     go_simp
   ·intro xs W hb hS hD
    have s0 : xs 0 = _:=hS 0 (by decide)
    have s2 : xs 2 = _:=hS 2 (by decide)
    have s5 : xs 5 = _:=hS 5 (by decide)
    have s6 : xs 6 = _:=hS 6 (by decide)
    have s7 : xs 7 = _:=hS 7 (by decide)
    have s8 : xs 8 = _:=hS 8 (by decide)
    have s9 : xs 9 = _:=hS 9 (by decide)
    have s10 : xs 10 = _:=hS 10 (by decide)
    have s11 : xs 11 = _:=hS 11 (by decide)
    have s12 : xs 12 = _:=hS 12 (by decide)
    have r2:=hb.blk R2.out (blk_lt R2.out)
    obtain ⟨f0,c0,f1,c1,f2,c2,r3⟩:=rw3 r2
    have HR : Hid _:=r3
    have HBB : Hid (Below w.heap.size w W):=HB2.out.thru hb
    generalize xs 1 = x1 at *
    generalize xs 3 = x3 at *
    generalize xs 4 = x4 at *
    generalize mulD a b = D at *
    generalize mulX a b = X at *
    simp only [layAll,s0,s2,s5,s6,s7,s8,s9,s10,s11,s12]
    clear s0 s2 s5 s6 s7 s8 s9 s10 s11 s12 hS hD r2 r3 hb
    go_simp
    simp only [dcV]
    go_wp2
    exact dc_end rfl rfl rfl (HR.out _ _ _) rfl rfl (below_row3 HBB.out (Nat.le_add_right _ 2) _ _ _)
def ofN (b : Nat) : Nat:=if 0 ≤ spE b then spM b * 2 ^ (spE b).toNat else spM b * 5 ^ (-spE b).toNat
def ofE (b : Nat) : Int:=if 0 ≤ spE b then 0 else spE b
def ofD (b : Nat) : Dc:=if spX b = 0 then ⟨madeS (spS b) (ofN b) (ofE b),madeL (ofN b) (ofE b),madeE (ofN b) (ofE b)⟩ else Dc.none
def ofX (b : Nat) : Int:=if spX b = 0 then madeX (ofN b) (ofE b) else 10
theorem sp_bd (b : Nat) : -1074 ≤ spE b ∧ spE b ≤ 972 ∧ spM b < 9007199254740992:=by
 have h1:=expB_le b
 have h2 : fracB b < 4503599627370496:=Nat.mod_lt _ (by decide)
 unfold spE spM mantB
 by_cases ha : (nanB b || infB b) = true
 ·rw [if_pos ha,if_pos ha]; omega
 ·rw [if_neg ha,if_neg ha]
  by_cases hz : zeroB b = true
  ·rw [if_pos hz,if_pos hz]; omega
  ·rw [if_neg hz,if_neg hz]
   by_cases hl : lowB b = true
   ·rw [if_pos hl,if_pos hl]; omega
   ·rw [if_neg hl,if_neg hl]
    have h3 : 1 ≤ expB b:=by
     unfold lowB absB at hl
     simp at hl
     unfold expB
     omega
    omega
theorem spX_cases (b : Nat) : spX b = 0 ∨ spX b = 10:=by
 unfold spX; split
 ·exact .inr rfl
 ·exact .inl rfl
theorem five_lt {i k bb : Nat} (h : i ≤ k) (hk : 3 * k + 1 ≤ bb) : 5 ^ i < 2 ^ bb:=by
 have h1 : (5 : Nat) ^ i ≤ 5 ^ k:=Nat.pow_le_pow_right (by decide) h
 have h2 : (5 : Nat) ^ k ≤ (2 ^ 3) ^ k:=Nat.pow_le_pow_left (by decide) k
 rw [← Nat.pow_mul] at h2
 have h3 : (2 : Nat) ^ (3 * k + 1) ≤ 2 ^ bb:=Nat.pow_le_pow_right (by decide) hk
 rw [Nat.pow_succ] at h3
 have h4 : 0 < (2 : Nat) ^ (3 * k):=Nat.pow_pos (by decide)
 omega
theorem of_scale (neg : Bool) (m0 m n k : Nat) (hk : k ≤ n) (hm : m0 = m * 2 ^ k) :
  madeX (m0 * 5 ^ n) (-(n : Int)) = madeX (m * 5 ^ (n - k)) (-(n : Int) + k) ∧ madeS neg (m0 * 5 ^ n) (-(n : Int)) = madeS neg (m * 5 ^ (n - k)) (-(n : Int) + k) ∧ madeL (m0 * 5 ^ n) (-(n : Int)) = madeL (m * 5 ^ (n - k)) (-(n : Int) + k) ∧ madeE (m0 * 5 ^ n) (-(n : Int)) = madeE (m * 5 ^ (n - k)) (-(n : Int) + k):=by
 have e : m0 * 5 ^ n = m * 5 ^ (n - k) * 10 ^ k:=by
  have h5 : (5 : Nat) ^ n = 5 ^ (n - k) * 5 ^ k:=by rw [← Nat.pow_add]; congr 1; omega
  have h10 : (10 : Nat) ^ k = 2 ^ k * 5 ^ k:=by rw [← Nat.mul_pow]
  rw [hm,h5,h10]
  simp only [Nat.mul_comm,Nat.mul_left_comm,Nat.mul_assoc]
 rw [e]
 exact made_scale neg _ k _
set_option maxHeartbeats 2000000 in
theorem of_v (b : Nat) (hb : W64 b) (w : World) (htab : Tab w) : Calls Tryz.prog 47 #[.float .f64 b] w (DcQ (ofD b) (ofX b) w):=by
 have HS : Hid (∀ W,Calls Tryz.prog 98 #[.float .f64 b] W fun e w'=>e = .returned (.tuple #[.bool (spS b),.int .u64 (spM b),.int .i64 (spE b),.int .i64 (spX b)]) ∧ W = w'):=fun W=>split_any b W hb
 obtain ⟨D,hD⟩ : ∃ D,D = ofD b:=⟨_,rfl⟩
 obtain ⟨X,hX⟩ : ∃ X,X = ofX b:=⟨_,rfl⟩
 rw [← hD,← hX]
 have HB0 : Hid (Below w.heap.size w (w.alloc (.cells #[.bool false,.string ⟨#[]⟩,.int .i64 0] 35))):=(Below.refl _ _).alloc (Nat.le_refl _) _
 have HQ0 : Hid _:=new_blk w (.cells #[.bool false,.string ⟨#[]⟩,.int .i64 0] 35)
 obtain ⟨k1,k2,k3⟩:=sp_bd b
 rcases spX_cases b with hx | hx
 ·have hD' : D = ⟨madeS (spS b) (ofN b) (ofE b),madeL (ofN b) (ofE b),madeE (ofN b) (ofE b)⟩:=by rw [hD]; unfold ofD; rw [if_pos hx]
  have hX' : X = madeX (ofN b) (ofE b):=by rw [hX]; unfold ofX; rw [if_pos hx]
  rw [hx] at HS
  obtain ⟨bt,hbt,hbt2⟩ : ∃ bt,10000 ≤ bt ∧ bt ≤ 4294967296:=⟨10000,by decide,by decide⟩
  have HWD : Hid (∀ W (m : Nat),m < 9007199254740992 → Calls Tryz.prog 103 #[.int .u64 m] W (WideQ false m W)):=fun W m hm=>word_any m W (by omega)
  have HTX : Hid (∀ W s N,Below w.heap.size w W → Num .u64 18446744073709551616 W s N → N < 2 ^ bt → Calls Tryz.prog 105 #[.agg #[.bool false,s]] W fun e w'=>e = .returned (.string (bs (Lib.decDigits N))) ∧ Below W.heap.size W w'):=fun W s N hW hs hN=>itext_any s N W hs hN hbt2 (htab.below hW)
  have HMD : Hid (∀ W (N : Nat) (e : Int),N < 2 ^ bt → Calls Tryz.prog 102 #[.bool (spS b),.string (bs (Lib.decDigits N)),.int .i64 e] W (DcQ ⟨madeS (spS b) N e,madeL N e,madeE N e⟩ (madeX N e) W)):=fun W N e hN=>by
   have hd : allDig (bl (bs (Lib.decDigits N))):=dec_all _
   have hs : (bs (Lib.decDigits N)).size ≤ 4611686018427387904:=by
    show (Lib.decDigits N).length ≤ _
    by_cases h0 : N = 0
    ·rw [h0,Go.Lib.decDigits,dif_pos (by decide)]; decide
    ·rw [dec_bare (by omega)]
     have:=bare_len_bits hN
     omega
   refine (dmade_any (spS b) (bs (Lib.decDigits N)) e W hd hs).mono ?_
   rintro en w' ⟨rfl,hb⟩
   refine ⟨?_,hb⟩
   rw [bl_bs,dval_dec]; rfl
  obtain ⟨m,hm⟩ : ∃ m,m = spM b:=⟨_,rfl⟩
  obtain ⟨ee,hee⟩ : ∃ e,e = spE b:=⟨_,rfl⟩
  obtain ⟨ng,hng⟩ : ∃ x,x = spS b:=⟨_,rfl⟩
  rw [← hm,← hee,← hng] at HS
  rw [← hng] at HMD hD'
  rw [← hm] at k3
  rw [← hee] at k1 k2
  by_cases he : 0 ≤ ee
  ·have hN : ofN b = m * 2 ^ ee.toNat:=by unfold ofN; rw [← hee,← hm,if_pos he]
   have hE : ofE b = 0:=by unfold ofE; rw [← hee,if_pos he]
   obtain ⟨n,hn⟩ : ∃ n,n = ee.toNat:=⟨_,rfl⟩
   obtain ⟨q,hq⟩ : ∃ q,q = n / 64:=⟨_,rfl⟩
   obtain ⟨r,hr⟩ : ∃ r,r = n % 64:=⟨_,rfl⟩
   have hqr : 64 * q + r = n:=by omega
   rw [← hn] at hN
   rw [hN,hE] at hD' hX'
   have hbig : m * 2 ^ n < 2 ^ bt:=by
    have h1 : m * 2 ^ n < 2 ^ 53 * 2 ^ n:=Nat.mul_lt_mul_of_pos_right (by omega) (Nat.pow_pos (by decide))
    rw [← Nat.pow_add] at h1
    exact Nat.lt_of_lt_of_le h1 (Nat.pow_le_pow_right (by decide) (by omega))
   have HLF : Hid (∀ W s,Num .u64 18446744073709551616 W s m → Calls Tryz.prog 104 #[.agg #[.bool false,s],.int .i64 ee] W (WideQ false (m * 2 ^ n) W)):=fun W s hs=>by
    have:=left_any false s m q r ee W hs (by omega) (by omega) (by omega) (bb:=64) (by omega) (by decide)
    rwa [hqr,Bool.false_and] at this
   have HDD : Hid (D = ⟨madeS ng (m * 2 ^ n) 0,madeL (m * 2 ^ n) 0,madeE (m * 2 ^ n) 0⟩ ∧ X = madeX (m * 2 ^ n) 0):=⟨hD',hX'⟩
   have HBG : Hid (m * 2 ^ n < 2 ^ bt ∧ m < 9007199254740992):=⟨hbig,k3⟩
   clear hD hX hx hD' hX' hm hee hng k1 k2 k3 hN hE hn hq hr hqr hbig htab hbt hbt2 hb
   go_enter Tryz.func47,Tryz.ntmps47
   go_wp2_with (first | (go_at_call 98; refine (HS.out _).mono ?_; rintro e w' ⟨rfl,rfl⟩) | fail)
   refine (HWD.out _ m HBG.out.2).mono ?_
   rintro e w1 ⟨v,rfl,⟨s,rfl,hs,-⟩,hb⟩
   have HB1 : Hid (Below w.heap.size w w1):=HB0.out.thru hb
   have HQ1 : Hid _:=hb.blk HQ0.out (blk_lt HQ0.out)
   have HN1 : Hid (Num .u64 18446744073709551616 w1 s m):=hs
   clear hb hs
   go_wp2_with fail
   refine (HLF.out _ s HN1.out).mono ?_
   rintro e w2 ⟨v,rfl,⟨s2,rfl,hs,-⟩,hb⟩
   have HB2 : Hid (Below w.heap.size w w2):=HB1.out.thru hb
   have HQ2 : Hid _:=hb.blk HQ1.out (blk_lt HQ1.out)
   have HN2 : Hid (Num .u64 18446744073709551616 w2 s2 (m * 2 ^ n)):=hs
   clear hb hs
   go_wp2_with fail
   refine (HTX.out _ s2 _ HB2.out HN2.out HBG.out.1).mono ?_
   rintro e w3 ⟨rfl,hb⟩
   have HB3 : Hid (Below w.heap.size w w3):=HB2.out.thru hb
   have HQ3 : Hid _:=hb.blk HQ2.out (blk_lt HQ2.out)
   clear hb
   go_wp2_with fail
   refine (HMD.out _ _ _ HBG.out.1).mono ?_
   rintro e w4 ⟨rfl,hb⟩
   have r2:=hb.blk HQ3.out (blk_lt HQ3.out)
   obtain ⟨f0,c0,f1,c1,f2,c2,r3⟩:=rw3 r2
   have HR : Hid _:=r3
   have HBB : Hid (Below w.heap.size w w4):=HB3.out.thru hb
   clear r2 r3 hb
   simp only [dcV]
   go_wp2
   exact dc_end rfl rfl rfl (HR.out _ _ _) HDD.out.1 HDD.out.2.symm (below_row3 HBB.out (Nat.le_refl _) _ _ _)
  ·have hN : ofN b = m * 5 ^ (-ee).toNat:=by unfold ofN; rw [← hee,← hm,if_neg he]
   have hE : ofE b = ee:=by unfold ofE; rw [← hee,if_neg he]
   obtain ⟨n,hn⟩ : ∃ n,n = (-ee).toNat:=⟨_,rfl⟩
   rw [← hn] at hN
   have hen : ee = -(n : Int):=by omega
   rw [hN,hE,hen] at hD' hX'
   rw [hen] at HS
   have hn0 : n ≤ 1074:=by omega
   have hn1 : 0 < n:=by omega
   have hnn : ¬ 0 ≤ -(n : Int):=by omega
   obtain ⟨ex,hex⟩ : ∃ ex,ex = 4000:=⟨_,rfl⟩
   have HBG : Hid (∀ m' k,m' < 9007199254740992 → k ≤ n → m' * 5 ^ k < 2 ^ bt):=fun m' k h1 h2=>by
    have h3 : 5 ^ k < 2 ^ ex:=five_lt h2 (by omega)
    have h4 : m' * 5 ^ k < 2 ^ 53 * 2 ^ ex:=Nat.lt_of_le_of_lt (Nat.mul_le_mul_left _ (Nat.le_of_lt h3)) (Nat.mul_lt_mul_of_pos_right (by omega) (Nat.pow_pos (by decide)))
    rw [← Nat.pow_add] at h4
    exact Nat.lt_of_lt_of_le h4 (Nat.pow_le_pow_right (by decide) (by omega))
   have HPW : Hid (∀ W (k : Nat),k ≤ n → Calls Tryz.prog 99 #[.int .u64 5,.int .i64 (k : Nat)] W (WideQ false (5 ^ k) W)):=fun W k hk=>wpower_any 5 k W (by decide) (bb:=ex) (fun i hi=>five_lt hi (by omega)) (by omega) (by omega)
   have HML : Hid (∀ W s t (m' k : Nat),Num .u64 18446744073709551616 W s m' → Num .u64 18446744073709551616 W t (5 ^ k) → m' < 9007199254740992 → k ≤ n → Calls Tryz.prog 106 #[.agg #[.bool false,s],.agg #[.bool false,t]] W (WideQ false (m' * 5 ^ k) W)):=fun W s t m' k h1 h2 h3 h4=>by
    have hx : m' < 2 ^ ex:=by have:=Nat.pow_le_pow_right (show 0 < 2 by decide) (show 53 ≤ ex by omega); have e : (2 : Nat) ^ 53 = 9007199254740992:=rfl; omega
    have:=mul_any false false s t m' (5 ^ k) W h1 h2 (bb:=ex) hx (five_lt h4 (by omega)) (by omega)
    simpa using this
   have HDD : Hid (D = ⟨madeS ng (m * 5 ^ n) (-(n : Int)),madeL (m * 5 ^ n) (-(n : Int)),madeE (m * 5 ^ n) (-(n : Int))⟩ ∧ X = madeX (m * 5 ^ n) (-(n : Int))):=⟨hD',hX'⟩
   have HM3 : Hid (m < 9007199254740992):=k3
   clear hD hX hx hD' hX' hm hee hng k1 k2 k3 hN hE hn hbt hbt2 hb hex hen he htab
   go_enter Tryz.func47,Tryz.ntmps47
   go_wp2_with (first | (go_at_call 98; refine (HS.out _).mono ?_; rintro e w' ⟨rfl,rfl⟩) | fail)
   have hdz : decide (n = 0) = false:=decide_eq_false (by omega)
   simp only [hdz]
   clear hdz
   go_loopw [5,6,32] (fun mv ev iv wr=>∃ m' k i : Nat,mv = .int .u64 (m' : Nat) ∧ ev = .int .i64 (-(n : Int) + k) ∧ iv = .int .i64 (i : Nat) ∧ k ≤ i ∧ i ≤ n ∧ m = m' * 2 ^ k ∧ m' < 9007199254740992 ∧ wr.heap[w.heap.size]? = some (.cells #[.bool false,.string ⟨#[]⟩,.int .i64 0] 35 (0,0)) ∧ Below w.heap.size w wr) (fun _ _ iv _=>n - (intOf iv).toNat)
   case atStart=>exact ⟨m,0,0,rfl,by simp,rfl,Nat.le_refl _,Nat.zero_le _,by rw [Nat.pow_zero,Nat.mul_one],HM3.out,HQ0.out,HB0.out⟩
   case round=>
    obtain ⟨m',k,i,rfl,rfl,rfl,hki,hin,hmm,hm',hrow,hbel⟩:=hrel
    have HMM : Hid (m = m' * 2 ^ k):=hmm
    have HROW : Hid _:=hrow
    have HBEL : Hid (Below w.heap.size w wr):=hbel
    have HM' : Hid (m' < 9007199254740992):=hm'
    clear hmm hrow hbel
    by_cases hlt : i < n
    ·by_cases h2 : m' % 2 = 0
     ·by_cases h0 : m' = 0
      ·subst h0
       go_wp2
       go_roundw
       case rel=>exact ⟨0,k,i + 1,rfl,rfl,by go_num,by omega,by omega,HMM.out,by decide,HROW.out,HBEL.out⟩
       case measure=>simp [intOf]; omega
      ·have h2' : (m' : Int) % 2 = 0:=by omega
       have h2'' : (m' : Int).tmod 2 = 0:=by show ((m' % 2 : Nat) : Int) = 0; omega
       have h0' : 0 < m':=Nat.pos_of_ne_zero h0
       obtain ⟨h,hh⟩ : ∃ h,h = m' / 2:=⟨_,rfl⟩
       have hd1 : (m' : Int).tdiv 2 = (h : Int):=by rw [hh]; rfl
       have hd2 : (m' : Int) / 2 = (h : Int):=by omega
       have hhb : h < 9007199254740992:=by omega
       have HH : Hid (m' = h * 2):=by show _ = _; omega
       have hw1 : IntKind.i64.wrap (-(n : Int) + (k : Int) + 1) = -(n : Int) + ((k + 1 : Nat) : Int):=by rw [IntWalk.i64_in _ (by omega)]; omega
       clear hh h0 h2
       go_wp2
       go_roundw
       case rel=>
        refine ⟨h,k + 1,i + 1,rfl,rfl,by go_num,by omega,by omega,?_,hhb,HROW.out,HBEL.out⟩
        rw [HMM.out,HH.out,Nat.pow_succ,Nat.mul_assoc,Nat.mul_comm 2]
       case measure=>simp [intOf]; omega
     ·have h2' : ¬ (m' : Int) % 2 = 0:=by omega
      have h2'' : ¬ (m' : Int).tmod 2 = 0:=by show ¬ ((m' % 2 : Nat) : Int) = 0; omega
      clear h2
      go_wp2
      go_roundw
      case rel=>exact ⟨m',k,i + 1,rfl,rfl,by go_num,by omega,by omega,HMM.out,hm',HROW.out,HBEL.out⟩
      case measure=>simp [intOf]; omega
    ·have hkn : k ≤ n:=by omega
     have HS4 : Hid (D = ⟨madeS ng (m' * 5 ^ (n - k)) (-(n : Int) + k),madeL (m' * 5 ^ (n - k)) (-(n : Int) + k),madeE (m' * 5 ^ (n - k)) (-(n : Int) + k)⟩ ∧ X = madeX (m' * 5 ^ (n - k)) (-(n : Int) + k)):=by
      obtain ⟨e1,e2,e3,e4⟩:=of_scale ng m m' n k hkn HMM.out
      rw [← e1,← e2,← e3,← e4]; exact HDD.out
     obtain ⟨u,hu⟩ : ∃ u,u = n - k:=⟨_,rfl⟩
     rw [← hu] at HS4
     have HU : Hid (u ≤ n):=by show _ ≤ _; omega
     have hneg : IntKind.i64.wrap (-(-(n : Int) + (k : Int))) = (u : Int):=by rw [IntWalk.i64_in _ (by omega)]; omega
     clear hu
     have HBGu : Hid (m' * 5 ^ u < 2 ^ bt):=HBG.out m' u HM'.out HU.out
     go_wp2_with fail
     with_reducible refine (HWD.out _ m' HM'.out).mono ?_
     rintro e w1 ⟨v,rfl,⟨s,rfl,hs,-⟩,hb⟩
     have HB1 : Hid (Below w.heap.size w w1):=HBEL.out.thru hb
     have HQ1 : Hid _:=hb.blk HROW.out (blk_lt HROW.out)
     have HN1 : Hid (Num .u64 18446744073709551616 w1 s m'):=hs
     clear hb hs
     go_wp2_with fail
     with_reducible refine (HPW.out _ u HU.out).mono ?_
     rintro e w2 ⟨v,rfl,⟨s2,rfl,hs,-⟩,hb⟩
     have HB2 : Hid (Below w.heap.size w w2):=HB1.out.thru hb
     have HQ2 : Hid _:=hb.blk HQ1.out (blk_lt HQ1.out)
     have HN2 : Hid (Num .u64 18446744073709551616 w2 s2 (5 ^ u)):=hs
     have HN1' : Hid (Num .u64 18446744073709551616 w2 s m'):=HN1.out.below (Nat.le_refl _) hb
     clear hb hs
     go_wp2_with fail
     with_reducible refine (HML.out _ s s2 m' u HN1'.out HN2.out HM'.out HU.out).mono ?_
     rintro e w3 ⟨v,rfl,⟨s3,rfl,hs,-⟩,hb⟩
     have HB3 : Hid (Below w.heap.size w w3):=HB2.out.thru hb
     have HQ3 : Hid _:=hb.blk HQ2.out (blk_lt HQ2.out)
     have HN3 : Hid (Num .u64 18446744073709551616 w3 s3 (m' * 5 ^ u)):=hs
     clear hb hs
     go_wp2_with fail
     with_reducible refine (HTX.out _ s3 _ HB3.out HN3.out HBGu.out).mono ?_
     rintro e w4 ⟨rfl,hb⟩
     have HB4 : Hid (Below w.heap.size w w4):=HB3.out.thru hb
     have HQ4 : Hid _:=hb.blk HQ3.out (blk_lt HQ3.out)
     clear hb
     go_wp2_with fail
     with_reducible refine (HMD.out _ _ _ HBGu.out).mono ?_
     rintro e w5 ⟨rfl,hb⟩
     have r2:=hb.blk HQ4.out (blk_lt HQ4.out)
     obtain ⟨f0,c0,f1,c1,f2,c2,r3⟩:=rw3 r2
     have HR : Hid _:=r3
     have HBB : Hid (Below w.heap.size w w5):=HB4.out.thru hb
     clear r2 r3 hb
     simp only [dcV]
     go_wp2
     exact dc_end rfl rfl rfl (HR.out _ _ _) HS4.out.1 HS4.out.2.symm (below_row3 HBB.out (Nat.le_refl _) _ _ _)
 ·have hD' : D = Dc.none:=by rw [hD]; unfold ofD; rw [if_neg (by omega)]
  have hX' : X = 10:=by rw [hX]; unfold ofX; rw [if_neg (by omega)]
  rw [hx] at HS
  rw [hD',hX']
  obtain ⟨f0,c0,f1,c1,f2,c2,-⟩:=rw3 HQ0.out
  clear hD hX hx hD' hX' k1 k2 k3 hb htab
  go_enter Tryz.func47,Tryz.ntmps47
  go_wp2_with (go_at_call 98; refine (HS.out _).mono ?_; rintro e w' ⟨rfl,rfl⟩)
  exact dc_end rfl rfl rfl HQ0.out rfl rfl HB0.out
end Go.Proofs.YtlbokicainimnaaGreatDoor
