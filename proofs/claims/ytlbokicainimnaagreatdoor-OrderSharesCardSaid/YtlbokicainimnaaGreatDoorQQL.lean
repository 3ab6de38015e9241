import Derived.Test.YtlbokicainimnaaGreatDoorQQI
import Derived.Test.YtlbokicainimnaaGreatDoorQQK
set_option maxRecDepth 100000
namespace Go.Proofs.YtlbokicainimnaaGreatDoor
open Go.RowKit
theorem OwnW.far {k : IntKind} {e : TypeId} {w w' : World} {g L : Nat} {ys : List Nat} (h : OwnW k e w g L ys) {M : Nat} (hb : Below M w w') (hM : g < M) : OwnW k e w' g L ys:=by
 obtain ⟨h1,h2⟩:=h
 refine ⟨h1,?_⟩
 rcases h2 with ⟨h2,_⟩ | ⟨g',cap,cur,h2,h3,h4,h5⟩
 ·simp at h2
 ·simp only [Value.slice.injEq,Option.some.injEq,Addr.mk.injEq,and_true,true_and] at h2
  obtain ⟨rfl,rfl⟩:=h2
  exact .inr ⟨_,_,cur,rfl,h3,by rw [hb.block _ hM]; exact h4,h5⟩
theorem int_row_tmp {fn : Func} {p u : Tmp} (h : fn.results = #[.cell p 123, .tmp u]) (tmps : Array Value) (w : World) (g : Nat) (v s : Value)
  (hp : tmps.getD p undef = .pointer (some ⟨g,0,none⟩)) (hg : w.heap[g]? = some (.cells #[v,s] 123 (0,0))) : (results fn tmps).run Tryz.prog w = .ok (.tuple #[.agg #[v,s],tmps.getD u undef]) w:=by
 have hp' : tmps[p]?.getD undef = .pointer (some ⟨g,0,none⟩):=by simpa using hp
 rw [results_cell_tmp h]
 simp [hp',asAddr,run_loadVar_row (P:=Tryz.prog) w g _ 123 #[v,s] (0,0) _ hg Tryz.underlying123 rfl (by kernel_rfl),Result.andThen]
theorem int_row_row {fn : Func} {p u : Tmp} (h : fn.results = #[.cell p 123, .cell u 123]) (tmps : Array Value) (w : World) (g g' : Nat) (v s v' s' : Value)
  (hp : tmps.getD p undef = .pointer (some ⟨g,0,none⟩)) (hg : w.heap[g]? = some (.cells #[v,s] 123 (0,0)))
  (hp' : tmps.getD u undef = .pointer (some ⟨g',0,none⟩)) (hg' : w.heap[g']? = some (.cells #[v',s'] 123 (0,0))) : (results fn tmps).run Tryz.prog w = .ok (.tuple #[.agg #[v,s],.agg #[v',s']]) w:=by
 have h1 : tmps[p]?.getD undef = .pointer (some ⟨g,0,none⟩):=by simpa using hp
 have h2 : tmps[u]?.getD undef = .pointer (some ⟨g',0,none⟩):=by simpa using hp'
 simp only [results,h]
 simp [h1,h2,asAddr,run_loadVar_row (P:=Tryz.prog) w g _ 123 #[v,s] (0,0) _ hg Tryz.underlying123 rfl (by kernel_rfl),run_loadVar_row (P:=Tryz.prog) w g' _ 123 #[v',s'] (0,0) _ hg' Tryz.underlying123 rfl (by kernel_rfl)]
def ShortQ (Q R : Nat) (w : World) (e : Ending) (w' : World) : Prop:=∃ v,e = .returned (.tuple #[v,.int .u64 (R : Nat)]) ∧ Wide w' v false Q ∧ Below w.heap.size w w'
set_option maxHeartbeats 1000000 in
theorem short_any (neg : Bool) (s : Value) (N d : Nat) (w : World) (h : Num .u64 18446744073709551616 w s N) (hd0 : 0 < d) (hd : d < 18446744073709551616) {bb : Nat} (hN : N < 2 ^ bb) (hbb : bb ≤ 4294967296) :
  Calls Tryz.prog 152 #[.agg #[.bool neg,s],.int .u64 (d : Nat)] w (ShortQ (N / d) (N % d) w):=by
 obtain ⟨xs,hL,rfl,hnorm⟩:=h
 obtain ⟨a,m,c,rfl,hm,hmc,hc,hx,hcell⟩:=hL
 have hml : m ≤ 67108865:=by
  by_cases h0 : 0 < m
  ·have:=norm_length (s:=64) hnorm hN (by omega)
   rw [hm] at this
   omega
  ·omega
 have HX : Hid (∀ x ∈ xs,x < 18446744073709551616):=hx
 clear hN hbb hx hmc hc hnorm
 obtain ⟨i0,hi,hz0,hz1,hz2⟩:=info_parts Tryz.infoW
 go_enter Tryz.func152,Tryz.ntmps152
 go_wp2_with (at_make; refine wpList_make_full _ rfl _ _ 39 rfl (w.heap.size + 2) 22 i0 (.int .u64 0) 1 Tryz.underlying39 hi hz0 hz1 .i64 .i64 _ _ m rfl rfl (by omega) (by omega) (by rw [hz2]; omega) (by unfold maxLen; omega) (by simp) ?_; intro w1 hown hgrow; have hbel : Below (w.heap.size + 2) _ w1:=(Below.refl _ _).grown hgrow (by simp) (by simp); obtain ⟨x0,x1,x2,x3,-,-⟩:=row2 (hbel.blk (heap_alloc2_old w _ _) (by omega)))
 have hown' : OwnW .u64 22 w1 (w.heap.size + 2) m (List.replicate m 0):=OwnW.made (by simpa using hown)
 clear hown hgrow
 go_loopw [7,8] (fun r i wr=>∃ k rest zs,k ≤ m ∧ i = .int .i64 ((k : Int) - 1) ∧ r = .int .u64 (rest : Nat) ∧ rest < d ∧ OwnW .u64 22 wr (w.heap.size + 2) m zs ∧ Below (w.heap.size + 2) w1 wr ∧ ShortInv 18446744073709551616 d xs k rest zs) (fun _ i _=>(intOf i + 1).toNat)
 case atStart=>
  refine ⟨m,0,_,Nat.le_refl _,rfl,rfl,hd0,hown',Below.refl _ _,by simp [hm],?_,hd0,?_⟩
  ·intro z hz
   simp at hz
   omega
  ·rw [List.drop_eq_nil_of_le (by omega),List.drop_eq_nil_of_le (by simp)]; rfl
 case round=>
  obtain ⟨k,rest,zs,hk,rfl,rfl,hrd,hownk,hbk,hinv⟩:=hrel
  have HI : Hid (ShortInv 18446744073709551616 d xs k rest zs):=hinv
  have HO : Hid (OwnW .u64 22 wr (w.heap.size + 2) m zs):=hownk
  have HB : Hid (Below (w.heap.size + 2) w1 wr):=hbk
  have HBW : Hid (Below (w.heap.size + 2) _ w1):=hbel
  obtain ⟨y0,y1,y2,y3,-,-⟩:=row2 (hbk.blk (hbel.blk (heap_alloc2_old w _ _) (by omega)) (by omega))
  clear hown'
  by_cases hk0 : k = 0
  ·subst hk0
   have hlimb:=hownk.limbs (B:=18446744073709551616) (by omega) hinv.2.1
   have he:=hinv.2.2.2
   rw [List.drop_zero,List.drop_zero] at he
   have eQ : lval 18446744073709551616 xs / d = lval 18446744073709551616 zs:=by rw [he,Nat.mul_add_div hd0,Nat.div_eq_of_lt hrd,Nat.add_zero]
   have eR : lval 18446744073709551616 xs % d = rest:=by rw [he,Nat.mul_add_mod,Nat.mod_eq_of_lt hrd]
   have HEQ : Hid (lval 18446744073709551616 xs / d = lval 18446744073709551616 zs):=eQ
   have HER : Hid (lval 18446744073709551616 xs % d = rest):=eR
   have M:=made_any false _ _ _ hlimb
   rw [Bool.false_and] at M
   have hR:=hbk.blk (hbel.blk (heap_alloc2_new w _ _) (by omega)) (by omega)
   have hw : w.heap.size + 2 ≤ wr.heap.size:=by have:=hbk.size; have:=hbel.size; simp at this; omega
   clear hlimb he eQ eR hownk hcell hinv
   go_wp2_with fail
   refine Calls.mono M ?_
   rintro e w' ⟨v,rfl,⟨s,rfl,hnum,-⟩,hb⟩
   obtain ⟨sa,sn,sc,rfl⟩:=hnum.shape
   have hres:=hb.blk hR (by omega)
   obtain ⟨f0,f1,c0,c1,f2,c2⟩:=row2 hres
   go_wp2
   rw [HEQ.out,HER.out]
   refine bodyPost_ret (int_row_tmp rfl _ _ (w.heap.size + 1) _ _ rfl (row2_set hres _ _)) rfl ⟨_,rfl,⟨_,rfl,hnum.row hres _ _,by simp⟩,?_⟩
   exact below_row ((((Below.refl _ _).alloc (Nat.le_refl _) _).alloc (by simp) _).trans ((hbel.mono (by omega)).trans ((hbk.mono (by omega)).trans (hb.mono (by omega))))) (by omega) _ _
  ·obtain ⟨j,rfl⟩ : ∃ j,k = j + 1:=⟨k - 1,by omega⟩
   obtain ⟨b,o,rfl,hb,hcc⟩:=hcell (by omega)
   have hx1 : wr.cell? ⟨b,o + j,none⟩ = some (.int .u64 (xs.getD j 0 : Nat)):=by
    rw [← hcc j (by omega),hbk.cell (by show b < _; omega),hbel.cell (by show b < _; omega)]
    rw [World.cell?_alloc_past _ _ _ (by simp; omega),World.cell?_alloc_past _ _ _ hb]
   have hxb:=getD_lt (B:=18446744073709551616) (by decide) HX.out j
   obtain ⟨hst,hqb⟩:=short_step hinv (by omega) HX.out (by decide)
   obtain ⟨x,hxe⟩ : ∃ x,x = xs.getD j 0:=⟨_,rfl⟩
   rw [← hxe] at hx1 hxb hst hqb
   have hdiv:=fun w=>div64_any rest x d w hxb hd hrd
   obtain ⟨q,hq⟩ : ∃ q,q = (rest * 18446744073709551616 + x) / d:=⟨_,rfl⟩
   obtain ⟨r2,hr2⟩ : ∃ r2,r2 = (rest * 18446744073709551616 + x) % d:=⟨_,rfl⟩
   rw [← hq,← hr2] at hst
   have hr2d : r2 < d:=by rw [hr2]; exact Nat.mod_lt _ hd0
   simp only [← hq,← hr2] at hdiv
   have HS : Hid (ShortInv 18446744073709551616 d xs j r2 (zs.set j q)):=hst
   have HDIV : Hid (∀ w,Calls Tryz.prog 207 #[.int .u64 rest,.int .u64 x,.int .u64 d] w fun e w'=>e = .returned (.tuple #[.int .u64 (q : Nat),.int .u64 (r2 : Nat)]) ∧ Below w.heap.size w w'):=hdiv
   have hw : w.heap.size + 2 < wr.heap.size:=by
    rcases World.ownsRow.lt hownk (w.heap.size + 2) rfl with ⟨_,h⟩
    exact h
   have hc1:=hownk.cell (j:=j) (by omega)
   have hf1:=hownk.frozen j
   clear hst hdiv hq hr2 hxe hcell hcc hbel hbk hownk hinv hxb hqb
   go_wp2_with (go_at_call 207; refine (HDIV.out _).mono ?_; rintro e w2 ⟨rfl,hb2⟩; have hc2:=(hb2.cell (p:=⟨w.heap.size + 2,j,none⟩) hw).trans hc1; have hf2:=(hb2.frozen (p:=⟨w.heap.size + 2,j,none⟩) hw).trans hf1; have HO2:=OwnW.far HO.out hb2 hw; have HO2 : Hid (OwnW .u64 22 w2 (w.heap.size + 2) m zs):=HO2; have HB2 : Hid (Below (w.heap.size + 2) w1 w2):=HB.out.trans (hb2.mono (Nat.le_of_lt hw)); clear hb2)
   go_roundw
   case rel=>exact ⟨j,r2,_,by omega,by go_num,rfl,hr2d,HO2.out.set j q,HB2.out.setCell (Nat.le_refl _) _,HS.out⟩
   case measure=>simp [intOf]
theorem own_below {w w' : World} {base : Nat} {e : TypeId} {k : Nat} {v : Value} {n : Nat} {xs : List Value} (h : w.ownsRow base e k v n xs) (hb : Below w.heap.size w w') : w'.ownsRow base e k v n xs:=by
 obtain ⟨h1,h2⟩:=h
 refine ⟨h1,?_⟩
 rcases h2 with h2 | ⟨g,cap,cur,h2,h3,h4,h5⟩
 ·exact .inl h2
 ·exact .inr ⟨g,cap,cur,h2,h3,by rw [hb.block _ (Array.getElem?_eq_some_iff.1 h4).1]; exact h4,h5⟩
theorem own_ne {w : World} {base : Nat} {e : TypeId} {k : Nat} {v : Value} {n : Nat} {xs : List Value} (h : w.ownsRow base e k v n xs) {g : Nat} {cs : Array Value} {t : TypeId} {fz : Nat × Nat} (hg : w.heap[g]? = some (.cells cs t fz)) (ht : t ≠ e) : v.ownBlock ≠ some g:=by
 intro hv
 rcases h.2 with ⟨h2,-⟩ | ⟨g',cap,cur,h2,h3,h4,h5⟩
 ·rw [h2] at hv; cases hv
 ·rw [h2] at hv
  cases hv
  rw [h4] at hg
  cases hg
  exact ht rfl
theorem own_lt {w : World} {base : Nat} {e : TypeId} {k : Nat} {v : Value} {n : Nat} {xs : List Value} (h : w.ownsRow base e k v n xs) {g : Nat} (hg : w.heap.size ≤ g) : v.ownBlock ≠ some g:=by
 intro hv
 have:=(h.lt g hv).2
 omega
theorem own_slN0 {w : World} {base : Nat} {e : TypeId} {k : Nat} {v : Value} {n : Nat} {xs : List Value} (h : w.ownsRow base e k v n xs) : ∃ a c,v = .slice a n c:=by
 rcases h.2 with ⟨rfl,rfl⟩ | ⟨g,cap,cur,rfl,-⟩
 ·exact ⟨_,_,rfl⟩
 ·exact ⟨_,_,rfl⟩
theorem own_setRow {w : World} {base : Nat} {e : TypeId} {k : Nat} {v : Value} {n : Nat} {xs : List Value} (h : w.ownsRow base e k v n xs) {g : Nat} (hg : v.ownBlock ≠ some g) (cs : Array Value) : (w.setRow g cs).ownsRow base e k v n xs:=by
 obtain ⟨h1,h2⟩:=h
 refine ⟨h1,?_⟩
 rcases h2 with h2 | ⟨g',cap,cur,rfl,h3,h4,h5⟩
 ·exact .inl h2
 ·exact .inr ⟨g',cap,cur,rfl,h3,by rw [setRow_other w g g' cs (fun e=>hg (by rw [e]; rfl))]; exact h4,h5⟩
theorem setRow_size (w : World) (g : Nat) (cs : Array Value) : (w.setRow g cs).heap.size = w.heap.size:=by unfold World.setRow; simp
theorem step_pl {P : Program} {ops : Array Oper} {o : Oper} {a : Act} {w : World} {K : Act → World → Prop} {Q : Exit → Act → World → Prop} {E : Prop} (hgd : o.guard = none) (h : Oper.wp P o a w K Q) :
  if Region.wanted o (yielded ops a.tmps) = true then Oper.wp P o a w K Q else E:=by
 have hw : Region.wanted o (yielded ops a.tmps) = true:=by simp [Region.wanted,hgd]
 rw [if_pos hw]; exact h
theorem Num.same {k : IntKind} {B : Nat} {w w' : World} {b o n c N : Nat} (h : Num k B w (.slice (some ⟨b,o,none⟩) n c) N) (hs : w.heap.size ≤ w'.heap.size) (hb : w'.heap[b]? = w.heap[b]?) : Num k B w' (.slice (some ⟨b,o,none⟩) n c) N:=by
 obtain ⟨xs,⟨_,_,_,e,h1,h2,h3,h4,h5⟩,h6,h7⟩:=h
 cases e
 refine ⟨xs,⟨_,_,_,rfl,h1,h2,h3,h4,fun hn=>?_⟩,h6,h7⟩
 obtain ⟨b',o',e',hs',hc⟩:=h5 hn
 cases e'
 exact ⟨_,_,rfl,Nat.lt_of_lt_of_le hs' hs,fun i hi=>(World.cell?_of_block hb).trans (hc i hi)⟩
theorem Num.grown {k : IntKind} {B : Nat} {w w' : World} {b o n c N : Nat} {row : Option Nat} (h : Num k B w (.slice (some ⟨b,o,none⟩) n c) N) (hg : w.grownBy w' row) (hne : some b ≠ row) : Num k B w' (.slice (some ⟨b,o,none⟩) n c) N:=by
 obtain ⟨xs,⟨_,_,_,e,h1,h2,h3,h4,h5⟩,h6,h7⟩:=h
 cases e
 refine ⟨xs,⟨_,_,_,rfl,h1,h2,h3,h4,fun hn=>?_⟩,h6,h7⟩
 obtain ⟨b',o',e',hs,hc⟩:=h5 hn
 cases e'
 exact ⟨_,_,rfl,Nat.lt_of_lt_of_le hs hg.size,fun i hi=>hg.cell (hc i hi) hne⟩
theorem made_at (neg : Bool) (a : Option Addr) (n c : Nat) (xs : List Nat) (w : World) (h : Limbs .u64 18446744073709551616 w (.slice a n c) xs) :
  Calls Tryz.prog 150 #[.bool neg,.slice a n c] w fun e w'=>∃ m,e = .returned (.agg #[.bool (neg && lval 18446744073709551616 xs != 0),.slice a m c]) ∧ Num .u64 18446744073709551616 w' (.slice a m c) (lval 18446744073709551616 xs) ∧ Below w.heap.size w w':=by
 have HL : Hid (Limbs .u64 18446744073709551616 w (.slice a n c) xs):=h
 obtain ⟨_,_,_,e0,hn,hnc,hc,hx,hcell⟩:=h
 cases e0
 go_enter Tryz.func150,Tryz.ntmps150
 go_wp2
 go_loop [1] (fun v=>∃ m,m ≤ n ∧ v = .slice a m c ∧ ∀ i,m ≤ i → i < n → xs.getD i 0 = 0) (fun v=>match v with | .slice _ m _=>m | _=>0)
 case atStart=>exact ⟨n,Nat.le_refl _,rfl,fun i h1 h2=>by omega⟩
 case round=>
  obtain ⟨m,hm,rfl,hz⟩:=hrel
  have HZ : Hid (∀ i,m ≤ i → i < n → xs.getD i 0 = 0):=hz
  clear hz
  by_cases hm0 : 0 < m
  ·obtain ⟨b,o,rfl,hb,hcc⟩:=hcell (by omega)
   have h1:=hcc (m - 1) (by omega)
   go_wp2
   ·go_round
    case rel=>
     have hlast : xs.getD (m - 1) 0 = 0:=by
      have : (((xs[m - 1]?.getD 0 : Nat) : Int) == 0) = true:=by assumption
      simpa using this
     refine ⟨m - 1,by omega,rfl,fun i h1 h2=>?_⟩
     by_cases h3 : i = m - 1
     ·rw [h3]; exact hlast
     ·exact HZ.out i (by omega) h2
    case measure=>simp; omega
   all_goals
    have hlast : xs.getD (m - 1) 0 ≠ 0:=by
     have : (((xs[m - 1]?.getD 0 : Nat) : Int) == 0) = false:=by assumption
     simpa using this
    obtain ⟨hnum,hnil⟩:=made_num HL.out hm HZ.out (.inr hlast)
    refine bodyPost_ret (int_row rfl _ _ w.heap.size _ _ rfl (heap_alloc_new w _)) rfl ⟨_,?_,hnum.below (Nat.le_refl _) ((Below.refl _ _).alloc (Nat.le_refl _) _),(Below.refl _ _).alloc (Nat.le_refl _) _⟩
    ·have hlt : lval 18446744073709551616 xs ≠ 0:=fun h=>by rw [hnil] at h; omega
     simp [hlt]
  ·go_wp2
   all_goals
    obtain ⟨hnum,hnil⟩:=made_num HL.out hm HZ.out (.inl (by omega))
    refine bodyPost_ret (int_row rfl _ _ w.heap.size _ _ rfl (heap_alloc_new w _)) rfl ⟨_,?_,hnum.below (Nat.le_refl _) ((Below.refl _ _).alloc (Nat.le_refl _) _),(Below.refl _ _).alloc (Nat.le_refl _) _⟩
    ·have hlt : lval 18446744073709551616 xs = 0:=hnil.mpr (by omega)
     simp [hlt]
set_option maxHeartbeats 1000000 in
theorem short_at (neg : Bool) (s : Value) (N d : Nat) (w : World) (h : Num .u64 18446744073709551616 w s N) (hd0 : 0 < d) (hd : d < 18446744073709551616) {bb : Nat} (hN : N < 2 ^ bb) (hbb : bb ≤ 4294967296) :
  Calls Tryz.prog 152 #[.agg #[.bool neg,s],.int .u64 (d : Nat)] w fun e w'=>∃ m c,e = .returned (.tuple #[.agg #[.bool false,.slice (some ⟨w.heap.size + 2,0,none⟩) m c],.int .u64 (N % d : Nat)]) ∧ Num .u64 18446744073709551616 w' (.slice (some ⟨w.heap.size + 2,0,none⟩) m c) (N / d) ∧ Below w.heap.size w w':=by
 obtain ⟨xs,hL,rfl,hnorm⟩:=h
 obtain ⟨a,m,c,rfl,hm,hmc,hc,hx,hcell⟩:=hL
 have hml : m ≤ 67108865:=by
  by_cases h0 : 0 < m
  ·have:=norm_length (s:=64) hnorm hN (by omega)
   rw [hm] at this
   omega
  ·omega
 have HX : Hid (∀ x ∈ xs,x < 18446744073709551616):=hx
 clear hN hbb hx hmc hc hnorm
 obtain ⟨i0,hi,hz0,hz1,hz2⟩:=info_parts Tryz.infoW
 go_enter Tryz.func152,Tryz.ntmps152
 go_wp2_with (at_make; refine wpList_make_full _ rfl _ _ 39 rfl (w.heap.size + 2) 22 i0 (.int .u64 0) 1 Tryz.underlying39 hi hz0 hz1 .i64 .i64 _ _ m rfl rfl (by omega) (by omega) (by rw [hz2]; omega) (by unfold maxLen; omega) (by simp) ?_; intro w1 hown hgrow; have hbel : Below (w.heap.size + 2) _ w1:=(Below.refl _ _).grown hgrow (by simp) (by simp); obtain ⟨x0,x1,x2,x3,-,-⟩:=row2 (hbel.blk (heap_alloc2_old w _ _) (by omega)))
 have hown' : OwnW .u64 22 w1 (w.heap.size + 2) m (List.replicate m 0):=OwnW.made (by simpa using hown)
 clear hown hgrow
 go_loopw [7,8] (fun r i wr=>∃ k rest zs,k ≤ m ∧ i = .int .i64 ((k : Int) - 1) ∧ r = .int .u64 (rest : Nat) ∧ rest < d ∧ OwnW .u64 22 wr (w.heap.size + 2) m zs ∧ Below (w.heap.size + 2) w1 wr ∧ ShortInv 18446744073709551616 d xs k rest zs) (fun _ i _=>(intOf i + 1).toNat)
 case atStart=>
  refine ⟨m,0,_,Nat.le_refl _,rfl,rfl,hd0,hown',Below.refl _ _,by simp [hm],?_,hd0,?_⟩
  ·intro z hz
   simp at hz
   omega
  ·rw [List.drop_eq_nil_of_le (by omega),List.drop_eq_nil_of_le (by simp)]; rfl
 case round=>
  obtain ⟨k,rest,zs,hk,rfl,rfl,hrd,hownk,hbk,hinv⟩:=hrel
  have HI : Hid (ShortInv 18446744073709551616 d xs k rest zs):=hinv
  have HO : Hid (OwnW .u64 22 wr (w.heap.size + 2) m zs):=hownk
  have HB : Hid (Below (w.heap.size + 2) w1 wr):=hbk
  have HBW : Hid (Below (w.heap.size + 2) _ w1):=hbel
  obtain ⟨y0,y1,y2,y3,-,-⟩:=row2 (hbk.blk (hbel.blk (heap_alloc2_old w _ _) (by omega)) (by omega))
  clear hown'
  by_cases hk0 : k = 0
  ·subst hk0
   have hlimb:=hownk.limbs (B:=18446744073709551616) (by omega) hinv.2.1
   have he:=hinv.2.2.2
   rw [List.drop_zero,List.drop_zero] at he
   have eQ : lval 18446744073709551616 xs / d = lval 18446744073709551616 zs:=by rw [he,Nat.mul_add_div hd0,Nat.div_eq_of_lt hrd,Nat.add_zero]
   have eR : lval 18446744073709551616 xs % d = rest:=by rw [he,Nat.mul_add_mod,Nat.mod_eq_of_lt hrd]
   have HEQ : Hid (lval 18446744073709551616 xs / d = lval 18446744073709551616 zs):=eQ
   have HER : Hid (lval 18446744073709551616 xs % d = rest):=eR
   have M:=made_at false _ _ _ _ _ hlimb
   rw [Bool.false_and] at M
   have hR:=hbk.blk (hbel.blk (heap_alloc2_new w _ _) (by omega)) (by omega)
   have hw : w.heap.size + 2 ≤ wr.heap.size:=by have:=hbk.size; have:=hbel.size; simp at this; omega
   clear hlimb he eQ eR hownk hcell hinv
   go_wp2_with fail
   refine Calls.mono M ?_
   rintro e w' ⟨sn,rfl,hnum,hb⟩
   have hres:=hb.blk hR (by omega)
   obtain ⟨f0,f1,c0,c1,f2,c2⟩:=row2 hres
   go_wp2
   rw [HEQ.out,HER.out]
   refine bodyPost_ret (int_row_tmp rfl _ _ (w.heap.size + 1) _ _ rfl (row2_set hres _ _)) rfl ⟨_,_,rfl,hnum.row hres _ _,?_⟩
   exact below_row ((((Below.refl _ _).alloc (Nat.le_refl _) _).alloc (by simp) _).trans ((hbel.mono (by omega)).trans ((hbk.mono (by omega)).trans (hb.mono (by omega))))) (by omega) _ _
  ·obtain ⟨j,rfl⟩ : ∃ j,k = j + 1:=⟨k - 1,by omega⟩
   obtain ⟨b,o,rfl,hb,hcc⟩:=hcell (by omega)
   have hx1 : wr.cell? ⟨b,o + j,none⟩ = some (.int .u64 (xs.getD j 0 : Nat)):=by
    rw [← hcc j (by omega),hbk.cell (by show b < _; omega),hbel.cell (by show b < _; omega)]
    rw [World.cell?_alloc_past _ _ _ (by simp; omega),World.cell?_alloc_past _ _ _ hb]
   have hxb:=getD_lt (B:=18446744073709551616) (by decide) HX.out j
   obtain ⟨hst,hqb⟩:=short_step hinv (by omega) HX.out (by decide)
   obtain ⟨x,hxe⟩ : ∃ x,x = xs.getD j 0:=⟨_,rfl⟩
   rw [← hxe] at hx1 hxb hst hqb
   have hdiv:=fun w=>div64_any rest x d w hxb hd hrd
   obtain ⟨q,hq⟩ : ∃ q,q = (rest * 18446744073709551616 + x) / d:=⟨_,rfl⟩
   obtain ⟨r2,hr2⟩ : ∃ r2,r2 = (rest * 18446744073709551616 + x) % d:=⟨_,rfl⟩
   rw [← hq,← hr2] at hst
   have hr2d : r2 < d:=by rw [hr2]; exact Nat.mod_lt _ hd0
   simp only [← hq,← hr2] at hdiv
   have HS : Hid (ShortInv 18446744073709551616 d xs j r2 (zs.set j q)):=hst
   have HDIV : Hid (∀ w,Calls Tryz.prog 207 #[.int .u64 rest,.int .u64 x,.int .u64 d] w fun e w'=>e = .returned (.tuple #[.int .u64 (q : Nat),.int .u64 (r2 : Nat)]) ∧ Below w.heap.size w w'):=hdiv
   have hw : w.heap.size + 2 < wr.heap.size:=by
    rcases World.ownsRow.lt hownk (w.heap.size + 2) rfl with ⟨_,h⟩
    exact h
   have hc1:=hownk.cell (j:=j) (by omega)
   have hf1:=hownk.frozen j
   clear hst hdiv hq hr2 hxe hcell hcc hbel hbk hownk hinv hxb hqb
   go_wp2_with (go_at_call 207; refine (HDIV.out _).mono ?_; rintro e w2 ⟨rfl,hb2⟩; have hc2:=(hb2.cell (p:=⟨w.heap.size + 2,j,none⟩) hw).trans hc1; have hf2:=(hb2.frozen (p:=⟨w.heap.size + 2,j,none⟩) hw).trans hf1; have HO2:=OwnW.far HO.out hb2 hw; have HO2 : Hid (OwnW .u64 22 w2 (w.heap.size + 2) m zs):=HO2; have HB2 : Hid (Below (w.heap.size + 2) w1 w2):=HB.out.trans (hb2.mono (Nat.le_of_lt hw)); clear hb2)
   go_roundw
   case rel=>exact ⟨j,r2,_,by omega,by go_num,rfl,hr2d,HO2.out.set j q,HB2.out.setCell (Nat.le_refl _) _,HS.out⟩
   case measure=>simp [intOf]
end Go.Proofs.YtlbokicainimnaaGreatDoor
