import Derived.Test.YtlbokicainimnaaGreatDoorQQE
import Derived.Lib.BitFns
import Derived.Lib.Slices
import Derived.Lib.Small
import Derived.Lib.Strings
import Derived.Lib.Walk
import Derived.Test.YtlbokicainimnaaGreatDoorRows
set_option maxRecDepth 100000
namespace Go.Proofs.YtlbokicainimnaaGreatDoor
open Go.RowKit
def Wide (w : World) (v : Value) (neg : Bool) (N : Nat) : Prop:=∃ s,v = .agg #[.bool neg,s] ∧ Num .u64 18446744073709551616 w s N ∧ (neg = true → N ≠ 0)
def WideQ (b : Bool) (N : Nat) (w : World) (e : Ending) (w' : World) : Prop:=∃ v,e = .returned v ∧ Wide w' v b N ∧ Below w.heap.size w w'
theorem int_row {fn : Func} {p : Tmp} (h : fn.results = #[.cell p 123]) (tmps : Array Value) (w : World) (g : Nat) (v s : Value)
  (hp : tmps.getD p undef = .pointer (some ⟨g,0,none⟩)) (hg : w.heap[g]? = some (.cells #[v,s] 123 (0,0))) : (results fn tmps).run Tryz.prog w = .ok (.agg #[v,s]) w:=
 results_cell_row h tmps w g _ _ _ _ hp hg Tryz.underlying123 rfl (by kernel_rfl)
theorem made_num {w : World} {a : Option Addr} {n c m : Nat} {xs : List Nat} (h : Limbs .u64 18446744073709551616 w (.slice a n c) xs) (hm : m ≤ n) (hz : ∀ i, m ≤ i → i < n → xs.getD i 0 = 0)
  (hlast : m = 0 ∨ xs.getD (m - 1) 0 ≠ 0) : Num .u64 18446744073709551616 w (.slice a m c) (lval 18446744073709551616 xs) ∧ (lval 18446744073709551616 xs = 0 ↔ m = 0):=by
 have hl : xs.length = n:=by obtain ⟨_,_,_,h0,h1,_⟩:=h; cases h0; exact h1
 have e:=lval_take_of_zeros 18446744073709551616 xs m (by omega) (by rw [hl]; exact hz)
 refine ⟨⟨xs.take m,h.take hm,e,?_⟩,?_⟩
 ·unfold Norm
  rcases hlast with rfl | hlast
  ·left; simp
  ·by_cases h0 : m = 0
   ·left; simp [h0]
   ·right
    rw [List.length_take,Nat.min_eq_left (by omega)]
    simp only [List.getD_eq_getElem?_getD,List.getElem?_take,if_pos (show m - 1 < m by omega)]
    simpa using hlast
 ·constructor
  ·intro hv
   rcases hlast with h0 | hlast
   ·exact h0
   ·by_cases h0 : m = 0
    ·exact h0
    ·exfalso
     have:=lval_take_succ 18446744073709551616 xs (m - 1) (by omega)
     rw [show m - 1 + 1 = m by omega,e,hv] at this
     have h2 : 18446744073709551616 ^ (m - 1) * xs.getD (m - 1) 0 = 0:=by omega
     rcases Nat.mul_eq_zero.mp h2 with h2 | h2
     ·have:=Nat.pow_pos (n:=m - 1) (show 0 < 18446744073709551616 by decide); omega
     ·exact hlast h2
  ·rintro rfl
   rw [← e]; rfl
theorem made_any (neg : Bool) (s : Value) (xs : List Nat) (w : World) (h : Limbs .u64 18446744073709551616 w s xs) :
  Calls Tryz.prog 150 #[.bool neg,s] w (WideQ (neg && lval 18446744073709551616 xs != 0) (lval 18446744073709551616 xs) w):=by
 have HL : Hid (Limbs .u64 18446744073709551616 w s xs):=h
 obtain ⟨a,n,c,rfl,hn,hnc,hc,hx,hcell⟩:=h
 have HF : ∀ b,Hid (Wide w (.agg #[]) b 0 → True):=fun _ _=>trivial
 go_enter Tryz.func150,Tryz.ntmps150
 go_wp2
 go_loop [1] (fun v=>∃ m,m ≤ n ∧ v = .slice a m c ∧ ∀ i,m ≤ i → i < n → xs.getD i 0 = 0) (fun v=>match v with | .slice _ m _=>m | _=>0)
 case atStart=>exact ⟨n,Nat.le_refl _,rfl,fun i h1 h2=>by omega⟩
 case round=>
  obtain ⟨m,hm,rfl,hz⟩:=hrel
  have HZ : Hid (∀ i,m ≤ i → i < n → xs.getD i 0 = 0):=hz
  clear hz
  by_cases hm0 : 0 < m
  ·obtain ⟨b,o,rfl,hb,hcc⟩:=hcell (by omega)
   have h1:=hcc (m - 1) (by omega)
   go_wp2
   ·go_round
    case rel=>
     have hlast : xs.getD (m - 1) 0 = 0:=by
      have : (((xs[m - 1]?.getD 0 : Nat) : Int) == 0) = true:=by assumption
      simpa using this
     refine ⟨m - 1,by omega,rfl,fun i h1 h2=>?_⟩
     by_cases h3 : i = m - 1
     ·rw [h3]; exact hlast
     ·exact HZ.out i (by omega) h2
    case measure=>simp; omega
   all_goals
    have hlast : xs.getD (m - 1) 0 ≠ 0:=by
     have : (((xs[m - 1]?.getD 0 : Nat) : Int) == 0) = false:=by assumption
     simpa using this
    obtain ⟨hnum,hnil⟩:=made_num HL.out hm HZ.out (.inr hlast)
    refine bodyPost_ret (int_row rfl _ _ w.heap.size _ _ rfl (heap_alloc_new w _)) rfl ⟨_,rfl,⟨_,?_,hnum.below (Nat.le_refl _) ((Below.refl _ _).alloc (Nat.le_refl _) _),?_⟩,(Below.refl _ _).alloc (Nat.le_refl _) _⟩
    ·have hlt : lval 18446744073709551616 xs ≠ 0:=fun h=>by rw [hnil] at h; omega
     simp [hlt]
    ·intro _ h
     rw [hnil] at h; omega
  ·go_wp2
   all_goals
    obtain ⟨hnum,hnil⟩:=made_num HL.out hm HZ.out (.inl (by omega))
    refine bodyPost_ret (int_row rfl _ _ w.heap.size _ _ rfl (heap_alloc_new w _)) rfl ⟨_,rfl,⟨_,?_,hnum.below (Nat.le_refl _) ((Below.refl _ _).alloc (Nat.le_refl _) _),?_⟩,(Below.refl _ _).alloc (Nat.le_refl _) _⟩
    ·have hlt : lval 18446744073709551616 xs = 0:=hnil.mpr (by omega)
     simp [hlt]
    ·have hlt : lval 18446744073709551616 xs = 0:=hnil.mpr (by omega)
     intro h
     simp [hlt] at h
theorem _root_.Go.RowKit.Below.blk {M : Nat} {a w : World} (h : Below M a w) {g : Nat} {x : Option Obj} (hg : a.heap[g]? = x) (hM : g < M) : w.heap[g]? = x:=(h.block g hM).trans hg
theorem row2 {w : World} {g : Nat} {x y : Value} {t : TypeId} (h : w.heap[g]? = some (.cells #[x, y] t (0, 0))) :
  w.frozen? ⟨g,0,none⟩ = false ∧ w.frozen? ⟨g,1,none⟩ = false ∧ w.cell? ⟨g,0,none⟩ = some x ∧ w.cell? ⟨g,1,none⟩ = some y ∧
   (∀ u,(w.setCell ⟨g,0,none⟩ u).frozen? ⟨g,1,none⟩ = false) ∧ ∀ u,(w.setCell ⟨g,0,none⟩ u).cell? ⟨g,1,none⟩ = some y:=
 ⟨frozen_of_row w g 0 _ _ h,frozen_of_row w g 1 _ _ h,cell_of_row w g 0 _ _ _ h,cell_of_row w g 1 _ _ _ h,
  fun u=>frozen_of_row _ g 1 _ _ (heap_setCell_same w g 0 _ _ u h),fun u=>cell_of_row _ g 1 _ _ _ (heap_setCell_same w g 0 _ _ u h)⟩
theorem row2_set {w : World} {g : Nat} {x y : Value} {t : TypeId} (h : w.heap[g]? = some (.cells #[x, y] t (0, 0))) (u v : Value) :
  ((w.setCell ⟨g,0,none⟩ u).setCell ⟨g,1,none⟩ v).heap[g]? = some (.cells #[u,v] t (0,0)):=by
 have h1:=heap_setCell_same w g 0 _ _ u h
 exact heap_setCell_same _ g 1 _ _ v h1
theorem Limbs.off {k : IntKind} {B : Nat} {w : World} {s : Value} {xs : List Nat} (h : Limbs k B w s xs) {g : Nat} (hg : ∀ o z, w.cell? ⟨g, o, none⟩ ≠ some (.int k z)) (j : Nat) (u : Value) :
  Limbs k B (w.setCell ⟨g,j,none⟩ u) s xs:=by
 obtain ⟨a,n,c,rfl,h1,h2,h3,h4,h5⟩:=h
 refine ⟨a,n,c,rfl,h1,h2,h3,h4,fun hn=>?_⟩
 obtain ⟨b,o,rfl,hs,hc⟩:=h5 hn
 have hbg : b ≠ g:=by
  rintro rfl
  exact hg _ _ (hc 0 hn)
 refine ⟨b,o,rfl,by simpa [World.setCell] using hs,fun i hi=>?_⟩
 rw [← hc i hi]
 exact World.cell?_of_block (heap_setCell_other w _ _ _ hbg)
theorem Num.row {k : IntKind} {B : Nat} {w : World} {s : Value} {N : Nat} (h : Num k B w s N) {g : Nat} {x : Bool} {a : Option Addr} {n c : Nat} {t : TypeId} (hg : w.heap[g]? = some (.cells #[.bool x, .slice a n c] t (0, 0))) (y : Bool) (v : Value) :
  Num k B ((w.setCell ⟨g,0,none⟩ (.bool y)).setCell ⟨g,1,none⟩ v) s N:=by
 obtain ⟨xs,h1,h2,h3⟩:=h
 refine ⟨xs,Limbs.off (h1.off ?_ 0 _) ?_ 1 _,h2,h3⟩
 ·intro o z
  rw [cell_of_row _ _ _ _ _ _ hg]
  match o with
  | 0=>simp
  | 1=>simp
  | o + 2=>simp
 ·intro o z
  rw [cell_of_row _ _ _ _ _ _ (heap_setCell_same w g 0 _ _ _ hg)]
  match o with
  | 0=>simp
  | 1=>simp
  | o + 2=>simp
theorem wide_end {fn : Func} {p : Tmp} (hf : fn.results = #[.cell p 123]) {tmps : Array Value} {w0 w : World} {g : Nat} {x b : Bool} {a : Option Addr} {n c : Nat} {s : Value} {N : Nat}
  (hp : tmps.getD p undef = .pointer (some ⟨g,0,none⟩)) (hg : w.heap[g]? = some (.cells #[.bool x,.slice a n c] 123 (0,0))) (hv : Num .u64 18446744073709551616 w s N)
  (hb : Below w0.heap.size w0 w) (h0 : w0.heap.size ≤ g) (hn : b = true → N ≠ 0) :
  bodyPost Tryz.prog fn (WideQ b N w0) .ret ⟨tmps,[]⟩ ((w.setCell ⟨g,0,none⟩ (.bool b)).setCell ⟨g,1,none⟩ s):=
 bodyPost_ret (int_row hf _ _ g _ _ hp (row2_set hg _ _)) rfl ⟨_,rfl,⟨_,rfl,hv.row hg _ _,hn⟩,(hb.setCell (by exact h0) _).setCell (by exact h0) _⟩
theorem word_any (n : Nat) (w : World) (hn : n < 18446744073709551616) : Calls Tryz.prog 103 #[.int .u64 n] w (WideQ false n w):=by
 have HN : Hid (n < 18446744073709551616):=hn
 clear hn
 go_enter Tryz.func103,Tryz.ntmps103
 go_wp2_with fail
 have hc:=heap_alloc_new (w.alloc (Obj.cells #[Value.bool false,Value.slice none 0 0] 123)) (Obj.cells #[Value.int IntKind.u64 ↑n] 22)
 refine (made_any false _ [n] _ ⟨_,1,1,rfl,rfl,Nat.le_refl _,by decide,by simpa using HN.out,fun _=>⟨_,0,rfl,by simp,fun i hi=>?_⟩⟩).mono ?_
 ·have : i = 0:=by omega
  subst this
  rw [cell_of_row _ _ _ _ _ _ (by simpa using hc)]
  rfl
 rintro e w' ⟨v,rfl,⟨s,rfl,hnum,hneg⟩,hb⟩
 obtain ⟨sa,sn,sc,rfl⟩:=hnum.shape
 have hres:=hb.blk (heap_alloc2_old w _ _) (by simp; omega)
 simp only [Bool.false_and] at hnum hneg
 obtain ⟨f0,f1,c0,c1,f2,c2⟩:=row2 hres
 go_wp2
 refine wide_end (p:=2) rfl rfl hres (by simpa [lval] using hnum) ?_ (Nat.le_refl _) (by simp)
 exact (((Below.refl _ _).alloc (Nat.le_refl _) _).alloc (by simp) _).trans (hb.mono (by simp; omega))
theorem Tryz.infoW : (Tryz.prog.info? 22).map (fun i=>(i.zero,i.size,i.bytes)) = some (some (.int .u64 0),1,8):=by kernel_rfl
def LeftInv (q r : Nat) (xs : List Nat) (k : Nat) (ys : List Nat) : Prop:=
 ys.length = xs.length + q + 1 ∧ (∀ y ∈ ys,y < 18446744073709551616) ∧ lval 18446744073709551616 ys = lval 18446744073709551616 (xs.take k) * 2 ^ (64 * q + r) ∧
  ys.getD (k + q) 0 < 2 ^ r ∧ ∀ j,k + q < j → ys.getD j 0 = 0
theorem left_step {q r : Nat} {xs : List Nat} {k : Nat} {ys : List Nat} (h : LeftInv q r xs k ys) (hr : r < 64) (hk : k < xs.length) (hx : ∀ x ∈ xs, x < 18446744073709551616) :
  LeftInv q r xs (k + 1) ((ys.set (k + q) (ys.getD (k + q) 0 ||| (xs.getD k 0 * 2 ^ r) % 18446744073709551616)).set (k + q + 1) (ys.getD (k + q + 1) 0 ||| xs.getD k 0 / 2 / 2 ^ (63 - r))):=by
 obtain ⟨hl,hB,hval,hlow,hz⟩:=h
 have hxk:=getD_lt (B:=18446744073709551616) (by decide) hx k
 have hy:=getD_lt (B:=18446744073709551616) (by decide) hB (k + q)
 have hz1:=hz (k + q + 1) (by omega)
 rw [hz1,Nat.zero_or]
 obtain ⟨x,ex⟩ : ∃ x,x = xs.getD k 0:=⟨_,rfl⟩
 have hsplit:=Nat.div_add_mod (x * 2 ^ r) 18446744073709551616
 have hB2 : 18446744073709551616 = 2 ^ (64 - r) * 2 ^ r:=by rw [← Nat.pow_add,show 64 - r + r = 64 by omega]
 have hhi : x / 2 / 2 ^ (63 - r) = x * 2 ^ r / 18446744073709551616:=by
  rw [Nat.div_div_eq_div_mul,show 2 * 2 ^ (63 - r) = 2 ^ (64 - r) by rw [Nat.mul_comm,← Nat.pow_succ]; congr 1; omega,hB2,Nat.mul_div_mul_right _ _ (Nat.pow_pos (by decide))]
 have hlo : (x * 2 ^ r) % 18446744073709551616 % 2 ^ r = 0:=by
  rw [hB2,Nat.mul_comm x,Nat.mul_comm (2 ^ (64 - r)),Nat.mul_mod_mul_left]
  exact Nat.mul_mod_right _ _
 rw [or_add hlow (by rw [← ex]; exact hlo),← ex,hhi]
 have hhi2 : x * 2 ^ r / 18446744073709551616 < 2 ^ r:=by
  rw [Nat.div_lt_iff_lt_mul (by decide),Nat.mul_comm]
  exact Nat.mul_lt_mul_of_pos_left (by omega) (Nat.pow_pos (by decide))
 have h64 : 2 ^ r < 18446744073709551616:=by
  have : 2 ^ r < 2 ^ 64:=Nat.pow_lt_pow_right (by decide) hr
  simpa using this
 have hv : ys.getD (k + q) 0 + x * 2 ^ r % 18446744073709551616 < 18446744073709551616:=by
  have h1:=or_add (a:=ys.getD (k + q) 0) (b:=x * 2 ^ r % 18446744073709551616) hlow hlo
  rw [← h1]
  have : ys.getD (k + q) 0 ||| x * 2 ^ r % 18446744073709551616 < 2 ^ 64:=Nat.or_lt_two_pow (by simpa using hy) (by have:=Nat.mod_lt (x * 2 ^ r) (show 0 < 18446744073709551616 by decide); simpa using this)
  simpa using this
 refine ⟨by simp [hl],mem_set_lt (mem_set_lt hB hv) (by omega),?_,?_,?_⟩
 ·have s1:=lval_set 18446744073709551616 ys (k + q) (ys.getD (k + q) 0 + x * 2 ^ r % 18446744073709551616) (by omega)
  have s2:=lval_set 18446744073709551616 (ys.set (k + q) (ys.getD (k + q) 0 + x * 2 ^ r % 18446744073709551616)) (k + q + 1) (x * 2 ^ r / 18446744073709551616) (by simp; omega)
  rw [getD_set_other (by omega),hz1,Nat.mul_zero,Nat.add_zero] at s2
  rw [s2]
  rw [lval_take_succ _ _ _ hk,← ex,Nat.add_mul,← hval]
  rw [Nat.mul_add] at s1
  have e1 : 18446744073709551616 ^ k * x * 2 ^ (64 * q + r) = 18446744073709551616 ^ (k + q) * (x * 2 ^ r):=by
   rw [Nat.pow_add,Nat.pow_mul,Nat.pow_add 18446744073709551616 k q,show (2 ^ 64 : Nat) = 18446744073709551616 from rfl]
   ac_rfl
  rw [e1]
  have e2 : 18446744073709551616 ^ (k + q) * (x * 2 ^ r) = 18446744073709551616 ^ (k + q + 1) * (x * 2 ^ r / 18446744073709551616) + 18446744073709551616 ^ (k + q) * (x * 2 ^ r % 18446744073709551616):=by
   conv=>lhs; rw [← hsplit,Nat.mul_add]
   rw [Nat.pow_succ]; ac_rfl
  rw [e2]
  omega
 ·rw [show k + 1 + q = k + q + 1 by omega,getD_set_same (by simp; omega)]
  exact hhi2
 ·intro j hj
  rw [getD_set_other (by omega),getD_set_other (by omega)]
  exact hz j (by omega)
theorem left_any (neg : Bool) (s : Value) (N q r : Nat) (n : Int) (w : World) (h : Num .u64 18446744073709551616 w s N) (hn : n = ((64 * q + r : Nat) : Int)) (hr : r < 64) (hq : q ≤ 4294967296) {bb : Nat} (hN : N < 2 ^ bb) (hbb : bb ≤ 4294967296) :
  Calls Tryz.prog 104 #[.agg #[.bool neg,s],.int .i64 n] w (WideQ (neg && N != 0) (N * 2 ^ (64 * q + r)) w):=by
 obtain ⟨xs,hL,rfl,hnorm⟩:=h
 have HL : Hid (Limbs .u64 18446744073709551616 w s xs):=hL
 obtain ⟨a,m,c,rfl,hm,hmc,hc,hx,hcell⟩:=hL
 have hml : m ≤ 67108865:=by
  by_cases h0 : 0 < m
  ·have:=norm_length (s:=64) hnorm hN (by omega)
   rw [hm] at this
   omega
  ·omega
 clear hN hbb
 have hn0 : 0 ≤ n:=by subst hn; omega
 have hn1 : n ≤ 274877907007:=by subst hn; omega
 have hd : n / 64 = q:=by subst hn; omega
 have hmo : n % 64 = r:=by subst hn; omega
 clear hn
 obtain ⟨i0,hi,hz0,hz1,hz2⟩:=info_parts Tryz.infoW
 go_enter Tryz.func104,Tryz.ntmps104
 go_wp2_with (at_make; refine wpList_make_full _ rfl _ _ 39 rfl (w.heap.size + 2) 22 i0 (.int .u64 0) 1 Tryz.underlying39 hi hz0 hz1 .i64 .i64 _ _ (m + q + 1) rfl rfl (by omega) (by omega) (by rw [hz2]; omega) (by unfold maxLen; omega) (by simp) ?_; intro w1 hown hgrow; have hbel : Below (w.heap.size + 2) _ w1:=(Below.refl _ _).grown hgrow (by simp) (by simp); obtain ⟨x0,x1,x2,x3,-,-⟩:=row2 (hbel.blk (heap_alloc2_old w _ _) (by omega)))
 have hown' : OwnW .u64 22 w1 (w.heap.size + 2) (m + q + 1) (List.replicate (m + q + 1) 0):=OwnW.made (by simpa using hown)
 clear hown hgrow
 go_loopw [19] (fun i wr=>∃ k ys,k ≤ m ∧ i = .int .i64 (k : Nat) ∧ OwnW .u64 22 wr (w.heap.size + 2) (m + q + 1) ys ∧ Below (w.heap.size + 2) w1 wr ∧ LeftInv q r xs k ys) (fun i _=>m - (intOf i).toNat)
 case atStart=>
  refine ⟨0,_,Nat.zero_le _,rfl,hown',Below.refl _ _,?_⟩
  refine ⟨by simp [hm],?_,?_,?_,?_⟩
  ·intro y hy
   simp at hy
   omega
  ·simp [lval_zeros,lval]
  ·have:=Nat.pow_pos (n:=r) (show 0 < 2 by decide)
   simp only [List.getD_eq_getElem?_getD,List.getElem?_replicate]
   split <;> exact this
  ·intro j _
   simp only [List.getD_eq_getElem?_getD,List.getElem?_replicate]
   split <;> rfl
 case round=>
  obtain ⟨k,ys,hk,rfl,hownk,hbk,hinv⟩:=hrel
  have HI : Hid (LeftInv q r xs k ys):=hinv
  have HO : Hid (OwnW .u64 22 wr (w.heap.size + 2) (m + q + 1) ys):=hownk
  by_cases hkm : k < m
  ·obtain ⟨b,o,rfl,hb,hcc⟩:=hcell (by omega)
   have hx1 : wr.cell? ⟨b,o + k,none⟩ = some (.int .u64 (xs.getD k 0 : Nat)):=by
    rw [← hcc k hkm,hbk.cell (by show b < _; omega),hbel.cell (by show b < _; omega)]
    rw [World.cell?_alloc_past _ _ _ (by simp; omega),World.cell?_alloc_past _ _ _ hb]
   obtain ⟨x,hxk⟩ : ∃ x,x = xs.getD k 0:=⟨_,rfl⟩
   obtain ⟨y,hyk⟩ : ∃ y,y = ys.getD (k + q) 0:=⟨_,rfl⟩
   obtain ⟨z,hzk⟩ : ∃ z,z = ys.getD (k + q + 1) 0:=⟨_,rfl⟩
   have hc1:=hownk.cell (j:=k + q) (by omega)
   have hc2:=hownk.cell (j:=k + q + 1) (by omega)
   have hf1:=hownk.frozen (k + q)
   have hf2:=hownk.frozen (k + q + 1)
   rw [← hxk] at hx1
   rw [← hyk] at hc1
   rw [← hzk] at hc2
   have HX : Hid (x = xs.getD k 0):=hxk
   have HY : Hid (y = ys.getD (k + q) 0):=hyk
   have HZ : Hid (z = ys.getD (k + q + 1) 0):=hzk
   clear hbel hcell hcc hxk hyk hzk hinv hownk
   have hxx:=HL.out
   have hxk : x < 18446744073709551616:=by
    obtain ⟨_,_,_,_,_,_,_,h4,_⟩:=hxx
    rw [HX.out]; exact getD_lt (by decide) h4 k
   have hyk : y < 18446744073709551616:=by rw [HY.out]; exact getD_lt (by decide) HI.out.2.1 _
   have hzk : z < 18446744073709551616:=by rw [HZ.out]; exact getD_lt (by decide) HI.out.2.1 _
   obtain ⟨v,hv⟩ : ∃ v : Nat,v = y ||| (x * 2 ^ r) % 18446744073709551616:=⟨_,rfl⟩
   obtain ⟨u,hu⟩ : ∃ u : Nat,u = z ||| x / 2 / 2 ^ (63 - r):=⟨_,rfl⟩
   have hval : bits BinOp.or IntKind.u64 (y : Int) (IntKind.u64.wrap (x * 2 ^ r)) = (v : Int):=by
    rw [show IntKind.u64.wrap ((x : Int) * 2 ^ r) = (((x * 2 ^ r) % 18446744073709551616 : Nat) : Int) by rw [IntKind.wrap_u64]; simp only [Int.natCast_emod,Int.natCast_mul,Int.natCast_pow]; rfl,u64_or_nat _ _ hyk (Nat.mod_lt _ (by decide)),hv]
   have hvau : bits BinOp.or IntKind.u64 (z : Int) ((x : Int) / 2 / 2 ^ (63 - r)) = (u : Int):=by
    rw [show (x : Int) / 2 / 2 ^ (63 - r) = ((x / 2 / 2 ^ (63 - r) : Nat) : Int) by simp only [Int.natCast_ediv,Int.natCast_pow]; rfl,u64_or_nat _ _ hzk (Nat.lt_of_le_of_lt (Nat.div_le_self _ _) (by omega)),hu]
   have HV : Hid (v = y ||| (x * 2 ^ r) % 18446744073709551616):=hv
   have HU : Hid (u = z ||| x / 2 / 2 ^ (63 - r)):=hu
   have hc3 : ∀ u,(wr.setCell ⟨w.heap.size + 1 + 1,k + q,none⟩ u).cell? ⟨w.heap.size + 1 + 1,k + q + 1,none⟩ = some (.int .u64 z):=fun u=>by
    rw [World.cell?_setCell_other _ _ _ _ (by simp)]; exact hc2
   have hf3 : ∀ u : Nat,(wr.setCell ⟨w.heap.size + 1 + 1,k + q,none⟩ (.int .u64 u)).frozen? ⟨w.heap.size + 1 + 1,k + q + 1,none⟩ = false:=fun u=>(HO.out.set _ u).frozen _
   clear hv hu hxx hxk hyk hzk
   go_wp2
   go_region
   go_wp2
   go_region
   go_wp2
   go_roundw
   case rel=>
    refine ⟨k + 1,_,by omega,by go_num,((HO.out.set (k + q) v).set (k + q + 1) u).drew.drew,((((hbk.setCell (by simp) _).setCell (by simp) _).drew).drew),?_⟩
    have:=left_step HI.out hr (by omega) (by obtain ⟨_,_,_,_,_,_,_,h4,_⟩:=HL.out; exact h4)
    rw [← HX.out,← HY.out,← HZ.out,← HV.out,← HU.out] at this
    exact this
   case measure=>simp [intOf]; omega
  ·have hkm' : k = m:=by omega
   subst hkm'
   obtain ⟨y0,y1,y2,y3,-,-⟩:=row2 (hbk.blk (hbel.blk (heap_alloc2_old w _ _) (by omega)) (by omega))
   have hlimb:=HO.out.limbs (B:=18446744073709551616) (by omega) HI.out.2.1
   have hR:=hbk.blk (hbel.blk (heap_alloc2_new w _ _) (by omega)) (by omega)
   have hys : lval 18446744073709551616 ys = lval 18446744073709551616 xs * 2 ^ (64 * q + r):=by
    rw [HI.out.2.2.1,← hm,List.take_length]
   have M:=made_any neg _ _ _ hlimb
   rw [hys,show (lval 18446744073709551616 xs * 2 ^ (64 * q + r) != 0) = (lval 18446744073709551616 xs != 0) by
    have:=Nat.pow_pos (n:=64 * q + r) (show 0 < 2 by decide)
    rw [Bool.eq_iff_iff]
    simp only [bne_iff_ne,ne_eq,Nat.mul_eq_zero,not_or]
    omega] at M
   clear hlimb hys
   go_wp2_with fail
   refine Calls.mono M ?_
   rintro e w' ⟨v,rfl,⟨s,rfl,hnum,hneg⟩,hb⟩
   obtain ⟨sa,sn,sc,rfl⟩:=hnum.shape
   have hw : w.heap.size + 2 ≤ wr.heap.size:=by have:=hbk.size; have:=hbel.size; simp at this; omega
   have hres:=hb.blk hR (by omega)
   obtain ⟨f0,f1,c0,c1,f2,c2⟩:=row2 hres
   have HN : Hid (_ = true → _ ≠ 0):=hneg
   clear hneg
   go_wp2
   refine wide_end (p:=4) rfl rfl hres hnum ?_ (by omega) HN.out
   exact (((Below.refl _ _).alloc (Nat.le_refl _) _).alloc (by simp) _).trans ((hbel.mono (by omega)).trans ((hbk.mono (by omega)).trans (hb.mono (by omega))))
def rightW (r : Nat) (xs : List Nat) (k : Nat) : Nat:=xs.getD k 0 / 2 ^ r + (xs.getD (k + 1) 0 % 2 ^ r) * 2 ^ (64 - r)
theorem lval_drop (B : Nat) (xs : List Nat) (q : Nat) (hx : ∀ x ∈ xs,x < B) (hB : 0 < B) : lval B xs / B ^ q = lval B (xs.drop q):=by
 by_cases h : q ≤ xs.length
 ·have e : lval B xs = lval B (xs.take q) + B ^ q * lval B (xs.drop q) := by
   conv=>lhs; rw [← List.take_append_drop q xs,lval_append]
   rw [List.length_take,Nat.min_eq_left h]
  have h1:=lval_lt (B:=B) (xs.take q) fun x h=>hx x (List.mem_of_mem_take h)
  rw [List.length_take,Nat.min_eq_left h] at h1
  rw [e,Nat.add_mul_div_left _ _ (Nat.pow_pos hB),Nat.div_eq_of_lt h1,Nat.zero_add]
 ·rw [List.drop_eq_nil_of_le (by omega)]
  have h1:=lval_lt (B:=B) xs hx
  have h2 : B ^ xs.length ≤ B ^ q:=Nat.pow_le_pow_right hB (by omega)
  rw [Nat.div_eq_of_lt (by omega)]; rfl
theorem rightW_cons (r x : Nat) (t : List Nat) (i : Nat) : rightW r (x :: t) (i + 1) = rightW r t i:=by simp [rightW]
theorem lval_right {r : Nat} (hr : r < 64) (t : List Nat) (h : ∀ x ∈ t, x < 18446744073709551616) :
  lval 18446744073709551616 ((List.range t.length).map (rightW r t)) = lval 18446744073709551616 t / 2 ^ r:=by
 have hB : 18446744073709551616 = 2 ^ r * 2 ^ (64 - r):=by rw [← Nat.pow_add,show r + (64 - r) = 64 by omega]
 have hp:=Nat.pow_pos (n:=r) (show 0 < 2 by decide)
 induction t with
 | nil=>simp [lval]
 | cons x t ih =>
   have ih':=ih fun y hy=>h y (by simp [hy])
   have hf : rightW r (x :: t) ∘ Nat.succ = rightW r t:=by
    funext i
    exact rightW_cons r x t i
   rw [List.length_cons,List.range_succ_eq_map,List.map_cons,List.map_map,hf,lval_cons,lval_cons,ih']
   have e1 : (x + 18446744073709551616 * lval 18446744073709551616 t) / 2 ^ r = x / 2 ^ r + 2 ^ (64 - r) * lval 18446744073709551616 t:=by
    conv=>lhs; rw [hB,Nat.mul_assoc]
    rw [Nat.add_mul_div_left _ _ hp,← hB]
   rw [e1]
   have e2 : lval 18446744073709551616 t % 2 ^ r = t.getD 0 0 % 2 ^ r:=by
    cases t with
    | nil=>simp [lval]
    | cons y t =>
      rw [lval_cons]
      conv=>lhs; rw [hB,Nat.mul_assoc]
      rw [Nat.add_mul_mod_self_left]; rfl
   have e3:=Nat.div_add_mod (lval 18446744073709551616 t) (2 ^ r)
   rw [e2] at e3
   have e4:=congrArg (2 ^ (64 - r) * ·) e3
   simp only [Nat.mul_add] at e4
   rw [← Nat.mul_assoc,Nat.mul_comm (2 ^ (64 - r)) (2 ^ r),← hB] at e4
   have e5 : rightW r (x :: t) 0 = x / 2 ^ r + 2 ^ (64 - r) * (t.getD 0 0 % 2 ^ r):=by
    simp [rightW,Nat.mul_comm]
   rw [e5]
   omega
theorem right_word {r x y : Nat} (hr : r < 64) (hx : x < 18446744073709551616) :
  bits BinOp.or IntKind.u64 ((x : Int) / 2 ^ r) (IntKind.u64.wrap (IntKind.u64.wrap ((y : Int) * 2) * 2 ^ (63 - r))) = ((x / 2 ^ r + (y % 2 ^ r) * 2 ^ (64 - r) : Nat) : Int):=by
 have hM : 18446744073709551616 = 2 ^ r * 2 ^ (64 - r):=by rw [← Nat.pow_add,show r + (64 - r) = 64 by omega]
 have e1 : IntKind.u64.wrap ((y : Int) * 2) = ((y * 2 % 18446744073709551616 : Nat) : Int):=by rw [IntKind.wrap_u64]; omega
 have e2 : IntKind.u64.wrap (((y * 2 % 18446744073709551616 : Nat) : Int) * 2 ^ (63 - r)) = (((y % 2 ^ r) * 2 ^ (64 - r) : Nat) : Int):=by
  rw [show ((y * 2 % 18446744073709551616 : Nat) : Int) * 2 ^ (63 - r) = ((y * 2 % 18446744073709551616 * 2 ^ (63 - r) : Nat) : Int) by simp only [Int.natCast_mul,Int.natCast_pow]; rfl]
  have e3 : y * 2 % 18446744073709551616 * 2 ^ (63 - r) % 18446744073709551616 = (y % 2 ^ r) * 2 ^ (64 - r):=by
   rw [Nat.mul_mod,Nat.mod_mod,← Nat.mul_mod,Nat.mul_assoc,show 2 * 2 ^ (63 - r) = 2 ^ (64 - r) by rw [Nat.mul_comm,← Nat.pow_succ]; congr 1; omega]
   conv=>lhs; rw [hM]
   exact Nat.mul_mod_mul_right ..
  rw [← e3,IntKind.wrap_u64]
  omega
 have a1 : x / 2 ^ r < 2 ^ (64 - r):=by rw [Nat.div_lt_iff_lt_mul (Nat.two_pow_pos r),Nat.mul_comm,← hM]; exact hx
 have a2 : (y % 2 ^ r) * 2 ^ (64 - r) < 18446744073709551616:=by
  conv=>rhs; rw [hM]
  exact Nat.mul_lt_mul_of_pos_right (Nat.mod_lt _ (Nat.two_pow_pos r)) (Nat.two_pow_pos _)
 rw [e1,e2,show (x : Int) / 2 ^ r = ((x / 2 ^ r : Nat) : Int) by simp only [Int.natCast_ediv,Int.natCast_pow]; rfl,u64_or_nat _ _ (Nat.lt_of_le_of_lt (Nat.div_le_self _ _) hx) a2,
  or_add a1 (Nat.mul_mod_left _ _)]
def RightR (base q r : Nat) (xs : List Nat) (k : Nat) (v : Value) (w : World) : Prop:=
 w.ownsRow base 22 1 v (k - q) (((List.range (k - q)).map fun j=>rightW r xs (q + j)).map fun (x : Nat)=>Value.int .u64 x)
theorem right_append {base q r k u : Nat} {xs : List Nat} {v : Value} {w : World} (hq : q ≤ k) (hu : u = rightW r xs k)
  (h : w.ownsRow base 22 1 v (k - q + 1) ((((List.range (k - q)).map fun j=>rightW r xs (q + j)).map fun (x : Nat)=>Value.int .u64 x) ++ [.int .u64 (u : Nat)])) : RightR base q r xs (k + 1) v w:=by
 unfold RightR
 rw [show k + 1 - q = k - q + 1 by omega,List.range_succ,List.map_append,List.map_append]
 have e : q + (k - q) = k:=by omega
 simpa [e,hu] using h
theorem right_lval {q r : Nat} {xs : List Nat} (hr : r < 64) (hx : ∀ x ∈ xs, x < 18446744073709551616) :
  lval 18446744073709551616 ((List.range (xs.length - q)).map fun j=>rightW r xs (q + j)) = lval 18446744073709551616 xs / 2 ^ (64 * q + r) ∧ ∀ z ∈ (List.range (xs.length - q)).map fun j=>rightW r xs (q + j),z < 18446744073709551616:=by
 have e : ((List.range (xs.length - q)).map fun j=>rightW r xs (q + j)) = (List.range (xs.drop q).length).map (rightW r (xs.drop q)):=by
  rw [List.length_drop]
  apply List.map_congr_left
  intro j _
  simp [rightW,List.getElem?_drop,Nat.add_assoc]
 constructor
 ·rw [e,lval_right hr _ fun x h=>hx x (List.mem_of_mem_drop h),← lval_drop _ _ _ hx (by decide),Nat.div_div_eq_div_mul,Nat.pow_add,Nat.pow_mul]
 ·intro z hz
  obtain ⟨j,_,rfl⟩:=List.mem_map.mp hz
  have hM : 18446744073709551616 = 2 ^ r * 2 ^ (64 - r):=by rw [← Nat.pow_add,show r + (64 - r) = 64 by omega]
  have h1:=getD_lt (by decide) hx (q + j)
  have a1 : xs.getD (q + j) 0 / 2 ^ r < 2 ^ (64 - r):=by rw [Nat.div_lt_iff_lt_mul (Nat.two_pow_pos r),Nat.mul_comm,← hM]; exact h1
  have a2:=Nat.mul_le_mul_right (2 ^ (64 - r)) (show xs.getD (q + j + 1) 0 % 2 ^ r + 1 ≤ 2 ^ r from Nat.mod_lt _ (Nat.two_pow_pos r))
  rw [← hM,Nat.add_mul] at a2
  show xs.getD (q + j) 0 / 2 ^ r + (xs.getD (q + j + 1) 0 % 2 ^ r) * 2 ^ (64 - r) < _
  omega
theorem right_any (neg : Bool) (s : Value) (N q r : Nat) (n : Int) (w : World) (h : Num .u64 18446744073709551616 w s N) (hn : n = ((64 * q + r : Nat) : Int)) (hr : r < 64) (hq : q ≤ 4294967296) {bb : Nat} (hN : N < 2 ^ bb) (hbb : bb ≤ 4294967296) :
  Calls Tryz.prog 218 #[.agg #[.bool neg,s],.int .i64 n] w (WideQ (neg && N / 2 ^ (64 * q + r) != 0) (N / 2 ^ (64 * q + r)) w):=by
 obtain ⟨xs,hL,rfl,hnorm⟩:=h
 obtain ⟨a,m,c,rfl,hm,hmc,hc,hx,hcell⟩:=hL
 have hml : m ≤ 67108865:=by
  by_cases h0 : 0 < m
  ·have:=norm_length (s:=64) hnorm hN (by omega)
   rw [hm] at this
   omega
  ·omega
 have HX : Hid (∀ x ∈ xs,x < 18446744073709551616):=hx
 clear hN hbb hx hmc hc hnorm
 have hn0 : 0 ≤ n:=by subst hn; omega
 have hn1 : n ≤ 274877907007:=by subst hn; omega
 have hd : n / 64 = q:=by subst hn; omega
 have hmo : n % 64 = r:=by subst hn; omega
 clear hn
 obtain ⟨i0,hi,hz0,hz1,hz2⟩:=info_parts Tryz.infoW
 obtain ⟨f0,f1,f2,f3,-,-⟩:=row2 (heap_alloc2_old w (.cells #[.bool neg,.slice a m c] 123) (.cells #[.bool false,.slice none 0 0] 123))
 go_enter Tryz.func218,Tryz.ntmps218
 go_wp2
 simp only [hd]
 go_loopw [5, 6] (fun v i wr => ∃ k : Nat, q ≤ k ∧ (k ≤ m ∨ k = q) ∧ i = .int .i64 (k : Nat) ∧ RightR (w.heap.size + 2) q r xs k v wr ∧
   Below (w.heap.size + 2) ((w.alloc (.cells #[.bool neg,.slice a m c] 123)).alloc (.cells #[.bool false,.slice none 0 0] 123)) wr) (fun _ i _=>m - (intOf i).toNat)
 case atStart=>exact ⟨q,Nat.le_refl _,.inr rfl,rfl,by unfold RightR; rw [Nat.sub_self]; exact World.ownsRow_nil _ _ _ _,Below.refl _ _⟩
 case round=>
  obtain ⟨k,hqk,hkm,rfl,hown,hbk⟩:=hrel
  have hbx : ∀ b o v,b < w.heap.size → w.cell? ⟨b,o,none⟩ = some v → wr.cell? ⟨b,o,none⟩ = some v:=fun b o v hb h=>by
   rw [hbk.cell (by show b < _; omega),World.cell?_alloc_past _ _ _ (by simp; omega),World.cell?_alloc_past _ _ _ hb]
   exact h
  obtain ⟨x0,x1,x2,x3,-,-⟩:=row2 (hbk.blk (heap_alloc2_old w _ _) (by omega))
  by_cases hlt : k < m
  ·obtain ⟨b,o,rfl,hb,hcc⟩:=hcell (by omega)
   have hx1:=hbx _ _ _ hb (hcc k hlt)
   obtain ⟨x,hxe⟩ : ∃ x,x = xs.getD k 0:=⟨_,rfl⟩
   rw [← hxe] at hx1
   have hxb : x < 18446744073709551616:=by rw [hxe]; exact getD_lt (by decide) HX.out _
   obtain ⟨u,hu⟩ : ∃ u,u = rightW r xs k:=⟨_,rfl⟩
   have HOW : Hid _:=hown
   have HBK : Hid _:=hbk
   by_cases hlt2 : k + 1 < m
   ·have hy1:=hbx _ _ _ hb (hcc (k + 1) hlt2)
    obtain ⟨y,hye⟩ : ∃ y,y = xs.getD (k + 1) 0:=⟨_,rfl⟩
    rw [← hye] at hy1
    have hval : bits BinOp.or IntKind.u64 ((x : Int) / 2 ^ r) (IntKind.u64.wrap (IntKind.u64.wrap ((y : Int) * 2) * 2 ^ (63 - r))) = (u : Int):=by
     rw [right_word hr hxb,hu,rightW,← hxe,← hye]
    have HU : Hid _:=hu
    clear hcell hcc hbx hown hxe hye hbk hu hxb
    go_wp2_with (at_builtin; (refine wpList_append_own _ rfl _ _ 39 rfl (w.heap.size + 2) 22 i0 (.int .u64 0) 1 8 Tryz.underlying39 hi hz0 hz1 hz2 rfl (by decide) _ _ _ rfl (World.ownsRow.alloc HOW.out _) ⟨wr.heap.size,0,none⟩ 1 1 [.int .u64 (u : Nat)] rfl rfl (by intro j z hj; match j with | 0=>(obtain rfl : z = .int .u64 (u : Nat):=by simpa using hj.symm); exact cell_of_row _ _ _ _ _ _ (heap_alloc_new _ _) | j + 1=>simp at hj) (by intro z hz; simp at hz; subst hz; rfl) (by unfold maxLen; omega) (by omega) (by have:=HBK.out.size; simp at this ⊢; omega) ?_; intro v' w1 hown' hgrow _; have hra:=right_append hqk HU.out hown'; have HRA : Hid (RightR (w.heap.size + 2) q r xs (k + 1) v' w1):=hra; have hbw : Below (w.heap.size + 2) _ w1:=((HBK.out.alloc (by have:=HBK.out.size; simp at this ⊢; omega) _).grown hgrow (by have:=HBK.out.size; simp at this ⊢; omega) (fun z hz=>(HOW.out.lt z hz).1)); clear hown' hgrow hra))
    go_roundw
    case rel=>exact ⟨k + 1,by omega,by omega,by go_num,HRA.out,hbw⟩
    case measure=>simp [intOf]; omega
   ·have hy0 : xs.getD (k + 1) 0 = 0:=by simp [List.getElem?_eq_none (show xs.length ≤ k + 1 by omega)]
    have hval : (x : Int) / 2 ^ r = (u : Int):=by
     rw [show (x : Int) / 2 ^ r = ((x / 2 ^ r : Nat) : Int) by simp only [Int.natCast_ediv,Int.natCast_pow]; rfl,hu,rightW,← hxe,hy0,Nat.zero_mod,Nat.zero_mul,Nat.add_zero]
    have HU : Hid _:=hu
    clear hcell hcc hbx hown hxe hy0 hbk hu hxb
    go_wp2_with (at_builtin; (refine wpList_append_own _ rfl _ _ 39 rfl (w.heap.size + 2) 22 i0 (.int .u64 0) 1 8 Tryz.underlying39 hi hz0 hz1 hz2 rfl (by decide) _ _ _ rfl (World.ownsRow.alloc HOW.out _) ⟨wr.heap.size,0,none⟩ 1 1 [.int .u64 (u : Nat)] rfl rfl (by intro j z hj; match j with | 0=>(obtain rfl : z = .int .u64 (u : Nat):=by simpa using hj.symm); exact cell_of_row _ _ _ _ _ _ (heap_alloc_new _ _) | j + 1=>simp at hj) (by intro z hz; simp at hz; subst hz; rfl) (by unfold maxLen; omega) (by omega) (by have:=HBK.out.size; simp at this ⊢; omega) ?_; intro v' w1 hown' hgrow _; have hra:=right_append hqk HU.out hown'; have HRA : Hid (RightR (w.heap.size + 2) q r xs (k + 1) v' w1):=hra; have hbw : Below (w.heap.size + 2) _ w1:=((HBK.out.alloc (by have:=HBK.out.size; simp at this ⊢; omega) _).grown hgrow (by have:=HBK.out.size; simp at this ⊢; omega) (fun z hz=>(HOW.out.lt z hz).1)); clear hown' hgrow hra))
    go_roundw
    case rel=>exact ⟨k + 1,by omega,by omega,by go_num,HRA.out,hbw⟩
    case measure=>simp [intOf]; omega
  ·have hkq : k - q = xs.length - q:=by omega
   unfold RightR at hown
   rw [hkq] at hown
   obtain ⟨e1,e2⟩:=right_lval (q:=q) hr HX.out
   have hlimb:=limbs_own_any hown e2
   have M:=made_any neg _ _ _ hlimb
   rw [e1] at M
   have hR:=hbk.blk (heap_alloc2_new w _ _) (by omega)
   have hw : w.heap.size + 2 ≤ wr.heap.size:=by have:=hbk.size; simp at this; omega
   clear hlimb e1 e2 hown hcell hbx
   go_wp2_with fail
   refine Calls.mono M ?_
   rintro e w' ⟨v,rfl,⟨s,rfl,hnum,hneg⟩,hb⟩
   obtain ⟨sa,sn,sc,rfl⟩:=hnum.shape
   have hres:=hb.blk hR (by omega)
   obtain ⟨f0,f1,c0,c1,f2,c2⟩:=row2 hres
   have HN : Hid (_ = true → _ ≠ 0):=hneg
   clear hneg
   go_wp2
   refine wide_end (p:=4) rfl rfl hres hnum ?_ (by omega) HN.out
   exact (((Below.refl _ _).alloc (Nat.le_refl _) _).alloc (by simp) _).trans ((hbk.mono (by omega)).trans (hb.mono (by omega)))
end Go.Proofs.YtlbokicainimnaaGreatDoor
