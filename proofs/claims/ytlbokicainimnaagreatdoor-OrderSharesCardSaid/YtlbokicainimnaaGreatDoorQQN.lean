import Derived.Test.YtlbokicainimnaaGreatDoorQQI
import Derived.Deep.RegionHeld3
set_option maxRecDepth 100000
namespace Go.Proofs.YtlbokicainimnaaGreatDoor
open Go.RowKit
def PlusInv (xs ys : List Nat) (k b : Nat) (zs : List Nat) : Prop:=
 zs.length = xs.length + 1 ∧ (∀ z ∈ zs,z < 18446744073709551616) ∧ b ≤ 1 ∧
  lval 18446744073709551616 (zs.take k) + 18446744073709551616 ^ k * b = lval 18446744073709551616 (xs.take k) + lval 18446744073709551616 (ys.take k)
theorem plus_step {xs ys zs : List Nat} {k b : Nat} (h : PlusInv xs ys k b zs) (hk : k < xs.length) (hx : ∀ x ∈ xs, x < 18446744073709551616) (hy : ∀ y ∈ ys, y < 18446744073709551616) :
  PlusInv xs ys (k + 1) ((xs.getD k 0 + ys.getD k 0 + b) / 18446744073709551616) (zs.set k ((xs.getD k 0 + ys.getD k 0 + b) % 18446744073709551616)):=by
 obtain ⟨hl,hB,hb,hv⟩:=h
 have h1:=getD_lt (B:=18446744073709551616) (by decide) hx k
 have h2:=getD_lt (B:=18446744073709551616) (by decide) hy k
 refine ⟨by simp [hl],mem_set_lt hB (Nat.mod_lt _ (by decide)),by omega,?_⟩
 rw [lval_take_next,lval_take_next,lval_take_next,take_set_same,getD_set_same (by omega)]
 have e : (xs.getD k 0 + ys.getD k 0 + b) % 18446744073709551616 + 18446744073709551616 * ((xs.getD k 0 + ys.getD k 0 + b) / 18446744073709551616) = xs.getD k 0 + ys.getD k 0 + b:=by omega
 have e2:=congrArg (18446744073709551616 ^ k * ·) e
 simp only [Nat.mul_add] at e2
 rw [Nat.pow_succ,Nat.mul_assoc]
 omega
theorem plus_done {xs ys zs : List Nat} {b : Nat} (h : PlusInv xs ys xs.length b zs) (hy : ys.length ≤ xs.length) :
  (zs.set xs.length b).length = xs.length + 1 ∧ (∀ z ∈ zs.set xs.length b,z < 18446744073709551616) ∧ lval 18446744073709551616 (zs.set xs.length b) = lval 18446744073709551616 xs + lval 18446744073709551616 ys:=by
 obtain ⟨hl,hB,hb,hv⟩:=h
 refine ⟨by simp [hl],mem_set_lt hB (by omega),?_⟩
 rw [List.take_length,List.take_of_length_le hy] at hv
 have e : zs.set xs.length b = (zs.set xs.length b).take (xs.length + 1):=by rw [List.take_of_length_le (by simp [hl])]
 rw [e,lval_take_next,take_set_same,getD_set_same (by omega)]
 exact hv
set_option maxHeartbeats 1000000 in
theorem plus_core (sw : Bool) (s t : Value) (xs ys : List Nat) (w : World) (h : Limbs .u64 18446744073709551616 w s xs) (h' : Limbs .u64 18446744073709551616 w t ys) (hlen : ys.length ≤ xs.length) (hsw : sw = true → ys.length < xs.length) (hmax : xs.length ≤ 134217732) :
  Calls Tryz.prog 226 (if sw then #[t,s] else #[s,t]) w (RowQ (xs.length + 1) (lval 18446744073709551616 xs + lval 18446744073709551616 ys) w):=by
 obtain ⟨a,m,c,rfl,hm,hmc,hc,hx,hcell⟩:=h
 obtain ⟨a',m',c',rfl,hm',hmc',hc',hy,hcell'⟩:=h'
 have HX : Hid (∀ x ∈ xs,x < 18446744073709551616):=hx
 have HY : Hid (∀ x ∈ ys,x < 18446744073709551616):=hy
 clear hx hy
 obtain ⟨N,hN⟩ : ∃ N,N = lval 18446744073709551616 xs + lval 18446744073709551616 ys:=⟨_,rfl⟩
 rw [hm,← hN]
 rw [hm] at hmax hlen hsw
 rw [hm'] at hlen hsw
 have HN : Hid (N = lval 18446744073709551616 xs + lval 18446744073709551616 ys):=hN
 clear hN
 obtain ⟨i0,hi,hz0,hz1,hz2⟩:=info_parts Tryz.infoW
 have w1 : IntKind.i64.wrap ((m : Int) + 1) = ((m + 1 : Nat) : Int):=by rw [IntWalk.i64_in _ (by omega)]; omega
 cases sw
 case' true=>have hlt:=hsw rfl
 all_goals
  simp only [Bool.false_eq_true,if_false,if_true]
  clear hsw
  go_enter Tryz.func226,Tryz.ntmps226
  go_wp2_with (at_make; refine wpList_make_full _ rfl _ _ 39 rfl w.heap.size 22 i0 (.int .u64 0) 1 Tryz.underlying39 hi hz0 hz1 .i64 .i64 _ _ (m + 1) rfl rfl (by omega) (by omega) (by rw [hz2]; omega) (by unfold maxLen; omega) (by simp) ?_; intro w1 hown hgrow; have hbel : Below w.heap.size w w1:=(Below.refl _ _).grown hgrow (Nat.le_refl _) (by simp))
  have hown' : OwnW .u64 22 w1 w.heap.size (m + 1) (List.replicate (m + 1) 0):=OwnW.made (by simpa using hown)
  clear hown hgrow
  go_loopw [6,22] (fun b i wr=>∃ k bb zs,k ≤ m ∧ i = .int .i64 (k : Nat) ∧ b = .int .u64 (bb : Nat) ∧ OwnW .u64 22 wr w.heap.size (m + 1) zs ∧ Below w.heap.size w wr ∧ PlusInv xs ys k bb zs) (fun _ i _=>m - (intOf i).toNat)
  case atStart=>
   refine ⟨0,0,_,Nat.zero_le _,rfl,rfl,hown',hbel,by simp [hm],?_,by omega,?_⟩
   ·intro z hz
    rw [List.mem_replicate] at hz
    omega
   ·simp [lval]
  case round=>
   obtain ⟨k,bb,zs,hk,rfl,rfl,hownk,hbk,hinv⟩:=hrel
   have HI : Hid (PlusInv xs ys k bb zs):=hinv
   have HO : Hid (OwnW .u64 22 wr w.heap.size (m + 1) zs):=hownk
   clear hown' hbel
   by_cases hkm : k < m
   ·obtain ⟨b,o,rfl,hb,hcc⟩:=hcell (by omega)
    have hx1:=(hbk.cell (p:=⟨b,o + k,none⟩) hb).trans (hcc k hkm)
    have hc1:=hownk.cell (j:=k) (by omega)
    have hf1:=hownk.frozen k
    have hbb : bb ≤ 1:=hinv.2.2.1
    have hst:=plus_step hinv (by omega) HX.out HY.out
    have hxk:=getD_lt (B:=18446744073709551616) (by decide) HX.out k
    have hyk:=getD_lt (B:=18446744073709551616) (by decide) HY.out k
    obtain ⟨x,hxe⟩ : ∃ x,x = xs.getD k 0:=⟨_,rfl⟩
    obtain ⟨y,hye⟩ : ∃ y,y = ys.getD k 0:=⟨_,rfl⟩
    rw [← hxe] at hx1 hst hxk
    rw [← hye] at hst hyk
    have hadd:=fun w=>add64_run x y bb hbb w
    obtain ⟨d,hd⟩ : ∃ d,d = (x + y + bb) % 18446744073709551616:=⟨_,rfl⟩
    obtain ⟨b2,hb2⟩ : ∃ b2,b2 = (x + y + bb) / 18446744073709551616:=⟨_,rfl⟩
    rw [← hd,← hb2] at hst
    simp only [← hd,← hb2] at hadd
    have HS : Hid (PlusInv xs ys (k + 1) b2 (zs.set k d)):=hst
    have HYE : Hid (y = ys.getD k 0):=hye
    clear hinv hownk hst hxe hd hb2 hye hxk hyk hbb hcell hcc
    by_cases hk' : k < m'
    ·obtain ⟨b',o',rfl,hb',hcc'⟩:=hcell' (by omega)
     have hy1:=(hbk.cell (p:=⟨b',o' + k,none⟩) hb').trans (hcc' k hk')
     rw [← HYE.out] at hy1
     clear hcell' hcc'
     go_wp2
     go_roundw
     case rel=>exact ⟨k + 1,b2,_,by omega,by go_num,rfl,HO.out.set k d,hbk.setCell (Nat.le_refl _) _,HS.out⟩
     case measure=>simp [intOf]; omega
    ·have hy0 : y = 0:=by rw [HYE.out]; simp [List.getElem?_eq_none (show ys.length ≤ k by omega)]
     subst hy0
     simp only [show ((0 : Nat) : Int) = 0 from rfl] at hadd
     clear hcell'
     go_wp2
     go_roundw
     case rel=>exact ⟨k + 1,b2,_,by omega,by go_num,rfl,HO.out.set k d,hbk.setCell (Nat.le_refl _) _,HS.out⟩
     case measure=>simp [intOf]; omega
   ·have hkm' : k = m:=by omega
    subst hkm'
    have hc1:=hownk.cell (j:=k) (by omega)
    have hf1:=hownk.frozen k
    clear hinv hownk hcell hcell'
    go_wp2
    go_ret
    have hi2:=HI.out
    rw [← hm] at hi2
    obtain ⟨d1,d2,d3⟩:=plus_done hi2 (by omega)
    rw [hm] at d1 d2 d3
    exact ⟨_,_,rfl,(HO.out.set k bb).limbs (by omega) d2,d1,by rw [HN.out]; exact d3,hbk.setCell (Nat.le_refl _) _⟩
theorem norm_len_le {xs ys : List Nat} (hy : Norm ys) (hx : ∀ x ∈ xs,x < 18446744073709551616) (h : lval 18446744073709551616 ys ≤ lval 18446744073709551616 xs) : ys.length ≤ xs.length:=by
 rcases Nat.eq_zero_or_pos ys.length with g | g
 ·omega
 ·have h1:=lval_lt xs hx
  have h2 : (18446744073709551616 : Nat) ^ xs.length = 2 ^ (64 * xs.length):=by rw [Nat.pow_mul]
  have h3:=norm_length (s:=64) hy (b:=64 * xs.length) (by rw [show (2 : Nat) ^ 64 = 18446744073709551616 from rfl,← h2]; omega) g
  omega
theorem num_words {w : World} {s : Value} {N bb : Nat} (h : Num .u64 18446744073709551616 w s N) (hN : N < 2 ^ bb) (hbb : bb ≤ 4294967296) : ∃ xs,Limbs .u64 18446744073709551616 w s xs ∧ lval 18446744073709551616 xs = N ∧ Norm xs ∧ xs.length ≤ 67108865 ∧ ∀ x ∈ xs,x < 18446744073709551616:=by
 obtain ⟨xs,hl,hv,hn⟩:=h
 have hx : ∀ x ∈ xs,x < 18446744073709551616:=by obtain ⟨_,_,_,_,_,_,_,h,_⟩:=hl; exact h
 refine ⟨xs,hl,hv,hn,?_,hx⟩
 rcases Nat.eq_zero_or_pos xs.length with g | g
 ·omega
 ·have:=norm_length (s:=64) hn (b:=bb) (by rw [show (2 : Nat) ^ 64 = 18446744073709551616 from rfl,hv]; exact hN) g
  omega
theorem iabs_any (n : Bool) (s : Value) (N : Nat) (w : World) (h : Num .u64 18446744073709551616 w s N) :
  Calls Tryz.prog 151 #[.agg #[.bool n,s]] w (WideQ false N w):=by
 obtain ⟨a,m,c,rfl⟩:=h.shape
 obtain ⟨xs,hl,hv,hn⟩:=h
 have hba : Below w.heap.size w ((w.alloc (.cells #[.bool n,.slice a m c] 123)).alloc (.cells #[.bool false,.slice none 0 0] 123)):=((Below.refl _ _).alloc (Nat.le_refl _) _).alloc (by simp) _
 have HL : Hid (Limbs .u64 18446744073709551616 ((w.alloc (.cells #[.bool n,.slice a m c] 123)).alloc (.cells #[.bool false,.slice none 0 0] 123)) (.slice a m c) xs):=hl.below (Nat.le_refl _) hba
 have HB : Hid _:=hba
 clear hl hba
 go_enter Tryz.func151,Tryz.ntmps151
 go_wp2_with fail
 refine (made_any false _ xs _ HL.out).mono ?_
 rintro e w' ⟨v,rfl,⟨s,rfl,hnum,hneg⟩,hb⟩
 obtain ⟨sa,sn,sc,rfl⟩:=hnum.shape
 have hres:=hb.blk (heap_alloc2_new w _ _) (by simp)
 simp only [Bool.false_and] at hneg
 rw [hv] at hnum
 obtain ⟨f0,f1,c0,c1,f2,c2⟩:=row2 hres
 have HN : Hid (Num .u64 18446744073709551616 w' (.slice sa sn sc) N):=hnum
 have HR : Hid _:=hres
 have HBB : Hid (Below w.heap.size w w'):=HB.out.trans (hb.mono (by simp; omega))
 clear hnum hres hneg hb
 go_wp2
 exact wide_end (p:=2) rfl rfl HR.out HN.out HBB.out (by simp) (by simp)
theorem ineg_core (n k : Bool) (hnk : (!n) = k) (s : Value) (N : Nat) (w : World) (h : Num .u64 18446744073709551616 w s N) :
  Calls Tryz.prog 179 #[.agg #[.bool n,s]] w (WideQ (k && N != 0) N w):=by
 obtain ⟨a,m,c,rfl⟩:=h.shape
 obtain ⟨xs,hl,hv,hn⟩:=h
 have hba : Below w.heap.size w ((w.alloc (.cells #[.bool n,.slice a m c] 123)).alloc (.cells #[.bool false,.slice none 0 0] 123)):=((Below.refl _ _).alloc (Nat.le_refl _) _).alloc (by simp) _
 have HL : Hid (Limbs .u64 18446744073709551616 ((w.alloc (.cells #[.bool n,.slice a m c] 123)).alloc (.cells #[.bool false,.slice none 0 0] 123)) (.slice a m c) xs):=hl.below (Nat.le_refl _) hba
 have HB : Hid _:=hba
 clear hl hba
 go_enter Tryz.func179,Tryz.ntmps179
 go_wp2_with fail
 refine (made_any k _ xs _ HL.out).mono ?_
 rintro e w' ⟨v,rfl,⟨s,rfl,hnum,hneg⟩,hb⟩
 obtain ⟨sa,sn,sc,rfl⟩:=hnum.shape
 have hres:=hb.blk (heap_alloc2_new w _ _) (by simp)
 rw [hv] at hnum hneg ⊢
 obtain ⟨q,hq⟩ : ∃ q,q = (k && N != 0):=⟨_,rfl⟩
 rw [← hq] at hneg ⊢
 obtain ⟨f0,f1,c0,c1,f2,c2⟩:=row2 hres
 have HN : Hid (Num .u64 18446744073709551616 w' (.slice sa sn sc) N):=hnum
 have HR : Hid _:=hres
 have HG : Hid (q = true → N ≠ 0):=hneg
 have HBB : Hid (Below w.heap.size w w'):=HB.out.trans (hb.mono (by simp; omega))
 have HQ : Hid (q = (k && N != 0)):=hq
 clear hnum hres hneg hb hq hnk hv
 go_wp2
 rw [← HQ.out]
 exact wide_end (p:=2) rfl rfl HR.out HN.out HBB.out (by simp) HG.out
theorem ineg_any (n : Bool) (s : Value) (N : Nat) (w : World) (h : Num .u64 18446744073709551616 w s N) : Calls Tryz.prog 179 #[.agg #[.bool n,s]] w (WideQ (!n && N != 0) N w):=ineg_core n _ rfl s N w h
end Go.Proofs.YtlbokicainimnaaGreatDoor
