import Derived.Test.YtlbokicainimnaaGreatDoorQQI
set_option maxRecDepth 100000
namespace Go.Proofs.YtlbokicainimnaaGreatDoor
open Go.RowKit
def NatQ (N : Nat) (w : World) (e : Ending) (w' : World) : Prop:=∃ v,e = .returned v ∧ Num .u32 4294967296 w' v N ∧ Below w.heap.size w w'
theorem trim_any (s : Value) (xs : List Nat) (w : World) (h : Limbs .u32 4294967296 w s xs) :
  Calls Tryz.prog 117 #[s] w (NatQ (lval 4294967296 xs) w):=by
 have HL : Hid (Limbs .u32 4294967296 w s xs):=h
 obtain ⟨a,n,c,rfl,hn,hnc,hc,hx,hcell⟩:=h
 clear hx
 go_enter Tryz.func117,Tryz.ntmps117
 go_wp2
 go_loop [0] (fun v=>∃ m,m ≤ n ∧ v = .slice a m c ∧ ∀ i,m ≤ i → i < n → xs.getD i 0 = 0) (fun v=>match v with | .slice _ m _=>m | _=>0)
 case atStart=>exact ⟨n,Nat.le_refl _,rfl,fun i h1 h2=>by omega⟩
 case round=>
  obtain ⟨m,hm,rfl,hz⟩:=hrel
  have HZ : Hid (∀ i,m ≤ i → i < n → xs.getD i 0 = 0):=hz
  clear hz
  by_cases hm0 : 0 < m
  ·obtain ⟨b,o,rfl,hb,hcc⟩:=hcell (by omega)
   have h1:=hcc (m - 1) (by omega)
   go_wp2
   ·go_round
    case rel=>
     have hlast : xs.getD (m - 1) 0 = 0:=by
      have : (((xs[m - 1]?.getD 0 : Nat) : Int) == 0) = true:=by assumption
      simpa using this
     refine ⟨m - 1,by omega,rfl,fun i h1 h2=>?_⟩
     by_cases h3 : i = m - 1
     ·rw [h3]; exact hlast
     ·exact HZ.out i (by omega) h2
    case measure=>simp; omega
   all_goals
    have hlast : xs.getD (m - 1) 0 ≠ 0:=by
     have : (((xs[m - 1]?.getD 0 : Nat) : Int) == 0) = false:=by assumption
     simpa using this
    go_ret
    exact ⟨_,rfl,trim_num HL.out hm HZ.out (.inr hlast),Below.refl _ _⟩
  ·go_wp2
   all_goals
    go_ret
    exact ⟨_,rfl,trim_num HL.out hm HZ.out (.inl (by omega)),Below.refl _ _⟩
theorem of_any (n : Nat) (w : World) (hn : n < 18446744073709551616) : Calls Tryz.prog 54 #[.int .u64 n] w (NatQ n w):=by
 have HN : Hid (n < 18446744073709551616):=hn
 clear hn
 go_enter Tryz.func54,Tryz.ntmps54
 go_wp2_with fail
 have hc:=fun A B=>heap_alloc_new w (Obj.cells #[A,B] 149)
 refine (trim_any _ [n % 4294967296,n / 4294967296] _ ⟨_,2,2,rfl,rfl,Nat.le_refl _,by decide,?_,fun _=>⟨_,0,rfl,by simp,fun i hi=>?_⟩⟩).mono ?_
 ·have:=HN.out
  intro x hx
  simp at hx
  omega
 ·rw [cell_of_row _ _ _ _ _ _ (hc _ _)]
  have hn:=HN.out
  match i,hi with
  | 0,_=>simp
  | 1,_=>simp; omega
 rintro e w' ⟨v,rfl,hnum,hb⟩
 go_wp2
 go_ret
 refine ⟨_,rfl,?_,((Below.refl _ _).alloc (Nat.le_refl _) _).trans (hb.mono (by simp))⟩
 have e : lval 4294967296 [n % 4294967296,n / 4294967296] = n:=by simp [lval]; omega
 rwa [e] at hnum
theorem Tryz.infoV : (Tryz.prog.info? 149).map (fun i=>(i.zero,i.size,i.bytes)) = some (some (.int .u32 0),1,4):=by kernel_rfl
theorem num_len {w : World} {s : Value} {N bb : Nat} (h : Num .u32 4294967296 w s N) (hN : N < 2 ^ bb) (hbb : bb ≤ 4294967296) : ∃ xs,Limbs .u32 4294967296 w s xs ∧ lval 4294967296 xs = N ∧ Norm xs ∧ xs.length ≤ 134217729:=by
 obtain ⟨xs,h1,h2,h3⟩:=h
 refine ⟨xs,h1,h2,h3,?_⟩
 by_cases h0 : 0 < xs.length
 ·have:=norm_length (s:=32) h3 (b:=bb) (by rw [show (2 ^ 32 : Nat) = 4294967296 from rfl,h2]; exact hN) h0
  omega
 ·omega
theorem nmul_any (s t : Value) (M N : Nat) (w : World) (h : Num .u32 4294967296 w s M) (h' : Num .u32 4294967296 w t N) {bb : Nat} (hM : M < 2 ^ bb) (hN : N < 2 ^ bb) (hbb : bb ≤ 4294967296) :
  Calls Tryz.prog 56 #[s,t] w (NatQ (M * N) w):=by
 obtain ⟨xs,hL,rfl,-,hml⟩:=num_len h hM hbb
 obtain ⟨ys,hL',rfl,-,hml'⟩:=num_len h' hN hbb
 obtain ⟨a,m,c,rfl,hm,hmc,hc,hx,hcell⟩:=hL
 obtain ⟨a',m',c',rfl,hm',hmc',hc',hy,hcell'⟩:=hL'
 rw [hm] at hml
 rw [hm'] at hml'
 have HX : Hid (∀ x ∈ xs,x < 4294967296):=hx
 have HY : Hid (∀ x ∈ ys,x < 4294967296):=hy
 clear hx hy hM hN hbb hmc hmc' hc hc' h h'
 obtain ⟨i0,hi,hz0,hz1,hz2⟩:=info_parts Tryz.infoV
 go_enter Tryz.func56,Tryz.ntmps56
 go_wp2_with (at_make; refine wpList_make_full _ rfl _ _ 85 rfl w.heap.size 149 i0 (.int .u32 0) 1 Tryz.underlying85 hi hz0 hz1 .i64 .i64 _ _ (m + m') rfl rfl (by omega) (by omega) (by rw [hz2]; omega) (by unfold maxLen; omega) (by simp) ?_; intro w1 hown hgrow; have hbel : Below w.heap.size w w1:=(Below.refl _ _).grown hgrow (Nat.le_refl _) (by simp))
 have hown' : OwnW .u32 149 w1 w.heap.size (m + m') (List.replicate (m + m') 0):=OwnW.made (by simpa using hown)
 clear hown hgrow
 go_loopw [6] (fun i wr=>∃ k zs,k ≤ m ∧ i = .int .i64 (k : Nat) ∧ OwnW .u32 149 wr w.heap.size (m + m') zs ∧ Below w.heap.size w wr ∧ MulInv 4294967296 xs ys k zs) (fun i _=>m - (intOf i).toNat)
 case atStart=>
  refine ⟨0,_,Nat.zero_le _,rfl,hown',hbel,by simp [hm,hm'],?_,?_,?_⟩
  ·intro z hz
   simp at hz
   omega
  ·simp [lval,lval_zeros]
  ·intro t _
   simp only [List.getD_eq_getElem?_getD,List.getElem?_replicate]
   split <;> rfl
 case round=>
  obtain ⟨k,zs,hk,rfl,hownk,hbk,hinv⟩:=hrel
  have HI : Hid (MulInv 4294967296 xs ys k zs):=hinv
  have HO : Hid (OwnW .u32 149 wr w.heap.size (m + m') zs):=hownk
  have HB : Hid (Below w.heap.size w wr):=hbk
  clear hown' hinv hownk hbel
  by_cases hkm : k < m
  ·obtain ⟨b,o,rfl,hb,hcc⟩:=hcell (by omega)
   have hx1:=hcc k hkm
   obtain ⟨x,hxe⟩ : ∃ x,x = xs.getD k 0:=⟨_,rfl⟩
   rw [← hxe] at hx1
   have HXE : Hid (x = xs.getD k 0):=hxe
   have HX1 : Hid (w.cell? ⟨b,o + k,none⟩ = some (.int .u32 (x : Nat))):=hx1
   clear hxe hcell hcc hbk hx1
   go_wp2
   go_loopw [7,8] (fun c j wq=>∃ l cc us,l ≤ m' ∧ j = .int .i64 (l : Nat) ∧ c = .int .u64 (cc : Nat) ∧ OwnW .u32 149 wq w.heap.size (m + m') us ∧ Below w.heap.size w wq ∧ MulIn 4294967296 xs ys k l cc us) (fun _ j _=>m' - (intOf j).toNat)
   case atStart=>exact ⟨0,0,zs,Nat.zero_le _,rfl,rfl,HO.out,HB.out,mul_start HI.out (by decide)⟩
   case round=>
    obtain ⟨l,cc,us,hl,rfl,rfl,hownl,hbl,hin⟩:=hrel
    have HI2 : Hid (MulIn 4294967296 xs ys k l cc us):=hin
    have HO2 : Hid (OwnW .u32 149 wr w.heap.size (m + m') us):=hownl
    have HB2 : Hid (Below w.heap.size w wr):=hbl
    by_cases hlm : l < m'
    ·obtain ⟨b',o',rfl,hb',hcc'⟩:=hcell' (by omega)
     have hx2:=(hbl.cell (p:=⟨b,o + k,none⟩) hb).trans HX1.out
     have hy1:=(hbl.cell (p:=⟨b',o' + l,none⟩) hb').trans (hcc' l hlm)
     have hc1:=hownl.cell (j:=k + l) (by omega)
     have hf1:=hownl.frozen (k + l)
     have hxb : x < 4294967296:=by rw [HXE.out]; exact getD_lt (by decide) HX.out k
     have hyb:=getD_lt (B:=4294967296) (by decide) HY.out l
     have hzb:=getD_lt (B:=4294967296) (by decide) hin.2.1 (k + l)
     have hcb:=hin.2.2.1
     have hst:=fun v c' hv hc he=>mul_in hin (by omega) (by omega) (v:=v) (c':=c') hv hc he
     obtain ⟨y,hye⟩ : ∃ y,y = ys.getD l 0:=⟨_,rfl⟩
     obtain ⟨z,hze⟩ : ∃ z,z = us.getD (k + l) 0:=⟨_,rfl⟩
     rw [← hye] at hy1 hyb
     rw [← hze] at hc1 hzb
     have hpb : x * y ≤ 4294967295 * 4294967295:=Nat.mul_le_mul (by omega) (by omega)
     have hw1 : IntKind.u64.wrap ((x : Int) * y) = ((x * y : Nat) : Int):=by rw [← Int.natCast_mul,IntKind.wrap_u64]; omega
     obtain ⟨p,hp⟩ : ∃ p,p = x * y:=⟨_,rfl⟩
     rw [← hp] at hpb hw1
     have hw2 : IntKind.u64.wrap ((z : Int) + p) = ((z + p : Nat) : Int):=by rw [IntKind.wrap_u64]; omega
     have hw3 : IntKind.u64.wrap ((cc : Int) + ((z + p : Nat) : Int)) = ((cc + (z + p) : Nat) : Int):=by rw [IntKind.wrap_u64]; omega
     have HS : Hid (MulIn 4294967296 xs ys k (l + 1) ((cc + (z + p)) / 4294967296) (us.set (k + l) ((cc + (z + p)) % 4294967296))):=
      hst _ _ (Nat.mod_lt _ (by decide)) (by omega) (by rw [← HXE.out,← hye,← hze,← hp]; omega)
     obtain ⟨q,hq⟩ : ∃ q,q = z + p:=⟨_,rfl⟩
     rw [← hq] at hw2 hw3 HS
     obtain ⟨t,ht⟩ : ∃ t,t = cc + q:=⟨_,rfl⟩
     rw [← ht] at hw3 HS
     have hw4 : (t : Int) % 4294967296 = ((t % 4294967296 : Nat) : Int):=by omega
     have hw5 : (t : Int) / 4294967296 = ((t / 4294967296 : Nat) : Int):=by omega
     obtain ⟨v,hv⟩ : ∃ v,v = t % 4294967296:=⟨_,rfl⟩
     obtain ⟨c2,hc2⟩ : ∃ c2,c2 = t / 4294967296:=⟨_,rfl⟩
     rw [← hv] at hw4 HS
     rw [← hc2] at hw5 HS
     clear hst hin hownl hbl hcell' hcc' hye hze hp hq ht hv hc2 hpb hcb
     go_wp2
     go_region
     go_wp2
     go_roundw
     case rel=>exact ⟨l + 1,c2,_,by omega,by go_num,rfl,(HO2.out.set (k + l) v).drew,(HB2.out.setCell (Nat.le_refl _) _).drew,HS.out⟩
     case measure=>simp [intOf]; omega
    ·have hlm' : l = m':=by omega
     subst hlm'
     have hc1:=hownl.cell (j:=k + l) (by omega)
     have hf1:=hownl.frozen (k + l)
     have hcb:=hin.2.2.1
     have hw4 : IntKind.u32.wrap (cc : Int) = (cc : Int):=by rw [IntKind.wrap_u32]; omega
     clear hin hownl hbl hcell' hcb
     go_wp2
     go_roundw
     case rel=>
      have hi2:=HI2.out
      rw [← hm'] at hi2
      have:=mul_out hi2 (by omega)
      rw [hm'] at this
      exact ⟨k + 1,_,by omega,by go_num,HO2.out.set (k + l) cc,HB2.out.setCell (Nat.le_refl _) _,this⟩
     case measure=>simp [intOf]; omega
  ·have hkm' : k = m:=by omega
   subst hkm'
   have hi2:=HI.out
   have hlimb:=HO.out.limbs (B:=4294967296) (by omega) hi2.2.1
   have hys : lval 4294967296 zs = lval 4294967296 xs * lval 4294967296 ys:=by
    rw [← hm] at hi2
    exact mul_done hi2
   have M:=trim_any _ _ _ hlimb
   rw [hys] at M
   clear hlimb hys hi2 hcell hcell'
   go_wp2_with fail
   refine Calls.mono M ?_
   rintro e w' ⟨v,rfl,hnum,hb⟩
   go_wp2
   go_ret
   exact ⟨_,rfl,hnum,hbk.trans (hb.mono hbk.size)⟩
def ncmp (M N : Nat) : Int:=if M < N then -1 else if N < M then 1 else 0
theorem ncmp_lt {M N : Nat} (h : M < N) : ncmp M N = -1:=by unfold ncmp; rw [if_pos h]
theorem ncmp_gt {M N : Nat} (h : N < M) : ncmp M N = 1:=by unfold ncmp; rw [if_neg (by omega),if_pos h]
theorem ncmp_eq {M N : Nat} (h : M = N) : ncmp M N = 0:=by unfold ncmp; rw [if_neg (by omega),if_neg (by omega)]
theorem ncmp_ge (M N : Nat) : (0 ≤ ncmp M N) ↔ N ≤ M:=by unfold ncmp; split; omega; split <;> omega
theorem ncmp_zero (M N : Nat) : (ncmp M N = 0) ↔ M = N:=by unfold ncmp; split; omega; split <;> omega
def NCmpQ (M N : Nat) (w : World) (e : Ending) (w' : World) : Prop:=e = .returned (.int .i64 (ncmp M N)) ∧ Below w.heap.size w w'
theorem NCmpQ.mk {M N : Nat} {w w' : World} (r : Int) (h : ncmp M N = r) (hb : Below w.heap.size w w') : NCmpQ M N w (.returned (.int .i64 r)) w':=⟨by rw [h],hb⟩
theorem ncmp_any (s t : Value) (M N : Nat) (w : World) (h : Num .u32 4294967296 w s M) (h' : Num .u32 4294967296 w t N) :
  Calls Tryz.prog 127 #[s,t] w (NCmpQ M N w):=by
 obtain ⟨xs,⟨a,m,c,rfl,hm,hmc,hc,hx,hcell⟩,rfl,hnorm⟩:=h
 obtain ⟨ys,⟨a',m',c',rfl,hm',hmc',hc',hy,hcell'⟩,rfl,hnorm'⟩:=h'
 have HX : Hid (∀ x ∈ xs,x < 4294967296):=hx
 have HY : Hid (∀ x ∈ ys,x < 4294967296):=hy
 clear hx hy
 rcases Nat.lt_trichotomy m m' with hne | hne | hne
 ·have hl:=lval_longer (by omega) hnorm' HX.out (by decide)
  have e : ncmp (lval 4294967296 xs) (lval 4294967296 ys) = -1:=ncmp_lt hl
  have hne2 : (m : Int) < m':=by omega
  clear hl hcell hcell'
  go_enter Tryz.func127,Tryz.ntmps127
  go_wp2
  go_ret
  exact NCmpQ.mk _ e (Below.refl _ _)
 ·subst hne
  clear hmc' hc'
  go_enter Tryz.func127,Tryz.ntmps127
  go_wp2
  go_loopw [5] (fun i wr=>∃ k : Nat,k ≤ m ∧ i = .int .i64 ((k : Int) - 1) ∧ Below w.heap.size w wr ∧ Hid (xs.drop k = ys.drop k)) (fun i _=>(intOf i + 1).toNat)
  case atStart=>
   refine ⟨m,Nat.le_refl _,rfl,Below.refl _ _,?_⟩
   show xs.drop m = ys.drop m
   rw [List.drop_eq_nil_of_le (by omega),List.drop_eq_nil_of_le (by omega)]
  case round=>
   obtain ⟨k,hk,rfl,hbk,hd⟩:=hrel
   by_cases hk0 : k = 0
   ·subst hk0
    have e : xs = ys:=by simpa using hd.out
    go_wp2
    go_ret
    exact NCmpQ.mk 0 (ncmp_eq (by rw [e])) hbk
   ·obtain ⟨j,rfl⟩ : ∃ j,k = j + 1:=⟨k - 1,by omega⟩
    obtain ⟨b,o,rfl,hb,hcc⟩:=hcell (by omega)
    obtain ⟨b',o',rfl,hb',hcc'⟩:=hcell' (by omega)
    have h1:=(hbk.cell (p:=⟨b,o + j,none⟩) hb).trans (hcc j (by omega))
    have h2:=(hbk.cell (p:=⟨b',o' + j,none⟩) hb').trans (hcc' j (by omega))
    obtain ⟨x,hxe⟩ : ∃ x,x = xs.getD j 0:=⟨_,rfl⟩
    obtain ⟨y,hye⟩ : ∃ y,y = ys.getD j 0:=⟨_,rfl⟩
    rw [← hxe] at h1
    rw [← hye] at h2
    have HXE : Hid (x = xs.getD j 0):=hxe
    have HYE : Hid (y = ys.getD j 0):=hye
    clear hcc hcc' hcell hcell' hxe hye
    have hlt : (j : Int) < m:=by omega
    rcases Nat.lt_trichotomy x y with hxy | hxy | hxy
    ·have hxy' : (x : Int) < y:=by omega
     go_wp2
     go_region
     go_wp2
     go_region
     go_wp2
     go_ret
     have hl:=lval_less (B:=4294967296) (xs:=xs) (ys:=ys) (i:=j) (by omega) (by omega) HX.out hd.out (by rw [← HXE.out,← HYE.out]; exact hxy)
     exact NCmpQ.mk (-1) (ncmp_lt hl) hbk.drew.drew
    ·subst hxy
     go_wp2
     go_region
     go_wp2
     go_roundw
     case rel=>exact ⟨j,by omega,by go_num,hbk.drew,drop_one (by omega) (by omega) hd.out (by rw [← HXE.out,← HYE.out])⟩
     case measure=>simp [intOf]
    ·have hxy' : (y : Int) < x:=by omega
     have hxy2 : ¬ (x : Int) < y:=by omega
     go_wp2
     go_region
     go_wp2
     go_region
     go_wp2
     go_ret
     have hl:=lval_less (B:=4294967296) (xs:=ys) (ys:=xs) (i:=j) (by omega) (by omega) HY.out hd.out.symm (by rw [← HXE.out,← HYE.out]; exact hxy)
     exact NCmpQ.mk 1 (ncmp_gt hl) hbk.drew.drew
 ·have hl:=lval_longer (by omega) hnorm HY.out (by decide)
  have e : ncmp (lval 4294967296 xs) (lval 4294967296 ys) = 1:=ncmp_gt hl
  have hne2 : (m' : Int) < m:=by omega
  clear hl hcell hcell'
  go_enter Tryz.func127,Tryz.ntmps127
  go_wp2
  go_ret
  exact NCmpQ.mk _ e (Below.refl _ _)
theorem nadd_any (s t : Value) (M N : Nat) (w : World) (h : Num .u32 4294967296 w s M) (h' : Num .u32 4294967296 w t N) {bb : Nat} (hM : M < 2 ^ bb) (hN : N < 2 ^ bb) (hbb : bb ≤ 4294967296) :
  Calls Tryz.prog 181 #[s,t] w (NatQ (M + N) w):=by
 obtain ⟨xs,hL,rfl,-,hml⟩:=num_len h hM hbb
 obtain ⟨ys,hL',rfl,-,hml'⟩:=num_len h' hN hbb
 obtain ⟨a,m,c,rfl,hm,hmc,hc,hx,hcell⟩:=hL
 obtain ⟨a',m',c',rfl,hm',hmc',hc',hy,hcell'⟩:=hL'
 rw [hm] at hml
 rw [hm'] at hml'
 have HX : Hid (∀ x ∈ xs,x < 4294967296):=hx
 have HY : Hid (∀ x ∈ ys,x < 4294967296):=hy
 clear hx hy hM hN hbb hmc hmc' hc hc' h h'
 obtain ⟨n,hn⟩ : ∃ n,n = max m m':=⟨_,rfl⟩
 have hn1 : m ≤ n:=by omega
 have hn2 : m' ≤ n:=by omega
 have hn3 : n ≤ 134217729:=by omega
 obtain ⟨i0,hi,hz0,hz1,hz2⟩:=info_parts Tryz.infoV
 have hmax : max (m : Int) (m' : Int) = (n : Int):=by omega
 have HNM : Hid (n ≤ m ∨ n ≤ m'):=by show n ≤ m ∨ n ≤ m'; omega
 clear hn
 go_enter Tryz.func181,Tryz.ntmps181
 go_wp2_with (at_make; refine wpList_make_full _ rfl _ _ 85 rfl w.heap.size 149 i0 (.int .u32 0) 1 Tryz.underlying85 hi hz0 hz1 .i64 .i64 _ _ (n + 1) rfl rfl (by omega) (by omega) (by rw [hz2]; omega) (by unfold maxLen; omega) (by simp) ?_; intro w1 hown hgrow; have hbel : Below w.heap.size w w1:=(Below.refl _ _).grown hgrow (Nat.le_refl _) (by simp))
 have hown' : OwnW .u32 149 w1 w.heap.size (n + 1) (List.replicate (n + 1) 0):=OwnW.made (by simpa using hown)
 clear hown hgrow hmax
 go_loopw [7,8] (fun c i wr=>∃ k cc zs,k ≤ n ∧ i = .int .i64 (k : Nat) ∧ c = .int .u64 (cc : Nat) ∧ OwnW .u32 149 wr w.heap.size (n + 1) zs ∧ Below w.heap.size w wr ∧ AddInv 4294967296 n xs ys k cc zs) (fun _ i _=>n - (intOf i).toNat)
 case atStart=>
  refine ⟨0,0,_,Nat.zero_le _,rfl,rfl,hown',hbel,by simp,?_,by omega,by simp [lval]⟩
  intro z hz
  simp at hz
  omega
 case round=>
  obtain ⟨k,cc,zs,hk,rfl,rfl,hownk,hbk,hinv⟩:=hrel
  have HI : Hid (AddInv 4294967296 n xs ys k cc zs):=hinv
  have HO : Hid (OwnW .u32 149 wr w.heap.size (n + 1) zs):=hownk
  have HB : Hid (Below w.heap.size w wr):=hbk
  have hcb : cc ≤ 1:=hinv.2.2.1
  clear hown' hbel
  by_cases hkn : k < n
  ·have hst:=add_step hinv hkn (by decide) HX.out HY.out
   have hxb:=getD_lt (B:=4294967296) (by decide) HX.out k
   have hyb:=getD_lt (B:=4294967296) (by decide) HY.out k
   have hc1:=hownk.cell (j:=k) (by omega)
   have hf1:=hownk.frozen k
   obtain ⟨x,hxe⟩ : ∃ x,x = xs.getD k 0:=⟨_,rfl⟩
   obtain ⟨y,hye⟩ : ∃ y,y = ys.getD k 0:=⟨_,rfl⟩
   rw [← hxe] at hst hxb
   rw [← hye] at hst hyb
   have hw1 : ((cc : Int) + x + y) % 4294967296 = (((cc + x + y) % 4294967296 : Nat) : Int):=by omega
   have hw2 : ((cc : Int) + x + y) / 4294967296 = (((cc + x + y) / 4294967296 : Nat) : Int):=by omega
   obtain ⟨v,hv⟩ : ∃ v,v = (cc + x + y) % 4294967296:=⟨_,rfl⟩
   obtain ⟨c2,hc2⟩ : ∃ c2,c2 = (cc + x + y) / 4294967296:=⟨_,rfl⟩
   rw [← hv] at hst hw1
   rw [← hc2] at hst hw2
   have HS : Hid (AddInv 4294967296 n xs ys (k + 1) c2 (zs.set k v)):=hst
   have HXE : Hid (x = xs.getD k 0):=hxe
   have HYE : Hid (y = ys.getD k 0):=hye
   clear hst hinv hownk hxe hye hv hc2
   by_cases hkm : k < m
   ·obtain ⟨b,o,rfl,hb,hcc⟩:=hcell (by omega)
    have hx1:=(hbk.cell (p:=⟨b,o + k,none⟩) hb).trans (hcc k hkm)
    rw [← HXE.out] at hx1
    clear hcell hcc
    by_cases hkm' : k < m'
    ·obtain ⟨b',o',rfl,hb',hcc'⟩:=hcell' (by omega)
     have hy1:=(hbk.cell (p:=⟨b',o' + k,none⟩) hb').trans (hcc' k hkm')
     rw [← HYE.out] at hy1
     clear hcell' hcc' hbk
     go_wp2
     go_roundw
     case rel=>exact ⟨k + 1,c2,_,by omega,by go_num,rfl,HO.out.set k v,HB.out.setCell (Nat.le_refl _) _,HS.out⟩
     case measure=>simp [intOf]; omega
    ·have hy0 : y = 0:=by rw [HYE.out]; simp [List.getElem?_eq_none (show ys.length ≤ k by omega)]
     subst hy0
     rw [show ((0 : Nat) : Int) = 0 from rfl,Int.add_zero] at hw1 hw2
     clear hcell' hbk
     go_wp2
     go_roundw
     case rel=>exact ⟨k + 1,c2,_,by omega,by go_num,rfl,HO.out.set k v,HB.out.setCell (Nat.le_refl _) _,HS.out⟩
     case measure=>simp [intOf]; omega
   ·have hx0 : x = 0:=by rw [HXE.out]; simp [List.getElem?_eq_none (show xs.length ≤ k by omega)]
    subst hx0
    rw [show ((0 : Nat) : Int) = 0 from rfl,Int.add_zero] at hw1 hw2
    clear hcell
    have hkm' : k < m':=by have:=HNM.out; omega
    obtain ⟨b',o',rfl,hb',hcc'⟩:=hcell' (by omega)
    have hy1:=(hbk.cell (p:=⟨b',o' + k,none⟩) hb').trans (hcc' k hkm')
    rw [← HYE.out] at hy1
    clear hcell' hcc' hbk
    go_wp2
    go_roundw
    case rel=>exact ⟨k + 1,c2,_,by omega,by go_num,rfl,HO.out.set k v,HB.out.setCell (Nat.le_refl _) _,HS.out⟩
    case measure=>simp [intOf]; omega
  ·have hkn' : k = n:=by omega
   subst hkn'
   have hc1:=hownk.cell (j:=k) (by omega)
   have hf1:=hownk.frozen k
   obtain ⟨hsum,hlt⟩:=add_done hinv (by omega) (by omega) (by decide)
   have hlimb:=(HO.out.set k cc).limbs (B:=4294967296) (by omega) hlt
   have M:=trim_any _ _ _ hlimb
   rw [hsum] at M
   clear hlimb hsum hlt hcell hcell' hinv hownk
   go_wp2_with fail
   refine Calls.mono M ?_
   rintro e w' ⟨v,rfl,hnum,hb⟩
   go_wp2
   go_ret
   exact ⟨_,rfl,hnum,hbk.trans ((Below.refl _ _).setCell (Nat.le_refl _) _ |>.trans (hb.mono (by simpa [World.setCell] using hbk.size)))⟩
theorem nsub_any (s t : Value) (M N : Nat) (w : World) (h : Num .u32 4294967296 w s M) (h' : Num .u32 4294967296 w t N) {bb : Nat} (hM : M < 2 ^ bb) (hN : N ≤ M) (hbb : bb ≤ 4294967296) :
  Calls Tryz.prog 128 #[s,t] w (NatQ (M - N) w):=by
 obtain ⟨xs,hL,rfl,hnx,hml⟩:=num_len h hM hbb
 obtain ⟨ys,hL',rfl,hny,hml'⟩:=num_len h' (Nat.lt_of_le_of_lt hN hM) hbb
 have hlen : ys.length ≤ xs.length:=by
  refine Decidable.byContradiction fun hc=>?_
  have:=lval_longer (B:=4294967296) (xs:=ys) (ys:=xs) (by omega) hny (by obtain ⟨_,_,_,_,_,_,_,h4,_⟩:=hL; exact h4) (by decide)
  omega
 obtain ⟨a,m,c,rfl,hm,hmc,hc,hx,hcell⟩:=hL
 obtain ⟨a',m',c',rfl,hm',hmc',hc',hy,hcell'⟩:=hL'
 rw [hm] at hml hlen
 rw [hm'] at hml' hlen
 have HX : Hid (∀ x ∈ xs,x < 4294967296):=hx
 have HY : Hid (∀ x ∈ ys,x < 4294967296):=hy
 have HLE : Hid (lval 4294967296 ys ≤ lval 4294967296 xs):=hN
 clear hx hy hM hN hbb hmc hmc' hc hc' h h' hnx hny
 obtain ⟨N,hN⟩ : ∃ N,N = lval 4294967296 xs - lval 4294967296 ys:=⟨_,rfl⟩
 rw [← hN]
 have HN : Hid (N = lval 4294967296 xs - lval 4294967296 ys):=hN
 clear hN
 obtain ⟨i0,hi,hz0,hz1,hz2⟩:=info_parts Tryz.infoV
 go_enter Tryz.func128,Tryz.ntmps128
 go_wp2_with (at_make; refine wpList_make_full _ rfl _ _ 85 rfl w.heap.size 149 i0 (.int .u32 0) 1 Tryz.underlying85 hi hz0 hz1 .i64 .i64 _ _ m rfl rfl (by omega) (by omega) (by rw [hz2]; omega) (by unfold maxLen; omega) (by simp) ?_; intro w1 hown hgrow; have hbel : Below w.heap.size w w1:=(Below.refl _ _).grown hgrow (Nat.le_refl _) (by simp))
 have hown' : OwnW .u32 149 w1 w.heap.size m (List.replicate m 0):=OwnW.made (by simpa using hown)
 clear hown hgrow
 go_loopw [6,7,8] (fun b i d wr=>∃ k bb zs,k ≤ m ∧ i = .int .i64 (k : Nat) ∧ b = .int .i64 (bb : Nat) ∧ OwnW .u32 149 wr w.heap.size m zs ∧ Below w.heap.size w wr ∧ SubInv 4294967296 xs ys k bb zs) (fun _ i _ _=>m - (intOf i).toNat)
 case atStart=>
  refine ⟨0,0,_,Nat.zero_le _,rfl,rfl,hown',hbel,by simp [hm],?_,by omega,by simp [lval]⟩
  intro z hz
  simp at hz
  omega
 case round=>
  obtain ⟨k,bb,zs,hk,rfl,rfl,hownk,hbk,hinv⟩:=hrel
  have HI : Hid (SubInv 4294967296 xs ys k bb zs):=hinv
  have HO : Hid (OwnW .u32 149 wr w.heap.size m zs):=hownk
  have HB : Hid (Below w.heap.size w wr):=hbk
  have hcb : bb ≤ 1:=hinv.2.2.1
  clear hown' hbel
  by_cases hkn : k < m
  ·have hst:=fun d b' hd hb he=>sub_step hinv (by omega) (d:=d) (b':=b') hd hb he
   have hxb:=getD_lt (B:=4294967296) (by decide) HX.out k
   have hyb:=getD_lt (B:=4294967296) (by decide) HY.out k
   have hc1:=hownk.cell (j:=k) hkn
   have hf1:=hownk.frozen k
   obtain ⟨b,o,rfl,hb,hcc⟩:=hcell (by omega)
   have hx1:=(hbk.cell (p:=⟨b,o + k,none⟩) hb).trans (hcc k hkn)
   obtain ⟨x,hxe⟩ : ∃ x,x = xs.getD k 0:=⟨_,rfl⟩
   obtain ⟨y,hye⟩ : ∃ y,y = ys.getD k 0:=⟨_,rfl⟩
   rw [← hxe] at hst hxb hx1
   rw [← hye] at hst hyb
   have HYE : Hid (y = ys.getD k 0):=hye
   have HS : Hid (∀ d b',d < 4294967296 → b' ≤ 1 → d + y + bb = x + 4294967296 * b' → SubInv 4294967296 xs ys (k + 1) b' (zs.set k d)):=fun d b' h1 h2 h3=>hst d b' h1 h2 h3
   clear hst hinv hownk hxe hye hcell hcc
   by_cases hkm' : k < m'
   ·obtain ⟨b',o',rfl,hb',hcc'⟩:=hcell' (by omega)
    have hy1:=(hbk.cell (p:=⟨b',o' + k,none⟩) hb').trans (hcc' k hkm')
    rw [← HYE.out] at hy1
    clear hcell' hcc' hbk
    by_cases hlt : x < y + bb
    ·have hlt' : (x : Int) - bb - y < 0:=by omega
     obtain ⟨d,hd⟩ : ∃ d : Nat,(x : Int) - bb - y + 4294967296 = d:=⟨x + 4294967296 - bb - y,by omega⟩
     have hd2 : d < 4294967296:=by omega
     have h1:=HS.out d 1 hd2 (by omega) (by omega)
     have H1 : Hid (SubInv 4294967296 xs ys (k + 1) 1 (zs.set k d)):=h1
     clear h1
     go_wp2
     go_roundw
     case rel=>exact ⟨k + 1,1,_,by omega,by go_num,rfl,HO.out.set k d,HB.out.setCell (Nat.le_refl _) _,H1.out⟩
     case measure=>simp [intOf]; omega
    ·have hlt' : ¬ (x : Int) - bb - y < 0:=by omega
     obtain ⟨d,hd⟩ : ∃ d : Nat,(x : Int) - bb - y = d:=⟨x - bb - y,by omega⟩
     have hd2 : d < 4294967296:=by omega
     have h1:=HS.out d 0 hd2 (by omega) (by omega)
     have H1 : Hid (SubInv 4294967296 xs ys (k + 1) 0 (zs.set k d)):=h1
     clear h1
     go_wp2
     go_roundw
     case rel=>exact ⟨k + 1,0,_,by omega,by go_num,rfl,HO.out.set k d,HB.out.setCell (Nat.le_refl _) _,H1.out⟩
     case measure=>simp [intOf]; omega
   ·have hy0 : y = 0:=by rw [HYE.out]; simp [List.getElem?_eq_none (show ys.length ≤ k by omega)]
    subst hy0
    clear hcell' hbk
    by_cases hlt : x < bb
    ·have hlt' : (x : Int) - bb < 0:=by omega
     obtain ⟨d,hd⟩ : ∃ d : Nat,(x : Int) - bb + 4294967296 = d:=⟨x + 4294967296 - bb,by omega⟩
     have hd2 : d < 4294967296:=by omega
     have h1:=HS.out d 1 hd2 (by omega) (by omega)
     have H1 : Hid (SubInv 4294967296 xs ys (k + 1) 1 (zs.set k d)):=h1
     clear h1
     go_wp2
     go_roundw
     case rel=>exact ⟨k + 1,1,_,by omega,by go_num,rfl,HO.out.set k d,HB.out.setCell (Nat.le_refl _) _,H1.out⟩
     case measure=>simp [intOf]; omega
    ·have hlt' : ¬ (x : Int) - bb < 0:=by omega
     obtain ⟨d,hd⟩ : ∃ d : Nat,(x : Int) - bb = d:=⟨x - bb,by omega⟩
     have hd2 : d < 4294967296:=by omega
     have h1:=HS.out d 0 hd2 (by omega) (by omega)
     have H1 : Hid (SubInv 4294967296 xs ys (k + 1) 0 (zs.set k d)):=h1
     clear h1
     go_wp2
     go_roundw
     case rel=>exact ⟨k + 1,0,_,by omega,by go_num,rfl,HO.out.set k d,HB.out.setCell (Nat.le_refl _) _,H1.out⟩
     case measure=>simp [intOf]; omega
  ·have hkn' : k = m:=by omega
   subst hkn'
   have hi2:=HI.out
   rw [← hm] at hi2
   have hlimb:=HO.out.limbs (B:=4294967296) (by omega) hi2.2.1
   have M:=trim_any _ _ _ hlimb
   rw [sub_done hi2 (by omega) HLE.out,← HN.out] at M
   clear hlimb hcell hcell' hinv hownk hi2
   go_wp2_with fail
   refine Calls.mono M ?_
   rintro e w' ⟨v,rfl,hnum,hb⟩
   go_wp2
   go_ret
   exact ⟨_,rfl,hnum,hbk.trans (hb.mono hbk.size)⟩
theorem nleft_any (s : Value) (N q r : Nat) (n : Int) (w : World) (h : Num .u32 4294967296 w s N) (hn : n = ((32 * q + r : Nat) : Int)) (hr : r < 32) (hq : q ≤ 134217729) {bb : Nat} (hN : N < 2 ^ bb) (hbb : bb ≤ 4294967296) :
  Calls Tryz.prog 55 #[s,.int .i64 n] w (NatQ (N * 2 ^ (32 * q + r)) w):=by
 obtain ⟨xs,hL,rfl,hnx,hml⟩:=num_len h hN hbb
 obtain ⟨a,m,c,rfl,hm,hmc,hc,hx,hcell⟩:=hL
 rw [hm] at hml
 have HX : Hid (∀ x ∈ xs,x < 4294967296):=hx
 clear hx hN hbb hmc hc h hnx
 have hn0 : 0 ≤ n:=by subst hn; omega
 have hn1 : n ≤ 4294967359:=by subst hn; omega
 have hd : n / 32 = q:=by subst hn; omega
 have hmo : n % 32 = r:=by subst hn; omega
 clear hn
 obtain ⟨i0,hi,hz0,hz1,hz2⟩:=info_parts Tryz.infoV
 by_cases hm0 : m = 0
 ·subst hm0
  have e : xs = []:=List.eq_nil_of_length_eq_zero hm
  clear hcell
  go_enter Tryz.func55,Tryz.ntmps55
  go_wp2
  go_ret
  refine ⟨_,rfl,⟨[],⟨_,0,0,rfl,rfl,Nat.le_refl _,by decide,by simp,fun h=>absurd h (by omega)⟩,by rw [e]; simp [lval],.inl rfl⟩,?_⟩
  first
   | exact Below.refl _ _
   | exact (Below.refl _ _).alloc (Nat.le_refl _) _
 have hm1 : ((m : Int) == 0) = false:=by simp; omega
 go_enter Tryz.func55,Tryz.ntmps55
 go_wp2_with (at_make; refine wpList_make_full _ rfl _ _ 85 rfl w.heap.size 149 i0 (.int .u32 0) 1 Tryz.underlying85 hi hz0 hz1 .i64 .i64 _ _ (m + q + 1) rfl rfl (by omega) (by omega) (by rw [hz2]; omega) (by unfold maxLen; omega) (by simp) ?_; intro w1 hown hgrow; have hbel : Below w.heap.size w w1:=(Below.refl _ _).grown hgrow (Nat.le_refl _) (by simp))
 have hown' : OwnW .u32 149 w1 w.heap.size (m + q + 1) (List.replicate (m + q + 1) 0):=OwnW.made (by simpa using hown)
 clear hown hgrow
 go_loopw [6,7] (fun i x wr=>∃ k ys,k ≤ m ∧ i = .int .i64 (k : Nat) ∧ OwnW .u32 149 wr w.heap.size (m + q + 1) ys ∧ Below w.heap.size w wr ∧ UpInv 32 q r xs k ys) (fun i _ _=>m - (intOf i).toNat)
 case atStart=>
  refine ⟨0,_,Nat.zero_le _,rfl,hown',hbel,by simp [hm],?_,?_,?_,?_⟩
  ·intro y hy
   simp at hy
   omega
  ·simp [lval_zeros,lval]
  ·have:=Nat.pow_pos (n:=r) (show 0 < 2 by decide)
   simp only [List.getD_eq_getElem?_getD,List.getElem?_replicate]
   split <;> exact this
  ·intro j _
   simp only [List.getD_eq_getElem?_getD,List.getElem?_replicate]
   split <;> rfl
 case round=>
  obtain ⟨k,ys,hk,rfl,hownk,hbk,hinv⟩:=hrel
  have HI : Hid (UpInv 32 q r xs k ys):=hinv
  have HO : Hid (OwnW .u32 149 wr w.heap.size (m + q + 1) ys):=hownk
  have HB : Hid (Below w.heap.size w wr):=hbk
  clear hown' hbel
  by_cases hkm : k < m
  ·obtain ⟨b,o,rfl,hb,hcc⟩:=hcell (by omega)
   have hx1:=(hbk.cell (p:=⟨b,o + k,none⟩) hb).trans (hcc k hkm)
   obtain ⟨x,hxk⟩ : ∃ x,x = xs.getD k 0:=⟨_,rfl⟩
   obtain ⟨y,hyk⟩ : ∃ y,y = ys.getD (k + q) 0:=⟨_,rfl⟩
   obtain ⟨z,hzk⟩ : ∃ z,z = ys.getD (k + q + 1) 0:=⟨_,rfl⟩
   have hc1:=hownk.cell (j:=k + q) (by omega)
   have hc2:=hownk.cell (j:=k + q + 1) (by omega)
   have hf1:=hownk.frozen (k + q)
   have hf2:=hownk.frozen (k + q + 1)
   have hst:=up_step hinv hr (by omega) HX.out
   rw [← hxk] at hx1 hst
   rw [← hyk] at hc1 hst
   rw [← hzk] at hc2 hst
   have hxx : x < 4294967296:=by rw [hxk]; exact getD_lt (by decide) HX.out k
   have hyy : y < 4294967296:=by rw [hyk]; exact getD_lt (by decide) hinv.2.1 _
   have hzz : z < 4294967296:=by rw [hzk]; exact getD_lt (by decide) hinv.2.1 _
   have h2r : 2 ^ r ≤ 2147483648:=by
    have : 2 ^ r ≤ 2 ^ 31:=Nat.pow_le_pow_right (by decide) (by omega)
    simpa using this
   have hp1 : x * 2 ^ r ≤ 4294967295 * 2147483648:=Nat.mul_le_mul (by omega) h2r
   have hw1 : IntKind.u64.wrap ((x : Int) * 2 ^ r) = ((x * 2 ^ r : Nat) : Int):=by
    rw [show (x : Int) * 2 ^ r = ((x * 2 ^ r : Nat) : Int) by simp only [Int.natCast_mul,Int.natCast_pow]; rfl,IntKind.wrap_u64]; omega
   obtain ⟨p,hp⟩ : ∃ p,p = x * 2 ^ r:=⟨_,rfl⟩
   rw [← hp] at hw1 hp1 hst
   rw [show (2 ^ 32 : Nat) = 4294967296 from rfl] at hst
   obtain ⟨v,hv⟩ : ∃ v : Nat,v = y ||| p % 4294967296:=⟨_,rfl⟩
   obtain ⟨u,hu⟩ : ∃ u : Nat,u = z ||| p / 4294967296:=⟨_,rfl⟩
   rw [← hv,← hu] at hst
   have hor : ∀ a b : Nat,a < 4294967296 → b < 4294967296 → bits BinOp.or IntKind.u32 (a : Int) (b : Int) = ((a ||| b : Nat) : Int):=fun a b ha hb=>u32_or_nat a b ha hb
   have hval : bits BinOp.or IntKind.u32 (y : Int) ((p : Int) % 4294967296) = (v : Int):=by
    rw [show (p : Int) % 4294967296 = ((p % 4294967296 : Nat) : Int) by omega,hor _ _ hyy (Nat.mod_lt _ (by decide)),hv]
   have hvau : bits BinOp.or IntKind.u32 (z : Int) ((p : Int) / 4294967296) = (u : Int):=by
    rw [show (p : Int) / 4294967296 = ((p / 4294967296 : Nat) : Int) by omega,hor _ _ hzz (by omega),hu]
   have hc3 : ∀ u,(wr.setCell ⟨w.heap.size,k + q,none⟩ u).cell? ⟨w.heap.size,k + q + 1,none⟩ = some (.int .u32 z):=fun u=>by
    rw [World.cell?_setCell_other _ _ _ _ (by simp)]; exact hc2
   have hf3 : ∀ u : Nat,(wr.setCell ⟨w.heap.size,k + q,none⟩ (.int .u32 u)).frozen? ⟨w.heap.size,k + q + 1,none⟩ = false:=fun u=>(HO.out.set _ u).frozen _
   have HS : Hid (UpInv 32 q r xs (k + 1) _):=hst
   clear hst hcell hcc hxk hyk hzk hinv hownk hbk hp hv hu hor h2r
   go_wp2
   go_roundw
   case rel=>exact ⟨k + 1,_,by omega,by go_num,(HO.out.set (k + q) v).set (k + q + 1) u,(HB.out.setCell (Nat.le_refl _) _).setCell (Nat.le_refl _) _,HS.out⟩
   case measure=>simp [intOf]; omega
  ·have hkm' : k = m:=by omega
   subst hkm'
   have hlimb:=HO.out.limbs (B:=4294967296) (by omega) HI.out.2.1
   have hys : lval 4294967296 ys = lval 4294967296 xs * 2 ^ (32 * q + r):=by
    have:=HI.out.2.2.1
    rw [show (2 ^ 32 : Nat) = 4294967296 from rfl] at this
    rw [this,← hm,List.take_length]
   have M:=trim_any _ _ _ hlimb
   rw [hys] at M
   clear hlimb hys hcell hinv hownk
   go_wp2_with fail
   refine Calls.mono M ?_
   rintro e w' ⟨v,rfl,hnum,hb⟩
   go_wp2
   go_ret
   exact ⟨_,rfl,hnum,hbk.trans (hb.mono hbk.size)⟩
theorem take_set_succ (ys : List Nat) (k v : Nat) (hk : k < ys.length) : (ys.set k v).take (k + 1) = ys.take k ++ [v]:=by
 rw [List.take_succ_eq_append_getElem (by simpa using hk),take_set_sameG]
 simp
def HalfInv (xs : List Nat) (k : Nat) (ys : List Nat) : Prop:=ys.length = xs.length ∧ (∀ y ∈ ys,y < 4294967296) ∧ ys.take k = (List.range k).map (halfW 32 xs)
theorem half_step {xs ys : List Nat} {k : Nat} (h : HalfInv xs k ys) (hk : k < xs.length) (hx : ∀ x ∈ xs,x < 4294967296) (v : Nat) (hv : v = halfW 32 xs k) : HalfInv xs (k + 1) (ys.set k v):=by
 obtain ⟨h1,h2,h3⟩:=h
 have hx1:=getD_lt (by decide) hx k
 have : v < 4294967296:=by
  rw [hv]; unfold halfW
  rw [show (2 ^ (32 - 1) : Nat) = 2147483648 from rfl]
  omega
 exact ⟨by simp [h1],mem_set_lt h2 this,by rw [take_set_succ ys k v (by omega),h3,List.range_succ,List.map_append,hv]; rfl⟩
theorem half_done {xs ys : List Nat} (h : HalfInv xs xs.length ys) (hx : ∀ x ∈ xs,x < 4294967296) : lval 4294967296 ys = lval 4294967296 xs / 2:=by
 obtain ⟨h1,h2,h3⟩:=h
 rw [← h1,List.take_length,h1] at h3
 rw [h3]
 exact lval_half (s:=32) (by decide) xs hx
theorem nhalf_any (s : Value) (N : Nat) (w : World) (h : Num .u32 4294967296 w s N) {bb : Nat} (hN : N < 2 ^ bb) (hbb : bb ≤ 4294967296) :
  Calls Tryz.prog 129 #[s] w (NatQ (N / 2) w):=by
 obtain ⟨xs,hL,rfl,hnx,hml⟩:=num_len h hN hbb
 obtain ⟨a,m,c,rfl,hm,hmc,hc,hx,hcell⟩:=hL
 rw [hm] at hml
 have HX : Hid (∀ x ∈ xs,x < 4294967296):=hx
 clear hx hN hbb hmc hc h hnx
 obtain ⟨i0,hi,hz0,hz1,hz2⟩:=info_parts Tryz.infoV
 go_enter Tryz.func129,Tryz.ntmps129
 go_wp2_with (at_make; refine wpList_make_full _ rfl _ _ 85 rfl w.heap.size 149 i0 (.int .u32 0) 1 Tryz.underlying85 hi hz0 hz1 .i64 .i64 _ _ m rfl rfl (by omega) (by omega) (by rw [hz2]; omega) (by unfold maxLen; omega) (by simp) ?_; intro w1 hown hgrow; have hbel : Below w.heap.size w w1:=(Below.refl _ _).grown hgrow (Nat.le_refl _) (by simp))
 have hown' : OwnW .u32 149 w1 w.heap.size m (List.replicate m 0):=OwnW.made (by simpa using hown)
 clear hown hgrow
 go_loopw [4] (fun i wr=>∃ k ys,k ≤ m ∧ i = .int .i64 (k : Nat) ∧ OwnW .u32 149 wr w.heap.size m ys ∧ Below w.heap.size w wr ∧ HalfInv xs k ys) (fun i _=>m - (intOf i).toNat)
 case atStart=>
  refine ⟨0,_,Nat.zero_le _,rfl,hown',hbel,by simp [hm],?_,by simp⟩
  intro y hy
  simp at hy
  omega
 case round=>
  obtain ⟨k,ys,hk,rfl,hownk,hbk,hinv⟩:=hrel
  have HI : Hid (HalfInv xs k ys):=hinv
  have HO : Hid (OwnW .u32 149 wr w.heap.size m ys):=hownk
  have HB : Hid (Below w.heap.size w wr):=hbk
  clear hown' hbel
  by_cases hkm : k < m
  ·obtain ⟨b,o,rfl,hb,hcc⟩:=hcell (by omega)
   have hx1:=(hbk.cell (p:=⟨b,o + k,none⟩) hb).trans (hcc k hkm)
   have hc1:=hownk.cell (j:=k) hkm
   have hf1:=hownk.frozen k
   have hst:=half_step hinv (by omega) HX.out
   obtain ⟨x,hxk⟩ : ∃ x,x = xs.getD k 0:=⟨_,rfl⟩
   have hxx : x < 4294967296:=by rw [hxk]; exact getD_lt (by decide) HX.out k
   have hyy : xs.getD (k + 1) 0 < 4294967296:=getD_lt (by decide) HX.out _
   unfold halfW at hst
   rw [← hxk] at hx1 hst
   rw [show (2 ^ (32 - 1) : Nat) = 2147483648 from rfl] at hst
   by_cases hkm2 : k + 1 < m
   ·have hy1:=(hbk.cell (p:=⟨b,o + (k + 1),none⟩) hb).trans (hcc (k + 1) hkm2)
    obtain ⟨y,hyk⟩ : ∃ y,y = xs.getD (k + 1) 0:=⟨_,rfl⟩
    rw [← hyk] at hy1 hst hyy
    obtain ⟨v,hv⟩ : ∃ v : Nat,v = x / 2 + y % 2 * 2147483648:=⟨_,rfl⟩
    have hval : bits BinOp.or IntKind.u32 ((x : Int) / 2) ((y : Int) * 2147483648 % 4294967296) = (v : Int):=by
     rw [show (x : Int) / 2 = ((x / 2 : Nat) : Int) by omega,show (y : Int) * 2147483648 % 4294967296 = ((y % 2 * 2147483648 : Nat) : Int) by omega,
      u32_or_nat _ _ (by omega) (by omega),or_add (r:=31) (by rw [show (2 ^ 31 : Nat) = 2147483648 from rfl]; omega) (by rw [show (2 ^ 31 : Nat) = 2147483648 from rfl]; exact Nat.mul_mod_left _ _),hv]
    have h1:=hst v hv
    have HS : Hid (HalfInv xs (k + 1) (ys.set k v)):=h1
    have hc3 : ∀ u : Nat,(wr.setCell ⟨w.heap.size,k,none⟩ (.int .u32 u)).cell? ⟨w.heap.size,k,none⟩ = some (.int .u32 u):=fun u=>by
     have:=(HO.out.set k u).cell hkm
     rwa [getD_set_same (by rw [HO.out.length]; exact hkm)] at this
    have hf3 : ∀ u : Nat,(wr.setCell ⟨w.heap.size,k,none⟩ (.int .u32 u)).frozen? ⟨w.heap.size,k,none⟩ = false:=fun u=>(HO.out.set _ u).frozen _
    have hy3 : ∀ u : Value,(wr.setCell ⟨w.heap.size,k,none⟩ u).cell? ⟨b,o + (k + 1),none⟩ = some (.int .u32 y):=fun u=>by
     rw [cell_past (by show b ≠ _; omega)]; exact hy1
    obtain ⟨x2,hx2⟩ : ∃ x2 : Nat,(x : Int) / 2 = (x2 : Int):=⟨x / 2,by omega⟩
    rw [hx2] at hval
    clear hst h1 hcell hcc hxk hyk hinv hownk hbk hv
    go_wp2
    go_region
    go_wp2
    go_roundw
    case rel=>
     refine ⟨k + 1,_,by omega,by go_num,?_,(((HB.out.setCell (Nat.le_refl _) _).setCell (Nat.le_refl _) _).drew),HS.out⟩
     have:=(((HO.out.set k x2).set k v).drew)
     rwa [List.set_set] at this
    case measure=>simp [intOf]; omega
   ·have hy0 : xs.getD (k + 1) 0 = 0:=by simp [List.getElem?_eq_none (show xs.length ≤ k + 1 by omega)]
    obtain ⟨v,hv⟩ : ∃ v : Nat,v = x / 2:=⟨_,rfl⟩
    have hval : (x : Int) / 2 = (v : Int):=by omega
    have h1:=hst v (by rw [hy0,hv]; rfl)
    have HS : Hid (HalfInv xs (k + 1) (ys.set k v)):=h1
    clear hst h1 hcell hcc hxk hinv hownk hbk hv hyy hy0
    go_wp2
    go_roundw
    case rel=>exact ⟨k + 1,_,by omega,by go_num,HO.out.set k v,HB.out.setCell (Nat.le_refl _) _,HS.out⟩
    case measure=>simp [intOf]; omega
  ·have hkm' : k = m:=by omega
   subst hkm'
   have hi2:=HI.out
   rw [← hm] at hi2
   have hlimb:=HO.out.limbs (B:=4294967296) (by omega) hi2.2.1
   have M:=trim_any _ _ _ hlimb
   rw [half_done hi2 HX.out] at M
   clear hlimb hcell hinv hownk hi2
   go_wp2_with fail
   refine Calls.mono M ?_
   rintro e w' ⟨v,rfl,hnum,hb⟩
   go_wp2
   go_ret
   exact ⟨_,rfl,hnum,hbk.trans (hb.mono hbk.size)⟩
theorem blen_half {x : Nat} (h : 0 < x) : blen x = blen (x / 2) + 1:=by
 obtain ⟨a,b,c⟩:=blen_pos (n:=x) (by omega)
 by_cases h2 : x / 2 = 0
 ·have : x = 1:=by omega
  subst this
  decide
 ·obtain ⟨a',b',c'⟩:=blen_pos h2
  have h1 : blen x ≤ blen (x / 2) + 1:=blen_le (by rw [Nat.pow_succ]; omega)
  have h3 : blen (x / 2) - 1 + 1 + 1 ≤ blen x:=blen_ge (by rw [Nat.pow_succ]; omega)
  omega
theorem nlen_same (s : Value) (N : Nat) (w : World) (h : Num .u32 4294967296 w s N) {bb : Nat} (hN : N < 2 ^ bb) (hbb : bb ≤ 4294967296) :
  Calls Tryz.prog 126 #[s] w fun e w'=>e = .returned (.int .i64 (blen N : Nat)) ∧ w' = w:=by
 obtain ⟨xs,hL,rfl,hnx,hml⟩:=num_len h hN hbb
 obtain ⟨a,m,c,rfl,hm,hmc,hc,hx,hcell⟩:=hL
 rw [hm] at hml
 have HX : Hid (∀ x ∈ xs,x < 4294967296):=hx
 by_cases h0 : m = 0
 ·have e : xs = []:=List.eq_nil_of_length_eq_zero (by omega)
  subst h0 e
  clear hcell hx
  go_enter Tryz.func126,Tryz.ntmps126
  go_wp2
  go_ret
  exact ⟨rfl,rfl⟩
 obtain ⟨b,o,rfl,hb,hcc⟩:=hcell (by omega)
 have h1:=hcc (m - 1) (by omega)
 have h2:=blen_top (s:=32) hnx HX.out (by omega)
 rw [hm,show (2 ^ 32 : Nat) = 4294967296 from rfl] at h2
 have hxx : xs.getD (m - 1) 0 < 4294967296:=getD_lt (by decide) HX.out _
 have hle : blen (xs.getD (m - 1) 0) ≤ 32:=blen_le (by simpa using hxx)
 rw [h2]
 obtain ⟨x,hxe⟩ : ∃ x,x = xs.getD (m - 1) 0:=⟨_,rfl⟩
 rw [← hxe] at h1 hle hxx ⊢
 obtain ⟨l,hl⟩ : ∃ l,l = 32 * (m - 1) + blen x:=⟨_,rfl⟩
 rw [← hl]
 have HL : Hid (l = 32 * (m - 1) + blen x):=hl
 have hm0 : ((m : Int) == 0) = false:=by simp; omega
 clear h h2 hN hbb hx hcell hcc hxe hnx hmc hc hl
 go_enter Tryz.func126,Tryz.ntmps126
 go_wp2
 go_loop [3,4] (fun n y=>∃ k z : Nat,n = .int .i64 (k : Nat) ∧ y = .int .u32 (z : Nat) ∧ z < 4294967296 ∧ k + blen z = l ∧ l ≤ 4294967360) (fun _ y=>(intOf y).toNat)
 case atStart=>exact ⟨32 * (m - 1),x,by go_num,rfl,hxx,by rw [HL.out],by have:=HL.out; omega⟩
 case round=>
  obtain ⟨k,z,rfl,rfl,hz,hs,hl⟩:=hrel
  by_cases hz0 : z = 0
  ·subst hz0
   have hk : k = l:=by rw [← hs]; rfl
   subst hk
   go_wp2
   go_ret
   exact ⟨rfl,rfl⟩
  ·have hz1 : (0 : Int) < z:=by omega
   have hb2:=blen_half (show 0 < z by omega)
   obtain ⟨z2,hz2⟩ : ∃ z2 : Nat,(z : Int) / 2 = z2:=⟨z / 2,by omega⟩
   have e : z / 2 = z2:=by omega
   rw [e] at hb2
   go_wp2
   go_round
   case rel=>exact ⟨k + 1,z2,by go_num,by go_num,by omega,by omega,by omega⟩
   case measure=>simp [intOf]; omega
theorem nlen_any (s : Value) (N : Nat) (w : World) (h : Num .u32 4294967296 w s N) {bb : Nat} (hN : N < 2 ^ bb) (hbb : bb ≤ 4294967296) :
  Calls Tryz.prog 126 #[s] w fun e w'=>e = .returned (.int .i64 (blen N : Nat)) ∧ Below w.heap.size w w':=by
 refine (nlen_same s N w h hN hbb).mono ?_
 rintro e w' ⟨rfl,rfl⟩
 exact ⟨rfl,Below.refl _ _⟩
theorem quo2 {M D : Nat} (hD : 0 < D) : (D ≤ M % (2 * D) → M / D = 2 * (M / (2 * D)) + 1 ∧ M % D = M % (2 * D) - D) ∧ (M % (2 * D) < D → M / D = 2 * (M / (2 * D)) ∧ M % D = M % (2 * D)):=by
 have h1:=Nat.div_add_mod M (2 * D)
 have h2:=Nat.mod_lt M (show 0 < 2 * D by omega)
 obtain ⟨q,hq⟩ : ∃ q,M / (2 * D) = q:=⟨_,rfl⟩
 obtain ⟨A,hA⟩ : ∃ A,M % (2 * D) = A:=⟨_,rfl⟩
 rw [hq,hA] at h1 ⊢
 rw [hA] at h2
 constructor
 ·intro h
  have e : M = D * (2 * q + 1) + (A - D):=by
   rw [Nat.mul_add,← Nat.mul_assoc,Nat.mul_comm D 2]; omega
  constructor
  ·rw [e,Nat.mul_add_div hD,Nat.div_eq_of_lt (by omega),Nat.add_zero]
  ·rw [e,Nat.mul_add_mod,Nat.mod_eq_of_lt (by omega)]
 ·intro h
  have e : M = D * (2 * q) + A:=by
   rw [← Nat.mul_assoc,Nat.mul_comm D 2]; omega
  constructor
  ·rw [e,Nat.mul_add_div hD,Nat.div_eq_of_lt h,Nat.add_zero]
  ·rw [e,Nat.mul_add_mod,Nat.mod_eq_of_lt h]
theorem shift_enough {M N k : Nat} (hN : 0 < N) (h : blen M ≤ blen N - 1 + k) : M < N * 2 ^ k:=by
 by_cases hM : M = 0
 ·subst hM; exact Nat.mul_pos hN (Nat.two_pow_pos k)
 ·obtain ⟨a,b,c⟩:=blen_pos (n:=N) (by omega)
  obtain ⟨a',b',c'⟩:=blen_pos hM
  refine Nat.lt_of_lt_of_le b' (Nat.le_trans (Nat.pow_le_pow_right (by decide) h) ?_)
  rw [Nat.pow_add]
  exact Nat.mul_le_mul_right _ a
theorem shift_bound {N bb k : Nat} (h : blen N + k ≤ bb) : N * 2 ^ k < 2 ^ bb:=by
 by_cases hN : N = 0
 ·subst hN; rw [Nat.zero_mul]; exact Nat.two_pow_pos _
 ·obtain ⟨a,b,c⟩:=blen_pos hN
  refine Nat.lt_of_lt_of_le (Nat.mul_lt_mul_of_pos_right b (Nat.two_pow_pos k)) ?_
  rw [← Nat.pow_add]
  exact Nat.pow_le_pow_right (by decide) h
theorem or_one (q : Nat) (h : q < 9223372036854775808) : bits .or .u64 ((2 * q : Nat) : Int) 1 = ((2 * q + 1 : Nat) : Int):=by
 have:=u64_or_nat (2 * q) 1 (by omega) (by decide)
 rw [Nat.or_comm,or_add (a:=1) (b:=2 * q) (r:=1) (by decide) (by omega),Nat.add_comm] at this
 exact this
def NQuoQ (Q R : Nat) (w : World) (e : Ending) (w' : World) : Prop:=∃ v,e = .returned (.tuple #[.int .u64 (Q : Nat),v]) ∧ Num .u32 4294967296 w' v R ∧ Below w.heap.size w w'
theorem nquo_any (s t : Value) (M N : Nat) (w : World) (h : Num .u32 4294967296 w s M) (h' : Num .u32 4294967296 w t N) {bb : Nat} (hM : M < 2 ^ bb) (hN : N < 2 ^ bb) (hbb : bb ≤ 4294967290) (hN0 : 0 < N) (hQ : M / N < 18446744073709551616) :
  Calls Tryz.prog 65 #[s,t] w (NQuoQ (M / N) (M % N) w):=by
 have HM : Hid (M < 2 ^ bb):=hM
 have HN : Hid (N < 2 ^ bb):=hN
 have HQ : Hid (M / N < 18446744073709551616):=hQ
 have HN0 : Hid (0 < N):=hN0
 have hlM : blen M ≤ bb:=blen_le hM
 have hlN : blen N ≤ bb:=blen_le hN
 have hlN1 : 1 ≤ blen N:=(blen_pos (by omega)).2.2
 obtain ⟨lM,eM⟩ : ∃ l,l = blen M:=⟨_,rfl⟩
 obtain ⟨lN,eN⟩ : ∃ l,l = blen N:=⟨_,rfl⟩
 rw [← eM] at hlM
 rw [← eN] at hlN hlN1
 have HEM : Hid (lM = blen M):=eM
 have HEN : Hid (lN = blen N):=eN
 obtain ⟨n0,hn0⟩ : ∃ n0 : Nat,max 0 ((lM : Int) - lN + 1) = (n0 : Int):=⟨(max 0 ((lM : Int) - lN + 1)).toNat,by omega⟩
 have HN1 : Hid (lM + 1 ≤ lN + n0 ∧ n0 + lN ≤ bb + 1 ∧ n0 ≤ bb + 1):=by show _ ∧ _; omega
 clear hM hN hQ hN0 eM eN
 go_enter Tryz.func65,Tryz.ntmps65
 go_wp2_with fail
 refine (nlen_any _ M _ h HM.out (by omega)).mono ?_
 rw [← HEM.out]
 rintro e w1 ⟨rfl,hb1⟩
 have h1:=h.below (Nat.le_refl _) hb1
 have h1':=h'.below (Nat.le_refl _) hb1
 go_wp2_with fail
 refine (nlen_any _ N _ h1' HN.out (by omega)).mono ?_
 rw [← HEN.out]
 rintro e w2 ⟨rfl,hb2⟩
 have h2:=h1.below (Nat.le_refl _) hb2
 have h2':=h1'.below (Nat.le_refl _) hb2
 go_wp2_with fail
 refine (nleft_any _ N (n0 / 32) (n0 % 32) _ _ h2' (by omega) (Nat.mod_lt _ (by decide)) (by have:=HN1.out; omega) HN.out (by omega)).mono ?_
 rw [Nat.div_add_mod]
 rintro e w3 ⟨v,rfl,hd,hb3⟩
 have h3:=h2.below (Nat.le_refl _) hb3
 have hb : Below w.heap.size w w3:=hb1.trans ((hb2.mono hb1.size).trans (hb3.mono (Nat.le_trans hb1.size hb2.size)))
 have H3 : Hid (Num .u32 4294967296 w3 s M):=h3
 have HD : Hid (Num .u32 4294967296 w3 v (N * 2 ^ n0)):=hd
 clear h1 h1' h2 h2' h3 hd hb1 hb2 hb3 h h'
 go_wp2
 go_loopw [0,6,7,8] (fun a q n d wr=>∃ k : Nat,k ≤ n0 + 1 ∧ n = .int .i64 ((k : Int) - 1) ∧ q = .int .u64 (M / (N * 2 ^ k) : Nat) ∧ Hid (Num .u32 4294967296 wr a (M % (N * 2 ^ k))) ∧ (0 < k → Hid (Num .u32 4294967296 wr d (N * 2 ^ (k - 1)))) ∧ Below w.heap.size w wr)
  (fun _ _ n _ _=>(intOf n + 1).toNat)
 case atStart=>
  have hlt:=shift_enough (M:=M) (k:=n0 + 1) HN0.out (by have:=HN1.out; rw [← HEM.out,← HEN.out]; omega)
  refine ⟨n0 + 1,Nat.le_refl _,by go_num,?_,?_,fun _=>HD,hb⟩
  ·rw [Nat.div_eq_of_lt hlt]; rfl
  ·rw [Nat.mod_eq_of_lt hlt]; exact H3
 case round=>
  obtain ⟨k,hk,rfl,rfl,hA,hD,hbk⟩:=hrel
  clear H3 HD hb
  by_cases hk0 : k = 0
  ·subst hk0
   rw [Nat.pow_zero,Nat.mul_one] at hA
   simp only [Nat.pow_zero,Nat.mul_one]
   have hk0' : ¬ (0 : Int) ≤ (0 : Nat) - 1:=by omega
   clear hD
   go_wp2
   go_ret2
   exact ⟨_,rfl,hA.out,hbk⟩
  ·obtain ⟨j,rfl⟩ : ∃ j,k = j + 1:=⟨k - 1,by omega⟩
   have hD:=hD (by omega)
   rw [Nat.add_sub_cancel] at hD
   have hp : 0 < N * 2 ^ j:=Nat.mul_pos HN0.out (Nat.two_pow_pos j)
   have hpow : N * 2 ^ (j + 1) = 2 * (N * 2 ^ j):=by rw [Nat.pow_succ]; ac_rfl
   rw [hpow] at hA ⊢
   obtain ⟨s1,s2⟩:=quo2 (M:=M) hp
   have hqle : M / (N * 2 ^ j) ≤ M / N:=by
    rw [← Nat.div_div_eq_div_mul]; exact Nat.div_le_self _ _
   have hqq:=HQ.out
   have hDb : N * 2 ^ j < 2 ^ (bb + 1):=by
    have:=HN1.out
    refine shift_bound ?_
    rw [← HEN.out]; omega
   have hAb : M % (2 * (N * 2 ^ j)) < 2 ^ (bb + 1):=Nat.lt_of_le_of_lt (Nat.mod_le _ _) (Nat.lt_of_lt_of_le HM.out (Nat.pow_le_pow_right (by decide) (by omega)))
   obtain ⟨D,eD⟩ : ∃ D,D = N * 2 ^ j:=⟨_,rfl⟩
   have HED : Hid (D = N * 2 ^ j):=eD
   rw [← eD] at hA hD s1 s2 hqle hDb hAb hp ⊢
   obtain ⟨A,eA⟩ : ∃ A,A = M % (2 * D):=⟨_,rfl⟩
   obtain ⟨q,eq⟩ : ∃ q,q = M / (2 * D):=⟨_,rfl⟩
   rw [← eA] at hA s1 s2 hAb
   rw [← eq] at s1 s2 ⊢
   have HDb : Hid (D < 2 ^ (bb + 1)):=hDb
   have HAb : Hid (A < 2 ^ (bb + 1)):=hAb
   have hj0 : (0 : Int) ≤ ((j + 1 : Nat) : Int) - 1:=by omega
   clear hDb hAb hpow eD eA eq
   by_cases hc : D ≤ A
   ·obtain ⟨e1,e2⟩:=s1 hc
    have hcm : 0 ≤ ncmp A D:=(ncmp_ge A D).mpr hc
    have hqb : q < 9223372036854775808:=by omega
    have hw : IntKind.u64.wrap ((q : Int) * 2) = ((2 * q : Nat) : Int):=by rw [IntKind.wrap_u64]; omega
    have hor:=or_one q hqb
    have HC : Hid (D ≤ A):=hc
    have HE1 : Hid (M / D = 2 * q + 1):=e1
    have HE2 : Hid (M % D = A - D):=e2
    obtain ⟨c,ec⟩ : ∃ c,c = ncmp A D:=⟨_,rfl⟩
    have HEC : Hid (c = ncmp A D):=ec
    rw [← ec] at hcm
    obtain ⟨q2,eq2⟩ : ∃ q2,q2 = 2 * q:=⟨_,rfl⟩
    rw [← eq2] at hw hor
    have HQ2 : Hid (q2 = 2 * q):=eq2
    clear s1 s2 e1 e2 hc ec hqle hqq hqb hp eq2
    go_wp2_with fail
    refine (ncmp_any _ _ A D _ hA.out hD.out).mono ?_
    rintro e w4 ⟨he,hb4⟩
    rw [← HEC.out] at he
    subst he
    have hA4 : Hid (Num .u32 4294967296 w4 _ A):=Num.below hA.out (Nat.le_refl _) hb4
    have hD4 : Hid (Num .u32 4294967296 w4 _ D):=Num.below hD.out (Nat.le_refl _) hb4
    go_wp2_with fail
    refine (nsub_any _ _ A D _ hA4.out hD4.out HAb.out HC.out (by omega)).mono ?_
    rintro e w5 ⟨v5,rfl,hA5,hb5⟩
    have hA5 : Hid (Num .u32 4294967296 w5 _ (A - D)):=hA5
    have hD5 : Hid (Num .u32 4294967296 w5 _ D):=Num.below hD4.out (Nat.le_refl _) hb5
    go_wp2_with fail
    refine (nhalf_any _ D _ hD5.out HDb.out (by omega)).mono ?_
    rintro e w6 ⟨v6,rfl,hD6,hb6⟩
    have hA6 : Hid (Num .u32 4294967296 w6 _ (A - D)):=Num.below hA5.out (Nat.le_refl _) hb6
    have HD6 : Hid (Num .u32 4294967296 w6 _ (D / 2)):=hD6
    have hb' : Below w.heap.size w w6:=hbk.trans ((hb4.mono hbk.size).trans ((hb5.mono (Nat.le_trans hbk.size hb4.size)).trans (hb6.mono (Nat.le_trans hbk.size (Nat.le_trans hb4.size hb5.size)))))
    clear hD6 hb4 hb5 hb6 hbk
    go_wp2
    go_roundw
    case rel=>
     refine ⟨j,by omega,by go_num,?_,?_,?_,hb'⟩
     ·rw [← HED.out,HE1.out,HQ2.out]; go_num
     ·rw [← HED.out,HE2.out]; exact hA6
     ·intro hj
      have e : N * 2 ^ (j - 1) = D / 2:=by
       obtain ⟨i,rfl⟩ : ∃ i,j = i + 1:=⟨j - 1,by omega⟩
       rw [HED.out,Nat.pow_succ,← Nat.mul_assoc,Nat.mul_div_cancel _ (by decide)]; rfl
      rw [e]; exact HD6
    case measure=>simp [intOf]
   ·obtain ⟨e1,e2⟩:=s2 (by omega)
    have hcm : ¬ 0 ≤ ncmp A D:=fun h=>hc ((ncmp_ge A D).mp h)
    have hw : IntKind.u64.wrap ((q : Int) * 2) = ((2 * q : Nat) : Int):=by rw [IntKind.wrap_u64]; omega
    have HE1 : Hid (M / D = 2 * q):=e1
    have HE2 : Hid (M % D = A):=e2
    obtain ⟨c,ec⟩ : ∃ c,c = ncmp A D:=⟨_,rfl⟩
    have HEC : Hid (c = ncmp A D):=ec
    rw [← ec] at hcm
    obtain ⟨q2,eq2⟩ : ∃ q2,q2 = 2 * q:=⟨_,rfl⟩
    rw [← eq2] at hw
    have HQ2 : Hid (q2 = 2 * q):=eq2
    clear s1 s2 e1 e2 hc ec hqle hqq hp eq2
    go_wp2_with fail
    refine (ncmp_any _ _ A D _ hA.out hD.out).mono ?_
    rintro e w4 ⟨he,hb4⟩
    rw [← HEC.out] at he
    subst he
    have hA4 : Hid (Num .u32 4294967296 w4 _ A):=Num.below hA.out (Nat.le_refl _) hb4
    have hD4 : Hid (Num .u32 4294967296 w4 _ D):=Num.below hD.out (Nat.le_refl _) hb4
    go_wp2_with fail
    refine (nhalf_any _ D _ hD4.out HDb.out (by omega)).mono ?_
    rintro e w6 ⟨v6,rfl,hD6,hb6⟩
    have hA6 : Hid (Num .u32 4294967296 w6 _ A):=Num.below hA4.out (Nat.le_refl _) hb6
    have HD6 : Hid (Num .u32 4294967296 w6 _ (D / 2)):=hD6
    have hb' : Below w.heap.size w w6:=hbk.trans ((hb4.mono hbk.size).trans (hb6.mono (Nat.le_trans hbk.size hb4.size)))
    clear hD6 hb4 hb6 hbk
    go_wp2
    go_roundw
    case rel=>
     refine ⟨j,by omega,by go_num,?_,?_,?_,hb'⟩
     ·rw [← HED.out,HE1.out,HQ2.out]
     ·rw [← HED.out,HE2.out]; exact hA6
     ·intro hj
      have e : N * 2 ^ (j - 1) = D / 2:=by
       obtain ⟨i,rfl⟩ : ∃ i,j = i + 1:=⟨j - 1,by omega⟩
       rw [HED.out,Nat.pow_succ,← Nat.mul_assoc,Nat.mul_div_cancel _ (by decide)]; rfl
      rw [e]; exact HD6
    case measure=>simp [intOf]
end Go.Proofs.YtlbokicainimnaaGreatDoor
