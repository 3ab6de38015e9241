import Derived.Test.YtlbokicainimnaaGreatDoorQQL
import Derived.BigQuiet
import Derived.Laws.CopyOwn
set_option maxRecDepth 100000
namespace Go.Proofs.YtlbokicainimnaaGreatDoor
open Go.RowKit
theorem OwnW.part {k : IntKind} {e : TypeId} {w : World} {g L B : Nat} {us : List Nat} (h : OwnW k e w g L us) (hu : ∀ u ∈ us, u < B) {i n c : Nat} (hi : i + n ≤ L) (hn : n ≤ c) (hc : c ≤ 9223372036854775807) :
  Limbs k B w (.slice (some ⟨g,i,none⟩) n c) ((us.drop i).take n):=by
 have hl:=h.length
 refine ⟨_,n,c,rfl,by simp; omega,hn,hc,fun x hx=>hu x (List.mem_of_mem_drop (List.mem_of_mem_take hx)),fun _=>⟨g,i,rfl,(World.ownsRow.lt h g rfl).2,fun j hj=>?_⟩⟩
 rw [h.cell (by omega)]
 simp [hj,List.getElem?_drop]
theorem lval_top (B : Nat) (xs : List Nat) (n : Nat) (hl : xs.length = n + 1) : lval B xs = lval B (xs.take n) + B ^ n * xs.getD n 0:=by
 have:=lval_take_succ B xs n (by omega)
 rwa [← hl,List.take_length] at this
theorem _root_.Go.RowKit.Below.drewN {B : Nat} {a w : World} (h : Below B a w) (n : Nat) : Below B a (w.drewN n):=⟨h.os,h.tape,h.output,h.size,h.block⟩
theorem div64_quiet (hi lo y : Nat) (w : World) (hlo : lo < 18446744073709551616) (hy : y < 18446744073709551616) (hlt : hi < y) :
  Calls Tryz.prog 207 #[.int .u64 hi,.int .u64 lo,.int .u64 y] w fun e w'=>
   e = .returned (.tuple #[.int .u64 ((hi * 18446744073709551616 + lo) / y : Nat),.int .u64 ((hi * 18446744073709551616 + lo) % y : Nat)]) ∧ ∃ m,w' = w.drewN m:=by
 refine (div64_w hi lo y w hlo hy hlt).mono ?_
 rintro e w' ⟨rfl,rfl⟩
 refine ⟨rfl,?_⟩
 unfold divW
 split
 ·exact ⟨1,rfl⟩
 ·exact ⟨0,rfl⟩
theorem Tryz.fieldW1 (v s : Value) (w : World) : (Instr.field 123 (.agg #[v,s]) 1).run Tryz.prog w = .ok s w:=by kernel_rfl
theorem OwnW.heapRow {k : IntKind} {e : TypeId} {w : World} {g L : Nat} {ys : List Nat} (h : OwnW k e w g L ys) : w.heap[g]? = some (.cells (ys.map fun (x : Nat)=>Value.int k x).toArray e (0,0)):=by
 obtain ⟨h1,h2⟩:=h
 rcases h2 with ⟨h2,_⟩ | ⟨g',cap,cur,h2,h3,h4,h5,h6,h7,h8⟩
 ·simp at h2
 ·simp only [Value.slice.injEq,Option.some.injEq,Addr.mk.injEq,and_true,true_and] at h2
  obtain ⟨rfl,rfl⟩:=h2
  rw [h4,← h8,List.take_of_length_le (by simp [h7])]
theorem OwnW.ofRow {k : IntKind} {e : TypeId} {w : World} {g L : Nat} {ys : List Nat} (h : w.heap[g]? = some (.cells (ys.map fun (x : Nat)=>Value.int k x).toArray e (0,0))) (hl : ys.length = L) (hL : L ≤ maxLen) : OwnW k e w g L ys:=
 ⟨by simpa using hl,.inr ⟨g,L,_,rfl,Nat.le_refl _,h,Nat.le_refl _,hL,by simp [hl],by rw [Nat.mul_one]; exact List.take_of_length_le (by simp [hl])⟩⟩
theorem grown_setRow {w w' : World} {g : Nat} (hb : Below w.heap.size w w') (cs : Array Value) : w.grownBy (w'.setRow g cs) (some g):=
 ⟨hb.os,hb.tape,hb.output,by simpa [World.setRow] using hb.size,fun k hk hne=>by rw [setRow_other w' g k cs (by intro e; exact hne (by rw [e])),hb.block k hk]⟩
def DigitQ (g i n L V D : Nat) (us : List Nat) (w : World) (e : Ending) (w' : World) : Prop:=
 e = .returned (.int .u64 (V / D : Nat)) ∧ ∃ vs,vs.length = n + 1 ∧ (∀ v ∈ vs,v < 18446744073709551616) ∧ lval 18446744073709551616 vs = V - V / D * D ∧
  OwnW .u64 22 w' g L (us.take i ++ vs ++ us.drop (i + (n + 1))) ∧ w.grownBy w' (some g)
set_option maxHeartbeats 2000000 in
theorem digit_any (g i n L c : Nat) (us ys : List Nat) (t : Value) (D : Nat) (w : World) (hO : OwnW .u64 22 w g L us) (hus : ∀ u ∈ us, u < 18446744073709551616) (hiL : i + (n + 1) ≤ L) (hLb : L ≤ 67108800)
  {m : Nat} (hm : m = n + 1) (hc1 : m ≤ c) (hc2 : c ≤ 9223372036854775807) (hY : Limbs .u64 18446744073709551616 w t ys) (hYn : ys.length = n) (hn : 1 ≤ n) (hD : lval 18446744073709551616 ys = D) (hnorm : Norm ys)
  (hV : lval 18446744073709551616 ((us.drop i).take (n + 1)) < 18446744073709551616 * D) :
  Calls Tryz.prog 217 #[.slice (some ⟨g,i,none⟩) m c,t] w (DigitQ g i n L (lval 18446744073709551616 ((us.drop i).take (n + 1))) D us w):=by
 obtain ⟨k,hk⟩ : ∃ k,n = k + 1:=⟨n - 1,by omega⟩
 have hgs : g < w.heap.size:=(World.ownsRow.lt hO g rfl).2
 have hpart:=hO.part hus (i:=i) (n:=m) (by omega) hc1 hc2
 rw [← hm] at hV ⊢
 obtain ⟨ts,hts⟩ : ∃ ts,ts = (us.drop i).take m:=⟨_,rfl⟩
 obtain ⟨V,hVe⟩ : ∃ V,V = lval 18446744073709551616 ts:=⟨_,rfl⟩
 have htl : ts.length = n + 1:=by rw [hts]; simp [hO.length]; omega
 rw [← hts,← hVe] at hV ⊢
 rw [← hts] at hpart
 have htb : ∀ x ∈ ts,x < 18446744073709551616:=by obtain ⟨_,_,_,_,_,_,_,h4,_⟩:=hpart; exact h4
 have hyb : ∀ x ∈ ys,x < 18446744073709551616:=by obtain ⟨_,_,_,_,_,_,_,h4,_⟩:=hY; exact h4
 have HY : Hid (Limbs .u64 18446744073709551616 w t ys):=hY
 have HP : Hid (Limbs .u64 18446744073709551616 w (.slice (some ⟨g,i,none⟩) m c) ts):=hpart
 have HO : Hid (OwnW .u64 22 w g L us):=hO
 obtain ⟨a0,n',c0,rfl,hn',hnc,hc0,-,hcell⟩:=hY
 obtain rfl : n' = n:=by omega
 obtain ⟨b,o,rfl,hb,hcc⟩:=hcell (by omega)
 have h1:=hO.cell (j:=i + n') (by omega)
 have h2:=hO.cell (j:=i + k) (by omega)
 have h3:=hcc k (by omega)
 have e1 : us.getD (i + n') 0 = ts.getD n' 0:=by rw [hts]; simp [List.getElem?_drop,show n' < m by omega]
 have e2 : us.getD (i + k) 0 = ts.getD k 0:=by rw [hts]; simp [List.getElem?_drop,show k < m by omega]
 rw [e1] at h1
 rw [e2] at h2
 obtain ⟨x,hx⟩ : ∃ x,x = ts.getD n' 0:=⟨_,rfl⟩
 obtain ⟨y,hy⟩ : ∃ y,y = ts.getD k 0:=⟨_,rfl⟩
 obtain ⟨z,hz⟩ : ∃ z,z = ys.getD k 0:=⟨_,rfl⟩
 rw [← hx] at h1
 rw [← hy] at h2
 rw [← hz] at h3
 have hxb : x < 18446744073709551616:=by rw [hx]; exact getD_lt (by decide) htb _
 have hyb' : y < 18446744073709551616:=by rw [hy]; exact getD_lt (by decide) htb _
 have hzb : z < 18446744073709551616:=by rw [hz]; exact getD_lt (by decide) hyb _
 have hz0 : 0 < z:=by
  rcases hnorm with h | h
  ·omega
  ·rw [hYn,hk,Nat.add_sub_cancel,← hz] at h; omega
 have hDe : z * 18446744073709551616 ^ k ≤ D:=by
  rw [← hD,lval_top _ ys k (by omega),← hz,Nat.mul_comm z]
  exact Nat.le_add_left _ _
 have hD0 : 0 < D:=Nat.lt_of_lt_of_le (Nat.mul_pos hz0 (Nat.pow_pos (by decide))) hDe
 have hVtop : V < (x * 18446744073709551616 + y + 1) * 18446744073709551616 ^ k:=by
  have q1:=lval_take_succ 18446744073709551616 ts k (by omega)
  have q2:=lval_top 18446744073709551616 ts n' htl
  rw [← hk] at q1
  have q3:=lval_lt (B:=18446744073709551616) (ts.take k) fun x hx=>htb x (List.mem_of_mem_take hx)
  rw [List.length_take,Nat.min_eq_left (by omega)] at q3
  rw [hVe,q2,q1,← hx,← hy,show 18446744073709551616 ^ n' = 18446744073709551616 ^ k * 18446744073709551616 by rw [hk]; exact Nat.pow_succ ..]
  obtain ⟨P,hP⟩ : ∃ P,18446744073709551616 ^ k = P:=⟨_,rfl⟩
  rw [hP] at q3 ⊢
  have r1 : P * 18446744073709551616 * x = x * 18446744073709551616 * P:=by ac_rfl
  rw [r1,Nat.mul_comm P y,Nat.add_mul,Nat.add_mul]
  omega
 have hQB : V / D < 18446744073709551616:=by rw [Nat.div_lt_iff_lt_mul hD0]; exact hV
 have hQtop:=digit_top (B:=18446744073709551616) (by decide) hz0 hVtop hDe
 have i1 : (n' : Int) < (m : Int):=by omega
 have i2 : (n' : Int) - 1 = (k : Int):=by omega
 have i3 : (k : Int) < (m : Int):=by omega
 have i4 : (k : Int) < (n' : Int):=by omega
 have hzI : (0 : Int) < z:=by omega
 have i5 : k ≤ 134217732:=by omega
 have i6 : n' ≤ 134217732:=by omega
 have i7 : IntKind.i64.wrap (k : Int) = (k : Int):=by rw [IntKind.wrap_i64]; omega
 have HQT : Hid (V / D ≤ (x * 18446744073709551616 + y) / z):=hQtop
 have HQB : Hid (V / D < 18446744073709551616):=hQB
 have H1 : Hid (w.cell? ⟨g,i + n',none⟩ = some (.int .u64 (x : Nat))):=h1
 have HYD : Hid (lval 18446744073709551616 ys = D):=hD
 have HYN : Hid (Norm ys):=hnorm
 have HV : Hid (V < 18446744073709551616 * D):=hV
 have HVE : Hid (V = lval 18446744073709551616 ts):=hVe
 have HTS : Hid (ts = (us.drop i).take m):=hts
 have HTB : Hid (∀ x ∈ ts,x < 18446744073709551616):=htb
 have HTL : Hid (ts.length = n' + 1):=htl
 have HYL : Hid (ys.length = n'):=hYn
 have HDB : Hid (D < 2 ^ (64 * n')):=by
  have:=lval_lt (B:=18446744073709551616) ys hyb
  rw [hD,hYn] at this
  show D < 2 ^ (64 * n')
  rw [Nat.pow_mul]; exact this
 have HMN : Hid (m = n' + 1 ∧ n' = k + 1):=⟨hm,hk⟩
 have HIL : Hid (i + (n' + 1) ≤ L ∧ L ≤ 67108800):=⟨hiL,hLb⟩
 clear hQtop hQB hus hcell hcc e1 e2 hDe hVtop hx hy hz hO hpart hgs hD hnorm hV hVe hts htb hyb htl hYn hm hk hiL hLb hn hn'
 go_enter Tryz.func217,Tryz.ntmps217
 go_upto_region 3 with fail
 go_quiet (fail)
 go_upto_if 19 with fail
 go_cut [6] (fun q wx=>∃ qq : Nat,q = .int .u64 (qq : Nat) ∧ V / D ≤ qq ∧ qq < 18446744073709551616 ∧ Below w.heap.size w wx)
 case first=>as_aux_lemma=>
  by_cases hxz : x < z
  ·have hxzI : (x : Int) < z:=by omega
   have hdiv:=fun w=>div64_quiet x y z w hyb' hzb hxz
   obtain ⟨q,hq⟩ : ∃ q,q = (x * 18446744073709551616 + y) / z:=⟨_,rfl⟩
   have hqt:=HQT.out
   rw [← hq] at hqt
   have hqb : q < 18446744073709551616:=by
    rw [hq,Nat.div_lt_iff_lt_mul hz0,Nat.mul_comm _ z]
    have:=Nat.mul_le_mul_right 18446744073709551616 (show x + 1 ≤ z from hxz)
    rw [Nat.add_mul] at this
    omega
   simp only [← hq] at hdiv
   have HDIV : Hid _:=hdiv
   have HQ : Hid (V / D ≤ q ∧ q < 18446744073709551616):=⟨hqt,hqb⟩
   clear hdiv hq hqt hqb
   go_wp2
   have HBq : Hid (Below w.heap.size w (w.drewN nq)):=(Below.refl _ _).drewN _
   have h1q : (w.drewN nq).cell? ⟨g,i + n',none⟩ = some (.int .u64 (x : Nat)):=h1
   have h2q : (w.drewN nq).cell? ⟨g,i + k,none⟩ = some (.int .u64 (y : Nat)):=h2
   have h3q : (w.drewN nq).cell? ⟨b,o + k,none⟩ = some (.int .u64 (z : Nat)):=h3
   clear h1 h2 h3
   generalize w.drewN nq = wq at *
   go_quiet ((go_at_call 207; refine Calls.quiet_of (HDIV.out _)))
   go_wp2
   go_meet
   exact ⟨q,rfl,HQ.out.1,HQ.out.2,HBq.out.drewN _⟩
  ·have hxzI : ¬ (x : Int) < z:=by omega
   go_wp2
   go_meet
   exact ⟨18446744073709551615,rfl,Nat.le_of_lt_succ HQB.out,by decide,(Below.refl _ _).drewN _⟩
 case rest=>
 obtain ⟨q0,rfl,hq0,hq0b,hbc⟩:=hcut
 have HBC : Hid (Below w.heap.size w wc):=hbc
 clear hbc h1 h2 h3 hxb hyb' hzb hz0 hzI i1 i2 i3 i4 i5 i6 i7
 go_wp2
 go_loopw [6] (fun q wr=>∃ qq : Nat,q = .int .u64 (qq : Nat) ∧ V / D ≤ qq ∧ qq < 18446744073709551616 ∧ Below w.heap.size w wr) (fun q _=>(intOf q).toNat)
 case atStart=>exact ⟨q0,rfl,hq0,hq0b,HBC.out⟩
 case round=>
  obtain ⟨qq,rfl,hqq,hqb,hbr⟩:=hrel
  clear HBC hq0 hq0b
  have HBR : Hid (Below w.heap.size w wr):=hbr
  have HQQ : Hid (V / D ≤ qq):=hqq
  have HQB2 : Hid (qq < 18446744073709551616):=hqb
  have HYW : Hid (Num .u64 18446744073709551616 wr (.slice (some ⟨b,o,none⟩) n' c0) D):=⟨ys,HY.out.below (Nat.le_refl _) hbr,HYD.out,HYN.out⟩
  have HPW : Hid (Limbs .u64 18446744073709551616 wr (.slice (some ⟨g,i,none⟩) m c) ts):=HP.out.below (Nat.le_refl _) hbr
  have HOW : Hid (OwnW .u64 22 wr g L us):=OwnW.far HO.out hbr (World.ownsRow.lt HO.out g rfl).2
  clear hbr hqq hqb
  have hfd:=Tryz.fieldW1
  go_wp2_with fail
  refine (word_any qq _ HQB2.out).mono ?_
  rintro e w1 ⟨v,rfl,⟨s,rfl,hnum,-⟩,hb1⟩
  have hYW1:=Num.below HYW.out (Nat.le_refl _) hb1
  have HN1 : Hid (Num .u64 18446744073709551616 w1 s qq):=hnum
  have HYW1 : Hid (Num .u64 18446744073709551616 w1 (.slice (some ⟨b,o,none⟩) n' c0) D):=hYW1
  have HB1 : Hid (Below wr.heap.size wr w1):=hb1
  clear hnum hYW1 hb1
  go_wp2_with fail
  refine (mul_any false false _ _ qq D _ HN1.out HYW1.out (bb:=64 * n') (Nat.lt_of_lt_of_le HQB2.out (by have:=HMN.out; exact (Nat.pow_le_pow_right (by decide) (by omega) : 2 ^ 64 ≤ 2 ^ (64 * n')))) HDB.out (by have:=HMN.out; have:=HIL.out; omega)).mono ?_
  rintro e w2 ⟨v,rfl,⟨s2,rfl,hnum,-⟩,hb2⟩
  obtain ⟨pa,pn,pc,rfl⟩:=hnum.shape
  have HN2 : Hid (Num .u64 18446744073709551616 w2 (.slice pa pn pc) (qq * D)):=hnum
  have HB2 : Hid (Below wr.heap.size wr w2):=HB1.out.trans (hb2.mono HB1.out.size)
  have HP2 : Hid (Limbs .u64 18446744073709551616 w2 (.slice (some ⟨g,i,none⟩) m c) ts):=HPW.out.below (Nat.le_refl _) HB2.out
  clear hnum hb2
  go_wp2_with fail
  have M:=made_any false _ ts _ HP2.out
  rw [← HVE.out] at M
  refine Calls.mono M ?_
  clear M
  rintro e w3 ⟨v,rfl,⟨s3,rfl,hnum,-⟩,hb3⟩
  obtain ⟨ta,tn,tc,rfl⟩:=hnum.shape
  have HN3 : Hid (Num .u64 18446744073709551616 w3 (.slice ta tn tc) V):=hnum
  have HP3 : Hid (Num .u64 18446744073709551616 w3 (.slice pa pn pc) (qq * D)):=Num.below HN2.out (Nat.le_refl _) hb3
  have HB3 : Hid (Below wr.heap.size wr w3):=HB2.out.trans (hb3.mono HB2.out.size)
  clear hnum hb3
  go_wp2_with fail
  refine (compare_any _ _ V (qq * D) _ HN3.out HP3.out).mono ?_
  rintro e w4 ⟨r,rfl,hr1,-,hb4⟩
  have HP4 : Hid (Num .u64 18446744073709551616 w4 (.slice pa pn pc) (qq * D)):=Num.below HP3.out (Nat.le_refl _) hb4
  have HB4 : Hid (Below wr.heap.size wr w4):=HB3.out.trans (hb4.mono HB3.out.size)
  have HR : Hid (r < 0 ↔ V < qq * D):=hr1
  clear hb4 hr1
  by_cases hr : r < 0
  ·have hr' : ¬ (0 : Int) ≤ r:=by omega
   have hlt:=HR.out.mp hr
   have hqs : V / D < qq:=by
    rw [Nat.div_lt_iff_lt_mul hD0]; exact hlt
   have HQS : Hid (V / D < qq):=hqs
   have hq1 : 1 ≤ qq:=Nat.lt_of_le_of_lt (Nat.zero_le _) hqs
   have hq2:=HQB2.out
   clear hlt hqs
   go_wp2
   go_roundw
   case rel=>exact ⟨qq - 1,by go_num,Nat.le_sub_one_of_lt HQS.out,by omega,HBR.out.trans (HB4.out.mono HBR.out.size)⟩
   case measure=>simp [intOf]; omega
  ·have hr' : (0 : Int) ≤ r:=by omega
   have hge : qq * D ≤ V:=Nat.le_of_not_lt fun h=>hr (HR.out.mpr h)
   have hqe : V / D = qq:=Nat.le_antisymm HQQ.out ((Nat.le_div_iff_mul_le hD0).mpr hge)
   have HQE : Hid (V / D = qq):=hqe
   have HP4b : Hid (Limbs .u64 18446744073709551616 w4 (.slice (some ⟨g,i,none⟩) m c) ts):=HPW.out.below (Nat.le_refl _) HB4.out
   obtain ⟨ps,hps,hpv,hpn⟩:=HP4.out
   have hplen : ps.length ≤ ts.length:=by
    refine Decidable.byContradiction fun hc=>?_
    have:=lval_longer (B:=18446744073709551616) (xs:=ps) (ys:=ts) (by omega) hpn HTB.out (by decide)
    rw [hpv,← HVE.out] at this
    omega
   have hmin:=minus_any _ _ ts ps _ HP4b.out hps hplen (by have:=HTL.out; have:=HIL.out; omega) (by rw [hpv,← HVE.out]; exact hge)
   rw [hpv,← HVE.out,HTL.out] at hmin
   have HMIN : Hid _:=hmin
   clear hge hqe hps hpv hpn hplen hmin
   go_wp2_with fail
   refine Calls.mono HMIN.out ?_
   rintro e w5 ⟨v,zs,rfl,hzl,hzn,hzv,hb5⟩
   obtain ⟨za,zn,zc,rfl,hzl2,-,-,hzb,hzcell⟩:=hzl
   rw [hzn] at hzl2
   subst hzl2
   obtain ⟨zb,zo,rfl,-,hzc⟩:=hzcell (by omega)
   have HB5 : Hid (Below w.heap.size w w5):=HBR.out.trans ((HB4.out.mono HBR.out.size).trans (hb5.mono (Nat.le_trans HBR.out.size HB4.out.size)))
   have HO5 : Hid (OwnW .u64 22 w5 g L us):=OwnW.far HO.out HB5.out (World.ownsRow.lt HO.out g rfl).2
   have HG5 : Hid _:=OwnW.heapRow HO5.out
   have HZC : Hid (∀ j v,(zs.map fun (x : Nat)=>Value.int .u64 x)[j]? = some v → w5.cell? ((⟨zb,zo,none⟩ : Addr).add j) = some v):=by
    intro j v hj
    have hjl : j < zs.length:=by
     have:=(List.getElem?_eq_some_iff.mp hj).1
     simpa using this
    rw [show (⟨zb,zo,none⟩ : Addr).add j = ⟨zb,zo + j,none⟩ by unfold Addr.add; split <;> simp_all]
    rw [hzc j (by omega),← hj]
    simp [List.getElem?_eq_getElem hjl]
   have HZN : Hid (zs.length = n' + 1):=hzn
   have HZB : Hid (∀ z ∈ zs,z < 18446744073709551616):=hzb
   have HZV : Hid (lval 18446744073709551616 zs = V - qq * D):=hzv
   clear hzcell hzc hzn hzb hzv hb5
   have hcop:=run_copy_row (P:=Tryz.prog) w5 39 39 3 22 g i m c ⟨zb,zo,none⟩ (n' + 1) zc _ 22 (zs.map fun (x : Nat)=>Value.int .u64 x) Tryz.underlying39 (by kernel_rfl) HG5.out (by rw [List.length_map,HZN.out]; have:=HMN.out; show _ = min _ _; omega) HZC.out (by rw [List.length_map,HZN.out]; simp [HO5.out.length]; have:=HIL.out; omega) (by intro v hv; obtain ⟨z,_,rfl⟩:=List.mem_map.mp hv; rfl)
   obtain ⟨CS,hCS⟩ : ∃ CS : Array Value,CS = ((us.map fun (x : Nat)=>Value.int .u64 x).take i ++ (zs.map fun (x : Nat)=>Value.int .u64 x) ++ (us.map fun (x : Nat)=>Value.int .u64 x).drop (i + (zs.map fun (x : Nat)=>Value.int .u64 x).length)).toArray:=⟨_,rfl⟩
   rw [show (us.map fun (x : Nat)=>Value.int .u64 x).toArray.toList = (us.map fun (x : Nat)=>Value.int .u64 x) from rfl,← hCS] at hcop
   have HCS : Hid _:=hCS
   clear hCS
   go_wp2
   go_ret
   refine ⟨by rw [HQE.out]; rfl,zs,HZN.out,HZB.out,by rw [HZV.out,HQE.out],?_,grown_setRow HB5.out _⟩
   have hgr:=setRow_heap w5 g _ CS _ _ HG5.out
   refine OwnW.ofRow (ys:=us.take i ++ zs ++ us.drop (i + (n' + 1))) ?_ ?_ (by have:=HIL.out; unfold maxLen; omega)
   ·rw [hgr,HCS.out]
    simp [HZN.out]
   ·have:=HIL.out
    have:=HZN.out
    have:=HO.out.length
    simp only [List.length_append,List.length_take,List.length_drop]
    omega
theorem heap_alloc4_0 (w : World) (A B C D : Obj) : ((((w.alloc A).alloc B).alloc C).alloc D).heap[w.heap.size]? = some A:=by
 rw [heap_alloc_old (((w.alloc A).alloc B).alloc C) D,heap_alloc3_0]
 simp; omega
theorem heap_alloc4_1 (w : World) (A B C D : Obj) : ((((w.alloc A).alloc B).alloc C).alloc D).heap[w.heap.size + 1]? = some B:=by
 rw [heap_alloc_old (((w.alloc A).alloc B).alloc C) D,heap_alloc3_1]
 simp
theorem heap_alloc4_2 (w : World) (A B C D : Obj) : ((((w.alloc A).alloc B).alloc C).alloc D).heap[w.heap.size + 2]? = some C:=by
 rw [heap_alloc_old (((w.alloc A).alloc B).alloc C) D,heap_alloc3_2]
 simp
theorem heap_alloc4_3 (w : World) (A B C D : Obj) : ((((w.alloc A).alloc B).alloc C).alloc D).heap[w.heap.size + 3]? = some D:=by
 have:=heap_alloc_new (((w.alloc A).alloc B).alloc C) D
 simpa using this
theorem below4 (w : World) (A B C D : Obj) : Below w.heap.size w ((((w.alloc A).alloc B).alloc C).alloc D):=
 ((((Below.refl _ _).alloc (Nat.le_refl _) _).alloc (by simp) _).alloc (by simp; omega) _).alloc (by simp; omega) _
def QuoQ (Q R : Nat) (w : World) (e : Ending) (w' : World) : Prop:=∃ v v',e = .returned (.tuple #[v,v']) ∧ Wide w' v false Q ∧ Wide w' v' false R ∧ Below w.heap.size w w'
theorem quo_end {fn : Func} {p u : Tmp} (h : fn.results = #[.cell p 123, .cell u 123]) {tmps : Array Value} {w0 w : World} {g g' : Nat} {s s' : Value} {Q R : Nat}
  (hp : tmps.getD p undef = .pointer (some ⟨g,0,none⟩)) (hp' : tmps.getD u undef = .pointer (some ⟨g',0,none⟩))
  (hg : w.heap[g]? = some (.cells #[.bool false,s] 123 (0,0))) (hg' : w.heap[g']? = some (.cells #[.bool false,s'] 123 (0,0)))
  (hs : Num .u64 18446744073709551616 w s Q) (hs' : Num .u64 18446744073709551616 w s' R) (hb : Below w0.heap.size w0 w) : bodyPost Tryz.prog fn (QuoQ Q R w0) .ret ⟨tmps,[]⟩ w:=
 bodyPost_ret (int_row_row h _ _ g g' _ _ _ _ hp hg hp' hg') rfl ⟨_,_,rfl,⟨_,rfl,hs,by simp⟩,⟨_,rfl,hs',by simp⟩,hb⟩
theorem quo_store {w : World} {g g' : Nat} {x x' : Bool} {a a' b b' : Option Addr} {n c n' c' m d m' d' : Nat} {t t' : TypeId} {Q R : Nat} (hg : w.heap[g]? = some (.cells #[.bool x, .slice a n c] t (0, 0))) (hg' : w.heap[g']? = some (.cells #[.bool x', .slice a' n' c'] t' (0, 0)))
  (hne : g ≠ g') (hs : Num .u64 18446744073709551616 w (.slice b m d) Q) (hs' : Num .u64 18446744073709551616 w (.slice b' m' d') R) (y y' : Bool) :
  let wf:=(((w.setCell ⟨g,0,none⟩ (.bool y)).setCell ⟨g,1,none⟩ (.slice b m d)).setCell ⟨g',0,none⟩ (.bool y')).setCell ⟨g',1,none⟩ (.slice b' m' d')
  wf.heap[g]? = some (.cells #[.bool y,.slice b m d] t (0,0)) ∧ wf.heap[g']? = some (.cells #[.bool y',.slice b' m' d'] t' (0,0)) ∧
   Num .u64 18446744073709551616 wf (.slice b m d) Q ∧ Num .u64 18446744073709551616 wf (.slice b' m' d') R:=by
 have h1:=row2_set hg (.bool y) (.slice b m d)
 have h2:=row2_other (g:=g) hg' (Ne.symm hne) (.bool y) (.slice b m d)
 exact ⟨row2_other h1 hne _ _,row2_set h2 _ _,(hs.row hg _ _).row h2 _ _,(hs'.row hg _ _).row h2 _ _⟩
theorem num_zero (w : World) : Num .u64 18446744073709551616 w (.slice none 0 0) 0:=⟨[],⟨_,0,0,rfl,rfl,Nat.le_refl _,by decide,by simp,fun h=>absurd h (by omega)⟩,rfl,.inl rfl⟩
set_option maxHeartbeats 1000000 in
theorem quo_none (s t : Value) (M D : Nat) (w : World) (h : Num .u64 18446744073709551616 w s M) (h' : Num .u64 18446744073709551616 w t D) (hlt : M < D ∨ D = 0) :
  Calls Tryz.prog 162 #[.agg #[.bool false,s],.agg #[.bool false,t]] w (QuoQ 0 M w):=by
 obtain ⟨a,m,c,rfl⟩:=h.shape
 obtain ⟨a',m',c',rfl⟩:=h'.shape
 have HM : Hid (Num .u64 18446744073709551616 w (.slice a m c) M):=h
 have hz : D = 0 ↔ m' = 0:=by
  obtain ⟨ys,⟨_,_,_,e,e1,_⟩,rfl,hn⟩:=h'
  cases e
  rw [norm_zero hn (by decide),e1]
 have HM' : Hid (Num .u64 18446744073709551616 w (.slice a' m' c') D):=h'
 clear h h'
 by_cases hm0 : m' = 0
 ·subst hm0
  clear hz hlt
  go_enter Tryz.func162,Tryz.ntmps162
  go_wp2
  go_region
  go_wp2
  have hb:=below4 w (.cells #[.bool false,.slice a m c] 123) (.cells #[.bool false,.slice a' 0 c'] 123) (.cells #[.bool false,.slice none 0 0] 123) (.cells #[.bool false,.slice a m c] 123)
  exact quo_end rfl rfl rfl (heap_alloc4_2 w _ _ _ _) (heap_alloc4_3 w _ _ _ _) (num_zero _) (Num.below HM.out (Nat.le_refl _) hb.drew) hb.drew
 ·have hmI : ((m' : Int) == 0) = false:=by simp; omega
  have hMD : M < D:=by omega
  have HMD : Hid (M < D):=hMD
  clear hz hlt hMD
  go_enter Tryz.func162,Tryz.ntmps162
  go_wp2_with fail
  have hb:=below4 w (.cells #[.bool false,.slice a m c] 123) (.cells #[.bool false,.slice a' m' c'] 123) (.cells #[.bool false,.slice none 0 0] 123) (.cells #[.bool false,.slice none 0 0] 123)
  refine (compare_any _ _ M D _ (Num.below HM.out (Nat.le_refl _) hb) (Num.below HM'.out (Nat.le_refl _) hb)).mono ?_
  rintro e w5 ⟨r,rfl,hr,-,hb5⟩
  have hr0 : r < 0:=hr.mpr HMD.out
  have HBB : Hid (Below w.heap.size w w5):=hb.trans (hb5.mono (by simp; omega))
  have r0 : Hid _:=hb5.blk (heap_alloc4_0 w _ _ _ _) (by simp; omega)
  have r1 : Hid _:=hb5.blk (heap_alloc4_1 w _ _ _ _) (by simp)
  have r2 : Hid _:=hb5.blk (heap_alloc4_2 w _ _ _ _) (by simp)
  have r3 : Hid _:=hb5.blk (heap_alloc4_3 w _ _ _ _) (by simp)
  obtain ⟨x0,x1,x2,x3,x4,x5⟩:=row2 r0.out
  obtain ⟨y0,y1,y2,y3,y4,y5⟩:=row2 r2.out
  obtain ⟨z0,z1,z2,z3,z4,z5⟩:=row2 r3.out
  clear hb hb5 hr
  go_wp2
  go_region
  go_wp2
  obtain ⟨f1,f2,f3,f4⟩:=quo_store r2.out r3.out (by omega) (num_zero w5) (Num.below HM.out (Nat.le_refl _) HBB.out) false false
  exact quo_end rfl rfl rfl f1 f2 f3 f4 ((below_row (below_row HBB.out (by omega) _ _) (by omega) _ _).drew)
end Go.Proofs.YtlbokicainimnaaGreatDoor
