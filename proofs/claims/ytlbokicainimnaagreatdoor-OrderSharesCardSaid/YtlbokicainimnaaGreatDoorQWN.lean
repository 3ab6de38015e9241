import Derived.Test.YtlbokicainimnaaGreatDoorQWL
import Derived.Deep.RegionHeld3
set_option maxRecDepth 100000
namespace Go.Proofs.YtlbokicainimnaaGreatDoor
open Go.RowKit
set_option maxHeartbeats 2000000 in
theorem quo_word (s t : Value) (M D : Nat) (w : World) (h : Num .u64 18446744073709551616 w s M) (h' : Num .u64 18446744073709551616 w t D) (hle : D ≤ M) (hD0 : 0 < D) (hD1 : D < 18446744073709551616) {bb : Nat} (hM : M < 2 ^ bb) (hbb : bb ≤ 4294967296) :
  Calls Tryz.prog 162 #[.agg #[.bool false,s],.agg #[.bool false,t]] w (QuoQ (M / D) (M % D) w):=by
 obtain ⟨a,m,c,rfl⟩:=h.shape
 have HM : Hid (Num .u64 18446744073709551616 w (.slice a m c) M):=h
 have HM' : Hid (Num .u64 18446744073709551616 w t D):=h'
 obtain ⟨ys,⟨a',m',c',rfl,hl,-,-,hy,hcell⟩,hv,hn⟩:=h'
 have hm1 : m' = 1:=by
  by_cases h0 : m' = 0
  ·subst h0
   rw [List.eq_nil_of_length_eq_zero hl] at hv
   simp [lval] at hv; omega
  ·have:=norm_length (s:=64) (xs:=ys) hn (b:=64) (by rw [show (2 ^ 64 : Nat) = 18446744073709551616 from rfl,hv]; exact hD1) (by omega)
   omega
 subst hm1
 have hDe : ys.getD 0 0 = D:=by
  match ys,hl with
  | [y],_=>simpa [lval] using hv
 obtain ⟨b,o,rfl,hb,hcc⟩:=hcell (by omega)
 have h1 : w.cell? ⟨b,o,none⟩ = some (.int .u64 (D : Nat)):=by
  have:=hcc 0 (by omega)
  rw [hDe] at this
  exact this
 have HSH : Hid (∀ W,Below w.heap.size w W → Calls Tryz.prog 152 #[.agg #[.bool false,.slice a m c],.int .u64 (D : Nat)] W (ShortQ (M / D) (M % D) W)):=
  fun W hW=>short_any false _ M D W (Num.below HM.out (Nat.le_refl _) hW) hD0 hD1 hM hbb
 have HLE : Hid (D ≤ M):=hle
 have HD1 : Hid (D < 18446744073709551616):=hD1
 clear h hl hy hcell hv hn hDe hcc hle hM hbb hD1
 go_enter Tryz.func162,Tryz.ntmps162
 go_wp2_with fail
 have hb:=below4 w (.cells #[.bool false,.slice a m c] 123) (.cells #[.bool false,.slice (some ⟨b,o,none⟩) 1 c'] 123) (.cells #[.bool false,.slice none 0 0] 123) (.cells #[.bool false,.slice none 0 0] 123)
 refine (compare_any _ _ M D _ (Num.below HM.out (Nat.le_refl _) hb) (Num.below HM'.out (Nat.le_refl _) hb)).mono ?_
 rintro e w5 ⟨r,rfl,hr,-,hb5⟩
 have hr0 : ¬ r < 0:=fun h=>by have:=hr.mp h; have:=HLE.out; omega
 have HBB : Hid (Below w.heap.size w w5):=hb.trans (hb5.mono (by simp; omega))
 have r0 : Hid _:=hb5.blk (heap_alloc4_0 w _ _ _ _) (by simp; omega)
 have r1 : Hid _:=hb5.blk (heap_alloc4_1 w _ _ _ _) (by simp)
 have r2 : Hid _:=hb5.blk (heap_alloc4_2 w _ _ _ _) (by simp)
 have r3 : Hid _:=hb5.blk (heap_alloc4_3 w _ _ _ _) (by simp)
 have hsz : w.heap.size + 4 ≤ w5.heap.size:=by have:=hb5.size; simp at this; omega
 have h2:=(HBB.out.cell (p:=⟨b,o,none⟩) (by assumption)).trans h1
 obtain ⟨x0,x1,x2,x3,x4,x5⟩:=row2 r0.out
 obtain ⟨y0,y1,y2,y3,y4,y5⟩:=row2 r1.out
 have HSZ : Hid (w.heap.size + 4 ≤ w5.heap.size):=hsz
 have HSW : Hid (w.heap.size ≤ w5.heap.size):=HBB.out.size
 clear hb5 hr h1 hsz
 go_upto_region 4 with fail
 go_cut [6,7] (fun p q wx=>∃ G s1 s2 s3,p = .pointer (some ⟨G,0,none⟩) ∧ q = .int .u64 (M % D : Nat) ∧ wx.heap[G]? = some (.cells #[.bool false,.slice s1 s2 s3] 123 (0,0)) ∧ Num .u64 18446744073709551616 wx (.slice s1 s2 s3) (M / D) ∧ Below w5.heap.size w5 wx ∧ w5.heap.size ≤ G)
 case first=>as_aux_lemma=>
  obtain ⟨QQ,eQQ⟩ : ∃ QQ,QQ = M / D:=⟨_,rfl⟩
  obtain ⟨RR,eRR⟩ : ∃ RR,RR = M % D:=⟨_,rfl⟩
  rw [← eQQ,← eRR] at HSH
  have HQQ : Hid (QQ = M / D):=eQQ
  have HRR : Hid (RR = M % D):=eRR
  clear eQQ eRR
  have al : ∀ g o v,g < w5.heap.size → w5.cell? ⟨g,o,none⟩ = some v → (w5.alloc (.cells #[.bool false,.slice none 0 0] 123)).cell? ⟨g,o,none⟩ = some v:=fun g o v hg h=>by
   rw [World.cell?_alloc_past _ _ _ hg]; exact h
  have ax2:=al _ _ _ (by have:=HSZ.out; omega) x2
  have ax3:=al _ _ _ (by have:=HSZ.out; omega) x3
  have ay3:=al _ _ _ (by have:=HSZ.out; omega) y3
  have ah2:=al _ _ _ (by have:=HSW.out; omega) h2
  clear al
  clear hb x0 x1 y0 y1 x4 x5 y4 y5 HM HM'
  go_region_with (go_at_call 152; refine (HSH.out _ (by first | exact HBB.out | exact HBB.out.drewN _ | exact HBB.out.alloc HSW.out _ | exact (HBB.out.alloc HSW.out _).drewN _)).mono ?_; rintro e w6 ⟨v,rfl,⟨s,rfl,hnum,-⟩,hb6⟩; obtain ⟨s1,s2,s3,rfl⟩:=hnum.shape; try (have hq:=hb6.blk (heap_alloc_new _ _) (by simp); obtain ⟨q0,q1,q2,q3,q4,q5⟩:=row2 hq))
  all_goals go_wp2
  all_goals go_meet
  all_goals
   have hA : Below w5.heap.size w5 w6:=by
    first
     | exact (Below.refl w5.heap.size w5).trans (hb6.mono (by simp))
     | exact ((Below.refl w5.heap.size w5).drew).trans (hb6.mono (by simp))
     | exact ((Below.refl w5.heap.size w5).alloc (Nat.le_refl _) _).trans (hb6.mono (by simp))
     | exact (((Below.refl w5.heap.size w5).alloc (Nat.le_refl _) _).drew).trans (hb6.mono (by simp))
   first
    | exact ⟨_,s1,s2,s3,rfl,by rw [HRR.out],heap_alloc_new w6 _,by rw [← HQQ.out]; exact hnum.below (Nat.le_refl _) ((Below.refl _ _).alloc (Nat.le_refl _) _),hA.alloc hA.size _,hA.size⟩
    | exact ⟨_,s1,s2,s3,rfl,by rw [HRR.out],row2_set hq _ _,by rw [← HQQ.out]; exact hnum.row hq _ _,below_row hA (Nat.le_refl _) _ _,Nat.le_refl _⟩
 case rest=>
 obtain ⟨G,s1,s2,s3,rfl,rfl,hgr,hgn,hbc,hG⟩:=hcut
 have HGR : Hid _:=hgr
 have HGN : Hid (Num .u64 18446744073709551616 wc (.slice s1 s2 s3) (M / D)):=hgn
 have HBC : Hid (Below w5.heap.size w5 wc):=hbc
 have HG : Hid (w5.heap.size ≤ G):=hG
 have R2 : Hid (wc.heap[w.heap.size + 2]? = _):=hbc.blk r2.out (by have:=HSZ.out; omega)
 have R3 : Hid (wc.heap[w.heap.size + 3]? = _):=hbc.blk r3.out (by have:=HSZ.out; omega)
 have hlt : ∀ {w : World} {g x},w.heap[g]? = some x → g < w.heap.size:=fun h=>(Array.getElem?_eq_some_iff.mp h).1
 have HL1 : Hid (G < wc.heap.size):=hlt hgr
 have HL2 : Hid (w.heap.size + 2 < wc.heap.size):=hlt R2.out
 have HL3 : Hid (w.heap.size + 3 < wc.heap.size):=hlt R3.out
 obtain ⟨g0,g1,g2,g3,-,-⟩:=row2 hgr
 obtain ⟨RR,eRR⟩ : ∃ RR,RR = M % D:=⟨_,rfl⟩
 have HRR : Hid (RR = M % D):=eRR
 have HWD : Hid (∀ W,Calls Tryz.prog 103 #[.int .u64 (RR : Nat)] W (WideQ false RR W)):=fun W=>word_any RR W (by rw [eRR]; exact Nat.lt_trans (Nat.mod_lt _ hD0) HD1.out)
 rw [← eRR]
 clear hgr hgn hbc hG hlt x0 x1 x2 x3 x4 x5 y0 y1 y2 y3 y4 y5 h2 hb HM HM' eRR r0 r1 r2 r3
 go_upto_region 5 with fail
 go_region_with (go_at_call 103; refine (HWD.out _).mono ?_; rintro e w7 ⟨v,rfl,⟨s,rfl,hnum,-⟩,hb7⟩; obtain ⟨t1,t2,t3,rfl⟩:=hnum.shape; have k1 : Hid _:=hb7.blk HGR.out HL1.out; have k2 : Hid _:=hb7.blk R2.out HL2.out; have k3 : Hid _:=hb7.blk R3.out HL3.out; obtain ⟨b0,b1,b2,b3,b4,b5⟩:=row2 k1.out; obtain ⟨c0,c1,c2,c3,c4,c5⟩:=row2 k2.out; obtain ⟨d0,d1,d2,d3,d4,d5⟩:=row2 k3.out; have HN7 : Hid _:=hnum; have hA : Below wc.heap.size wc w7:=(by first | exact (Below.refl wc.heap.size wc).trans (hb7.mono (by simp)) | exact ((Below.refl wc.heap.size wc).drew).trans (hb7.mono (by simp))); have HA : Hid _:=hA; clear hnum hb7 hA)
 all_goals go_wp2
 all_goals
  obtain ⟨f1,f2,f3,f4⟩:=quo_store k2.out k3.out (by omega) (Num.below HGN.out (Nat.le_refl _) HA.out) HN7.out false false
  rw [← HRR.out]
  exact quo_end rfl rfl rfl f1 f2 f3 f4 (below_row (below_row (HBB.out.trans ((HBC.out.mono HSW.out).trans (HA.out.mono (Nat.le_trans HSW.out HBC.out.size)))) (by omega) _ _) (by omega) _ _)
theorem norm_count {B : Nat} {xs : List Nat} {k : Nat} (hB : 1 < B) (hx : ∀ x ∈ xs,x < B) (hn : Norm xs) (h1 : B ^ k ≤ lval B xs) (h2 : lval B xs < B ^ (k + 1)) : xs.length = k + 1:=by
 have a:=lval_lt xs hx
 have b : k < xs.length:=(Nat.pow_lt_pow_iff_right hB).mp (Nat.lt_of_le_of_lt h1 a)
 rcases hn with hn | hn
 ·omega
 have c:=lval_take_succ B xs (xs.length - 1) (by omega)
 rw [show xs.length - 1 + 1 = xs.length by omega,List.take_length] at c
 have d:=Nat.le_mul_of_pos_right (B ^ (xs.length - 1)) (show 0 < xs.getD (xs.length - 1) 0 by omega)
 have e : B ^ (xs.length - 1) < B ^ (k + 1):=by omega
 have:=(Nat.pow_lt_pow_iff_right hB).mp e
 omega
theorem quo_begin {X M D s m n : Nat} {us : List Nat} (hX : X = M * 2 ^ s) (hM : M < 18446744073709551616 ^ m) (hD : 18446744073709551616 ^ (n - 1) ≤ D) (hn : 1 ≤ n) (hnm : n ≤ m) (hl : us.length = m + 1) (hu : ∀ u ∈ us, u < 18446744073709551616) (hv : lval 18446744073709551616 us = X) :
  QuoInv 18446744073709551616 X (D * 2 ^ s) n (m + 1) (m + 1 - n) us (List.replicate (m + 1 - n) 0):=by
 refine ⟨hl,hu,by simp; omega,?_,?_,?_,?_⟩
 ·intro z hz
  simp at hz
  omega
 ·rw [List.drop_eq_nil_of_le (by simp),hv]; simp [lval]
 ·have h1:=lval_take_drop 18446744073709551616 us (m + 1 - n) (by omega)
  rw [hv] at h1
  have hp : 0 < 18446744073709551616 ^ (m + 1 - n):=Nat.pow_pos (by decide)
  have h2 : lval 18446744073709551616 (us.drop (m + 1 - n)) * 18446744073709551616 ^ (m + 1 - n) ≤ X:=by rw [Nat.mul_comm]; omega
  have h3 : X < D * 2 ^ s * 18446744073709551616 ^ (m + 1 - n):=by
   rw [hX]
   refine Nat.lt_of_lt_of_le (Nat.mul_lt_mul_of_pos_right hM (Nat.two_pow_pos s)) ?_
   have e : 18446744073709551616 ^ m = 18446744073709551616 ^ (n - 1) * 18446744073709551616 ^ (m + 1 - n):=by rw [← Nat.pow_add]; congr 1; omega
   rw [e]
   have:=Nat.mul_le_mul_right (2 ^ s * 18446744073709551616 ^ (m + 1 - n)) hD
   calc 18446744073709551616 ^ (n - 1) * 18446744073709551616 ^ (m + 1 - n) * 2 ^ s = 18446744073709551616 ^ (n - 1) * (2 ^ s * 18446744073709551616 ^ (m + 1 - n)):=by ac_rfl
    _ ≤ D * (2 ^ s * 18446744073709551616 ^ (m + 1 - n)):=this
    _ = D * 2 ^ s * 18446744073709551616 ^ (m + 1 - n):=by ac_rfl
  exact Nat.lt_of_mul_lt_mul_right (Nat.lt_of_le_of_lt h2 h3)
 ·intro j hj
  simp [List.getElem?_eq_none (show us.length ≤ j by omega)]
theorem OwnW.otherset {k : IntKind} {e : TypeId} {w : World} {g L g' j : Nat} {ys : List Nat} (h : OwnW k e w g L ys) (hne : g ≠ g') (u : Value) : OwnW k e (w.setCell ⟨g',j,none⟩ u) g L ys:=by
 have hl:=h.length
 have hm : L ≤ maxLen:=by
  obtain ⟨h1,h2⟩:=h
  rcases h2 with ⟨h2,_⟩ | ⟨g'',cap,cur,h2,h3,h4,h5,h6,_⟩
  ·simp at h2
  ·simp only [Value.slice.injEq] at h2
   obtain ⟨_,_,rfl⟩:=h2
   exact h6
 exact OwnW.ofRow ((heap_setCell_other w _ _ _ (by exact hne)).trans h.heapRow) hl hm
set_option maxHeartbeats 4000000 in
theorem quo_long (s t : Value) (M D : Nat) (w : World) (h : Num .u64 18446744073709551616 w s M) (h' : Num .u64 18446744073709551616 w t D) (hle : D ≤ M) (hD1 : 18446744073709551616 ≤ D) {bb : Nat} (hM : M < 2 ^ bb) (hbb : bb ≤ 4294900000) :
  Calls Tryz.prog 162 #[.agg #[.bool false,s],.agg #[.bool false,t]] w (QuoQ (M / D) (M % D) w):=by
 have HM : Hid (Num .u64 18446744073709551616 w s M):=h
 have HM' : Hid (Num .u64 18446744073709551616 w t D):=h'
 obtain ⟨xs,⟨a,m,c,rfl,hl,hmc,hc,hx,hcell⟩,hxv,hxn⟩:=h
 obtain ⟨ys,⟨a',n,c',rfl,hl',hmc',hc',hy,hcell'⟩,hyv,hyn⟩:=h'
 have hml : m ≤ 67107813:=by
  by_cases h0 : 0 < m
  ·have:=norm_length (s:=64) (xs:=xs) hxn (b:=bb) (by rw [show (2 ^ 64 : Nat) = 18446744073709551616 from rfl,hxv]; exact hM) (by omega)
   omega
  ·omega
 have hnm : n ≤ m:=by
  refine Decidable.byContradiction fun hc=>?_
  have:=lval_longer (B:=18446744073709551616) (xs:=ys) (ys:=xs) (by omega) hyn hx (by decide)
  omega
 have hn2 : 2 ≤ n:=by
  refine Decidable.byContradiction fun hc=>?_
  have:=lval_lt (B:=18446744073709551616) ys hy
  rw [hyv,hl'] at this
  have : 18446744073709551616 ^ n ≤ 18446744073709551616 ^ 1:=Nat.pow_le_pow_right (by decide) (by omega)
  omega
 have hMB : M < 18446744073709551616 ^ m:=by rw [← hxv,← hl]; exact lval_lt xs hx
 have hDB : 18446744073709551616 ^ (n - 1) ≤ D:=by
  have:=lval_top 18446744073709551616 ys (n - 1) (by omega)
  rw [hyv] at this
  rcases hyn with z | z
  ·omega
  ·rw [hl'] at z
   have:=Nat.le_mul_of_pos_right (18446744073709551616 ^ (n - 1)) (show 0 < ys.getD (n - 1) 0 by omega)
   omega
 obtain ⟨b,o,rfl,hb,hcc⟩:=hcell' (by omega)
 obtain ⟨z,hz⟩ : ∃ z,z = ys.getD (n - 1) 0:=⟨_,rfl⟩
 have h1:=hcc (n - 1) (by omega)
 rw [← hz] at h1
 have hzb : z < 18446744073709551616:=by rw [hz]; exact getD_lt (by decide) hy _
 have hz0 : z ≠ 0:=by
  rcases hyn with q | q
  ·omega
  ·rw [hl',← hz] at q; exact q
 obtain ⟨sh,hsh⟩ : ∃ sh,sh = 64 - blen z:=⟨_,rfl⟩
 obtain ⟨p1,p2,p3⟩:=blen_pos hz0
 have hb64 : blen z ≤ 64:=blen_le (by simpa using hzb)
 have hs63 : sh ≤ 63:=by omega
 have HLZ : Hid (∀ W,Calls Tryz.prog 216 #[.int .u64 z] W fun e w'=>e = .returned (.int .i64 (sh : Nat)) ∧ W = w'):=by
  intro W; rw [hsh]; exact lz_any z W hzb
 have hDt : D < (z + 1) * 18446744073709551616 ^ (n - 1):=by
  have q:=lval_top 18446744073709551616 ys (n - 1) (by omega)
  have q2:=lval_lt (B:=18446744073709551616) (ys.take (n - 1)) fun x hx=>hy x (List.mem_of_mem_take hx)
  rw [List.length_take,Nat.min_eq_left (by omega)] at q2
  rw [hyv,← hz] at q
  rw [Nat.add_mul,Nat.mul_comm z]
  omega
 have HDS : Hid (D * 2 ^ sh < 18446744073709551616 ^ n):=by
  have e1 : (z + 1) * 2 ^ sh ≤ 18446744073709551616:=by
   have:=Nat.mul_le_mul_right (2 ^ sh) (show z + 1 ≤ 2 ^ blen z from p2)
   rw [← Nat.pow_add,show blen z + sh = 64 by omega] at this
   exact this
  have e2:=Nat.mul_lt_mul_of_pos_right hDt (Nat.two_pow_pos sh)
  have e3:=Nat.mul_le_mul_right (18446744073709551616 ^ (n - 1)) e1
  show D * 2 ^ sh < 18446744073709551616 ^ n
  have e4 : 18446744073709551616 ^ n = 18446744073709551616 * 18446744073709551616 ^ (n - 1):=by rw [← Nat.pow_succ']; congr 1; omega
  rw [e4]
  calc D * 2 ^ sh < (z + 1) * 18446744073709551616 ^ (n - 1) * 2 ^ sh:=e2
   _ = (z + 1) * 2 ^ sh * 18446744073709551616 ^ (n - 1):=by ac_rfl
   _ ≤ _:=e3
 have HMS : Hid (M * 2 ^ sh < 18446744073709551616 ^ (m + 1)):=by
  show M * 2 ^ sh < 18446744073709551616 ^ (m + 1)
  rw [Nat.pow_succ]
  have : 2 ^ sh ≤ 18446744073709551616:=by
   have : 2 ^ sh ≤ 2 ^ 64:=Nat.pow_le_pow_right (by decide) (by omega)
   simpa using this
  exact Nat.lt_of_lt_of_le (Nat.mul_lt_mul_of_pos_right hMB (Nat.two_pow_pos sh)) (Nat.mul_le_mul_left _ this)
 have HLE : Hid (D ≤ M):=hle
 have HMb : Hid (M < 2 ^ bb):=hM
 have HMB : Hid (M < 18446744073709551616 ^ m ∧ 18446744073709551616 ^ (n - 1) ≤ D):=⟨hMB,hDB⟩
 have hD0 : 0 < D:=by omega
 have i1 : ((n : Int) == 0) = false:=by simp; omega
 have i2 : ((n : Int) == 1) = false:=by simp; omega
 clear hx hcell hxv hxn hl hl' hmc hmc' hc hc' hy hcell' hyv hyn hcc hz hsh p1 p2 p3 hb64 hDt hMB hDB hle hM hD1 hzb hz0
 go_enter Tryz.func162,Tryz.ntmps162
 go_wp2_with fail
 have hb:=below4 w (.cells #[.bool false,.slice a m c] 123) (.cells #[.bool false,.slice (some ⟨b,o,none⟩) n c'] 123) (.cells #[.bool false,.slice none 0 0] 123) (.cells #[.bool false,.slice none 0 0] 123)
 refine (compare_any _ _ M D _ (Num.below HM.out (Nat.le_refl _) hb) (Num.below HM'.out (Nat.le_refl _) hb)).mono ?_
 rintro e w5 ⟨r,rfl,hr,-,hb5⟩
 have hr0 : ¬ r < 0:=fun h=>by have:=hr.mp h; have:=HLE.out; omega
 have HBB : Hid (Below w.heap.size w w5):=hb.trans (hb5.mono (by simp; omega))
 have r0 : Hid _:=hb5.blk (heap_alloc4_0 w _ _ _ _) (by simp; omega)
 have r1 : Hid _:=hb5.blk (heap_alloc4_1 w _ _ _ _) (by simp)
 have r2 : Hid _:=hb5.blk (heap_alloc4_2 w _ _ _ _) (by simp)
 have r3 : Hid _:=hb5.blk (heap_alloc4_3 w _ _ _ _) (by simp)
 have hsz : w.heap.size + 4 ≤ w5.heap.size:=by have:=hb5.size; simp at this; omega
 have h2:=(HBB.out.cell (p:=⟨b,o + (n - 1),none⟩) (by assumption)).trans h1
 obtain ⟨x0,x1,x2,x3,x4,x5⟩:=row2 r0.out
 obtain ⟨y0,y1,y2,y3,y4,y5⟩:=row2 r1.out
 have HSZ : Hid (w.heap.size + 4 ≤ w5.heap.size):=hsz
 clear hb5 hr h1 hsz hb x0 x1 x4 x5 y0 y1 y4 y5
 have hfd:=Tryz.fieldW1
 go_wp2_with fail
 refine (HLZ.out _).mono ?_
 rintro e w' ⟨rfl,rfl⟩
 go_wp2_with fail
 refine (left_any false _ D 0 sh _ _ (Num.below HM'.out (Nat.le_refl _) HBB.out) (by omega) (by omega) (by decide) (Nat.lt_of_le_of_lt HLE.out HMb.out) (by omega)).mono ?_
 rw [Nat.mul_zero,Nat.zero_add]
 rintro e w6 ⟨v,rfl,⟨s6,rfl,hden,-⟩,hb6⟩
 obtain ⟨da,dn,dc,rfl⟩:=hden.shape
 have HDEN6 : Hid (Num .u64 18446744073709551616 w6 (.slice da dn dc) (D * 2 ^ sh)):=hden
 have hdn : dn = n:=by
  obtain ⟨ds,⟨_,_,_,e0,e1,_,_,e4,_⟩,e5,e6⟩:=hden
  cases e0
  have:=norm_count (B:=18446744073709551616) (k:=n - 1) (by decide) e4 e6 (by rw [e5]; exact Nat.le_trans HMB.out.2 (Nat.le_mul_of_pos_right _ (Nat.two_pow_pos sh))) (by rw [e5,show n - 1 + 1 = n by omega]; exact HDS.out)
  omega
 subst hdn
 have HB6 : Hid (Below w5.heap.size w5 w6):=hb6
 have hs6 : w5.heap.size ≤ w6.heap.size:=hb6.size
 obtain ⟨x0,x1,x2,x3,-,-⟩:=row2 (hb6.blk r0.out (by have:=HSZ.out; omega))
 clear hden hb6 h2 y2 y3
 obtain ⟨i0,hi,hz0,hz1,hz2⟩:=info_parts Tryz.infoW
 go_wp2_with (at_make; refine wpList_make_full _ rfl _ _ 39 rfl w6.heap.size 22 i0 (.int .u64 0) 1 Tryz.underlying39 hi hz0 hz1 .i64 .i64 _ _ (m + 1) rfl rfl (by omega) (by omega) (by rw [hz2]; omega) (by unfold maxLen; omega) (by simp) ?_; intro w7 hown hgrow; have hbel : Below w6.heap.size w6 w7:=(Below.refl _ _).grown hgrow (by simp) (by simp); obtain ⟨x0',x1',x2',x3',-,-⟩:=row2 (hbel.blk (HB6.out.blk r0.out (by have:=HSZ.out; omega)) (by have:=HSZ.out; omega)); have hown' : OwnW .u64 22 w7 w6.heap.size (m + 1) (List.replicate (m + 1) 0):=OwnW.made (by simpa using hown); have HOWN7 : Hid _:=hown'; have HBEL7 : Hid _:=hbel; clear hown hgrow hown' hbel x0 x1 x2 x3)
 have HB7 : Hid (Below w.heap.size w w7):=HBB.out.trans ((HB6.out.mono (by have:=HSZ.out; omega)).trans (HBEL7.out.mono (by have:=HSZ.out; omega)))
 refine (left_any false _ M 0 sh _ _ (Num.below HM.out (Nat.le_refl _) HB7.out) (by omega) (by omega) (by decide) HMb.out (by omega)).mono ?_
 rw [Nat.mul_zero,Nat.zero_add]
 rintro e w8 ⟨v,rfl,⟨s8,rfl,hnum,-⟩,hb8⟩
 obtain ⟨pa,pn,pc,rfl⟩:=hnum.shape
 have hX0 : 0 < M * 2 ^ sh:=Nat.mul_pos (by have:=HLE.out; omega) (Nat.two_pow_pos sh)
 obtain ⟨ps,⟨_,_,_,e0,hpl,-,-,hpb,hpc⟩,hpv,hpn⟩:=hnum
 cases e0
 have hp0 : 0 < pn:=by
  rcases Nat.eq_zero_or_pos pn with q | q
  ·rw [List.eq_nil_of_length_eq_zero (hpl.trans q)] at hpv
   simp [lval] at hpv; omega
  ·exact q
 have hpm : pn ≤ m + 1:=by
  have q:=lval_top 18446744073709551616 ps (pn - 1) (by omega)
  have z0 : ps.getD (pn - 1) 0 ≠ 0:=by
   rcases hpn with z | z
   ·omega
   ·rwa [hpl] at z
  have:=Nat.le_mul_of_pos_right (18446744073709551616 ^ (pn - 1)) (show 0 < ps.getD (pn - 1) 0 by omega)
  have q3 : 18446744073709551616 ^ (pn - 1) < 18446744073709551616 ^ (m + 1):=by
   have z1 : M * 2 ^ sh < 18446744073709551616 ^ (m + 1):=HMS.out
   omega
  have:=(Nat.pow_lt_pow_iff_right (by decide)).mp q3
  omega
 obtain ⟨pb,po,rfl,-,hpcc⟩:=hpc hp0
 have hown8 : OwnW .u64 22 w8 w6.heap.size (m + 1) (List.replicate (m + 1) 0):=OwnW.far HOWN7.out hb8 (World.ownsRow.lt HOWN7.out w6.heap.size rfl).2
 have hsrc : ∀ j v,(ps.map fun (x : Nat)=>Value.int .u64 x)[j]? = some v → w8.cell? ((⟨pb,po,none⟩ : Addr).add j) = some v:=by
  intro j v hj
  have hjl : j < ps.length:=by
   have:=(List.getElem?_eq_some_iff.mp hj).1
   simpa using this
  rw [show (⟨pb,po,none⟩ : Addr).add j = ⟨pb,po + j,none⟩ by unfold Addr.add; split <;> simp_all]
  rw [hpcc j (by omega),← hj]
  simp [List.getElem?_eq_getElem hjl]
 have hcop:=run_copy_row (P:=Tryz.prog) w8 39 39 3 22 w6.heap.size 0 (m + 1) (m + 1) ⟨pb,po,none⟩ pn pc _ 22 (ps.map fun (x : Nat)=>Value.int .u64 x) Tryz.underlying39 (by kernel_rfl) hown8.heapRow (by rw [List.length_map,hpl]; show _ = min _ _; omega) hsrc (by simp; omega) (by intro v hv; obtain ⟨z,_,rfl⟩:=List.mem_map.mp hv; rfl)
 obtain ⟨us,hus⟩ : ∃ us,us = ps ++ List.replicate (m + 1 - pn) 0:=⟨_,rfl⟩
 obtain ⟨w9,hw9⟩ : ∃ w9,w9 = w8.setRow w6.heap.size ((us.map fun (x : Nat)=>Value.int .u64 x).toArray):=⟨_,rfl⟩
 have hrow : (((List.replicate (m + 1) 0).map fun (x : Nat)=>Value.int .u64 x).toArray.toList.take 0 ++ (ps.map fun (x : Nat)=>Value.int .u64 x) ++ ((List.replicate (m + 1) 0).map fun (x : Nat)=>Value.int .u64 x).toArray.toList.drop (0 + (ps.map fun (x : Nat)=>Value.int .u64 x).length)).toArray = (us.map fun (x : Nat)=>Value.int .u64 x).toArray:=by
  rw [hus]; simp [hpl]
 rw [hrow,← hw9] at hcop
 have hul : us.length = m + 1:=by rw [hus]; simp [hpl]; omega
 have HOWN9 : Hid (OwnW .u64 22 w9 w6.heap.size (m + 1) us):=by
  have:=setRow_heap w8 w6.heap.size _ ((us.map fun (x : Nat)=>Value.int .u64 x).toArray) _ _ hown8.heapRow
  rw [← hw9] at this
  exact OwnW.ofRow this hul (by unfold maxLen; omega)
 have HB9 : Hid (Below w6.heap.size w6 w9):=by
  rw [hw9]
  exact below_setRow (HBEL7.out.trans (hb8.mono HBEL7.out.size)) (Nat.le_refl _) _
 have huv : lval 18446744073709551616 us = M * 2 ^ sh:=by rw [hus,lval_append,lval_zeros,Nat.mul_zero,Nat.add_zero,hpv]
 have hub : ∀ u ∈ us,u < 18446744073709551616:=by
  intro u hu
  rw [hus] at hu
  rcases List.mem_append.mp hu with q | q
  ·exact hpb u q
  ·simp at q; omega
 have HQ0 : Hid (QuoInv 18446744073709551616 (M * 2 ^ sh) (D * 2 ^ sh) dn (m + 1) (m + 1 - dn) us (List.replicate (m + 1 - dn) 0)):=quo_begin rfl HMB.out.1 HMB.out.2 (by omega) hnm hul hub huv
 have HD0 : Hid (0 < D * 2 ^ sh ∧ D * 2 ^ sh < 18446744073709551616 ^ dn):=⟨Nat.mul_pos hD0 (Nat.two_pow_pos sh),HDS.out⟩
 clear hpl hpb hpc hpv hpn hpcc hown8 hsrc hus hw9 hrow hul huv hub hb8 x0' x1' x2' x3' hp0 hX0
 go_wp2_with (at_make; refine wpList_make_full _ rfl _ _ 39 rfl w9.heap.size 22 i0 (.int .u64 0) 1 Tryz.underlying39 hi hz0 hz1 .i64 .i64 _ _ (m + 1 - dn) rfl rfl (by omega) (by omega) (by rw [hz2]; omega) (by unfold maxLen; omega) (by simp) ?_; intro w10 hown hgrow; have hbel : Below w9.heap.size w9 w10:=(Below.refl _ _).grown hgrow (by simp) (by simp); have hown' : OwnW .u64 22 w10 w9.heap.size (m + 1 - dn) (List.replicate (m + 1 - dn) 0):=OwnW.made (by simpa using hown); have HOWN10 : Hid _:=hown'; have HBEL10 : Hid _:=hbel; clear hown hgrow hown' hbel)
 have hLc : ((m : Int) + 1 - dn) - 1 = (((m + 1 - dn : Nat) : Int)) - 1:=by omega
 have HG : Hid (w6.heap.size < w9.heap.size):=(World.ownsRow.lt HOWN9.out w6.heap.size rfl).2
 have HOWN10b : Hid (OwnW .u64 22 w10 w6.heap.size (m + 1) us):=OwnW.far HOWN9.out HBEL10.out HG.out
 have HB10 : Hid (Below w6.heap.size w6 w10):=HB9.out.trans (HBEL10.out.mono (Nat.le_of_lt HG.out))
 go_loopw [13] (fun i wr=>∃ k us zs,k ≤ m + 1 - dn ∧ i = .int .i64 ((k : Int) - 1) ∧ Hid (OwnW .u64 22 wr w6.heap.size (m + 1) us) ∧ Hid (OwnW .u64 22 wr w9.heap.size (m + 1 - dn) zs) ∧ Hid (QuoInv 18446744073709551616 (M * 2 ^ sh) (D * 2 ^ sh) dn (m + 1) k us zs) ∧ Hid (Below w6.heap.size w6 wr)) (fun i _=>(intOf i + 1).toNat)
 case atStart=>exact ⟨m + 1 - dn,us,_,Nat.le_refl _,rfl,HOWN10b,HOWN10,HQ0,HB10⟩
 case round=>
  clear HOWN10b HOWN10 HQ0 HB10 HBEL10 HOWN7 HOWN9 hcop
  obtain ⟨k,us',zs,hk,rfl,hN,hZ,hQ,hBr⟩:=hrel
  by_cases hk0 : k = 0
  ·subst hk0
   obtain ⟨q1,q2⟩:=quo_done hQ.out
   rw [(div_shift M D sh).1] at q1
   rw [(div_shift M D sh).2] at q2
   have M1:=made_any false _ _ _ (hZ.out.limbs (B:=18446744073709551616) (by omega) hQ.out.bz)
   rw [q1,Bool.false_and] at M1
   have HM1 : Hid _:=M1
   have HUV : Hid (lval 18446744073709551616 us' = M % D * 2 ^ sh):=q2
   have R2 : Hid (wr.heap[w.heap.size + 2]? = _):=hBr.out.blk (HB6.out.blk r2.out (by have:=HSZ.out; omega)) (by have:=HSZ.out; omega)
   have R3 : Hid (wr.heap[w.heap.size + 3]? = _):=hBr.out.blk (HB6.out.blk r3.out (by have:=HSZ.out; omega)) (by have:=HSZ.out; omega)
   have HBW : Hid (Below w.heap.size w wr):=HBB.out.trans ((HB6.out.mono (by have:=HSZ.out; omega)).trans (hBr.out.mono (by have:=HSZ.out; omega)))
   clear M1 q1 q2
   go_wp2_with fail
   refine Calls.mono HM1.out ?_
   rintro e w11 ⟨v,rfl,⟨s1,rfl,hn1,-⟩,hb1⟩
   obtain ⟨qa,qn,qc,rfl⟩:=hn1.shape
   have HQN : Hid (Num .u64 18446744073709551616 w11 (.slice qa qn qc) (M / D)):=hn1
   have HU11 : Hid (OwnW .u64 22 w11 w6.heap.size (m + 1) us'):=OwnW.far hN.out hb1 (World.ownsRow.lt hN.out w6.heap.size rfl).2
   have HB11 : Hid (Below wr.heap.size wr w11):=hb1
   clear hn1 hb1
   have M2:=made_any false _ _ _ (HU11.out.limbs (B:=18446744073709551616) (by omega) hQ.out.bu)
   rw [HUV.out,Bool.false_and] at M2
   have HM2 : Hid _:=M2
   clear M2
   go_wp2_with fail
   refine Calls.mono HM2.out ?_
   rintro e w12 ⟨v,rfl,⟨s2,rfl,hn2',-⟩,hb2⟩
   obtain ⟨ra,rn,rc,rfl⟩:=hn2'.shape
   have HRN : Hid (Num .u64 18446744073709551616 w12 (.slice ra rn rc) (M % D * 2 ^ sh)):=hn2'
   have HB12 : Hid (Below wr.heap.size wr w12):=HB11.out.trans (hb2.mono HB11.out.size)
   have HQN2 : Hid (Num .u64 18446744073709551616 w12 (.slice qa qn qc) (M / D)):=Num.below HQN.out (Nat.le_refl _) hb2
   clear hn2' hb2
   have hrb : M % D * 2 ^ sh < 2 ^ (bb + 64):=by
    rw [Nat.pow_add]
    refine Nat.lt_of_le_of_lt (Nat.mul_le_mul_right _ (Nat.mod_le _ _)) ?_
    exact Nat.lt_of_lt_of_le (Nat.mul_lt_mul_of_pos_right HMb.out (Nat.two_pow_pos sh)) (Nat.mul_le_mul_left _ (Nat.pow_le_pow_right (by decide) (by omega)))
   go_wp2_with fail
   refine (right_any false _ (M % D * 2 ^ sh) 0 sh _ _ HRN.out (by omega) (by omega) (by decide) hrb (by omega)).mono ?_
   rw [Nat.mul_zero,Nat.zero_add,Nat.mul_div_cancel _ (Nat.two_pow_pos sh),Bool.false_and]
   rintro e w13 ⟨v,rfl,⟨s3,rfl,hn3,-⟩,hb3⟩
   obtain ⟨ta,tn,tc,rfl⟩:=hn3.shape
   have HRN3 : Hid (Num .u64 18446744073709551616 w13 (.slice ta tn tc) (M % D)):=hn3
   have HQN3 : Hid (Num .u64 18446744073709551616 w13 (.slice qa qn qc) (M / D)):=Num.below HQN2.out (Nat.le_refl _) hb3
   have HB13 : Hid (Below wr.heap.size wr w13):=HB12.out.trans (hb3.mono HB12.out.size)
   have hlt : ∀ {w : World} {g x},w.heap[g]? = some x → g < w.heap.size:=fun h=>(Array.getElem?_eq_some_iff.mp h).1
   have k2 : Hid _:=HB13.out.blk R2.out (hlt R2.out)
   have k3 : Hid _:=HB13.out.blk R3.out (hlt R3.out)
   obtain ⟨c0,c1,c2,c3,c4,c5⟩:=row2 k2.out
   obtain ⟨d0,d1,d2,d3,d4,d5⟩:=row2 k3.out
   have d0':=fun u v=>(row2 (row2_other (g:=w.heap.size + 2) k3.out (by omega) u v)).1
   have d2':=fun u v=>(row2 (row2_other (g:=w.heap.size + 2) k3.out (by omega) u v)).2.2.1
   have d4':=fun u v=>(row2 (row2_other (g:=w.heap.size + 2) k3.out (by omega) u v)).2.2.2.2.1
   have d5':=fun u v=>(row2 (row2_other (g:=w.heap.size + 2) k3.out (by omega) u v)).2.2.2.2.2
   clear hn3 hb3 hlt hrb
   go_wp2
   obtain ⟨f1,f2,f3,f4⟩:=quo_store k2.out k3.out (by omega) HQN3.out HRN3.out false false
   exact quo_end rfl rfl rfl f1 f2 f3 f4 (below_row (below_row (HBW.out.trans (HB13.out.mono HBW.out.size)) (by omega) _ _) (by omega) _ _)
  ·obtain ⟨j,rfl⟩ : ∃ j,k = j + 1:=⟨k - 1,by omega⟩
   have hjL : j < m + 1 - dn:=by omega
   obtain ⟨ds,hds,hdv,hdn'⟩:=HDEN6.out
   have hdlen : ds.length = dn:=by obtain ⟨_,_,_,e0,e1,_⟩:=hds; cases e0; exact e1
   obtain ⟨e1,e2⟩:=quo_part hQ.out (k:=j) (by omega) (by decide)
   have hdig:=digit_any w6.heap.size j dn (m + 1) (m + 1 - j) us' ds (.slice da dn dc) (D * 2 ^ sh) wr hN.out hQ.out.bu (by omega) (by omega) (m:=j + dn + 1 - j) (by omega) (by omega) (by omega) (hds.below (Nat.le_refl _) hBr.out) hdlen (by omega) hdv hdn' (by rw [e1]; exact e2)
   rw [e1] at hdig
   obtain ⟨q,hq⟩ : ∃ q,q = lval 18446744073709551616 (us'.drop j) / (D * 2 ^ sh):=⟨_,rfl⟩
   have HQQ : Hid (q = lval 18446744073709551616 (us'.drop j) / (D * 2 ^ sh)):=hq
   have HDIG : Hid _:=hdig
   clear hdig hds hdv hdn' hdlen e1 e2 hq
   go_wp2_with fail
   refine Calls.mono HDIG.out ?_
   rintro e w11 ⟨rfl,vs,hvl,hvb,hvv,hO1,hgr⟩
   rw [← HQQ.out] at hvv ⊢
   have hst:=quo_step hQ.out (k:=j) (by omega) (by decide) HD0.out.2 HD0.out.1 hvl hvb HQQ.out hvv
   have HST : Hid _:=hst.1
   have hzrow:=hZ.out.heapRow
   have hglt : w9.heap.size < wr.heap.size:=(World.ownsRow.lt hZ.out w9.heap.size rfl).2
   have hZ11 : OwnW .u64 22 w11 w9.heap.size (m + 1 - dn) zs:=OwnW.ofRow ((hgr.block w9.heap.size hglt (by intro h; have:=HG.out; simp at h; omega)).trans hzrow) hZ.out.length (by unfold maxLen; omega)
   have HZ11 : Hid (OwnW .u64 22 w11 w9.heap.size (m + 1 - dn) zs):=hZ11
   have HO1 : Hid (OwnW .u64 22 w11 w6.heap.size (m + 1) _):=hO1
   have HB11 : Hid (Below w6.heap.size w6 w11):=hBr.out.grown hgr hBr.out.size (by intro k hk; cases hk; exact Nat.le_refl _)
   have hc1:=hZ11.cell (j:=j) hjL
   have hf1:=hZ11.frozen j
   clear hvl hvb hvv hO1 hgr hst hzrow hglt hZ11
   go_wp2
   go_roundw
   case rel=>
    exact ⟨j,_,_,by omega,by go_num,OwnW.otherset HO1.out (by have:=HG.out; omega) _,HZ11.out.set j q,HST.out,HB11.out.setCell (Nat.le_of_lt HG.out) _⟩
   case measure=>simp [intOf]
theorem quo_any (s t : Value) (M D : Nat) (w : World) (h : Num .u64 18446744073709551616 w s M) (h' : Num .u64 18446744073709551616 w t D) {bb : Nat} (hM : M < 2 ^ bb) (hbb : bb ≤ 4294900000) :
  Calls Tryz.prog 162 #[.agg #[.bool false,s],.agg #[.bool false,t]] w (QuoQ (M / D) (M % D) w):=by
 by_cases h1 : M < D ∨ D = 0
 ·have e : M / D = 0 ∧ M % D = M := by
   rcases h1 with h1 | rfl
   ·exact ⟨Nat.div_eq_of_lt h1,Nat.mod_eq_of_lt h1⟩
   ·exact ⟨Nat.div_zero _,Nat.mod_zero _⟩
  rw [e.1,e.2]
  exact quo_none s t M D w h h' h1
 ·by_cases h2 : D < 18446744073709551616
  ·exact quo_word s t M D w h h' (by omega) (by omega) h2 hM (by omega)
  ·exact quo_long s t M D w h h' (by omega) (by omega) hM hbb
end Go.Proofs.YtlbokicainimnaaGreatDoor
