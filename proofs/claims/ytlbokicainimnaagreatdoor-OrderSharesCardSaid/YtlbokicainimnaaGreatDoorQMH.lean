import Derived.Test.YtlbokicainimnaaGreatDoorQMA
import Derived.BigQuiet
import Derived.Deep.CutBlock
import Derived.Deep.DeepCutAuto
set_option maxRecDepth 100000
namespace Go.Proofs.YtlbokicainimnaaGreatDoor
open Go.RowKit
theorem _root_.Go.RowKit.Below.drewM {B : Nat} {a w : World} (h : Below B a w) (n : Nat) : Below B a (w.drewN n):=⟨h.os,h.tape,h.output,h.size,h.block⟩
theorem row5 {w : World} {g : Nat} {a b c d e : Value} {t : TypeId} (h : w.heap[g]? = some (.cells #[a, b, c, d, e] t (0, 0))) :
  w.cell? ⟨g,0,none⟩ = some a ∧ w.cell? ⟨g,1,none⟩ = some b ∧ w.cell? ⟨g,2,none⟩ = some c ∧ w.cell? ⟨g,3,none⟩ = some d ∧ w.cell? ⟨g,4,none⟩ = some e:=
 ⟨cell_of_row w g 0 _ _ _ h,cell_of_row w g 1 _ _ _ h,cell_of_row w g 2 _ _ _ h,cell_of_row w g 3 _ _ _ h,cell_of_row w g 4 _ _ _ h⟩
def Val (w : World) (v : Value) (neg : Bool) (M D : Nat) (E : Int) : Prop:=∃ s t,v = .agg #[.bool neg,s,t,.int .i64 E,.bool false] ∧ Num .u32 4294967296 w s M ∧ Num .u32 4294967296 w t D
set_option maxHeartbeats 400000 in
theorem size_any (neg : Bool) (v : Value) (M D : Nat) (E : Int) (w : World) (h : Val w v neg M D E) {bb : Nat} (hM : M < 2 ^ bb) (hD : D < 2 ^ bb) (hbb : bb ≤ 4294967290) (hE1 : -1000000 ≤ E) (hE2 : E ≤ 1000000) :
  Calls Tryz.prog 172 #[v] w fun e w'=>e = .returned (.int .i64 ((blen M : Int) - blen D + E)) ∧ Below w.heap.size w w':=by
 obtain ⟨s,t,rfl,hs,ht⟩:=h
 obtain ⟨a,m,c,rfl⟩:=hs.shape
 obtain ⟨a',m',c',rfl⟩:=ht.shape
 have HS : Hid (Num .u32 4294967296 w (.slice a m c) M):=hs
 have HT : Hid (Num .u32 4294967296 w (.slice a' m' c') D):=ht
 have h1 : blen M ≤ 4294967290:=Nat.le_trans (blen_le hM) hbb
 have h2 : blen D ≤ 4294967290:=Nat.le_trans (blen_le hD) hbb
 have HL1 : Hid (∀ W,Below w.heap.size w W → Calls Tryz.prog 126 #[.slice a m c] W fun e w'=>e = .returned (.int .i64 (blen M : Nat)) ∧ w' = W):=fun W hW=>nlen_same _ M W (Num.below HS.out (Nat.le_refl _) hW) hM (by omega)
 have HL2 : Hid (∀ W,Below w.heap.size w W → Calls Tryz.prog 126 #[.slice a' m' c'] W fun e w'=>e = .returned (.int .i64 (blen D : Nat)) ∧ w' = W):=fun W hW=>nlen_same _ D W (Num.below HT.out (Nat.le_refl _) hW) hD (by omega)
 obtain ⟨lM,e1⟩ : ∃ l,l = blen M:=⟨_,rfl⟩
 obtain ⟨lD,e2⟩ : ∃ l,l = blen D:=⟨_,rfl⟩
 rw [← e1] at h1 HL1 ⊢
 rw [← e2] at h2 HL2 ⊢
 clear e1 e2 hs ht hM hD hbb
 go_enter Tryz.func172,Tryz.ntmps172
 go_upto_region 1 with fail
 have hb : Below w.heap.size w (w.alloc (.cells #[.bool neg,.slice a m c,.slice a' m' c',.int .i64 E,.bool false] 141)):=(Below.refl _ _).alloc (Nat.le_refl _) _
 obtain ⟨x0,x1,x2,x3,x4⟩:=row5 (heap_alloc_new w (.cells #[.bool neg,.slice a m c,.slice a' m' c',.int .i64 E,.bool false] 141))
 have HB : Hid _:=hb
 clear hb
 generalize w.alloc (.cells #[.bool neg,.slice a m c,.slice a' m' c',.int .i64 E,.bool false] 141) = w1 at *
 have i1 : IntKind.i64.wrap ((lM : Int) - lD) = (lM : Int) - lD:=IntWalk.i64_in _ (by omega)
 have i2 : IntKind.i64.wrap ((lM : Int) - lD + E) = (lM : Int) - lD + E:=by clear i1; exact IntWalk.i64_in _ (by omega)
 go_quiet (first | (go_at_call 126; with_reducible refine Calls.quiet_of_same (HL1.out _ (HB.out.drewM _))) | (go_at_call 126; with_reducible refine Calls.quiet_of_same (HL2.out _ (HB.out.drewM _))))
 go_wp2
 go_ret
 exact ⟨rfl,HB.out.drewM _⟩
theorem up_even (neg odd : Bool) (half : Int) (w : World) (hh : half = -1 ∨ half = 0 ∨ half = 1) :
  Calls Tryz.prog 170 #[.int .i64 1,.bool neg,.bool odd,.int .i64 half] w fun e w'=>e = .returned (.bool (decide (half = 1) || (decide (half = 0) && odd))) ∧ w' = w:=by
 rcases hh with rfl | rfl | rfl
 all_goals
  go_enter Tryz.func170,Tryz.ntmps170
  go_wp2
  go_ret
  exact ⟨by cases odd <;> rfl,rfl⟩
def BesQ (N D : Nat) (w : World) (e : Ending) (w' : World) : Prop:=
 e = .returned (.tuple #[.int .u64 (N / D : Nat),.int .i64 (ncmp (N % D * 2) D),.bool (decide (N % D = 0))]) ∧ Below w.heap.size w w'
theorem num_nil {w : World} {a : Option Addr} {n c N : Nat} (h : Num .u32 4294967296 w (.slice a n c) N) : n = 0 ↔ N = 0:=by
 obtain ⟨xs,⟨_,_,_,h0,h1,_⟩,rfl,hn⟩:=h
 cases h0
 rw [norm_zero hn (by decide),h1]
set_option maxHeartbeats 1000000 in
theorem beside_any (neg : Bool) (v : Value) (M D : Nat) (E e : Int) (w : World) (h : Val w v neg M D E) {bb : Nat} (hM : M < 2 ^ bb) (hD : D < 2 ^ bb) (hbb : bb ≤ 1000000) (hD0 : 0 < D) (hE1 : -1000000 ≤ E) (hE2 : E ≤ 1000000)
  (he1 : -1000000 ≤ e) (he2 : e ≤ 1000000) (hq : M * 2 ^ (E - e).toNat / (D * 2 ^ (e - E).toNat) < 18446744073709551616) :
  Calls Tryz.prog 173 #[v,.int .i64 e] w (BesQ (M * 2 ^ (E - e).toNat) (D * 2 ^ (e - E).toNat) w):=by
 obtain ⟨s,t,rfl,hs,ht⟩:=h
 obtain ⟨a,m,c,rfl⟩:=hs.shape
 obtain ⟨a',m',c',rfl⟩:=ht.shape
 have hb : Below w.heap.size w (w.alloc (.cells #[.bool neg,.slice a m c,.slice a' m' c',.int .i64 E,.bool false] 141)):=(Below.refl _ _).alloc (Nat.le_refl _) _
 have HS : Hid (Num .u32 4294967296 (w.alloc (.cells #[.bool neg,.slice a m c,.slice a' m' c',.int .i64 E,.bool false] 141)) (.slice a m c) M):=Num.below hs (Nat.le_refl _) hb
 have HT : Hid (Num .u32 4294967296 (w.alloc (.cells #[.bool neg,.slice a m c,.slice a' m' c',.int .i64 E,.bool false] 141)) (.slice a' m' c') D):=Num.below ht (Nat.le_refl _) hb
 have hr:=heap_alloc_new w (.cells #[.bool neg,.slice a m c,.slice a' m' c',.int .i64 E,.bool false] 141)
 obtain ⟨x0,x1,x2,x3,x4⟩:=row5 hr
 have HR : Hid _:=hr
 have HB : Hid _:=hb
 have HMb : Hid (M < 2 ^ bb):=hM
 have HDb : Hid (D < 2 ^ bb):=hD
 have HQ : Hid _:=hq
 clear hb hr hs ht hM hD hq
 by_cases hsh : 0 ≤ E - e
 ·obtain ⟨k,hk⟩ : ∃ k : Nat,E - e = (k : Int):=⟨(E - e).toNat,by omega⟩
  have hk2 : (e - E).toNat = 0:=by omega
  have hk3 : (E - e).toNat = k:=by omega
  rw [hk2,hk3,Nat.pow_zero,Nat.mul_one] at HQ ⊢
  have hkb : k ≤ 2000000:=by omega
  have HN : Hid (M * 2 ^ k < 2 ^ (bb + k)):=by
   show M * 2 ^ k < 2 ^ (bb + k)
   rw [Nat.pow_add]; exact Nat.mul_lt_mul_of_pos_right HMb.out (Nat.two_pow_pos k)
  have HD2 : Hid (D < 2 ^ (bb + k)):=Nat.lt_of_lt_of_le HDb.out (Nat.pow_le_pow_right (by decide) (by omega))
  have HD0 : Hid (0 < D):=hD0
  clear hk2 hk3 hD0
  go_enter Tryz.func173,Tryz.ntmps173
  go_wp2_with fail
  refine (nleft_any _ M (k / 32) (k % 32) _ _ HS.out (by omega) (Nat.mod_lt _ (by decide)) (by omega) HMb.out (by omega)).mono ?_
  rw [Nat.div_add_mod]
  rintro ee w2 ⟨v2,rfl,hn2,hb2⟩
  have NUM2 : Hid (Num .u32 4294967296 w2 v2 (M * 2 ^ k)):=hn2
  have DEN2 : Hid (Num .u32 4294967296 w2 (.slice a' m' c') D):=Num.below HT.out (Nat.le_refl _) hb2
  have HB2 : Hid (Below w.heap.size w w2):=HB.out.trans (hb2.mono HB.out.size)
  obtain ⟨y0,y1,y2,y3,y4⟩:=row5 (hb2.blk HR.out (by simp))
  clear hn2 hb2 x0 x1 x2 x3 x4
  go_wp2_with fail
  refine (nquo_any _ _ (M * 2 ^ k) D _ NUM2.out DEN2.out HN.out HD2.out (by omega) HD0.out HQ.out).mono ?_
  rintro ee w3 ⟨v3,rfl,hr3,hb3⟩
  obtain ⟨ra,rn,rc,rfl⟩:=Num.shape hr3
  have HR3 : Hid (Num .u32 4294967296 w3 (.slice ra rn rc) ((M * 2 ^ k) % D)):=hr3
  have DEN3 : Hid (Num .u32 4294967296 w3 _ D):=Num.below DEN2.out (Nat.le_refl _) hb3
  have HB3 : Hid (Below w.heap.size w w3):=HB2.out.trans (hb3.mono HB2.out.size)
  clear hr3 hb3
  go_wp2_with fail
  refine (nleft_any _ ((M * 2 ^ k) % D) 0 1 1 _ HR3.out (by omega) (by decide) (by decide) (Nat.lt_of_le_of_lt (Nat.mod_le _ _) HN.out) (by omega)).mono ?_
  rw [show 32 * 0 + 1 = 1 from rfl,Nat.pow_one]
  rintro ee w4 ⟨v4,rfl,h4,hb4⟩
  have H4 : Hid (Num .u32 4294967296 w4 v4 ((M * 2 ^ k) % D * 2)):=h4
  have DEN4 : Hid (Num .u32 4294967296 w4 _ D):=Num.below DEN3.out (Nat.le_refl _) hb4
  have HB4 : Hid (Below w.heap.size w w4):=HB3.out.trans (hb4.mono HB3.out.size)
  clear h4 hb4
  go_wp2_with fail
  refine (ncmp_any _ _ ((M * 2 ^ k) % D * 2) D _ H4.out DEN4.out).mono ?_
  rintro ee w5 ⟨hee,hb5⟩
  subst hee
  have HB5 : Hid (Below w.heap.size w w5):=HB4.out.trans (hb5.mono HB4.out.size)
  have hnil:=num_nil HR3.out
  clear hb5
  by_cases hz : rn = 0
  ·subst hz
   have h0 : (M * 2 ^ k) % D = 0:=hnil.mp rfl
   have H0 : Hid ((M * 2 ^ k) % D = 0):=h0
   clear hnil h0
   go_wp2
   go_ret3
   exact ⟨by rw [decide_eq_true H0.out]; rfl,HB5.out⟩
  ·have hzI : ((rn : Int) == 0) = false:=by simp; omega
   have H0 : Hid (¬ (M * 2 ^ k) % D = 0):=fun h=>hz (hnil.mpr h)
   clear hnil
   go_wp2
   go_ret3
   exact ⟨by rw [decide_eq_false H0.out,← hzI]; rfl,HB5.out⟩
 ·obtain ⟨k,hk⟩ : ∃ k : Nat,-(E - e) = (k : Int):=⟨(e - E).toNat,by omega⟩
  have hk2 : (E - e).toNat = 0:=by omega
  have hk3 : (e - E).toNat = k:=by omega
  rw [hk2,hk3,Nat.pow_zero,Nat.mul_one] at HQ ⊢
  have hkb : k ≤ 2000000:=by omega
  have HD2 : Hid (D * 2 ^ k < 2 ^ (bb + k)):=by
   show D * 2 ^ k < 2 ^ (bb + k)
   rw [Nat.pow_add]; exact Nat.mul_lt_mul_of_pos_right HDb.out (Nat.two_pow_pos k)
  have HN : Hid (M < 2 ^ (bb + k)):=Nat.lt_of_lt_of_le HMb.out (Nat.pow_le_pow_right (by decide) (by omega))
  have HD0 : Hid (0 < D * 2 ^ k):=Nat.mul_pos hD0 (Nat.two_pow_pos k)
  clear hk2 hk3 hD0
  go_enter Tryz.func173,Tryz.ntmps173
  go_wp2_with fail
  refine (nleft_any _ D (k / 32) (k % 32) _ _ HT.out (by omega) (Nat.mod_lt _ (by decide)) (by omega) HDb.out (by omega)).mono ?_
  rw [Nat.div_add_mod]
  rintro ee w2 ⟨v2,rfl,hn2,hb2⟩
  have DEN2 : Hid (Num .u32 4294967296 w2 v2 (D * 2 ^ k)):=hn2
  have NUM2 : Hid (Num .u32 4294967296 w2 (.slice a m c) M):=Num.below HS.out (Nat.le_refl _) hb2
  have HB2 : Hid (Below w.heap.size w w2):=HB.out.trans (hb2.mono HB.out.size)
  obtain ⟨y0,y1,y2,y3,y4⟩:=row5 (hb2.blk HR.out (by simp))
  clear hn2 hb2 x0 x1 x2 x3 x4
  go_wp2_with fail
  refine (nquo_any _ _ M (D * 2 ^ k) _ NUM2.out DEN2.out HN.out HD2.out (by omega) HD0.out HQ.out).mono ?_
  rintro ee w3 ⟨v3,rfl,hr3,hb3⟩
  obtain ⟨ra,rn,rc,rfl⟩:=Num.shape hr3
  have HR3 : Hid (Num .u32 4294967296 w3 (.slice ra rn rc) (M % (D * 2 ^ k))):=hr3
  have DEN3 : Hid (Num .u32 4294967296 w3 _ (D * 2 ^ k)):=Num.below DEN2.out (Nat.le_refl _) hb3
  have HB3 : Hid (Below w.heap.size w w3):=HB2.out.trans (hb3.mono HB2.out.size)
  clear hr3 hb3
  go_wp2_with fail
  refine (nleft_any _ (M % (D * 2 ^ k)) 0 1 1 _ HR3.out (by omega) (by decide) (by decide) (Nat.lt_of_le_of_lt (Nat.mod_le _ _) HN.out) (by omega)).mono ?_
  rw [show 32 * 0 + 1 = 1 from rfl,Nat.pow_one]
  rintro ee w4 ⟨v4,rfl,h4,hb4⟩
  have H4 : Hid (Num .u32 4294967296 w4 v4 (M % (D * 2 ^ k) * 2)):=h4
  have DEN4 : Hid (Num .u32 4294967296 w4 _ (D * 2 ^ k)):=Num.below DEN3.out (Nat.le_refl _) hb4
  have HB4 : Hid (Below w.heap.size w w4):=HB3.out.trans (hb4.mono HB3.out.size)
  clear h4 hb4
  go_wp2_with fail
  refine (ncmp_any _ _ (M % (D * 2 ^ k) * 2) (D * 2 ^ k) _ H4.out DEN4.out).mono ?_
  rintro ee w5 ⟨hee,hb5⟩
  subst hee
  have HB5 : Hid (Below w.heap.size w w5):=HB4.out.trans (hb5.mono HB4.out.size)
  have hnil:=num_nil HR3.out
  clear hb5
  by_cases hz : rn = 0
  ·subst hz
   have h0 : M % (D * 2 ^ k) = 0:=hnil.mp rfl
   have H0 : Hid (M % (D * 2 ^ k) = 0):=h0
   clear hnil h0
   go_wp2
   go_ret3
   exact ⟨by rw [decide_eq_true H0.out]; rfl,HB5.out⟩
  ·have hzI : ((rn : Int) == 0) = false:=by simp; omega
   have H0 : Hid (¬ M % (D * 2 ^ k) = 0):=fun h=>hz (hnil.mpr h)
   clear hnil
   go_wp2
   go_ret3
   exact ⟨by rw [decide_eq_false H0.out,← hzI]; rfl,HB5.out⟩
end Go.Proofs.YtlbokicainimnaaGreatDoor
