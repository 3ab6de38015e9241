import Derived.Test.YtlbokicainimnaaGreatDoorQPX
import Derived.Test.YtlbokicainimnaaGreatDoorQBM
import Derived.Test.YtlbokicainimnaaGreatDoorQJP
namespace Go.Proofs.YtlbokicainimnaaGreatDoor
open Go Go.RowKit Go.Lib
theorem fin_small {b : Nat} (hf : finB b = true) : (valB b).natAbs < 10 ^ LP:=by
 have hfl : absB b < 9218868437227405312:=of_decide_eq_true hf
 obtain ⟨mm,ee,hc,hr⟩:=fin_form hfl
 have hv:=hc.rv
 rw [← hr] at hv
 rw [val_sgn b,hv,sg_natAbs]
 obtain ⟨h1,h2,h3,-⟩:=hc
 have hL:=LP_eq
 have h4 : 2 ^ (ee + 1074).toNat ≤ 2 ^ (2 * LP):=Nat.pow_le_pow_right (by decide) (by omega)
 calc mm * 2 ^ (ee + 1074).toNat ≤ mm * 2 ^ (2 * LP):=Nat.mul_le_mul_left _ h4
  _ < 2 ^ 53 * 2 ^ (2 * LP):=Nat.mul_lt_mul_of_pos_right h1 (Nat.two_pow_pos _)
  _ = 2 ^ (53 + 2 * LP):=by rw [← Nat.pow_add]
  _ ≤ 2 ^ (3 * LP):=Nat.pow_le_pow_right (by decide) (by omega)
  _ = (2 ^ 3) ^ LP:=by rw [Nat.pow_mul]
  _ ≤ 10 ^ LP:=Nat.pow_le_pow_left (by decide) _
def btT (a b r : Nat) : Int:=valB a * 2 ^ LP + (valB b - valB a) * r
theorem btw_facts {a b r : Nat} {f : Dc} (fa : finB a = true) (fb : finB b = true) (hr : r < 2 ^ LP) (hf : Rep f ((r * 5 ^ LP : Nat) : Int) (-(LP : Int))) :
  addX (ofD b) (negD (ofD a)) = 0 ∧ (addD (ofD b) (negD (ofD a))).ok ∧ mulX (addD (ofD b) (negD (ofD a))) f = 0 ∧ (mulD (addD (ofD b) (negD (ofD a))) f).ok ∧ addX (ofD a) (mulD (addD (ofD b) (negD (ofD a))) f) = 0 ∧
  Rep (addD (ofD a) (mulD (addD (ofD b) (negD (ofD a))) f)) (btT a b r * 5 ^ LP * 5 ^ LP) (-(LP : Int) + -(LP : Int)):=by
 obtain ⟨ra,-⟩:=of_rep (of_room fa)
 obtain ⟨rb,-⟩:=of_rep (of_room fb)
 have hL:=LP_eq
 have ba:=fin_small fa
 have bb:=fin_small fb
 have p5 : (5 : Nat) ^ LP ≤ 10 ^ LP:=Nat.pow_le_pow_left (by decide) _
 obtain ⟨s1,s2⟩:=add_rep rb ra.neg
 have e1 : valB b * 5 ^ LP + -(valB a * 5 ^ LP) = (valB b - valB a) * 5 ^ LP:=by rw [Int.sub_mul]; omega
 rw [e1] at s1 s2
 have n1 : ((valB b - valB a) * 5 ^ LP).natAbs < 10 ^ (LP + 1 + LP):=by
  rw [Int.natAbs_mul,Int.natAbs_pow,Nat.pow_add]
  have h1 : (valB b - valB a).natAbs < 10 ^ (LP + 1):=by
   have : (10 : Nat) ^ (LP + 1) = 10 ^ LP * 10:=Nat.pow_succ ..
   rw [this]
   generalize (10 : Nat) ^ LP = P at *
   omega
  exact Nat.lt_of_lt_of_le (Nat.mul_lt_mul_of_pos_right h1 (Nat.pow_pos (by decide))) (Nat.mul_le_mul_left _ p5)
 have x1 : mkX ((valB b - valB a) * 5 ^ LP) (-(LP : Int)) = 0:=mk_room n1 (by omega) (by omega) (by omega)
 have r1:=rep_mk x1
 rw [← s1] at r1
 obtain ⟨t1,t2⟩:=mul_rep r1 hf
 have n2 : ((valB b - valB a) * 5 ^ LP * ((r * 5 ^ LP : Nat) : Int)).natAbs < 10 ^ (LP + 1 + LP + LP):=by
  rw [Int.natAbs_mul,Int.natAbs_natCast,Nat.pow_add _ (LP + 1 + LP) LP]
  have h2 : r * 5 ^ LP ≤ 10 ^ LP:=by
   rw [show (10 : Nat) ^ LP = 2 ^ LP * 5 ^ LP by rw [← Nat.mul_pow]]
   exact Nat.mul_le_mul_right _ (Nat.le_of_lt hr)
  exact Nat.lt_of_le_of_lt (Nat.mul_le_mul_left _ h2) (Nat.mul_lt_mul_of_pos_right n1 (Nat.pow_pos (by decide)))
 have x2 : mkX ((valB b - valB a) * 5 ^ LP * ((r * 5 ^ LP : Nat) : Int)) (-(LP : Int) + -(LP : Int)) = 0:=mk_room n2 (by omega) (by omega) (by omega)
 have r2:=rep_mk x2
 rw [← t1] at r2
 have ra2 : Rep (ofD a) (valB a * 5 ^ LP * 10 ^ LP) (-(LP : Int) + -(LP : Int)):=rep_down LP (by rw [show -(LP : Int) + -(LP : Int) + (LP : Nat) = -(LP : Int) by omega]; exact ra)
 obtain ⟨u1,u2⟩:=add_rep ra2 r2
 have e2 : valB a * 5 ^ LP * 10 ^ LP + (valB b - valB a) * 5 ^ LP * ((r * 5 ^ LP : Nat) : Int) = btT a b r * 5 ^ LP * 5 ^ LP:=by
  unfold btT
  rw [ten_pow,Int.add_mul,Int.add_mul]
  push_cast
  ac_rfl
 rw [e2] at u1 u2
 have n3 : (btT a b r * 5 ^ LP * 5 ^ LP).natAbs < 10 ^ (LP + 2 + LP + LP):=by
  rw [← e2]
  have h1 : (valB a * 5 ^ LP * 10 ^ LP).natAbs < 10 ^ (LP + 1 + LP + LP):=by
   rw [Int.natAbs_mul,Int.natAbs_mul,Int.natAbs_pow,Int.natAbs_pow,Nat.pow_add _ (LP + 1 + LP) LP,Nat.pow_add _ (LP + 1) LP]
   have h3 : (valB a).natAbs < 10 ^ (LP + 1):=Nat.lt_trans ba (Nat.pow_lt_pow_right (by decide) (Nat.lt_succ_self LP))
   refine Nat.mul_lt_mul_of_pos_right ?_ (Nat.pow_pos (by decide))
   exact Nat.lt_of_lt_of_le (Nat.mul_lt_mul_of_pos_right h3 (Nat.pow_pos (by decide))) (Nat.mul_le_mul_left _ p5)
  have h2 : (10 : Nat) ^ (LP + 2 + LP + LP) = 10 ^ (LP + 1 + LP + LP) * 10:=by rw [← Nat.pow_succ]; congr 1; omega
  rw [h2]
  generalize (10 : Nat) ^ (LP + 1 + LP + LP) = P at *
  omega
 have x3 : mkX (btT a b r * 5 ^ LP * 5 ^ LP) (-(LP : Int) + -(LP : Int)) = 0:=mk_room n3 (by omega) (by omega) (by omega)
 have r3:=rep_mk x3
 rw [← u1] at r3
 exact ⟨s2.trans x1,r1.ok,t2.trans x2,r2.ok,u2.trans x3,r3⟩
theorem near_to64 {d : Dc} {T : Int} (h : Rep d (T * 5 ^ LP * 5 ^ LP) (-(LP : Int) + -(LP : Int))) {R : Nat} (hN : Near 52 T.natAbs (2 ^ LP) R) :
  (to64A d 1).bits = (if T = 0 then 0 else sgW (decide (T < 0)) + min R 9218868437227405312) ∧ (to64A d 1).err = 0:=by
 obtain ⟨b1,b2⟩:=to64_bits h.ok (m:=1) (by decide)
 refine ⟨?_,b2⟩
 rw [b1]
 have p5 : (5 : Int) ^ LP ≠ 0:=Int.ne_of_gt (Int.pow_pos (by decide))
 have hT0 : T * 5 ^ LP * 5 ^ LP = 0 ↔ T = 0:=by
  constructor
  ·intro h
   rcases Int.mul_eq_zero.1 h with h | h
   ·rcases Int.mul_eq_zero.1 h with h | h
    ·exact h
    ·exact absurd h p5
   ·exact absurd h p5
  ·intro h; rw [h]; simp
 by_cases hT : T = 0
 ·have h0:=(rep_nil9 h).2 (hT0.2 hT)
  have hd:=ok_nil h.ok h0
  rw [if_pos hT,hd]
  rfl
 ·have h0 : d.s ≠ []:=fun g=>hT (hT0.1 ((rep_nil9 h).1 g))
  rw [if_neg hT]
  have hL:=LP_eq
  obtain ⟨i,hi⟩ : ∃ i : Nat,i = d.e.natAbs:=⟨_,rfl⟩
  have h1:=h.all (LP + LP + i) (by omega) (by omega)
  have ej : (-(LP : Int) + -(LP : Int) + ((LP + LP + i : Nat) : Int)).toNat = i:=by omega
  rw [ej] at h1
  have hneg : d.neg = decide (T < 0):=by
   have hp:=ok_pos h.ok h0
   have q1 : (0 : Int) < 10 ^ (d.e + ((LP + LP + i : Nat) : Int)).toNat:=Int.pow_pos (by decide)
   have q2 : (0 : Int) < 10 ^ i:=Int.pow_pos (by decide)
   have q5 : (0 : Int) < 5 ^ LP:=Int.pow_pos (by decide)
   have hv : d.v = sg d.neg (dval d.s):=rfl
   unfold sg at hv
   rw [Bool.eq_iff_iff,decide_eq_true_iff]
   constructor
   ·intro hn
    rw [if_pos hn] at hv
    have a1 : d.v * 10 ^ (d.e + ((LP + LP + i : Nat) : Int)).toNat < 0:=Int.mul_neg_of_neg_of_pos (by omega) q1
    refine Int.not_le.1 fun hge=>?_
    have a2 : 0 ≤ T * 5 ^ LP * 5 ^ LP * 10 ^ i:=Int.mul_nonneg (Int.mul_nonneg (Int.mul_nonneg hge (Int.le_of_lt q5)) (Int.le_of_lt q5)) (Int.le_of_lt q2)
    omega
   ·intro hlt
    refine Classical.byContradiction fun hn=>?_
    rw [if_neg hn] at hv
    have a1 : 0 ≤ d.v * 10 ^ (d.e + ((LP + LP + i : Nat) : Int)).toNat:=Int.mul_nonneg (by omega) (Int.le_of_lt q1)
    have a2 : T * 5 ^ LP * 5 ^ LP * 10 ^ i < 0:=Int.mul_neg_of_neg_of_pos (Int.mul_neg_of_neg_of_pos (Int.mul_neg_of_neg_of_pos hlt q5) q5) q2
    omega
  have h2:=congrArg Int.natAbs h1
  rw [Int.natAbs_mul,Int.natAbs_mul,Int.natAbs_mul,Int.natAbs_mul,v_abs,Int.natAbs_pow,Int.natAbs_pow,Int.natAbs_pow] at h2
  rw [show (10 : Int).natAbs = 10 from rfl,show (5 : Int).natAbs = 5 from rfl] at h2
  have hr : rung64 d 1 = min R 9218868437227405312:=by
   unfold rung64
   rw [if_neg h0]
   obtain ⟨m1,m2⟩:=qM_one d
   refine near_outD d.neg (qD_pos oneD_ok oneD_s) (Nat.two_pow_pos LP) hN ?_
   rw [m1,m2,show (-((0 : Int) + 1074)).toNat = 0 by decide,show ((0 : Int) + 1074).toNat = LP by omega,Nat.pow_zero,Nat.mul_one,Nat.one_mul]
   have e10 : (10 : Nat) ^ (LP + LP) = 2 ^ LP * 5 ^ LP * (2 ^ LP * 5 ^ LP):=by
    have e : (10 : Nat) ^ LP = 2 ^ LP * 5 ^ LP:=by rw [← Nat.mul_pow]
    rw [Nat.pow_add,e]
   have key : T.natAbs * 10 ^ (LP + LP + i) = dval d.s * 10 ^ (d.e + ((LP + LP + i : Nat) : Int)).toNat * (2 ^ LP * 2 ^ LP):=by
    rw [h2,Nat.pow_add,e10]; ac_rfl
   rcases Int.le_total 0 d.e with he | he
   ·have k1 : (d.e + ((LP + LP + i : Nat) : Int)).toNat = d.e.toNat + (LP + LP + i):=by omega
    have k2 : (-d.e).toNat = 0:=by omega
    rw [k1,Nat.pow_add 10 d.e.toNat] at key
    rw [k2,Nat.pow_zero,Nat.mul_one]
    refine Nat.eq_of_mul_eq_mul_right (Nat.pow_pos (n:=LP + LP + i) (show 0 < 10 by decide)) ?_
    rw [key]; ac_rfl
   ·have k1 : LP + LP + i = (-d.e).toNat + (d.e + ((LP + LP + i : Nat) : Int)).toNat:=by omega
    have k2 : d.e.toNat = 0:=by omega
    rw [k2,Nat.pow_zero,Nat.mul_one]
    refine Nat.eq_of_mul_eq_mul_right (Nat.pow_pos (n:=(d.e + ((LP + LP + i : Nat) : Int)).toNat) (show 0 < 10 by decide)) ?_
    rw [Nat.mul_assoc T.natAbs,← Nat.pow_add,← k1,key]; ac_rfl
  rw [hr,hneg]
  unfold sgW
  cases decide (T < 0) <;> rfl
end Go.Proofs.YtlbokicainimnaaGreatDoor
set_option maxRecDepth 100000
namespace Go.Proofs.YtlbokicainimnaaGreatDoor
open Go Go.RowKit
open Go.Lib hiding intOf
def btwA (a b : Nat) (f : Dc) : Nat:=
 if keyB a = keyB b then a else if nanB a = true then theNaN else if nanB b = true then theNaN else if ninfB a = true ∧ pinfB b = true then theNaN else if infB a = true then a else if infB b = true then b
 else (to64A (addD (ofD a) (mulD (addD (ofD b) (negD (ofD a))) f)) 1).bits
theorem isinf_neg9 (b : Nat) (w : World) (hb : W64 b) : Calls Tryz.prog 90 #[.float .f64 b,.int .i64 (-1)] w fun e w'=>e = .returned (.bool (ninfB b)) ∧ w = w':=by
 have hn : Go.Op.negFloat .f64 b = if sgnB b then absB b else b + 9223372036854775808:=negFloat_D b hb
 have hnw : W64 (if sgnB b then absB b else b + 9223372036854775808) ∧ pinfB (if sgnB b then absB b else b + 9223372036854775808) = ninfB b:=by
  unfold W64 at hb ⊢
  unfold pinfB ninfB sgnB absB
  by_cases h : 9223372036854775808 ≤ b
  ·rw [decide_eq_true h,if_pos rfl,decide_eq_decide]; omega
  ·rw [decide_eq_false h,if_neg (by decide),decide_eq_decide]; omega
 have hf : (Go.FloatKind.f64.format.order (Go.Op.negFloat .f64 b) 9218868437227405311 == some Ordering.gt) = ninfB b:=by
  rw [hn,w_gt_max _ hnw.1,hnw.2]
 clear hn hnw
 go_enter Tryz.func90,Tryz.ntmps90
 go_wp2
 go_ret
 exact ⟨rfl,rfl⟩
theorem isinf_pos9 (b : Nat) (w : World) (hb : W64 b) : Calls Tryz.prog 90 #[.float .f64 b,.int .i64 1] w fun e w'=>e = .returned (.bool (pinfB b)) ∧ w = w':=by
 go_enter Tryz.func90,Tryz.ntmps90
 go_wp2
 go_ret
 exact ⟨rfl,rfl⟩
theorem ord_own9 {b : Nat} (hb : W64 b) (nb : nanB b = false) : Go.FloatKind.f64.format.order b b = some .eq:=by
 have:=ord_D b b hb hb nb nb
 show Ieee.double.order b b = _
 rw [this]
 congr 1
 exact Int.compare_eq_eq.2 rfl
set_option maxHeartbeats 8000000 in
theorem between9_v (a b : Nat) (f : Dc) (r : Nat) (w : World) (ha : W64 a) (hb : W64 b) (hr : r < 2 ^ LP) (hf : Rep f ((r * 5 ^ LP : Nat) : Int) (-(LP : Int))) (htab : Tab w) :
  Calls Tryz.prog 63 #[.float .f64 a,.float .f64 b,.agg #[.bool f.neg,.string (bs f.s),.int .i64 f.e]] w fun e w'=>e = .returned (.float .f64 (btwA a b f)) ∧ Below w.heap.size w w':=by
 have HB0 : Hid (Below w.heap.size w (w.alloc (.cells #[.bool f.neg,.string (bs f.s),.int .i64 f.e] 35))):=(Below.refl _ _).alloc (Nat.le_refl _) _
 have HSM : Hid (∀ W,Calls Tryz.prog 125 #[.float .f64 a,.float .f64 b] W fun e w'=>e = .returned (.bool (keyB a == keyB b)) ∧ W = w'):=fun W=>same_any a b W ha hb
 have HNA : Hid (∀ W,Calls Tryz.prog 90 #[.float .f64 a,.int .i64 (-1)] W fun e w'=>e = .returned (.bool (ninfB a)) ∧ W = w'):=fun W=>isinf_neg9 a W ha
 have HPB : Hid (∀ W,Calls Tryz.prog 90 #[.float .f64 b,.int .i64 1] W fun e w'=>e = .returned (.bool (pinfB b)) ∧ W = w'):=fun W=>isinf_pos9 b W hb
 have HIA : Hid (∀ W,Calls Tryz.prog 90 #[.float .f64 a,.int .i64 0] W fun e w'=>e = .returned (.bool (infB a)) ∧ W = w'):=fun W=>isinf_any a W ha
 have HIB : Hid (∀ W,Calls Tryz.prog 90 #[.float .f64 b,.int .i64 0] W fun e w'=>e = .returned (.bool (infB b)) ∧ W = w'):=fun W=>isinf_any b W hb
 obtain ⟨T,hT⟩ : ∃ T,T = btwA a b f:=⟨_,rfl⟩
 rw [← hT]
 by_cases hk : keyB a = keyB b
 ·have ht : T = a:=by rw [hT]; unfold btwA; rw [if_pos hk]
  rw [show (keyB a == keyB b) = true by rw [hk]; simp] at HSM
  subst ht
  clear hT hk hf hr htab
  go_enter Tryz.func63,Tryz.ntmps63
  go_wp2_with (go_at_call 125; with_reducible refine (HSM.out _).mono ?_; rintro e w' ⟨rfl,rfl⟩)
  go_ret
  exact ⟨rfl,HB0.out⟩
 ·rw [show (keyB a == keyB b) = false by rw [beq_eq_false_iff_ne]; exact hk] at HSM
  cases na : nanB a
  ·have oa:=ord_own9 ha na
   cases nb : nanB b
   ·have ob:=ord_own9 hb nb
    by_cases hi : ninfB a = true ∧ pinfB b = true
    ·have ht : T = theNaN:=by rw [hT]; unfold btwA; rw [if_neg hk,if_neg (by rw [na]; decide),if_neg (by rw [nb]; decide),if_pos hi]
     rw [hi.1] at HNA
     rw [hi.2] at HPB
     subst ht
     clear hT hk hf hr htab hi
     go_enter Tryz.func63,Tryz.ntmps63
     go_wp2_with (first | (go_at_call 125; with_reducible refine (HSM.out _).mono ?_; rintro e w' ⟨rfl,rfl⟩) | (go_at_call 90; with_reducible refine (HNA.out _).mono ?_; rintro e w' ⟨rfl,rfl⟩) | (go_at_call 90; with_reducible refine (HPB.out _).mono ?_; rintro e w' ⟨rfl,rfl⟩) | (go_at_call 91; with_reducible refine (nan_any _).mono ?_; rintro e w' ⟨rfl,rfl⟩))
     go_ret
     exact ⟨rfl,HB0.out⟩
    ·obtain ⟨n1,hn1⟩ : ∃ q,q = ninfB a:=⟨_,rfl⟩
     obtain ⟨p1,hp1⟩ : ∃ q,q = pinfB b:=⟨_,rfl⟩
     rw [← hn1] at HNA
     rw [← hp1] at HPB
     have hnp : n1 = false ∨ (n1 = true ∧ p1 = false):=by
      rw [← hn1,← hp1] at hi
      cases n1
      ·exact .inl rfl
      ·cases p1
       ·exact .inr ⟨rfl,rfl⟩
       ·exact absurd ⟨rfl,rfl⟩ hi
     have hT2 : T = if infB a = true then a else if infB b = true then b else (to64A (addD (ofD a) (mulD (addD (ofD b) (negD (ofD a))) f)) 1).bits:=by
      rw [hT]; unfold btwA; rw [if_neg hk,if_neg (by rw [na]; decide),if_neg (by rw [nb]; decide),if_neg hi]
     clear hT hi hn1 hp1
     cases hia : infB a
     ·cases hib : infB b
      ·rw [if_neg (by rw [hia]; decide),if_neg (by rw [hib]; decide)] at hT2
       have fa : finB a = true:=by rw [finB_eq,na,hia]; rfl
       have fb : finB b = true:=by rw [finB_eq,nb,hib]; rfl
       obtain ⟨x1,o1,x2,o2,x3,rp⟩:=btw_facts fa fb hr hf
       obtain ⟨A,hA⟩ : ∃ A,A = ofD a:=⟨_,rfl⟩
       obtain ⟨B,hB⟩ : ∃ B,B = ofD b:=⟨_,rfl⟩
       have okA : A.ok:=by rw [hA]; exact ofD_ok a
       have okB : B.ok:=by rw [hB]; exact ofD_ok b
       rw [← hA,← hB] at x1 o1 x2 o2 x3 rp hT2
       obtain ⟨D1,hD1⟩ : ∃ D,D = addD B (negD A):=⟨_,rfl⟩
       rw [← hD1] at o1 x2 o2 x3 rp hT2
       obtain ⟨D2,hD2⟩ : ∃ D,D = mulD D1 f:=⟨_,rfl⟩
       rw [← hD2] at o2 x3 rp hT2
       obtain ⟨D3,hD3⟩ : ∃ D,D = addD A D2:=⟨_,rfl⟩
       rw [← hD3] at rp hT2
       obtain ⟨R,hR⟩ : ∃ R,R = to64A D3 1:=⟨_,rfl⟩
       rw [← hR] at hT2
       have O1 : Hid (∀ W,Below w.heap.size w W → Calls Tryz.prog 47 #[.float .f64 a] W (fun e w'=>e = .returned (.tuple #[.agg #[.bool A.neg,.string (bs A.s),.int .i64 A.e],.int .i64 0]) ∧ Below W.heap.size W w')):=fun W hW=>by have:=of_v a ha W (htab.below hW); rw [of_room fa,← hA] at this; exact this
       have O2 : Hid (∀ W,Below w.heap.size w W → Calls Tryz.prog 47 #[.float .f64 b] W (fun e w'=>e = .returned (.tuple #[.agg #[.bool B.neg,.string (bs B.s),.int .i64 B.e],.int .i64 0]) ∧ Below W.heap.size W w')):=fun W hW=>by have:=of_v b hb W (htab.below hW); rw [of_room fb,← hB] at this; exact this
       have S1 : Hid _:=sub_c okB okA x1 hD1.symm w htab
       have S2 : Hid _:=mul_c o1 hf.ok x2 hD2.symm w htab
       have S3 : Hid _:=add_c okA o2 x3 hD3.symm w htab
       have S4 : Hid (∀ W,Below w.heap.size w W → Calls Tryz.prog 49 #[.agg #[.bool D3.neg,.string (bs D3.s),.int .i64 D3.e],.int .i64 1] W (RatioQ R W)):=fun W hW=>by rw [hR]; exact to64_v D3 1 W (htab.below hW) (by have:=ok_len rp.ok; omega)
       rw [hia] at HIA
       rw [hib] at HIB
       have HT2 : Hid (T = R.bits):=hT2
       obtain ⟨rb,ri,ro,ru,re⟩:=R
       unfold RatioQ at S4
       have HK0 : Hid (Kept _ (w.alloc (.cells #[.bool f.neg,.string (bs f.s),.int .i64 f.e] 35))):=(Kept.nil w).dec f
       clear hT2 hk hf hr htab x1 o1 x2 o2 x3 rp hA hB hD1 hD2 hD3 hR okA okB fa fb na nb hia hib
       rcases hnp with rfl | ⟨rfl,rfl⟩
       all_goals
        go_enter Tryz.func63,Tryz.ntmps63
        go_wp2_with (first | (go_at_call 125; with_reducible refine (HSM.out _).mono ?_; rintro e w' ⟨rfl,rfl⟩) | (go_at_call 90; with_reducible refine (HNA.out _).mono ?_; rintro e w' ⟨rfl,rfl⟩) | (go_at_call 90; with_reducible refine (HPB.out _).mono ?_; rintro e w' ⟨rfl,rfl⟩) | (go_at_call 90; with_reducible refine (HIA.out _).mono ?_; rintro e w' ⟨rfl,rfl⟩) | (go_at_call 90; with_reducible refine (HIB.out _).mono ?_; rintro e w' ⟨rfl,rfl⟩))
        refine (O1.out _ HB0.out).mono ?_
        rintro e w1 ⟨rfl,hb1⟩
        have HK1 : Hid (Kept _ (w1.alloc (.cells #[.bool A.neg,.string (bs A.s),.int .i64 A.e] 35))):=(HK0.out.below hb1).dec A
        have HB1 : Hid (Below w.heap.size w (w1.alloc (.cells #[.bool A.neg,.string (bs A.s),.int .i64 A.e] 35))):=(HB0.out.thru hb1).alloc (HB0.out.thru hb1).size _
        clear hb1 HK0 O1
        go_wp2_with fail
        refine (O2.out _ HB1.out).mono ?_
        rintro e w2 ⟨rfl,hb2⟩
        have HK2 : Hid (Kept _ (w2.alloc (.cells #[.bool B.neg,.string (bs B.s),.int .i64 B.e] 35))):=(HK1.out.below hb2).dec B
        have HB2 : Hid (Below w.heap.size w (w2.alloc (.cells #[.bool B.neg,.string (bs B.s),.int .i64 B.e] 35))):=(HB1.out.thru hb2).alloc (HB1.out.thru hb2).size _
        clear hb2 HK1 HB1 O2
        obtain ⟨a0,a1,a2⟩:=HK2.out.decs (d:=B) (.head _)
        obtain ⟨b0,b1,b2⟩:=HK2.out.decs (d:=A) (.tail _ (.head _))
        go_wp2_with fail
        refine (S1.out _ HB2.out).mono ?_
        rintro e w3 ⟨rfl,hb3⟩
        have HK3 : Hid (Kept _ w3):=HK2.out.below hb3
        have HB3 : Hid (Below w.heap.size w w3):=HB2.out.thru hb3
        have hd:=(Below.refl w3.heap.size w3).alloc (Nat.le_refl _) (.cells #[.bool D1.neg,.string (bs D1.s),.int .i64 D1.e] 35)
        have q1:=new_blk w3 (.cells #[.bool D1.neg,.string (bs D1.s),.int .i64 D1.e] 35)
        have HQ1 : Hid _:=q1
        have HD : Hid (Below w3.heap.size w3 (w3.alloc (.cells #[.bool D1.neg,.string (bs D1.s),.int .i64 D1.e] 35))):=hd
        clear hb3 HK2 HB2 S1 a0 a1 a2 b0 b1 b2 hd
        obtain ⟨f0,c0,f1,c1,f2,c2,-⟩:=rw3 q1
        obtain ⟨a0,a1,a2⟩:=(HK3.out.below HD.out).decs (d:=f) (.tail _ (.tail _ (.head _)))
        clear q1
        go_wp2_with fail
        refine (S2.out _ (HB3.out.thru HD.out)).mono ?_
        rintro e w5 ⟨rfl,hb5⟩
        have q5:=hb5.blk HQ1.out (blk_lt HQ1.out)
        have HD5 : Hid (Below w3.heap.size w3 w5):=HD.out.thru hb5
        obtain ⟨f0,c0,f1,c1,f2,c2,r5⟩:=rw3 q5
        have HR5 : Hid _:=r5
        clear hb5 S2 a0 a1 a2 q5 r5 HQ1 HD
        obtain ⟨b0,b1,b2⟩:=(HK3.out.below (below_row3 HD5.out (Nat.le_refl _) (.bool D2.neg) (.string (bs D2.s)) (.int .i64 D2.e))).decs (d:=A) (.tail _ (.head _))
        have q6:=HR5.out (.bool D2.neg) (.string (bs D2.s)) (.int .i64 D2.e)
        have HQ6 : Hid _:=q6
        obtain ⟨f0',c0',f1',c1',f2',c2',-⟩:=rw3 q6
        clear q6
        go_wp2_with fail
        refine (S3.out _ (HB3.out.thru (below_row3 HD5.out (Nat.le_refl _) _ _ _))).mono ?_
        rintro e w7 ⟨rfl,hb7⟩
        have HD7 : Hid (Below w3.heap.size w3 w7):=(below_row3 HD5.out (Nat.le_refl _) _ _ _).thru hb7
        have q7:=hb7.blk HQ6.out (blk_lt HQ6.out)
        obtain ⟨f0,c0,f1,c1,f2,c2,r7⟩:=rw3 q7
        have HR7 : Hid _:=r7
        clear hb7 S3 b0 b1 b2 q7 r7 HQ6 HR5 f0' c0' f1' c1' f2' c2'
        have q8:=HR7.out (.bool D3.neg) (.string (bs D3.s)) (.int .i64 D3.e)
        obtain ⟨f0',c0',f1',c1',f2',c2',-⟩:=rw3 q8
        clear q8
        go_wp2_with fail
        refine (S4.out _ (HB3.out.thru (below_row3 HD7.out (Nat.le_refl _) _ _ _))).mono ?_
        rintro e w9 ⟨rfl,hb9⟩
        have HB9 : Hid (Below w.heap.size w w9):=(HB3.out.thru (below_row3 HD7.out (Nat.le_refl _) _ _ _)).thru hb9
        clear hb9
        go_wp2
        go_ret
        exact ⟨by rw [HT2.out]; rfl,HB9.out.alloc HB9.out.size _⟩
      ·rw [if_neg (by rw [hia]; decide),if_pos hib] at hT2
       rw [hia] at HIA
       rw [hib] at HIB
       subst hT2
       clear hk hf hr htab
       rcases hnp with rfl | ⟨rfl,rfl⟩
       all_goals
        go_enter Tryz.func63,Tryz.ntmps63
        go_wp2_with (first | (go_at_call 125; with_reducible refine (HSM.out _).mono ?_; rintro e w' ⟨rfl,rfl⟩) | (go_at_call 90; with_reducible refine (HNA.out _).mono ?_; rintro e w' ⟨rfl,rfl⟩) | (go_at_call 90; with_reducible refine (HPB.out _).mono ?_; rintro e w' ⟨rfl,rfl⟩) | (go_at_call 90; with_reducible refine (HIA.out _).mono ?_; rintro e w' ⟨rfl,rfl⟩) | (go_at_call 90; with_reducible refine (HIB.out _).mono ?_; rintro e w' ⟨rfl,rfl⟩))
        go_ret
        exact ⟨rfl,HB0.out⟩
     ·rw [if_pos hia] at hT2
      rw [hia] at HIA
      subst hT2
      clear hk hf hr htab
      rcases hnp with rfl | ⟨rfl,rfl⟩
      all_goals
       go_enter Tryz.func63,Tryz.ntmps63
       go_wp2_with (first | (go_at_call 125; with_reducible refine (HSM.out _).mono ?_; rintro e w' ⟨rfl,rfl⟩) | (go_at_call 90; with_reducible refine (HNA.out _).mono ?_; rintro e w' ⟨rfl,rfl⟩) | (go_at_call 90; with_reducible refine (HPB.out _).mono ?_; rintro e w' ⟨rfl,rfl⟩) | (go_at_call 90; with_reducible refine (HIA.out _).mono ?_; rintro e w' ⟨rfl,rfl⟩))
       go_ret
       exact ⟨rfl,HB0.out⟩
   ·have ht : T = theNaN:=by rw [hT]; unfold btwA; rw [if_neg hk,if_neg (by rw [na]; decide),if_pos nb]
    have ob : Go.FloatKind.f64.format.order b b = none:=ord_D_nan_left b b nb
    subst ht
    clear hT hk hf hr htab
    go_enter Tryz.func63,Tryz.ntmps63
    go_wp2_with (first | (go_at_call 125; with_reducible refine (HSM.out _).mono ?_; rintro e w' ⟨rfl,rfl⟩) | (go_at_call 91; with_reducible refine (nan_any _).mono ?_; rintro e w' ⟨rfl,rfl⟩))
    go_ret
    exact ⟨rfl,HB0.out⟩
  ·have ht : T = theNaN:=by rw [hT]; unfold btwA; rw [if_neg hk,if_pos na]
   have oa : Go.FloatKind.f64.format.order a a = none:=ord_D_nan_left a a na
   subst ht
   clear hT hk hf hr htab
   go_enter Tryz.func63,Tryz.ntmps63
   go_wp2_with (first | (go_at_call 125; with_reducible refine (HSM.out _).mono ?_; rintro e w' ⟨rfl,rfl⟩) | (go_at_call 91; with_reducible refine (nan_any _).mono ?_; rintro e w' ⟨rfl,rfl⟩))
   go_ret
   exact ⟨rfl,HB0.out⟩
end Go.Proofs.YtlbokicainimnaaGreatDoor
