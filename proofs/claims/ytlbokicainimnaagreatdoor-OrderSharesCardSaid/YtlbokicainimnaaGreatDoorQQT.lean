import Derived.Test.YtlbokicainimnaaGreatDoorQQA
import Derived.Test.YtlbokicainimnaaGreatDoorQQM
namespace Go.Proofs.YtlbokicainimnaaGreatDoor
open Go.Lib
structure Dc where
 neg : Bool
 s : List UInt8
 e : Int
deriving DecidableEq
def Dc.none : Dc:=⟨false,[],0⟩
def Dc.v (d : Dc) : Int:=sg d.neg (dval d.s)
def Dc.ok (d : Dc) : Prop:=d = Dc.none ∨ (allDig d.s ∧ d.s.length ≤ 8192 ∧ 0 < dval d.s ∧ ¬ dval d.s % 10 = 0 ∧ d.s = bareD (dval d.s) ∧ -20000 ≤ d.e ∧ d.e ≤ 20000)
def mkD (V : Int) (e : Int) : Dc:=⟨madeS (decide (V < 0)) V.natAbs e,madeL V.natAbs e,madeE V.natAbs e⟩
def mkX (V : Int) (e : Int) : Int:=madeX V.natAbs e
theorem none_ok : Dc.none.ok:=.inl rfl
theorem none_v : Dc.none.v = 0:=rfl
theorem madeX_ok {N : Nat} (h0 : 0 < N) {e : Int} (h : madeX N e = 0) : (bareD (strip N)).length ≤ 8192 ∧ -20000 ≤ e + tz N ∧ e + tz N ≤ 20000:=by
 unfold madeX at h
 rw [if_neg (by omega)] at h
 by_cases h1 : 8192 < (bareD (strip N)).length
 ·rw [if_pos h1] at h; cases h
 ·rw [if_neg h1] at h
  by_cases h2 : 20000 - (tz N : Int) < e ∨ e < -20000 - (tz N : Int)
  ·rw [if_pos h2] at h; cases h
  ·refine ⟨by omega,by omega,by omega⟩
theorem made_none {neg : Bool} {N : Nat} {e : Int} (h : N = 0 ∨ madeX N e ≠ 0) : madeS neg N e = false ∧ madeL N e = [] ∧ madeE N e = 0:=by
 unfold madeS madeL madeE; rw [if_pos h,if_pos h,if_pos h]; exact ⟨rfl,rfl,rfl⟩
theorem made_some {neg : Bool} {N : Nat} {e : Int} (h0 : 0 < N) (h : madeX N e = 0) : madeS neg N e = neg ∧ madeL N e = bareD (strip N) ∧ madeE N e = e + tz N:=by
 have hn : ¬ (N = 0 ∨ madeX N e ≠ 0):=by omega
 unfold madeS madeL madeE; rw [if_neg hn,if_neg hn,if_neg hn]; exact ⟨rfl,rfl,rfl⟩
theorem made_may (neg : Bool) (N : Nat) (e : Int) : (⟨madeS neg N e,madeL N e,madeE N e⟩ : Dc).ok:=by
 by_cases h : N = 0 ∨ madeX N e ≠ 0
 ·obtain ⟨h1,h2,h3⟩:=made_none (neg:=neg) h
  left; rw [h1,h2,h3]; rfl
 ·have h0 : 0 < N:=by omega
  have hx : madeX N e = 0:=by omega
  obtain ⟨h1,h2,h3⟩:=made_some (neg:=neg) h0 hx
  obtain ⟨k1,k2,k3⟩:=madeX_ok h0 hx
  right
  refine ⟨?_,?_,?_,?_,?_,?_,?_⟩
  ·show allDig (madeL N e); rw [h2]; exact bare_all _
  ·show (madeL N e).length ≤ _; rw [h2]; exact k1
  ·show 0 < dval (madeL N e); rw [h2,dval_bare]; exact strip_pos h0
  ·show ¬ dval (madeL N e) % 10 = 0; rw [h2,dval_bare]; exact strip_odd N h0
  ·show madeL N e = bareD (dval (madeL N e)); rw [h2,dval_bare]
  ·show _ ≤ madeE N e; rw [h3]; exact k2
  ·show madeE N e ≤ _; rw [h3]; exact k3
theorem mkD_ok (V e : Int) : (mkD V e).ok:=made_may _ _ _
theorem mk_zero (e : Int) : mkD 0 e = Dc.none ∧ mkX 0 e = 0:=by
 obtain ⟨h1,h2,h3⟩:=made_none (neg:=decide ((0 : Int) < 0)) (N:=0) (e:=e) (.inl rfl)
 refine ⟨?_,by show madeX 0 e = 0; unfold madeX; rw [if_pos rfl]⟩
 show (⟨madeS _ 0 e,madeL 0 e,madeE 0 e⟩ : Dc) = _
 rw [h1,h2,h3]; rfl
theorem made_self {d : Dc} (h : d.ok) : madeX (dval d.s) d.e = 0 ∧ madeS d.neg (dval d.s) d.e = d.neg ∧ madeL (dval d.s) d.e = d.s ∧ madeE (dval d.s) d.e = d.e:=by
 obtain ⟨neg,s,e⟩:=d
 rcases h with h | ⟨h1,h2,h3,h4,h5,h6,h7⟩
 ·cases h
  obtain ⟨h1,h2,h3⟩:=made_none (neg:=false) (N:=0) (e:=0) (.inl rfl)
  exact ⟨by unfold madeX; rfl,h1,h2,h3⟩
 ·simp only at *
  have hs:=strip_not h4
  have ht:=tz_not h4
  have hx : madeX (dval s) e = 0:=by
   unfold madeX
   rw [if_neg (by omega),hs,← h5,if_neg (by omega),ht,if_neg (by omega)]
  obtain ⟨k1,k2,k3⟩:=made_some (neg:=neg) h3 hx
  exact ⟨hx,k1,by rw [k2,hs,← h5],by rw [k3,ht]; omega⟩
theorem ok_sign {d : Dc} (h : d.ok) : d.neg = decide (d.v < 0):=by
 obtain ⟨neg,s,e⟩:=d
 rcases h with h | ⟨h1,h2,h3,h4,h5,h6,h7⟩
 ·cases h; rfl
 ·show neg = decide (sg neg (dval s) < 0)
  have h3' : 0 < dval s:=h3
  rw [Bool.eq_iff_iff,decide_eq_true_eq,sg_lt]
  constructor
  ·exact fun h=>⟨h,by omega⟩
  ·exact fun h=>h.1
theorem mk_self {d : Dc} (h : d.ok) : mkD d.v d.e = d ∧ mkX d.v d.e = 0:=by
 obtain ⟨h1,h2,h3,h4⟩:=made_self h
 have hv : d.v.natAbs = dval d.s:=sg_natAbs _ _
 unfold mkD mkX
 rw [← ok_sign h,hv,h1,h2,h3,h4]
 exact ⟨rfl,rfl⟩
theorem neg_mul_pow (V : Int) (k : Nat) : decide (V * 10 ^ k < 0) = decide (V < 0):=by
 have hp : (0 : Int) < 10 ^ k:=Int.pow_pos (by decide)
 rw [Bool.eq_iff_iff,decide_eq_true_eq,decide_eq_true_eq]
 constructor
 ·intro h
  rcases Int.lt_or_le V 0 with g | g
  ·exact g
  ·have:=Int.mul_nonneg g (Int.le_of_lt hp); omega
 ·intro h; exact Int.mul_neg_of_neg_of_pos h hp
theorem abs_mul_pow (V : Int) (k : Nat) : (V * 10 ^ k).natAbs = V.natAbs * 10 ^ k:=by
 rw [Int.natAbs_mul,Int.natAbs_pow]; rfl
theorem mk_scale (V : Int) (k : Nat) (e : Int) : mkD (V * 10 ^ k) e = mkD V (e + k) ∧ mkX (V * 10 ^ k) e = mkX V (e + k):=by
 unfold mkD mkX
 rw [neg_mul_pow,abs_mul_pow]
 obtain ⟨h1,h2,h3,h4⟩:=made_scale (decide (V < 0)) V.natAbs k e
 rw [h1,h2,h3,h4]; exact ⟨rfl,rfl⟩
def Rep (d : Dc) (W e : Int) : Prop:=d.ok ∧ ∃ j : Nat,0 ≤ d.e + j ∧ 0 ≤ e + j ∧ d.v * 10 ^ (d.e + j).toNat = W * 10 ^ (e + j).toNat
theorem Rep.ok {d : Dc} {W e : Int} (h : Rep d W e) : d.ok:=h.1
theorem rep_self {d : Dc} (h : d.ok) : Rep d d.v d.e:=⟨h,d.e.natAbs,by omega,by omega,rfl⟩
theorem pow_pos10 (k : Nat) : (10 : Int) ^ k ≠ 0:=Int.ne_of_gt (Int.pow_pos (by decide))
theorem Rep.all {d : Dc} {W e : Int} (h : Rep d W e) (j : Nat) (h1 : 0 ≤ d.e + j) (h2 : 0 ≤ e + j) : d.v * 10 ^ (d.e + j).toNat = W * 10 ^ (e + j).toNat:=by
 obtain ⟨-,i,g1,g2,g3⟩:=h
 rcases Nat.le_total i j with g | g
 ·obtain ⟨k,rfl⟩:=Nat.exists_eq_add_of_le g
  rw [show (d.e + ((i + k : Nat) : Int)).toNat = (d.e + i).toNat + k by omega,show (e + ((i + k : Nat) : Int)).toNat = (e + i).toNat + k by omega,Int.pow_add,Int.pow_add,← Int.mul_assoc,← Int.mul_assoc,g3]
 ·obtain ⟨k,rfl⟩:=Nat.exists_eq_add_of_le g
  rw [show (d.e + ((j + k : Nat) : Int)).toNat = (d.e + j).toNat + k by omega,show (e + ((j + k : Nat) : Int)).toNat = (e + j).toNat + k by omega,Int.pow_add,Int.pow_add,← Int.mul_assoc,← Int.mul_assoc] at g3
  exact Int.eq_of_mul_eq_mul_right (pow_pos10 k) g3
theorem Rep.mk {d : Dc} {W e : Int} (h : Rep d W e) : mkD W e = d ∧ mkX W e = 0:=by
 obtain ⟨h0,j,h1,h2,h3⟩:=h
 obtain ⟨a1,a2⟩:=mk_self h0
 obtain ⟨b1,b2⟩:=mk_scale d.v (d.e + j).toNat (-j)
 obtain ⟨c1,c2⟩:=mk_scale W (e + j).toNat (-j)
 rw [show (-(j : Int)) + ((d.e + j).toNat : Int) = d.e by omega] at b1 b2
 rw [show (-(j : Int)) + ((e + j).toNat : Int) = e by omega,← h3] at c1 c2
 rw [← c1,← c2,b1,b2]; exact ⟨a1,a2⟩
theorem Rep.uniq {d d' : Dc} {W e : Int} (h : Rep d W e) (h' : Rep d' W e) : d = d':=by rw [← h.mk.1,← h'.mk.1]
theorem rep_mk {W e : Int} (h : mkX W e = 0) : Rep (mkD W e) W e:=by
 refine ⟨mkD_ok W e,?_⟩
 rcases Nat.eq_zero_or_pos W.natAbs with g | g
 ·have : W = 0:=by omega
  subst this
  rw [(mk_zero e).1]
  exact ⟨e.natAbs,by show 0 ≤ (0 : Int) + _; omega,by omega,by rw [none_v,Int.zero_mul,Int.zero_mul]⟩
 ·obtain ⟨k1,k2,k3⟩:=made_some (neg:=decide (W < 0)) g h
  have hv : (mkD W e).v = sg (decide (W < 0)) (strip W.natAbs):=by
   show sg (madeS _ _ _) (dval (madeL _ _)) = _
   rw [k1,k2,dval_bare]
  have he : (mkD W e).e = e + tz W.natAbs:=k3
  refine ⟨e.natAbs,by rw [he]; omega,by omega,?_⟩
  rw [he,hv,show (e + (tz W.natAbs : Int) + (e.natAbs : Int)).toNat = tz W.natAbs + (e + (e.natAbs : Int)).toNat by omega,Int.pow_add,← Int.mul_assoc]
  congr 1
  have hs:=strip_mul W.natAbs
  have : sg (decide (W < 0)) (strip W.natAbs) * 10 ^ tz W.natAbs = sg (decide (W < 0)) (strip W.natAbs * 10 ^ tz W.natAbs):=by
   rw [sg_mul]; congr 1
  rw [this,hs]
  unfold sg
  by_cases h : W < 0
  ·rw [decide_eq_true h,if_pos rfl]; omega
  ·rw [decide_eq_false h,if_neg (by simp)]; omega
theorem Rep.lower {d : Dc} {W e : Int} (h : Rep d W e) (k : Nat) : Rep d (W * 10 ^ k) (e - k):=by
 obtain ⟨h0,j,h1,h2,h3⟩:=h
 refine ⟨h0,j + k,by omega,by omega,?_⟩
 rw [show (d.e + ((j + k : Nat) : Int)).toNat = (d.e + j).toNat + k by omega,show (e - k + ((j + k : Nat) : Int)).toNat = (e + j).toNat by omega,Int.pow_add,← Int.mul_assoc,h3,Int.mul_right_comm]
theorem Rep.at {d : Dc} {W e : Int} (h : Rep d W e) (f : Int) (hf : f ≤ e) : Rep d (W * 10 ^ (e - f).toNat) f:=by
 have:=h.lower (e - f).toNat
 rwa [show e - ((e - f).toNat : Int) = f by omega] at this
theorem Rep.mul {d d' : Dc} {W W' e e' : Int} (h : Rep d W e) (h' : Rep d' W' e') : mkD (d.v * d'.v) (d.e + d'.e) = mkD (W * W') (e + e') ∧ mkX (d.v * d'.v) (d.e + d'.e) = mkX (W * W') (e + e'):=by
 obtain ⟨-,j,h1,h2,h3⟩:=h
 obtain ⟨-,i,g1,g2,g3⟩:=h'
 obtain ⟨b1,b2⟩:=mk_scale (d.v * d'.v) ((d.e + j).toNat + (d'.e + i).toNat) (-(j + i))
 obtain ⟨c1,c2⟩:=mk_scale (W * W') ((e + j).toNat + (e' + i).toNat) (-(j + i))
 have hm : d.v * d'.v * 10 ^ ((d.e + j).toNat + (d'.e + i).toNat) = W * W' * 10 ^ ((e + j).toNat + (e' + i).toNat):=by
  have hh : ∀ a b p q : Int,a * b * (p * q) = (a * p) * (b * q):=fun a b p q=>by
   rw [Int.mul_assoc,Int.mul_assoc]; congr 1; rw [← Int.mul_assoc,← Int.mul_assoc,Int.mul_comm b p]
  rw [Int.pow_add,Int.pow_add,hh,h3,g3,← hh]
 rw [hm] at b1 b2
 rw [show (-((j : Int) + i)) + (((d.e + j).toNat + (d'.e + i).toNat : Nat) : Int) = d.e + d'.e by omega] at b1 b2
 rw [show (-((j : Int) + i)) + (((e + j).toNat + (e' + i).toNat : Nat) : Int) = e + e' by omega] at c1 c2
 rw [← b1,← b2,c1,c2]; exact ⟨rfl,rfl⟩
theorem rep_add {d d' : Dc} {W W' e : Int} (h : Rep d W e) (h' : Rep d' W' e) (f : Int) (X Y : Int) (hX : Rep d X f) (hY : Rep d' Y f) : mkD (X + Y) f = mkD (W + W') e ∧ mkX (X + Y) f = mkX (W + W') e:=by
 obtain ⟨j,hj⟩ : ∃ j,j = d.e.natAbs + d'.e.natAbs + e.natAbs + f.natAbs:=⟨_,rfl⟩
 have e1:=h.all j (by omega) (by omega)
 have e2:=h'.all j (by omega) (by omega)
 have e3:=hX.all j (by omega) (by omega)
 have e4:=hY.all j (by omega) (by omega)
 obtain ⟨b1,b2⟩:=mk_scale (X + Y) (f + j).toNat (-j)
 obtain ⟨c1,c2⟩:=mk_scale (W + W') (e + j).toNat (-j)
 have hm : (X + Y) * 10 ^ (f + j).toNat = (W + W') * 10 ^ (e + j).toNat:=by rw [Int.add_mul,Int.add_mul,← e1,← e2,← e3,← e4]
 rw [show -(j : Int) + ((f + j).toNat : Int) = f by omega] at b1 b2
 rw [show -(j : Int) + ((e + j).toNat : Int) = e by omega] at c1 c2
 rw [← b1,← b2,← c1,← c2,hm]; exact ⟨rfl,rfl⟩
theorem mk_room {W e : Int} {m : Nat} (h : W.natAbs < 10 ^ m) (hm : m ≤ 8192) (h1 : -20000 ≤ e) (h2 : e + m ≤ 20000) : mkX W e = 0:=by
 unfold mkX madeX
 by_cases h0 : W.natAbs = 0
 ·rw [if_pos h0]
 ·have h3:=bare_len_le _ _ h
  have h4:=bare_len_tz W.natAbs (by omega)
  rw [if_neg h0,if_neg (by omega),if_neg (by omega)]
def Dc.okB (d : Dc) : Bool:=
 if d.s = [] then !d.neg && decide (d.e = 0)
 else decide (d.s.length ≤ 8192) && (d.s.all isDig && (!(d.s.headD 0 == 48) && (!(d.s.getLastD 0 == 48) && (decide (-20000 ≤ d.e) && decide (d.e ≤ 20000)))))
theorem bare_head (n : Nat) : ¬ ((bareD n).headD 0 == 48) = true:=by
 intro hc
 have hb:=trimL_bare (bareD n) (bare_all n)
 rw [dval_bare] at hb
 cases hl : bareD n with
 | nil=>rw [hl] at hc; cases hc
 | cons a l =>
   rw [hl] at hc hb
   have hc' : (a == 48) = true:=hc
   unfold trimLeftB at hb
   rw [dw_pos hc'] at hb
   have h1:=(List.dropWhile_sublist (l:=l) (· == 48)).length_le
   rw [hb] at h1
   simp at h1
   omega
theorem head_bare {l : List UInt8} (h : allDig l) (h0 : ¬ (l.headD 0 == 48) = true) : l = bareD (dval l):=by
 rw [← trimL_bare l h]
 cases l with
 | nil=>rfl
 | cons a l =>
   have h0' : ¬ (a == 48) = true:=h0
   unfold trimLeftB; rw [dw_neg h0']
theorem last_mod {l : List UInt8} (h : allDig l) (h0 : l ≠ []) : (l.getLastD 0 == 48) = decide (dval l % 10 = 0):=by
 have hl:=List.dropLast_concat_getLast h0
 generalize l.dropLast = r at hl
 generalize l.getLast h0 = c at hl
 subst hl
 obtain ⟨-,h2⟩:=all_snoc h
 obtain ⟨d1,d2,d3⟩:=dig_back c h2
 rw [dval_snoc,List.getLastD_concat,Bool.eq_iff_iff,decide_eq_true_eq,beq_iff_eq]
 constructor
 ·intro e; subst e; have : (48 : UInt8).toNat = 48:=rfl; omega
 ·intro e
  have : c.toNat - 48 = 0:=by omega
  rw [d1,this]; rfl
theorem okB_iff (d : Dc) : d.okB = true ↔ d.ok:=by
 obtain ⟨neg,s,e⟩:=d
 unfold Dc.okB Dc.ok Dc.none
 by_cases h : s = []
 ·subst h
  simp only [if_true]
  constructor
  ·intro hh
   left
   simp at hh
   rw [hh.1,hh.2]
  ·rintro (hh | hh)
   ·cases hh; rfl
   ·have:=hh.2.2.1; rw [dval_nil] at this; omega
 ·simp only [if_neg h,Bool.and_eq_true,decide_eq_true_eq,Bool.not_eq_true']
  constructor
  ·rintro ⟨h1,h2,h3,h4,h5,h6⟩
   have h2' : allDig s:=List.all_eq_true.1 h2
   have hb:=head_bare h2' (by rw [h3]; simp)
   right
   have hp : 0 < dval s:=by
    rcases Nat.eq_zero_or_pos (dval s) with g | g
    ·rw [g] at hb; exact absurd hb h
    ·exact g
   rw [last_mod h2' h] at h4
   exact ⟨h2',h1,hp,of_decide_eq_false h4,hb,h5,h6⟩
  ·rintro (hh | ⟨h1,h2,h3,h4,h5,h6,h7⟩)
   ·cases hh; exact absurd rfl h
   ·refine ⟨h2,List.all_eq_true.2 h1,?_,?_,h6,h7⟩
    ·have:=bare_head (dval s)
     have h5' : bareD (dval s) = s:=h5.symm
     rw [h5'] at this
     exact eq_false_of_ne_true this
    ·rw [last_mod h1 h]; exact decide_eq_false h4
instance (d : Dc) : Decidable d.ok:=decidable_of_iff _ (okB_iff d)
theorem okB_ok {d : Dc} (h : d.ok) : d.okB = true:=(okB_iff d).2 h
theorem ok_nil {d : Dc} (h : d.ok) (h0 : d.s = []) : d = Dc.none:=by
 rcases h with h | ⟨-,-,h3,-⟩
 ·exact h
 ·rw [h0,dval_nil] at h3; omega
theorem ok_dig {d : Dc} (h : d.ok) : allDig d.s:=by
 rcases h with h | h
 ·rw [h]; intro c hc; cases hc
 ·exact h.1
theorem ok_len {d : Dc} (h : d.ok) : d.s.length ≤ 8192:=by
 rcases h with h | h
 ·rw [h]; exact Nat.zero_le _
 ·exact h.2.1
theorem ok_exp {d : Dc} (h : d.ok) : -20000 ≤ d.e ∧ d.e ≤ 20000:=by
 rcases h with h | h
 ·rw [h]; constructor <;> decide
 ·exact ⟨h.2.2.2.2.2.1,h.2.2.2.2.2.2⟩
theorem ok_bare {d : Dc} (h : d.ok) : d.s = bareD (dval d.s):=by
 rcases h with h | h
 ·rw [h]; rfl
 ·exact h.2.2.2.2.1
theorem ok_val {d : Dc} (h : d.ok) : dval d.s < 10 ^ d.s.length:=dval_lt _ (ok_dig h)
theorem v_abs (d : Dc) : d.v.natAbs = dval d.s:=sg_natAbs _ _
theorem ok_pos {d : Dc} (h : d.ok) (h0 : d.s ≠ []) : 0 < dval d.s:=by
 rcases h with h | h
 ·rw [h] at h0; exact absurd rfl h0
 ·exact h.2.2.1
def negD (d : Dc) : Dc:=if d.s = [] then d else { d with neg:=!d.neg }
theorem negD_ok {d : Dc} (h : d.ok) : (negD d).ok:=by
 unfold negD
 by_cases h0 : d.s = []
 ·rw [if_pos h0]; exact h
 ·rw [if_neg h0]
  rcases h with h | h
  ·rw [h] at h0; exact absurd rfl h0
  ·exact .inr h
theorem negD_s (d : Dc) : (negD d).s = d.s:=by unfold negD; split <;> rfl
theorem negD_e (d : Dc) : (negD d).e = d.e:=by unfold negD; split <;> rfl
theorem negD_v {d : Dc} (h : d.ok) : (negD d).v = -d.v:=by
 unfold negD
 by_cases h0 : d.s = []
 ·rw [if_pos h0,ok_nil h h0,none_v]; rfl
 ·rw [if_neg h0]
  unfold Dc.v sg
  cases d.neg <;> simp
theorem Rep.neg {d : Dc} {W e : Int} (h : Rep d W e) : Rep (negD d) (-W) e:=by
 obtain ⟨h0,j,h1,h2,h3⟩:=h
 exact ⟨negD_ok h0,j,by rw [negD_e]; exact h1,h2,by rw [negD_e,negD_v h0,Int.neg_mul,h3,Int.neg_mul]⟩
def liftE (a b : Dc) : Int:=if a.s = [] then b.e else if b.s = [] then a.e else min a.e b.e
def liftV (a : Dc) (f : Int) : Int:=a.v * 10 ^ (a.e - f).toNat
theorem liftE_cases {a b : Dc} (ha : a.ok) (hb : b.ok) : (a.s = [] ∨ liftE a b ≤ a.e) ∧ (b.s = [] ∨ liftE a b ≤ b.e) ∧ -20000 ≤ liftE a b ∧ liftE a b ≤ 20000:=by
 have h1:=ok_exp ha
 have h2:=ok_exp hb
 unfold liftE
 by_cases h : a.s = []
 ·rw [if_pos h]; exact ⟨.inl h,.inr (Int.le_refl _),h2.1,h2.2⟩
 ·rw [if_neg h]
  by_cases g : b.s = []
  ·rw [if_pos g]; exact ⟨.inr (Int.le_refl _),.inl g,h1.1,h1.2⟩
  ·rw [if_neg g]; exact ⟨.inr (by omega),.inr (by omega),by omega,by omega⟩
theorem rep_none (e : Int) : Rep Dc.none 0 e:=by
 refine ⟨none_ok,e.natAbs,?_,by omega,by rw [none_v,Int.zero_mul,Int.zero_mul]⟩
 show 0 ≤ (0 : Int) + _
 omega
theorem rep_lift {a : Dc} (ha : a.ok) {f : Int} (h : a.s = [] ∨ f ≤ a.e) : Rep a (liftV a f) f:=by
 rcases h with h | h
 ·have:=ok_nil ha h
  subst this
  unfold liftV
  rw [none_v,Int.zero_mul]
  exact rep_none f
 ·exact (rep_self ha).at f h
def addV (a b : Dc) : Int:=liftV a (liftE a b) + liftV b (liftE a b)
def addD (a b : Dc) : Dc:=mkD (addV a b) (liftE a b)
def addX (a b : Dc) : Int:=mkX (addV a b) (liftE a b)
def mulD (a b : Dc) : Dc:=mkD (a.v * b.v) (a.e + b.e)
def mulX (a b : Dc) : Int:=mkX (a.v * b.v) (a.e + b.e)
theorem add_rep {a b : Dc} {W W' e : Int} (h : Rep a W e) (h' : Rep b W' e) : addD a b = mkD (W + W') e ∧ addX a b = mkX (W + W') e:=by
 obtain ⟨c1,c2,-⟩:=liftE_cases h.ok h'.ok
 exact rep_add h h' _ _ _ (rep_lift h.ok c1) (rep_lift h'.ok c2)
theorem mul_rep {a b : Dc} {W W' e e' : Int} (h : Rep a W e) (h' : Rep b W' e') : mulD a b = mkD (W * W') (e + e') ∧ mulX a b = mkX (W * W') (e + e'):=h.mul h'
end Go.Proofs.YtlbokicainimnaaGreatDoor
