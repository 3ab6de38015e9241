import Derived.Test.YtlbokicainimnaaGreatDoorQNE
import Derived.Test.YtlbokicainimnaaGreatDoorQMA
import Derived.BigQuiet
import Derived.Deep.CutBlock
import Derived.Deep.DeepCutAuto
import Derived.Deep.RegionHeld3
import Derived.Laws.CopyOwn
import Derived.Test.YtlbokicainimnaaGreatDoorQQT
namespace Go.Proofs.YtlbokicainimnaaGreatDoor
def upW (mode : Int) (neg odd : Bool) (half : Int) : Bool:=
 if mode = 1 then decide (0 < half) || (decide (half = 0) && odd)
 else if mode = 2 then decide (0 ≤ half)
 else if mode = 3 then !neg
 else if mode = 4 then neg
 else if mode = 6 then !odd
 else false
def maxW (mode : Int) (neg : Bool) : Bool:=decide (mode = 5) || decide (mode = 6) || (decide (mode = 3) && neg) || (decide (mode = 4) && !neg)
structure Mag where
 Q : Int → Nat
 H : Int → Int
 Z : Int → Bool
structure Mag.Ok (g : Mag) : Prop where
 next : ∀ e,g.Q (e + 1) = g.Q e / 2
 zed : ∀ e,g.Z (e + 1) = (g.Z e && decide (g.Q e % 2 = 0))
 half : ∀ e,g.H (e + 1) = if g.Q e % 2 = 1 then (if g.Z e = true then 0 else 1) else -1
theorem Mag.Ok.on {g : Mag} (h : g.Ok) (e : Int) (k : Nat) : g.Q (e + k) = g.Q e / 2^k:=by
 induction k with
 | zero=>rw [Nat.pow_zero,Nat.div_one,show e + ((0 : Nat) : Int) = e by omega]
 | succ k ih=>rw [show e + ((k + 1 : Nat) : Int) = e + (k : Int) + 1 by omega,h.next,ih,Nat.div_div_eq_div_mul,Nat.pow_succ]
theorem Mag.Ok.anti {g : Mag} (h : g.Ok) {e f : Int} (hl : e ≤ f) : g.Q f ≤ g.Q e:=by
 obtain ⟨k,hk⟩ : ∃ k : Nat,f = e + k:=⟨(f - e).toNat,by omega⟩
 subst hk; rw [h.on]; exact Nat.div_le_self _ _
def IsE (b : Nat) (L : Int) (g : Mag) (e : Int) : Prop:=L ≤ e ∧ g.Q e < 2^b ∧ (e = L ∨ 2^(b - 1) ≤ g.Q e)
theorem IsE.uniq {b : Nat} {L e f : Int} {g : Mag} (hb : 0 < b) (hg : g.Ok) (h1 : IsE b L g e) (h2 : IsE b L g f) : e = f:=by
 have key : ∀ {e f : Int},IsE b L g e → IsE b L g f → ¬ e < f:=fun {e f} h1 h2 hlt=>by
  obtain ⟨k,hk⟩ : ∃ k : Nat,f = e + 1 + k:=⟨(f - e - 1).toNat,by omega⟩
  have a1:=h2.2.2.resolve_left (by have:=h1.1; omega)
  have a2:=hg.anti (show e + 1 ≤ f by omega)
  rw [hg.next] at a2
  have a3:=h1.2.1
  have : 2^b = 2 * 2^(b - 1):=by rw [Nat.mul_comm,← Nat.pow_succ]; congr 1; omega
  omega
 have k1:=key h1 h2
 have k2:=key h2 h1
 omega
theorem IsE.up {b : Nat} {L e : Int} {g : Mag} {k : Nat} (hg : g.Ok) (hL : L ≤ e) (hb : 1 ≤ b) (hk : blen (g.Q e) = b + k) (hk0 : 0 < k) : IsE b L g (e + k):=by
 have h0 : g.Q e ≠ 0:=by intro h; rw [h] at hk; unfold blen at hk; simp at hk; omega
 obtain ⟨a1,a2,-⟩:=blen_pos h0
 rw [hk] at a1 a2
 refine ⟨by omega,?_,.inr ?_⟩
 ·rw [hg.on,Nat.div_lt_iff_lt_mul (Nat.two_pow_pos k),← Nat.pow_add]; exact a2
 ·rw [hg.on,Nat.le_div_iff_mul_le (Nat.two_pow_pos k),← Nat.pow_add,show b - 1 + k = b + k - 1 by omega]; exact a1
structure Out where
 inf : Bool
 m : Nat
 e : Int
 ine : Bool
 ov : Bool
 un : Bool
def kW (neg : Bool) (mode : Int) (q : Nat) (h : Int) (z : Bool) : Nat:=if (!z && upW mode neg (decide (q % 2 = 1)) h) = true then q + 1 else q
def outW (b : Nat) (T : Int) (neg : Bool) (mode : Int) (q : Nat) (h : Int) (z : Bool) (e : Int) : Out:=
 if T < (if kW neg mode q h z = 2^b then e + 1 else e) then
  (if maxW mode neg = true then ⟨false,2^b - 1,T,true,true,!z && decide (q < 2^(b - 1))⟩ else ⟨true,0,0,true,true,!z && decide (q < 2^(b - 1))⟩)
 else ⟨false,if kW neg mode q h z = 2^b then 2^(b - 1) else kW neg mode q h z,if kW neg mode q h z = 2^b then e + 1 else e,!z,false,!z && decide (q < 2^(b - 1))⟩
def rnR (b : Nat) (L : Int) (neg : Bool) (mode : Int) (g : Mag) (e : Int) : Nat:=(e - L).toNat * 2^(b - 1) + kW neg mode (g.Q e) (g.H e) (g.Z e)
def infR (b : Nat) (L T : Int) : Nat:=(T - L + 2).toNat * 2^(b - 1)
def Out.rung (b : Nat) (L T : Int) (o : Out) : Nat:=if o.inf = true then infR b L T else (o.e - L).toNat * 2^(b - 1) + o.m
theorem kW_le {neg : Bool} {mode : Int} {q : Nat} {h : Int} {z : Bool} : q ≤ kW neg mode q h z ∧ kW neg mode q h z ≤ q + 1:=by unfold kW; split <;> omega
theorem out_rung {b : Nat} {L T e : Int} {neg : Bool} {mode : Int} {g : Mag} (hb : 2 ≤ b) (hLT : L ≤ T) (h : IsE b L g e) :
  (outW b T neg mode (g.Q e) (g.H e) (g.Z e) e).ov = decide (infR b L T ≤ rnR b L neg mode g e) ∧
  (outW b T neg mode (g.Q e) (g.H e) (g.Z e) e).rung b L T = (if infR b L T ≤ rnR b L neg mode g e then (if maxW mode neg = true then infR b L T - 1 else infR b L T) else rnR b L neg mode g e):=by
 obtain ⟨h1,h2,h3⟩:=h
 have hk:=kW_le (neg:=neg) (mode:=mode) (q:=g.Q e) (h:=g.H e) (z:=g.Z e)
 have h0 : 2^b = 2 * 2^(b - 1):=by rw [Nat.mul_comm,← Nat.pow_succ]; congr 1; omega
 obtain ⟨B,hB⟩ : ∃ B,B = 2^(b - 1):=⟨_,rfl⟩
 have hB0 : 0 < B:=by rw [hB]; exact Nat.two_pow_pos _
 obtain ⟨K,hK⟩ : ∃ K,K = kW neg mode (g.Q e) (g.H e) (g.Z e):=⟨_,rfl⟩
 unfold outW Out.rung rnR infR
 rw [h0] at h2
 rw [← hK,h0,← hB]
 rw [← hK] at hk
 rw [← hB] at h2 h3
 obtain ⟨x,hx⟩ : ∃ x : Nat,e = L + x:=⟨(e - L).toNat,by omega⟩
 obtain ⟨t,ht⟩ : ∃ t : Nat,T = L + t:=⟨(T - L).toNat,by omega⟩
 subst hx ht
 rw [show (L + (x : Int) - L).toNat = x by omega,show (L + (t : Int) - L + 2).toNat = t + 2 by omega]
 have e1 : (t + 2) * B = t * B + 2 * B:=by rw [Nat.add_mul]
 have e2 : (x + 1) * B = x * B + B:=by rw [Nat.add_mul,Nat.one_mul]
 have hmono : x ≤ t → x * B ≤ t * B:=fun h=>Nat.mul_le_mul_right B h
 have hmono2 : t + 1 ≤ x → t * B + B ≤ x * B:=fun h=>by have:=Nat.mul_le_mul_right B h; rw [Nat.add_mul,Nat.one_mul] at this; exact this
 have hmono3 : x + 1 ≤ t → x * B + B ≤ t * B:=fun h=>by have:=Nat.mul_le_mul_right B h; rw [Nat.add_mul,Nat.one_mul] at this; exact this
 by_cases hKb : K = 2 * B
 ·rw [if_pos hKb,if_pos hKb]
  by_cases ho : L + (t : Int) < L + (x : Int) + 1
  ·have hov : (t + 2) * B ≤ x * B + K := by
    rw [e1,hKb]
    have:=Nat.mul_le_mul_right B (show t ≤ x by omega)
    omega
   rw [if_pos ho,if_pos hov,decide_eq_true hov]
   cases maxW mode neg
   ·exact ⟨rfl,rfl⟩
   ·refine ⟨rfl,?_⟩
    show (L + (t : Int) - L).toNat * B + (2 * B - 1) = (t + 2) * B - 1
    rw [show (L + (t : Int) - L).toNat = t by omega,e1]; omega
  ·have hov : ¬ (t + 2) * B ≤ x * B + K := by
    rw [e1,hKb]
    have:=hmono3 (by omega)
    omega
   rw [if_neg ho,if_neg hov,decide_eq_false hov]
   refine ⟨rfl,?_⟩
   show (L + (x : Int) + 1 - L).toNat * B + B = x * B + K
   rw [show (L + (x : Int) + 1 - L).toNat = x + 1 by omega,hKb,e2]; omega
 ·rw [if_neg hKb,if_neg hKb]
  by_cases ho : L + (t : Int) < L + (x : Int)
  ·have hov : (t + 2) * B ≤ x * B + K := by
    rw [e1]
    have a1:=h3.resolve_left (by omega)
    have:=hmono2 (by omega)
    omega
   rw [if_pos ho,if_pos hov,decide_eq_true hov]
   cases maxW mode neg
   ·exact ⟨rfl,rfl⟩
   ·refine ⟨rfl,?_⟩
    show (L + (t : Int) - L).toNat * B + (2 * B - 1) = (t + 2) * B - 1
    rw [show (L + (t : Int) - L).toNat = t by omega,e1]; omega
  ·have hov : ¬ (t + 2) * B ≤ x * B + K := by
    rw [e1]
    have:=hmono (by omega)
    omega
   rw [if_neg ho,if_neg hov,decide_eq_false hov]
   refine ⟨rfl,?_⟩
   show (L + (x : Int) - L).toNat * B + K = x * B + K
   rw [show (L + (x : Int) - L).toNat = x by omega]
end Go.Proofs.YtlbokicainimnaaGreatDoor
namespace Go.Proofs.YtlbokicainimnaaGreatDoor
open Go.RowKit
theorem half_num (A C : Nat) (hC : 0 < C) : A / C = 2 * A / C / 2 ∧ (2 * A / C % 2 = 0 → 2 * (A % C) = 2 * A % C) ∧ (2 * A / C % 2 = 1 → 2 * (A % C) = C + 2 * A % C):=by
 have h1:=Nat.div_add_mod A C
 have h2:=Nat.mod_lt A hC
 obtain ⟨x,hx⟩ : ∃ x,x = A / C:=⟨_,rfl⟩
 obtain ⟨y,hy⟩ : ∃ y,y = A % C:=⟨_,rfl⟩
 rw [← hx,← hy] at h1
 rw [← hy] at h2
 have hA : 2 * A = 2 * (C * x) + 2 * y:=by omega
 by_cases hc : 2 * y < C
 ·have e : 2 * A / C = 2 * x ∧ 2 * A % C = 2 * y := by
   rw [Nat.div_mod_unique hC]
   exact ⟨by rw [hA,Nat.mul_left_comm]; omega,hc⟩
  rw [e.1,e.2,← hx,← hy]
  exact ⟨by omega,fun _=>rfl,fun h=>by omega⟩
 ·have e : 2 * A / C = 2 * x + 1 ∧ 2 * A % C = 2 * y - C := by
   rw [Nat.div_mod_unique hC]
   exact ⟨by rw [hA,Nat.mul_add,Nat.mul_left_comm C 2 x,Nat.mul_one]; omega,by omega⟩
  rw [e.1,e.2,← hx,← hy]
  exact ⟨by omega,fun h=>by omega,fun _=>by omega⟩
theorem half_den (A C : Nat) (hC : 0 < C) : A / (2 * C) = A / C / 2 ∧ (A / C % 2 = 0 → A % (2 * C) = A % C) ∧ (A / C % 2 = 1 → A % (2 * C) = C + A % C):=by
 have h1:=Nat.div_add_mod A C
 have h2:=Nat.mod_lt A hC
 obtain ⟨x,hx⟩ : ∃ x,x = A / C:=⟨_,rfl⟩
 obtain ⟨y,hy⟩ : ∃ y,y = A % C:=⟨_,rfl⟩
 rw [← hx,← hy] at h1
 rw [← hy] at h2
 obtain ⟨k,hk⟩ : ∃ k,k = x / 2:=⟨_,rfl⟩
 rcases Nat.mod_two_eq_zero_or_one x with hm | hm
 ·have hxk : x = 2 * k:=by omega
  have e : A / (2 * C) = k ∧ A % (2 * C) = y:=by
   rw [Nat.div_mod_unique (by omega)]
   exact ⟨by rw [← h1,hxk,Nat.mul_left_comm C 2 k,Nat.mul_assoc]; omega,by omega⟩
  rw [e.1,e.2,← hx,← hy,← hk]
  exact ⟨rfl,fun _=>rfl,fun h=>by omega⟩
 ·have hxk : x = 2 * k + 1:=by omega
  have e : A / (2 * C) = k ∧ A % (2 * C) = C + y:=by
   rw [Nat.div_mod_unique (by omega)]
   exact ⟨by rw [← h1,hxk,Nat.mul_add,Nat.mul_left_comm C 2 k,Nat.mul_assoc,Nat.mul_one]; omega,by omega⟩
  rw [e.1,e.2,← hx,← hy,← hk]
  exact ⟨rfl,fun h=>by omega,fun _=>rfl⟩
def ratMag (M D : Nat) (E : Int) : Mag:=⟨toQ M D E,fun e=>ncmp (toN M E e % toD D E e * 2) (toD D E e),fun e=>decide (toN M E e % toD D E e = 0)⟩
theorem to_step (M D : Nat) (E e : Int) : (toN M E e = 2 * toN M E (e + 1) ∧ toD D E (e + 1) = toD D E e) ∨ (toN M E (e + 1) = toN M E e ∧ toD D E (e + 1) = 2 * toD D E e):=by
 unfold toN toD
 by_cases h : 1 ≤ E - e
 ·left
  obtain ⟨k,hk⟩ : ∃ k : Nat,E - e = (k : Int) + 1:=⟨(E - e).toNat - 1,by omega⟩
  rw [show (E - (e + 1)).toNat = k by omega,show (E - e).toNat = k + 1 by omega,show (e + 1 - E).toNat = 0 by omega,show (e - E).toNat = 0 by omega,Nat.pow_succ]
  exact ⟨by rw [← Nat.mul_assoc,Nat.mul_comm],rfl⟩
 ·right
  obtain ⟨k,hk⟩ : ∃ k : Nat,e - E = (k : Int):=⟨(e - E).toNat,by omega⟩
  rw [show (E - (e + 1)).toNat = 0 by omega,show (E - e).toNat = 0 by omega,show (e + 1 - E).toNat = k + 1 by omega,show (e - E).toNat = k by omega,Nat.pow_succ]
  exact ⟨rfl,by rw [← Nat.mul_assoc,Nat.mul_comm]⟩
theorem ratMag_ok {M D : Nat} {E : Int} (hD : 0 < D) : (ratMag M D E).Ok:=by
 have key : ∀ e, toQ M D E (e + 1) = toQ M D E e / 2 ∧ decide (toN M E (e + 1) % toD D E (e + 1) = 0) = (decide (toN M E e % toD D E e = 0) && decide (toQ M D E e % 2 = 0)) ∧
   ncmp (toN M E (e + 1) % toD D E (e + 1) * 2) (toD D E (e + 1)) = if toQ M D E e % 2 = 1 then (if decide (toN M E e % toD D E e = 0) = true then 0 else 1) else -1:=fun e=>by
  have hC:=toD_pos hD E e
  have hr:=Nat.mod_lt (toN M E e) hC
  rcases to_step M D E e with ⟨h1,h2⟩ | ⟨h1,h2⟩
  ·obtain ⟨a1,a2,a3⟩:=half_num (toN M E (e + 1)) (toD D E e) hC
   unfold toQ
   rw [h2]
   rw [← h1] at a1 a2 a3
   refine ⟨a1,?_⟩
   generalize toN M E e % toD D E e = r at *
   generalize toN M E (e + 1) % toD D E e = y at *
   generalize toN M E e / toD D E e = q at *
   rcases Nat.mod_two_eq_zero_or_one q with hq | hq
   ·have:=a2 hq
    rw [hq]
    refine ⟨by simp; omega,?_⟩
    rw [if_neg (by decide),ncmp_lt (by omega)]
   ·have:=a3 hq
    rw [hq]
    refine ⟨by simp; omega,?_⟩
    rw [if_pos rfl]
    by_cases h0 : r = 0
    ·rw [if_pos (by simpa using h0),ncmp_eq (by omega)]
    ·rw [if_neg (by simpa using h0),ncmp_gt (by omega)]
  ·obtain ⟨a1,a2,a3⟩:=half_den (toN M E e) (toD D E e) hC
   unfold toQ
   rw [h2,h1]
   refine ⟨a1,?_⟩
   generalize toN M E e % toD D E e = r at *
   generalize toN M E e % (2 * toD D E e) = y at *
   generalize toN M E e / toD D E e = q at *
   rcases Nat.mod_two_eq_zero_or_one q with hq | hq
   ·have:=a2 hq
    rw [hq]
    refine ⟨by simp; omega,?_⟩
    rw [if_neg (by decide),ncmp_lt (by omega)]
   ·have:=a3 hq
    rw [hq]
    refine ⟨by simp; omega,?_⟩
    rw [if_pos rfl]
    by_cases h0 : r = 0
    ·rw [if_pos (by simpa using h0),ncmp_eq (by omega)]
    ·rw [if_neg (by simpa using h0),ncmp_gt (by omega)]
 exact ⟨fun e=>(key e).1,fun e=>(key e).2.1,fun e=>(key e).2.2⟩
def eOf (b : Nat) (L : Int) (g : Mag) : Int:=L + ((blen (g.Q L) - b : Nat) : Int)
theorem isE_of {b : Nat} {L : Int} {g : Mag} (hb : 1 ≤ b) (hg : g.Ok) : IsE b L g (eOf b L g):=by
 unfold eOf
 by_cases h : blen (g.Q L) ≤ b
 ·rw [show blen (g.Q L) - b = 0 by omega,show L + ((0 : Nat) : Int) = L by omega]
  refine ⟨Int.le_refl _,?_,.inl rfl⟩
  by_cases h0 : g.Q L = 0
  ·rw [h0]; exact Nat.two_pow_pos _
  ·exact Nat.lt_of_lt_of_le (blen_pos h0).2.1 (Nat.pow_le_pow_right (by decide) h)
 ·exact IsE.up hg (Int.le_refl _) hb (by omega) (by omega)
def outG (b : Nat) (L T : Int) (neg : Bool) (mode : Int) (g : Mag) : Out:=outW b T neg mode (g.Q (eOf b L g)) (g.H (eOf b L g)) (g.Z (eOf b L g)) (eOf b L g)
theorem outG_eq {b : Nat} {L T e : Int} {neg : Bool} {mode : Int} {g : Mag} (hb : 1 ≤ b) (hg : g.Ok) (h : IsE b L g e) : outG b L T neg mode g = outW b T neg mode (g.Q e) (g.H e) (g.Z e) e:=by
 rw [IsE.uniq hb hg h (isE_of hb hg)]; rfl
theorem outG_tiny {b : Nat} {L T : Int} {neg : Bool} {mode : Int} {g : Mag} (hb : 1 ≤ b) (hg : g.Ok) (hq : g.Q L = 0) (hh : g.H L = -1) (hz : g.Z L = false) : outG b L T neg mode g = outW b T neg mode 0 (-1) false L:=by
 rw [outG_eq hb hg (e:=L) ⟨Int.le_refl _,by rw [hq]; exact Nat.two_pow_pos _,.inl rfl⟩,hq,hh,hz]
def bigW (b : Nat) (T : Int) (neg : Bool) (mode : Int) : Out:=if maxW mode neg = true then ⟨false,2^b - 1,T,true,true,false⟩ else ⟨true,0,0,true,true,false⟩
theorem outG_huge {b : Nat} {L T : Int} {neg : Bool} {mode : Int} {g : Mag} (hb : 1 ≤ b) (hg : g.Ok) (hLT : L ≤ T) (hq : 2^b ≤ g.Q T) : outG b L T neg mode g = bigW b T neg mode:=by
 have h:=isE_of (b:=b) (L:=L) hb hg
 unfold outG
 obtain ⟨e,he⟩ : ∃ e,e = eOf b L g:=⟨_,rfl⟩
 rw [← he] at h ⊢
 have hlt : T < e:=by
  refine Decidable.byContradiction fun hc=>?_
  have:=hg.anti (show e ≤ T by omega)
  have:=h.2.1
  omega
 have hge:=h.2.2.resolve_left (by omega)
 unfold outW bigW
 rw [if_pos (by split <;> omega),decide_eq_false (p:=g.Q e < 2^(b - 1)) (by omega),Bool.and_false]
def quoM (N : Nat) (x : Int) : Nat:=N * 10 ^ x.toNat
def quoD (N' : Nat) (x : Int) : Nat:=N' * 10 ^ (-x).toNat
theorem ten_pos (k : Nat) : 0 < 10 ^ k:=Nat.pow_pos (by decide)
theorem quoD_pos {N' : Nat} (h : 0 < N') (x : Int) : 0 < quoD N' x:=Nat.mul_pos h (ten_pos _)
theorem quoM_pos {N : Nat} (h : 0 < N) (x : Int) : 0 < quoM N x:=Nat.mul_pos h (ten_pos _)
theorem two_ten (k : Nat) : 2 ^ (3 * k) ≤ 10 ^ k:=by
 rw [Nat.pow_mul]; exact Nat.pow_le_pow_left (by decide) k
theorem quo_big {N N' la lb k : Nat} {x : Int} (h1 : 10 ^ (la - 1) ≤ N) (h2 : N' ≤ 10 ^ lb) (h : (lb : Int) + k ≤ (la - 1 : Nat) + x) : quoD N' x * 10 ^ k ≤ quoM N x:=by
 unfold quoD quoM
 calc N' * 10 ^ (-x).toNat * 10 ^ k ≤ 10 ^ lb * 10 ^ (-x).toNat * 10 ^ k:=Nat.mul_le_mul_right _ (Nat.mul_le_mul_right _ h2)
  _ = 10 ^ (lb + (-x).toNat + k):=by rw [Nat.pow_add,Nat.pow_add]
  _ ≤ 10 ^ (la - 1 + x.toNat):=Nat.pow_le_pow_right (by decide) (by omega)
  _ = 10 ^ (la - 1) * 10 ^ x.toNat:=Nat.pow_add ..
  _ ≤ N * 10 ^ x.toNat:=Nat.mul_le_mul_right _ h1
theorem quo_small {N N' la lb k : Nat} {x : Int} (h1 : N < 10 ^ la) (h2 : 10 ^ (lb - 1) ≤ N') (h : (la : Int) + x + k ≤ (lb - 1 : Nat)) : quoM N x * 10 ^ k < quoD N' x:=by
 unfold quoD quoM
 calc N * 10 ^ x.toNat * 10 ^ k < 10 ^ la * 10 ^ x.toNat * 10 ^ k:=Nat.mul_lt_mul_of_pos_right (Nat.mul_lt_mul_of_pos_right h1 (ten_pos _)) (ten_pos _)
  _ = 10 ^ (la + x.toNat + k):=by rw [Nat.pow_add,Nat.pow_add]
  _ ≤ 10 ^ (lb - 1 + (-x).toNat):=Nat.pow_le_pow_right (by decide) (by omega)
  _ = 10 ^ (lb - 1) * 10 ^ (-x).toNat:=Nat.pow_add ..
  _ ≤ N' * 10 ^ (-x).toNat:=Nat.mul_le_mul_right _ h2
theorem rat_huge {M D b T : Nat} (hD : 0 < D) (h : D * 2 ^ (T + b) ≤ M) : 2 ^ b ≤ (ratMag M D 0).Q T:=by
 show 2 ^ b ≤ M * 2 ^ (0 - (T : Int)).toNat / (D * 2 ^ ((T : Int) - 0).toNat)
 rw [show (0 - (T : Int)).toNat = 0 by omega,show ((T : Int) - 0).toNat = T by omega,Nat.pow_zero,Nat.mul_one,Nat.le_div_iff_mul_le (Nat.mul_pos hD (Nat.two_pow_pos _))]
 rw [Nat.pow_add] at h
 calc 2 ^ b * (D * 2 ^ T) = D * (2 ^ T * 2 ^ b):=by ac_rfl
  _ ≤ M:=h
theorem rat_tiny {M D l : Nat} (hM : 0 < M) (h : M * 2 ^ (l + 1) < D) : (ratMag M D 0).Q (-(l : Int)) = 0 ∧ (ratMag M D 0).H (-(l : Int)) = -1 ∧ (ratMag M D 0).Z (-(l : Int)) = false:=by
 show M * 2 ^ (0 - -(l : Int)).toNat / (D * 2 ^ (-(l : Int) - 0).toNat) = 0 ∧ ncmp (M * 2 ^ (0 - -(l : Int)).toNat % (D * 2 ^ (-(l : Int) - 0).toNat) * 2) (D * 2 ^ (-(l : Int) - 0).toNat) = -1 ∧ decide (M * 2 ^ (0 - -(l : Int)).toNat % (D * 2 ^ (-(l : Int) - 0).toNat) = 0) = false
 rw [show (0 - -(l : Int)).toNat = l by omega,show (-(l : Int) - 0).toNat = 0 by omega,Nat.pow_zero,Nat.mul_one]
 rw [Nat.pow_succ,← Nat.mul_assoc] at h
 have h0 : 0 < M * 2 ^ l:=Nat.mul_pos hM (Nat.two_pow_pos _)
 have h1 : M * 2 ^ l < D:=by omega
 rw [Nat.div_eq_of_lt h1,Nat.mod_eq_of_lt h1]
 exact ⟨rfl,ncmp_lt h,decide_eq_false (by omega)⟩
def Far (b : Nat) (L T : Int) (g : Mag) (up : Bool) : Prop:=if up = true then 2 ^ b ≤ g.Q T else g.Q L = 0 ∧ g.H L = -1 ∧ g.Z L = false
theorem far_out {b : Nat} {L T : Int} {neg up : Bool} {mode : Int} {g g' : Mag} (hb : 1 ≤ b) (hLT : L ≤ T) (hg : g.Ok) (hg' : g'.Ok) (h : Far b L T g up) (h' : Far b L T g' up) : outG b L T neg mode g = outG b L T neg mode g':=by
 unfold Far at h h'
 cases up
 ·rw [if_neg (by decide)] at h h'
  rw [outG_tiny hb hg h.1 h.2.1 h.2.2,outG_tiny hb hg' h'.1 h'.2.1 h'.2.2]
 ·rw [if_pos rfl] at h h'
  rw [outG_huge hb hg hLT h,outG_huge hb hg' hLT h']
theorem toQ_ge {M D k : Nat} {E e : Int} (hM : M ≠ 0) (hD : 0 < D) (h : (k : Int) ≤ (blen M : Int) - 1 - blen D + E - e) : 2 ^ k ≤ toQ M D E e:=by
 obtain ⟨a1,-,a3⟩:=blen_pos hM
 obtain ⟨-,b2,b3⟩:=blen_pos (show D ≠ 0 by omega)
 unfold toQ
 rw [Nat.le_div_iff_mul_le (toD_pos hD E e)]
 unfold toN toD
 calc 2 ^ k * (D * 2 ^ (e - E).toNat) ≤ 2 ^ k * (2 ^ blen D * 2 ^ (e - E).toNat):=Nat.mul_le_mul_left _ (Nat.mul_le_mul_right _ (Nat.le_of_lt b2))
  _ = 2 ^ (k + (blen D + (e - E).toNat)):=by rw [Nat.pow_add,Nat.pow_add]
  _ ≤ 2 ^ (blen M - 1 + (E - e).toNat):=Nat.pow_le_pow_right (by decide) (by omega)
  _ = 2 ^ (blen M - 1) * 2 ^ (E - e).toNat:=Nat.pow_add ..
  _ ≤ M * 2 ^ (E - e).toNat:=Nat.mul_le_mul_right _ a1
theorem toQ_lt {M D k : Nat} {E e : Int} (hM : M ≠ 0) (hD : 0 < D) (h : (blen M : Int) - blen D + 1 + E - e ≤ k) : toQ M D E e < 2 ^ k:=by
 obtain ⟨-,a2,a3⟩:=blen_pos hM
 obtain ⟨b1,-,b3⟩:=blen_pos (show D ≠ 0 by omega)
 unfold toQ
 rw [Nat.div_lt_iff_lt_mul (toD_pos hD E e)]
 unfold toN toD
 calc M * 2 ^ (E - e).toNat < 2 ^ blen M * 2 ^ (E - e).toNat:=Nat.mul_lt_mul_of_pos_right a2 (Nat.two_pow_pos _)
  _ = 2 ^ (blen M + (E - e).toNat):=(Nat.pow_add ..).symm
  _ ≤ 2 ^ (k + (blen D - 1 + (e - E).toNat)):=Nat.pow_le_pow_right (by decide) (by omega)
  _ = 2 ^ k * (2 ^ (blen D - 1) * 2 ^ (e - E).toNat):=by rw [Nat.pow_add,Nat.pow_add]
  _ ≤ 2 ^ k * (D * 2 ^ (e - E).toNat):=Nat.mul_le_mul_left _ (Nat.mul_le_mul_right _ b1)
theorem float_place {b : Nat} {L e0 : Int} {g : Mag} (hb : 1 ≤ b) (hg : g.Ok) (hL : L ≤ e0) (h : e0 = L ∨ 2 ^ b ≤ g.Q e0) :
  IsE b L g (if b < blen (g.Q e0) then e0 + ((blen (g.Q e0) - b : Nat) : Int) else e0):=by
 by_cases hk : b < blen (g.Q e0)
 ·rw [if_pos hk]
  exact IsE.up hg hL hb (by omega) (by omega)
 ·rw [if_neg hk]
  have hlt : g.Q e0 < 2 ^ b:=by
   by_cases h0 : g.Q e0 = 0
   ·rw [h0]; exact Nat.two_pow_pos _
   ·exact Nat.lt_of_lt_of_le (blen_pos h0).2.1 (Nat.pow_le_pow_right (by decide) (by omega))
  exact ⟨hL,hlt,.inl (h.resolve_right (by omega))⟩
end Go.Proofs.YtlbokicainimnaaGreatDoor
namespace Go.Proofs.YtlbokicainimnaaGreatDoor
open Go.RowKit Go.Lib
structure RA where
 bits : Nat
 ine : Bool
 ov : Bool
 un : Bool
 err : Int
def RA.no (e : Int) : RA:=⟨0,false,false,false,e⟩
def bits64 (neg : Bool) (o : Out) : Nat:=(if neg = true then 2^63 else 0) + o.rung 53 (-1074) 971
def oneD : Dc:=⟨false,[49],0⟩
def qM (a b : Dc) : Nat:=quoM (dval a.s) (a.e - b.e)
def qD (a b : Dc) : Nat:=quoD (dval b.s) (a.e - b.e)
def quoG (a b : Dc) : Mag:=ratMag (qM a b) (qD a b) 0
def ratioA (a b : Dc) (m : Int) : RA:=
 if ¬ (a.ok ∧ b.ok ∧ 1 ≤ m ∧ m ≤ 6) then RA.no 1 else if b.s = [] then RA.no 13 else if a.s = [] then RA.no 0
 else ⟨bits64 (a.neg != b.neg) (outG 53 (-1074) 971 (a.neg != b.neg) m (quoG a b)),(outG 53 (-1074) 971 (a.neg != b.neg) m (quoG a b)).ine,(outG 53 (-1074) 971 (a.neg != b.neg) m (quoG a b)).ov,(outG 53 (-1074) 971 (a.neg != b.neg) m (quoG a b)).un,0⟩
def to64A (a : Dc) (m : Int) : RA:=ratioA a oneD m
def unitK (a : Dc) (n m : Int) : Nat:=
 kW a.neg m (dval a.s / 10 ^ (-n - a.e).toNat) (ncmp (2 * (dval a.s % 10 ^ (-n - a.e).toNat)) (10 ^ (-n - a.e).toNat)) false
def placesC (a : Dc) (n m : Int) : Dc × Int:=
 if -n - a.e ≤ 0 then (a,0) else (⟨madeS a.neg (unitK a n m) (-n),madeL (unitK a n m) (-n),madeE (unitK a n m) (-n)⟩,madeX (unitK a n m) (-n))
def placesA (a : Dc) (n m : Int) : Dc × Int:=
 if ¬ (a.ok ∧ 1 ≤ m ∧ m ≤ 6 ∧ -20000 ≤ n ∧ n ≤ 20000) then (Dc.none,1) else if a.s = [] then (a,0) else placesC a n m
theorem oneD_ok : oneD.ok:=(okB_iff _).1 (by decide)
theorem oneD_s : oneD.s ≠ []:=by decide
theorem oneD_val : dval oneD.s = 1:=by decide
theorem ok_low {d : Dc} (h : d.ok) (h0 : d.s ≠ []) : 10 ^ (d.s.length - 1) ≤ dval d.s:=by
 have h1:=ok_bare h
 rcases Nat.lt_or_ge (dval d.s) (10 ^ (d.s.length - 1)) with g | g
 ·have:=bare_len_le _ _ g
  rw [← h1] at this
  have : 0 < d.s.length:=List.length_pos_iff.2 h0
  omega
 ·exact g
theorem qD_pos {a b : Dc} (hb : b.ok) (h0 : b.s ≠ []) : 0 < qD a b:=quoD_pos (ok_pos hb h0) _
theorem qM_pos {a b : Dc} (ha : a.ok) (h0 : a.s ≠ []) : 0 < qM a b:=quoM_pos (ok_pos ha h0) _
theorem quoG_ok {a b : Dc} (hb : b.ok) (h0 : b.s ≠ []) : (quoG a b).Ok:=ratMag_ok (qD_pos hb h0)
def farV (a b : Dc) : Int:=(a.s.length : Int) - b.s.length + (a.e - b.e)
theorem quo_up {a b : Dc} (ha : a.ok) (hb : b.ok) (h0 : a.s ≠ []) {k : Nat} (h : (k : Int) < farV a b) : qD a b * 2 ^ (3 * k) ≤ qM a b:=by
 have h1 : 0 < a.s.length:=List.length_pos_iff.2 h0
 unfold farV at h
 exact Nat.le_trans (Nat.mul_le_mul_left _ (two_ten k)) (quo_big (ok_low ha h0) (Nat.le_of_lt (ok_val hb)) (by omega))
theorem quo_down {a b : Dc} (ha : a.ok) (hb : b.ok) (h0 : b.s ≠ []) {k : Nat} (h : (k : Int) < -farV a b) : qM a b * 2 ^ (3 * k) < qD a b:=by
 have h1 : 0 < b.s.length:=List.length_pos_iff.2 h0
 unfold farV at h
 exact Nat.lt_of_le_of_lt (Nat.mul_le_mul_left _ (two_ten k)) (quo_small (ok_val ha) (ok_low hb h0) (by omega))
theorem far_up {b T l M D k : Nat} (hTb : T + b ≤ k) (hD : 0 < D) (h : D * 2 ^ k ≤ M) : Far b (-(l : Int)) T (ratMag M D 0) true:=
 rat_huge hD (Nat.le_trans (Nat.mul_le_mul_left _ (Nat.pow_le_pow_right (by decide) hTb)) h)
theorem far_down {b l M D k : Nat} {T : Int} (hl : l < k) (hM : 0 < M) (h : M * 2 ^ k < D) : Far b (-(l : Int)) T (ratMag M D 0) false:=
 rat_tiny hM (Nat.lt_of_le_of_lt (Nat.mul_le_mul_left _ (Nat.pow_le_pow_right (by decide) (by omega))) h)
theorem quo_far_up {a b : Dc} {c T l : Nat} (hTb : T + c ≤ 1024) (ha : a.ok) (hb : b.ok) (h0 : a.s ≠ []) (h1 : b.s ≠ []) (h : 399 < farV a b) : Far c (-(l : Int)) T (quoG a b) true:=
 far_up (k:=3 * 399) (by omega) (qD_pos hb h1) (quo_up ha hb h0 (k:=399) h)
theorem quo_far_down {a b : Dc} {c l : Nat} {T : Int} (hl : l ≤ 1074) (ha : a.ok) (hb : b.ok) (h0 : a.s ≠ []) (h1 : b.s ≠ []) (h : farV a b < -400) : Far c (-(l : Int)) T (quoG a b) false:=
 far_down (k:=3 * 400) (by omega) (qM_pos ha h0) (quo_down ha hb h1 (k:=400) (by omega))
def rung64 (a : Dc) (m : Int) : Nat:=if a.s = [] then 0 else (outG 53 (-1074) 971 a.neg m (quoG a oneD)).rung 53 (-1074) 971
theorem nil_neg {a : Dc} (ha : a.ok) (h : a.s = []) : a.neg = false:=by rw [ok_nil ha h]; rfl
theorem to64_bits {a : Dc} {m : Int} (ha : a.ok) (hm : 1 ≤ m ∧ m ≤ 6) : (to64A a m).bits = (if a.neg = true then 2^63 else 0) + rung64 a m ∧ (to64A a m).err = 0:=by
 unfold to64A ratioA rung64
 rw [if_neg (fun h=>h ⟨ha,oneD_ok,hm⟩),if_neg oneD_s]
 by_cases h : a.s = []
 ·rw [if_pos h,if_pos h,nil_neg ha h]; exact ⟨rfl,rfl⟩
 ·rw [if_neg h,if_neg h,show (a.neg != oneD.neg) = a.neg by show (a.neg != false) = a.neg; cases a.neg <;> rfl]
  exact ⟨rfl,rfl⟩
theorem unit_zero (a : Dc) (n : Int) : unitK a n 5 = dval a.s / 10 ^ (-n - a.e).toNat:=by
 unfold unitK kW
 rw [show ∀ x y,upW 5 a.neg x y = false from fun x y=>rfl]
 rfl
theorem out_range {b : Nat} {L T : Int} {neg : Bool} {mode : Int} {g : Mag} (hb : 2 ≤ b) (hLT : L ≤ T) (hg : g.Ok) :
  (outG b L T neg mode g).inf = true ∨ ((outG b L T neg mode g).inf = false ∧ (outG b L T neg mode g).m < 2 ^ b ∧ L ≤ (outG b L T neg mode g).e ∧ (outG b L T neg mode g).e ≤ T ∧ ((outG b L T neg mode g).e = L ∨ 2 ^ (b - 1) ≤ (outG b L T neg mode g).m)):=by
 obtain ⟨h1,h2,h3⟩:=isE_of (b:=b) (L:=L) (by omega) hg
 have hk:=kW_le (neg:=neg) (mode:=mode) (q:=g.Q (eOf b L g)) (h:=g.H (eOf b L g)) (z:=g.Z (eOf b L g))
 have hB : 2 ^ b = 2 * 2 ^ (b - 1):=by rw [Nat.mul_comm,← Nat.pow_succ]; congr 1; omega
 have hB0 : 0 < 2 ^ (b - 1):=Nat.two_pow_pos _
 unfold outG outW
 generalize kW neg mode (g.Q (eOf b L g)) (g.H (eOf b L g)) (g.Z (eOf b L g)) = K at *
 generalize g.Q (eOf b L g) = q at *
 generalize eOf b L g = e at *
 rw [hB] at h2 ⊢
 generalize 2 ^ (b - 1) = B at *
 by_cases ho : T < (if K = 2 * B then e + 1 else e)
 ·rw [if_pos ho]
  by_cases hm : maxW mode neg = true
  ·rw [if_pos hm]
   exact .inr ⟨rfl,by show 2 * B - 1 < 2 * B; omega,hLT,Int.le_refl _,.inr (by show B ≤ 2 * B - 1; omega)⟩
  ·rw [if_neg hm]
   exact .inl rfl
 ·rw [if_neg ho]
  right
  by_cases hK : K = 2 * B
  ·rw [if_pos hK] at ho
   simp only [if_pos hK]
   exact ⟨trivial,by omega,by omega,by omega,.inr (Nat.le_refl _)⟩
  ·rw [if_neg hK] at ho
   simp only [if_neg hK]
   refine ⟨trivial,by omega,h1,by omega,?_⟩
   rcases h3 with h | h
   ·exact .inl h
   ·right; omega
end Go.Proofs.YtlbokicainimnaaGreatDoor
