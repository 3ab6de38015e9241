import Derived.Lib.ItoaNum
import Derived.Lib.ParseIntB
import Derived.Lib.Repeat
import Derived.Lib.TrimByte
namespace Go.Proofs.YtlbokicainimnaaGreatDoor
open Go.Lib
def isDig (c : UInt8) : Bool:=decide (48 ≤ c.toNat) && decide (c.toNat ≤ 57)
def allDig (l : List UInt8) : Prop:=∀ c ∈ l,isDig c = true
def dvalF (a : Nat) (l : List UInt8) : Nat:=l.foldl (fun a c=>10 * a + (c.toNat - 48)) a
def dval (l : List UInt8) : Nat:=dvalF 0 l
theorem dvalF_eq (l : List UInt8) : ∀ a,dvalF a l = a * 10 ^ l.length + dval l:=by
 induction l with
 | nil=>intro a; simp [dvalF,dval]
 | cons c l ih =>
   intro a
   have h1:=ih (10 * a + (c.toNat - 48))
   have h2:=ih (10 * 0 + (c.toNat - 48))
   show dvalF (10 * a + (c.toNat - 48)) l = a * 10 ^ (l.length + 1) + dvalF (10 * 0 + (c.toNat - 48)) l
   rw [h1,h2,Nat.pow_succ,Nat.mul_zero,Nat.zero_add,Nat.add_mul,Nat.mul_assoc,Nat.mul_comm 10,Nat.mul_assoc,Nat.add_assoc]
theorem dval_nil : dval [] = 0:=rfl
theorem dval_cons (c : UInt8) (l : List UInt8) : dval (c :: l) = (c.toNat - 48) * 10 ^ l.length + dval l:=by
 show dvalF (10 * 0 + (c.toNat - 48)) l = _
 rw [dvalF_eq,Nat.mul_zero,Nat.zero_add]
theorem dval_append (l r : List UInt8) : dval (l ++ r) = dval l * 10 ^ r.length + dval r:=by
 show (l ++ r).foldl _ 0 = _
 rw [List.foldl_append]
 exact dvalF_eq r _
theorem dval_snoc (l : List UInt8) (c : UInt8) : dval (l ++ [c]) = 10 * dval l + (c.toNat - 48):=by
 rw [dval_append]; simp [dval,dvalF]; omega
theorem dig_ofNat (k : Nat) (h : k < 10) : (UInt8.ofNat (48 + k)).toNat = 48 + k:=by
 rw [UInt8.toNat_ofNat']; omega
theorem isDig_ofNat (k : Nat) (h : k < 10) : isDig (UInt8.ofNat (48 + k)) = true:=by
 unfold isDig; rw [dig_ofNat k h]; simp; omega
theorem dig_back (c : UInt8) (h : isDig c = true) : c = UInt8.ofNat (48 + (c.toNat - 48)) ∧ c.toNat - 48 < 10 ∧ 48 ≤ c.toNat:=by
 unfold isDig at h
 simp at h
 refine ⟨?_,by omega,h.1⟩
 rw [show 48 + (c.toNat - 48) = c.toNat by omega]; simp
theorem decDigits_small {u : Nat} (h : u < 10) : decDigits u = [UInt8.ofNat (48 + u)]:=by rw [decDigits,dif_pos h]
theorem decDigits_big {u : Nat} (h : ¬ u < 10) : decDigits u = decDigits (u / 10) ++ [UInt8.ofNat (48 + u % 10)]:=by rw [decDigits,dif_neg h]
theorem dval_dec (u : Nat) : dval (decDigits u) = u:=by
 induction u using Nat.strongRecOn with
 | _ u ih =>
   by_cases h : u < 10
   ·rw [decDigits_small h,show ([UInt8.ofNat (48 + u)] : List UInt8) = [] ++ [UInt8.ofNat (48 + u)] from rfl,dval_snoc,dig_ofNat u h]; simp [dval_nil]
   ·rw [decDigits_big h,dval_snoc,ih (u / 10) (by omega),dig_ofNat _ (by omega)]; omega
theorem dec_all (u : Nat) : allDig (decDigits u):=by
 induction u using Nat.strongRecOn with
 | _ u ih =>
   by_cases h : u < 10
   ·rw [decDigits_small h]; intro c hc; rw [List.mem_singleton] at hc; subst hc; exact isDig_ofNat u h
   ·rw [decDigits_big h]; intro c hc
    rw [List.mem_append] at hc
    rcases hc with hc | hc
    ·exact ih (u / 10) (by omega) c hc
    ·rw [List.mem_singleton] at hc; subst hc; exact isDig_ofNat _ (by omega)
def bareD (n : Nat) : List UInt8:=if n = 0 then [] else decDigits n
theorem bareD_zero : bareD 0 = []:=rfl
theorem dval_bare (n : Nat) : dval (bareD n) = n:=by
 unfold bareD
 by_cases h : n = 0
 ·rw [if_pos h,h]; rfl
 ·rw [if_neg h,dval_dec]
theorem bare_all (n : Nat) : allDig (bareD n):=by
 unfold bareD
 by_cases h : n = 0
 ·rw [if_pos h]; intro c hc; cases hc
 ·rw [if_neg h]; exact dec_all n
theorem bare_step (n : Nat) (h : 0 < n) : bareD n = bareD (n / 10) ++ [UInt8.ofNat (48 + n % 10)]:=by
 unfold bareD
 rw [if_neg (by omega)]
 by_cases h1 : n < 10
 ·rw [if_pos (by omega),decDigits_small h1,Nat.mod_eq_of_lt h1]; rfl
 ·rw [if_neg (by omega),decDigits_big h1]
theorem bare_snoc (n k : Nat) (hk : k < 10) (h : 0 < 10 * n + k) : bareD (10 * n + k) = bareD n ++ [UInt8.ofNat (48 + k)]:=by
 rw [bare_step _ h,show (10 * n + k) / 10 = n by omega,show (10 * n + k) % 10 = k by omega]
theorem dw_pos {a : UInt8} (h : (a == 48) = true) (l : List UInt8) : (a :: l).dropWhile (· == 48) = l.dropWhile (· == 48):=List.dropWhile_cons_of_pos (p:=(· == 48)) h
theorem dw_neg {a : UInt8} (h : ¬ (a == 48) = true) (l : List UInt8) : (a :: l).dropWhile (· == 48) = a :: l:=List.dropWhile_cons_of_neg (p:=(· == 48)) h
theorem trimL_snoc (l : List UInt8) (c : UInt8) : trimLeftB (l ++ [c]) 48 = if trimLeftB l 48 = [] then trimLeftB [c] 48 else trimLeftB l 48 ++ [c]:=by
 unfold trimLeftB
 induction l with
 | nil=>simp
 | cons a l ih =>
   rw [List.cons_append]
   by_cases h : (a == 48) = true
   ·rw [dw_pos h,dw_pos h]; exact ih
   ·rw [dw_neg h,dw_neg h,if_neg (by simp)]; rfl
theorem all_snoc {l : List UInt8} {c : UInt8} (h : allDig (l ++ [c])) : allDig l ∧ isDig c = true:=
 ⟨fun x hx=>h x (by simp [hx]),h c (by simp)⟩
theorem trimL_bare (l : List UInt8) (h : allDig l) : trimLeftB l 48 = bareD (dval l):=by
 obtain ⟨n,hn⟩ : ∃ n,n = l.length:=⟨_,rfl⟩
 induction n generalizing l with
 | zero =>
   have : l = []:=List.eq_nil_of_length_eq_zero hn.symm
   subst this; rfl
 | succ n ih =>
   have hne : l ≠ []:=by rintro rfl; cases hn
   have hl:=List.dropLast_concat_getLast hne
   generalize l.getLast hne = c at hl
   have hlen : n = l.dropLast.length:=by rw [List.length_dropLast]; omega
   generalize l.dropLast = r at hl hlen
   subst hl
   obtain ⟨h1,h2⟩:=all_snoc h
   obtain ⟨d1,d2,d3⟩:=dig_back c h2
   have e:=ih r h1 hlen
   rw [trimL_snoc,dval_snoc,e]
   by_cases hz : dval r = 0
   ·rw [hz,bareD_zero,if_pos rfl,Nat.mul_zero,Nat.zero_add]
    by_cases hc : c.toNat - 48 = 0
    ·have : c = 48:=by rw [d1,hc]; rfl
     rw [hc,bareD_zero,this]; rfl
    ·rw [bare_step _ (by omega),show (c.toNat - 48) / 10 = 0 by omega,Nat.mod_eq_of_lt d2,bareD_zero,← d1]
     have hb : ¬ (c == 48) = true:=by
      rw [beq_iff_eq]; rintro rfl; exact hc rfl
     unfold trimLeftB
     rw [dw_neg hb]; rfl
   ·have hne : bareD (dval r) ≠ []:=by rw [bare_step _ (by omega)]; simp
    rw [if_neg hne,bare_snoc _ _ d2 (by omega),← d1]
def tz (n : Nat) : Nat:=if h : n = 0 then 0 else if n % 10 = 0 then tz (n / 10) + 1 else 0
termination_by n
decreasing_by omega
def strip (n : Nat) : Nat:=if h : n = 0 then 0 else if n % 10 = 0 then strip (n / 10) else n
termination_by n
decreasing_by omega
theorem tz_ten {n : Nat} (h : 0 < n) (h1 : n % 10 = 0) : tz n = tz (n / 10) + 1:=by rw [tz,dif_neg (by omega),if_pos h1]
theorem tz_not {n : Nat} (h1 : ¬ n % 10 = 0) : tz n = 0:=by rw [tz,dif_neg (by omega),if_neg h1]
theorem strip_ten {n : Nat} (h : 0 < n) (h1 : n % 10 = 0) : strip n = strip (n / 10):=by rw [strip,dif_neg (by omega),if_pos h1]
theorem strip_not {n : Nat} (h1 : ¬ n % 10 = 0) : strip n = n:=by rw [strip,dif_neg (by omega),if_neg h1]
theorem strip_zero : strip 0 = 0:=by rw [strip,dif_pos rfl]
theorem strip_mul (n : Nat) : strip n * 10 ^ tz n = n:=by
 induction n using Nat.strongRecOn with
 | _ n ih =>
   by_cases h : n = 0
   ·subst h; rw [strip_zero,Nat.zero_mul]
   ·by_cases h1 : n % 10 = 0
    ·rw [tz_ten (by omega) h1,strip_ten (by omega) h1,Nat.pow_succ,← Nat.mul_assoc,ih (n / 10) (by omega)]; omega
    ·rw [tz_not h1,strip_not h1,Nat.pow_zero,Nat.mul_one]
theorem strip_pos {n : Nat} (h : 0 < n) : 0 < strip n:=by
 have:=strip_mul n
 rcases Nat.eq_zero_or_pos (strip n) with g | g
 ·rw [g,Nat.zero_mul] at this; omega
 ·exact g
theorem strip_odd (n : Nat) (h : 0 < n) : ¬ strip n % 10 = 0:=by
 induction n using Nat.strongRecOn with
 | _ n ih =>
   by_cases h1 : n % 10 = 0
   ·rw [strip_ten h h1]; exact ih (n / 10) (by omega) (by omega)
   ·rw [strip_not h1]; exact h1
theorem ten_mul (n : Nat) (h : 0 < n) : tz (10 * n) = tz n + 1 ∧ strip (10 * n) = strip n:=by
 rw [tz_ten (by omega) (by omega),strip_ten (by omega) (by omega),show 10 * n / 10 = n by omega]; exact ⟨rfl,rfl⟩
theorem pow_mul (n k : Nat) (h : 0 < n) : tz (n * 10 ^ k) = tz n + k ∧ strip (n * 10 ^ k) = strip n:=by
 induction k with
 | zero=>rw [Nat.pow_zero,Nat.mul_one]; exact ⟨rfl,rfl⟩
 | succ k ih =>
   have hp : 0 < n * 10 ^ k:=Nat.mul_pos h (Nat.pow_pos (by decide))
   rw [show n * 10 ^ (k + 1) = 10 * (n * 10 ^ k) by rw [Nat.pow_succ]; simp only [Nat.mul_comm,Nat.mul_left_comm],(ten_mul _ hp).1,(ten_mul _ hp).2,ih.1,ih.2]
   exact ⟨rfl,rfl⟩
theorem trimR_snoc (l : List UInt8) (a : UInt8) : trimRightB (l ++ [a]) 48 = if (a == 48) = true then trimRightB l 48 else l ++ [a]:=by
 unfold trimRightB
 rw [List.reverse_append,show ([a] : List UInt8).reverse = [a] from rfl,List.singleton_append]
 by_cases h : (a == 48) = true
 ·rw [dw_pos h,if_pos h]
 ·rw [dw_neg h,if_neg h,List.reverse_cons,List.reverse_reverse]
theorem trimR_bare (n : Nat) (h : 0 < n) : trimRightB (bareD n) 48 = bareD (strip n):=by
 induction n using Nat.strongRecOn with
 | _ n ih =>
   have e:=bare_step n h
   by_cases h1 : n % 10 = 0
   ·rw [e,trimR_snoc,h1,if_pos (by decide),strip_ten h h1]
    exact ih (n / 10) (by omega) (by omega)
   ·have hb : ¬ (UInt8.ofNat (48 + n % 10) == 48) = true := by
     rw [beq_iff_eq]; intro hc
     have:=congrArg UInt8.toNat hc
     rw [dig_ofNat _ (by omega)] at this
     have e2 : (48 : UInt8).toNat = 48:=rfl
     omega
    rw [e,trimR_snoc,if_neg hb,strip_not h1,← e]
theorem bare_len_pow (n k : Nat) (h : 0 < n) : (bareD (n * 10 ^ k)).length = (bareD n).length + k:=by
 induction k with
 | zero=>rw [Nat.pow_zero,Nat.mul_one,Nat.add_zero]
 | succ k ih =>
   have hp : 0 < n * 10 ^ k:=Nat.mul_pos h (Nat.pow_pos (by decide))
   have e : n * 10 ^ (k + 1) = 10 * (n * 10 ^ k) + 0:=by rw [Nat.pow_succ]; simp only [Nat.mul_comm,Nat.mul_left_comm,Nat.add_zero]
   rw [e,bare_snoc _ _ (by decide) (by omega),List.length_append,ih]; rfl
theorem bare_len_tz (n : Nat) (h : 0 < n) : (bareD n).length = (bareD (strip n)).length + tz n:=by
 have:=bare_len_pow (strip n) (tz n) (strip_pos h)
 rwa [strip_mul] at this
theorem bare_len_le (n k : Nat) : n < 10 ^ k → (bareD n).length ≤ k:=by
 induction k generalizing n with
 | zero => intro h; have : n = 0 := by simpa using h
           rw [this]; exact Nat.le_refl _
 | succ k ih =>
   intro h
   rcases Nat.eq_zero_or_pos n with g | g
   ·rw [g]; exact Nat.zero_le _
   ·rw [bare_step n g,List.length_append]
    have:=ih (n / 10) (by rw [Nat.pow_succ] at h; omega)
    simp; omega
def madeX (n : Nat) (e : Int) : Int:=if n = 0 then 0 else if 8192 < (bareD (strip n)).length then 12 else if 20000 - (tz n : Int) < e ∨ e < -20000 - (tz n : Int) then 11 else 0
def madeS (neg : Bool) (n : Nat) (e : Int) : Bool:=if n = 0 ∨ madeX n e ≠ 0 then false else neg
def madeL (n : Nat) (e : Int) : List UInt8:=if n = 0 ∨ madeX n e ≠ 0 then [] else bareD (strip n)
def madeE (n : Nat) (e : Int) : Int:=if n = 0 ∨ madeX n e ≠ 0 then 0 else e + tz n
theorem made_scale (neg : Bool) (n k : Nat) (e : Int) : madeX (n * 10 ^ k) e = madeX n (e + k) ∧ madeS neg (n * 10 ^ k) e = madeS neg n (e + k) ∧ madeL (n * 10 ^ k) e = madeL n (e + k) ∧ madeE (n * 10 ^ k) e = madeE n (e + k):=by
 rcases Nat.eq_zero_or_pos n with g | g
 ·subst g; rw [Nat.zero_mul]; unfold madeS madeL madeE madeX; simp
 ·obtain ⟨h1,h2⟩:=pow_mul n k g
  have hp : 0 < n * 10 ^ k:=Nat.mul_pos g (Nat.pow_pos (by decide))
  have hx : madeX (n * 10 ^ k) e = madeX n (e + k):=by
   unfold madeX
   rw [h1,h2,if_neg (show ¬ n * 10 ^ k = 0 by omega),if_neg (show ¬ n = 0 by omega)]
   by_cases hc : 8192 < (bareD (strip n)).length
   ·rw [if_pos hc,if_pos hc]
   ·rw [if_neg hc,if_neg hc]
    by_cases hd : 20000 - ((tz n + k : Nat) : Int) < e ∨ e < -20000 - ((tz n + k : Nat) : Int)
    ·rw [if_pos hd,if_pos (by omega)]
    ·rw [if_neg hd,if_neg (by omega)]
  refine ⟨hx,?_,?_,?_⟩
  ·unfold madeS; rw [hx]
   by_cases hc : madeX n (e + k) ≠ 0
   ·rw [if_pos (.inr hc),if_pos (.inr hc)]
   ·rw [if_neg (by omega),if_neg (by omega)]
  ·unfold madeL; rw [hx,h2]
   by_cases hc : madeX n (e + k) ≠ 0
   ·rw [if_pos (.inr hc),if_pos (.inr hc)]
   ·rw [if_neg (by omega),if_neg (by omega)]
  ·unfold madeE; rw [hx,h1]
   by_cases hc : madeX n (e + k) ≠ 0
   ·rw [if_pos (.inr hc),if_pos (.inr hc)]
   ·rw [if_neg (by omega),if_neg (by omega)]; omega
def padK : Nat → Nat → List UInt8
 | 0,_=>[]
 | k + 1,r=>padK k (r / 10) ++ [UInt8.ofNat (48 + r % 10)]
theorem padK_len : ∀ k r,(padK k r).length = k
 | 0,_=>rfl
 | k + 1,r=>by show (padK k (r / 10) ++ _).length = _; rw [List.length_append,padK_len k]; rfl
theorem dec_pad : ∀ (k q r : Nat),0 < q → r < 10 ^ k → decDigits (q * 10 ^ k + r) = decDigits q ++ padK k r
 | 0, q, r, _, h => by
   have : r = 0:=by simpa using h
   subst this
   rw [Nat.pow_zero,Nat.mul_one,Nat.add_zero]
   show _ = decDigits q ++ []
   rw [List.append_nil]
 | k + 1, q, r, hq, h => by
   have hp : 0 < 10 ^ k:=Nat.pow_pos (by decide)
   have hqp : 10 ^ k ≤ q * 10 ^ k:=Nat.le_mul_of_pos_left _ hq
   have e : q * 10 ^ (k + 1) + r = 10 * (q * 10 ^ k + r / 10) + r % 10:=by rw [Nat.pow_succ,← Nat.mul_assoc,Nat.mul_add]; omega
   rw [e,decDigits_big (by omega),show (10 * (q * 10 ^ k + r / 10) + r % 10) / 10 = q * 10 ^ k + r / 10 by omega,show (10 * (q * 10 ^ k + r / 10) + r % 10) % 10 = r % 10 by omega,
    dec_pad k q (r / 10) hq (by rw [Nat.pow_succ] at h; omega)]
   show _ = decDigits q ++ (padK k (r / 10) ++ _)
   rw [List.append_assoc]
theorem pad_zero : ∀ k,padK k 0 = List.replicate k 48
 | 0=>rfl
 | k + 1 => by
   show padK k (0 / 10) ++ [UInt8.ofNat (48 + 0 % 10)] = _
   rw [Nat.zero_div,pad_zero k,List.replicate_succ']; rfl
theorem pad_dec : ∀ (k r : Nat),0 < k → r < 10 ^ k → padK k r = List.replicate (k - (decDigits r).length) 48 ++ decDigits r
 | 0,_,h,_=>by omega
 | k + 1, r, _, h => by
   show padK k (r / 10) ++ [UInt8.ofNat (48 + r % 10)] = _
   by_cases h1 : r < 10
   ·rw [decDigits_small h1,Nat.div_eq_of_lt h1,Nat.mod_eq_of_lt h1,pad_zero]; rfl
   ·have hk : 0 < k := by
     rcases Nat.eq_zero_or_pos k with g | g
     ·subst g; omega
     ·exact g
    rw [pad_dec k (r / 10) hk (by rw [Nat.pow_succ] at h; omega),decDigits_big h1,List.length_append]
    have e : k + 1 - ((decDigits (r / 10)).length + ([UInt8.ofNat (48 + r % 10)] : List UInt8).length) = k - (decDigits (r / 10)).length:=by show k + 1 - (_ + 1) = _; omega
    rw [e,List.append_assoc]
theorem dec_len_le (r k : Nat) (hk : 0 < k) (h : r < 10 ^ k) : (decDigits r).length ≤ k:=by
 have h1:=padK_len k r
 rw [pad_dec k r hk h,List.length_append] at h1
 omega
theorem dec_row (n : Nat) (h : 0 < n / 1000000000000000000) :
  decDigits n = decDigits (n / 1000000000000000000) ++ (List.replicate (18 - (decDigits (n % 1000000000000000000)).length) 48 ++ decDigits (n % 1000000000000000000)) ∧ (decDigits (n % 1000000000000000000)).length ≤ 18:=by
 have hr : n % 1000000000000000000 < 10 ^ 18:=Nat.mod_lt _ (by decide)
 have e:=dec_pad 18 (n / 1000000000000000000) (n % 1000000000000000000) h hr
 rw [show (10 : Nat) ^ 18 = 1000000000000000000 from rfl,show n / 1000000000000000000 * 1000000000000000000 + n % 1000000000000000000 = n by omega,pad_dec 18 _ (by decide) hr] at e
 exact ⟨e,dec_len_le _ 18 (by decide) hr⟩
theorem rep_one (k : Nat) : repeatL [48] k = List.replicate k (48 : UInt8):=by
 have h:=repeatL_replicate (48 : UInt8) 1 k
 rw [Nat.mul_one] at h
 exact h
theorem parse_digits (M : Nat) : ∀ (l : List UInt8) (acc : Nat),allDig l → dvalF acc l ≤ M → dvalF acc l < 18446744073709551616 → (∀ k,k ≤ l.length → dvalF acc (l.take k) < 1844674407370955162 ∨ k = l.length) → parseUintM M acc l = .ok (dvalF acc l)
 | [],acc,_,_,_,_=>rfl
 | c :: r, acc, h, h1, h2, h3 => by
   have hc:=h c (by simp)
   obtain ⟨-,d2,d3⟩:=dig_back c hc
   have hcc : 48 ≤ c.toNat ∧ c.toNat ≤ 57:=⟨d3,by omega⟩
   have hstep : dvalF acc (c :: r) = dvalF (10 * acc + (c.toNat - 48)) r:=rfl
   have hacc : ¬ 1844674407370955162 ≤ acc:=by
    have:=h3 0 (Nat.zero_le _)
    rcases this with g | g
    ·have e : dvalF acc ((c :: r).take 0) = acc:=rfl
     omega
    ·simp at g
   have hge : 10 * acc + (c.toNat - 48) ≤ dvalF acc (c :: r):=by
    rw [hstep,dvalF_eq]
    have : 10 * acc + (c.toNat - 48) ≤ (10 * acc + (c.toNat - 48)) * 10 ^ r.length:=Nat.le_mul_of_pos_right _ (Nat.pow_pos (by decide))
    omega
   unfold parseUintM
   rw [if_pos hcc,if_neg hacc,if_neg (by omega),hstep,Nat.mul_comm acc 10]
   refine parse_digits M r _ (fun x hx=>h x (by simp [hx])) (by rw [← hstep]; exact h1) (by rw [← hstep]; exact h2) fun k hk=>?_
   have:=h3 (k + 1) (by simp; omega)
   rcases this with g | g
   ·left; exact g
   ·right; simpa using g
theorem dval_lt (l : List UInt8) (h : allDig l) : dval l < 10 ^ l.length:=by
 induction l with
 | nil=>decide
 | cons c r ih =>
   obtain ⟨-,d2,d3⟩:=dig_back c (h c (by simp))
   have:=ih (fun x hx=>h x (by simp [hx]))
   rw [dval_cons,List.length_cons,Nat.pow_succ]
   have h9 : (c.toNat - 48) * 10 ^ r.length ≤ 9 * 10 ^ r.length:=Nat.mul_le_mul_right _ (by omega)
   omega
theorem parse_short (l : List UInt8) (h : allDig l) (h0 : l ≠ []) (hl : l.length ≤ 18) : parseUintB 64 l = .ok (dval l):=by
 have hp : ∀ k,k ≤ l.length → dval (l.take k) < 10 ^ k:=fun k hk=>by
  have:=dval_lt (l.take k) (fun x hx=>h x (List.mem_of_mem_take hx))
  rwa [List.length_take,Nat.min_eq_left hk] at this
 have hall:=hp l.length (Nat.le_refl _)
 rw [List.take_length] at hall
 have h18 : (10 : Nat) ^ l.length ≤ 10 ^ 18:=Nat.pow_le_pow_right (by decide) hl
 have e18 : (10 : Nat) ^ 18 = 1000000000000000000:=rfl
 unfold parseUintB
 rw [if_neg h0]
 refine parse_digits _ l 0 h ?_ ?_ fun k hk=>?_
 ·show dval l ≤ _; have : (2 : Nat) ^ 64 - 1 = 18446744073709551615:=rfl; omega
 ·show dval l < _; omega
 ·have:=hp k hk
  have hk18 : (10 : Nat) ^ k ≤ 10 ^ 18:=Nat.pow_le_pow_right (by decide) (by omega)
  left; show dval (l.take k) < _; omega
def bs (l : List UInt8) : ByteArray:=⟨l.toArray⟩
def bl (s : ByteArray) : List UInt8:=s.data.toList
theorem bl_bs (l : List UInt8) : bl (bs l) = l:=rfl
theorem bs_bl (s : ByteArray) : bs (bl s) = s:=rfl
theorem bl_len (s : ByteArray) : (bl s).length = s.size:=rfl
theorem bl_inj {s t : ByteArray} (h : bl s = bl t) : s = t:=by rw [← bs_bl s,h,bs_bl]
theorem bl_get (s : ByteArray) (i : Nat) (h : i < s.size) : s[i] = (bl s)[i]'(by rw [bl_len]; exact h):=rfl
theorem bl_append (s t : ByteArray) : bl (s ++ t) = bl s ++ bl t:=by
 unfold bl; simp [ByteArray.data_append]
end Go.Proofs.YtlbokicainimnaaGreatDoor
