import Derived.WalkLawsBesides
import Derived.Lib.TrailingZeros
namespace Go.Proofs.YtlbokicainimnaaGreatDoor
open Ieee
def rv (p r : Nat) : Nat:=if r < 2^p then r else (2^p + r % 2^p) * 2^(r/2^p - 1)
theorem rv_small {p r : Nat} (h : r < 2^p) : rv p r = r:=by unfold rv; rw [if_pos h]
theorem rv_form (p q t : Nat) (ht : t ≤ 2^p) : rv p ((q+1) * 2^p + t) = (2^p + t) * 2^q:=by
 have hB : 0 < 2^p:=Nat.two_pow_pos p
 unfold rv
 have h1 : ¬ (q+1) * 2^p + t < 2^p:=by rw [Nat.add_mul,Nat.one_mul]; omega
 rw [if_neg h1]
 by_cases e : t = 2^p
 ·subst e
  have h2 : (q+1) * 2^p + 2^p = 2^p * (q+2):=by rw [Nat.mul_comm,← Nat.mul_add_one]
  rw [h2,Nat.mul_mod_right,Nat.mul_div_cancel_left _ hB]
  have : q + 2 - 1 = q + 1:=by omega
  rw [this,Nat.pow_succ]
  rw [Nat.add_zero,← Nat.two_mul,Nat.mul_comm (2^q) 2,← Nat.mul_assoc,Nat.mul_comm (2^p) 2]
 ·have ht' : t < 2^p:=by omega
  have h2 : ((q+1) * 2^p + t) % 2^p = t:=by
   rw [Nat.add_comm,Nat.add_mul_mod_self_right,Nat.mod_eq_of_lt ht']
  have h3 : ((q+1) * 2^p + t) / 2^p = q + 1:=by
   rw [Nat.add_comm,Nat.add_mul_div_right _ _ hB,Nat.div_eq_of_lt ht']; omega
  rw [h2,h3]; rfl
theorem split_rung (p r : Nat) (h : ¬ r < 2^p) : ∃ q t,t < 2^p ∧ r = (q+1) * 2^p + t:=by
 have hB : 0 < 2^p:=Nat.two_pow_pos p
 refine ⟨r / 2^p - 1,r % 2^p,Nat.mod_lt _ hB,?_⟩
 have h1 : 1 ≤ r / 2^p:=(Nat.one_le_div_iff hB).2 (by omega)
 have:=Nat.div_add_mod r (2^p)
 rw [show r / 2^p - 1 + 1 = r / 2^p from by omega,Nat.mul_comm]; exact this.symm
def ulp (p r : Nat) : Nat:=2^(r/2^p - 1)
theorem ulp_pos (p r : Nat) : 0 < ulp p r:=Nat.two_pow_pos _
theorem rv_succ (p r : Nat) : rv p (r+1) = rv p r + ulp p r:=by
 have hB : 0 < 2^p:=Nat.two_pow_pos p
 by_cases h : r < 2^p
 ·have hu : ulp p r = 1:=by unfold ulp; rw [Nat.div_eq_of_lt h]
  rw [rv_small h,hu]
  by_cases h' : r + 1 < 2^p
  ·rw [rv_small h']
  ·have e : r + 1 = (0+1) * 2^p + 0:=by omega
   rw [e,rv_form p 0 0 (Nat.zero_le _)]; omega
 ·obtain ⟨q,t,ht,rfl⟩:=split_rung p r h
  have h3 : ((q+1) * 2^p + t) / 2^p = q + 1:=by
   rw [Nat.add_comm,Nat.add_mul_div_right _ _ hB,Nat.div_eq_of_lt ht]; omega
  have hu : ulp p ((q+1) * 2^p + t) = 2^q:=by unfold ulp; rw [h3]; rfl
  rw [hu,Nat.add_assoc,rv_form p q (t+1) (by omega),rv_form p q t (by omega),← Nat.add_assoc,Nat.add_mul (2^p + t) 1,Nat.one_mul]
theorem rv_lt_succ (p r : Nat) : rv p r < rv p (r+1):=by rw [rv_succ]; have:=ulp_pos p r; omega
theorem rv_lt {p r s : Nat} (h : r < s) : rv p r < rv p s:=by
 induction s with
 | zero=>omega
 | succ s ih =>
   have:=rv_lt_succ p s
   by_cases e : r = s
   ·subst e; exact this
   ·have:=ih (by omega); omega
theorem rv_le {p r s : Nat} (h : r ≤ s) : rv p r ≤ rv p s:=by
 rcases Nat.lt_or_eq_of_le h with h | rfl
 ·exact Nat.le_of_lt (rv_lt h)
 ·exact Nat.le_refl _
theorem rv_lt_iff {p r s : Nat} : rv p r < rv p s ↔ r < s:=
 ⟨fun h=>by rcases Nat.lt_or_ge r s with g | g; exact g; have:=rv_le (p:=p) g; omega,rv_lt⟩
theorem rv_le_iff {p r s : Nat} : rv p r ≤ rv p s ↔ r ≤ s:=by
 have:=rv_lt_iff (p:=p) (r:=s) (s:=r); omega
theorem rv_inj {p r s : Nat} (h : rv p r = rv p s) : r = s:=by
 have h1:=rv_le_iff (p:=p) (r:=r) (s:=s); have h2:=rv_le_iff (p:=p) (r:=s) (s:=r); omega
theorem rv_zero (p : Nat) : rv p 0 = 0:=rv_small (Nat.two_pow_pos p)
theorem le_rv (p r : Nat) : r ≤ rv p r:=by
 induction r with
 | zero=>omega
 | succ r ih=>have:=rv_lt_succ p r; omega
def Near (p M S R : Nat) : Prop:=
 (R = 0 ∨ (rv p (R-1) + rv p R) * S < 2*M ∨ ((rv p (R-1) + rv p R) * S = 2*M ∧ R % 2 = 0)) ∧
 (2*M < (rv p R + rv p (R+1)) * S ∨ (2*M = (rv p R + rv p (R+1)) * S ∧ R % 2 = 0))
theorem Near.uniq {p M S R R' : Nat} (hS : 0 < S) (h : Near p M S R) (h' : Near p M S R') : R = R':=by
 rcases Nat.lt_trichotomy R R' with lt | e | lt
 ·exfalso
  have a : (rv p R + rv p (R+1)) * S ≤ (rv p (R'-1) + rv p R') * S:=
   Nat.mul_le_mul_right _ (Nat.add_le_add (rv_le (by omega)) (rv_le (by omega)))
  have b:=h.2
  have c:=h'.1
  by_cases e : R' = R + 1
  ·subst e
   simp only [Nat.add_sub_cancel] at c a
   rcases b with b | ⟨b,b'⟩ <;> rcases c with c | c | ⟨c,c'⟩ <;> omega
  ·have a' : (rv p R + rv p (R+1)) * S < (rv p (R'-1) + rv p R') * S :=
    Nat.mul_lt_mul_of_pos_right (Nat.add_lt_add (rv_lt (by omega)) (rv_lt (by omega))) hS
   rcases b with b | ⟨b,b'⟩ <;> rcases c with c | c | ⟨c,c'⟩ <;> omega
 ·exact e
 ·exfalso
  have a : (rv p R' + rv p (R'+1)) * S ≤ (rv p (R-1) + rv p R) * S:=
   Nat.mul_le_mul_right _ (Nat.add_le_add (rv_le (by omega)) (rv_le (by omega)))
  have b:=h'.2
  have c:=h.1
  by_cases e : R = R' + 1
  ·subst e
   simp only [Nat.add_sub_cancel] at c a
   rcases b with b | ⟨b,b'⟩ <;> rcases c with c | c | ⟨c,c'⟩ <;> omega
  ·have a' : (rv p R' + rv p (R'+1)) * S < (rv p (R-1) + rv p R) * S :=
    Nat.mul_lt_mul_of_pos_right (Nat.add_lt_add (rv_lt (by omega)) (rv_lt (by omega))) hS
   rcases b with b | ⟨b,b'⟩ <;> rcases c with c | c | ⟨c,c'⟩ <;> omega
theorem Near.exact (p R S : Nat) (hS : 0 < S) : Near p (rv p R * S) S R:=by
 constructor
 ·by_cases e : R = 0
  ·exact .inl e
  ·refine .inr (.inl ?_)
   have : rv p (R-1) < rv p R:=rv_lt (by omega)
   rw [← Nat.mul_assoc,Nat.two_mul]
   exact Nat.mul_lt_mul_of_pos_right (by omega) hS
 ·refine .inl ?_
  have:=rv_lt_succ p R
  rw [← Nat.mul_assoc,Nat.two_mul]
  exact Nat.mul_lt_mul_of_pos_right (by omega) hS
theorem Near.scale {p M S R : Nat} (k : Nat) (hk : 0 < k) : Near p (M*k) (S*k) R ↔ Near p M S R:=by
 unfold Near
 have e1 : ∀ a,a * (S*k) = a * S * k:=fun a=>by rw [Nat.mul_assoc]
 have e2 : 2 * (M*k) = 2*M*k:=by rw [Nat.mul_assoc]
 simp only [e1,e2,Nat.mul_lt_mul_right hk,Nat.mul_right_cancel_iff hk]
theorem even_cut (neg : Bool) (n d : Nat) :
  let K:=Toward.even.cut neg n d
  (K = 0 ∨ (2*K-1) * 2^d < 2*n ∨ ((2*K-1) * 2^d = 2*n ∧ K % 2 = 0)) ∧ (2*n < (2*K+1) * 2^d ∨ (2*n = (2*K+1) * 2^d ∧ K % 2 = 0)):=by
 intro K
 by_cases h : d ≤ n.log2 + 2
 ·have e : K = n / 2^d + (decide (2^d < 2 * (n % 2^d)) || (2^d == 2 * (n % 2^d) && n / 2^d % 2 == 1)).toNat := by
   show Toward.even.cut neg n d = _
   unfold Toward.cut
   simp only [Nat.min_eq_left h,Nat.one_shiftLeft]
  have hg : 0 < 2^d:=Nat.two_pow_pos d
  have hdm:=Nat.div_add_mod n (2^d)
  have hml:=Nat.mod_lt n hg
  generalize n / 2^d = a at *
  generalize n % 2^d = b at *
  generalize 2^d = g at *
  have f1 : ∀ x,(2*x+1)*g = 2*(g*x)+g:=fun x=>by rw [Nat.add_mul,Nat.one_mul,Nat.mul_assoc,Nat.mul_comm x g]
  have f2 : (2*(a+1)-1)*g = 2*(g*a)+g:=by rw [show 2*(a+1)-1 = 2*a+1 from by omega,f1]
  have f3 : a ≠ 0 → (2*a-1)*g + g = 2*(g*a):=fun h=>by
   rw [← Nat.succ_mul,show (2*a-1).succ = 2*a from by omega,Nat.mul_assoc,Nat.mul_comm a g]
  have f4 : g*(a+1) = g*a+g:=Nat.mul_add_one _ _
  by_cases c1 : g < 2*b
  ·have : K = a+1:=by rw [e]; simp [c1]
   rw [this,f2,f1,f4]; omega
  ·by_cases c2 : g = 2*b
   ·by_cases c3 : a % 2 = 1
    ·have : K = a+1:=by rw [e]; simp [c2,c3]
     rw [this,f2,f1,f4]; omega
    ·have : K = a:=by rw [e]; simp [c2,c3]
     rw [this,f1]; refine ⟨?_,by omega⟩
     by_cases z : a = 0
     ·exact .inl z
     ·have:=f3 z; omega
   ·have : K = a:=by rw [e]; simp [c1,c2]
    rw [this,f1]; refine ⟨?_,by omega⟩
    by_cases z : a = 0
    ·exact .inl z
    ·have:=f3 z; omega
 ·have hl : n < 2^(n.log2+1):=Nat.lt_log2_self
  have hg : 2^(n.log2+2) = 2 * 2^(n.log2+1):=by rw [Nat.pow_succ 2 (n.log2+1),Nat.mul_comm]
  have e : K = 0:=by
   show Toward.even.cut neg n d = _
   unfold Toward.cut
   simp only [Nat.min_eq_right (Nat.le_of_lt (Nat.lt_of_not_le h)),Nat.one_shiftLeft]
   have h1 : n < 2^(n.log2+2):=by omega
   rw [Nat.div_eq_of_lt h1,Nat.mod_eq_of_lt h1]
   have h2 : ¬ 2^(n.log2+2) < 2*n:=by omega
   simp only [h2,decide_false,Bool.false_or,Nat.zero_mod]
   simp
  have h3 : 2^(n.log2+2) ≤ 2^d:=Nat.pow_le_pow_right (by omega) (by omega)
  rw [e]; refine ⟨.inl rfl,.inl ?_⟩
  simp; omega
def RN (A C K : Nat) : Prop:=(K = 0 ∨ (2*K-1) * C < 2*A ∨ ((2*K-1) * C = 2*A ∧ K % 2 = 0)) ∧ (2*A < (2*K+1) * C ∨ (2*A = (2*K+1) * C ∧ K % 2 = 0))
theorem rn_cut (neg : Bool) (n d : Nat) : RN n (2^d) (Toward.even.cut neg n d):=even_cut neg n d
theorem near_of_rn (p q A C K : Nat) (hp : 0 < p) (hC : 0 < C) (hcut : RN A C K) (hn1 : A < 2^(p+1) * C) (hn2 : 0 < q → 2^p * C ≤ A) : Near p (A * 2^q) C (q * 2^p + K):=by
 unfold RN at hcut
 have hB : 0 < 2^p:=Nat.two_pow_pos p
 have hpp : 2^(p+1) = 2 * 2^p:=by rw [Nat.pow_succ,Nat.mul_comm]
 have hQ : 0 < 2^q:=Nat.two_pow_pos q
 have hK1 : K ≤ 2 * 2^p:=by
  rcases Nat.lt_or_ge (2*2^p) K with h | h
  ·exfalso
   have : (2*(2*2^p)+1) * C ≤ (2*K-1) * C:=Nat.mul_le_mul_right _ (by omega)
   rw [hpp] at hn1
   have e : (2*(2*2^p)+1) * C = 2*(2*2^p*C) + C:=by rw [Nat.add_mul,Nat.one_mul,Nat.mul_assoc 2 (2*2^p)]
   rcases hcut.1 with c | c | ⟨c,_⟩ <;> omega
  ·exact h
 have hK2 : 0 < q → 2^p ≤ K:=by
  intro h0
  have:=hn2 h0
  rcases Nat.lt_or_ge K (2^p) with h | h
  ·exfalso
   have : (2*K+1) * C + C ≤ 2 * (2^p * C):=by
    rw [← Nat.succ_mul,← Nat.mul_assoc]; exact Nat.mul_le_mul_right _ (by omega)
   rcases hcut.2 with c | ⟨c,_⟩ <;> omega
  ·exact h
 have heven : (q * 2^p + K) % 2 = K % 2:=by
  obtain ⟨p',rfl⟩ : ∃ p',p = p' + 1:=⟨p - 1,by omega⟩
  rw [Nat.pow_succ,← Nat.mul_assoc]; omega
 have hrvK : ∀ K',K' ≤ 2 * 2^p → (0 < q → 2^p ≤ K') → rv p (q * 2^p + K') = K' * 2^q:=by
  intro K' h1 h2
  rcases Nat.lt_or_ge K' (2^p) with h | h
  ·have : q = 0:=by rcases Nat.eq_zero_or_pos q with z | z; exact z; have:=h2 z; omega
   subst this
   simp [rv_small h]
  ·obtain ⟨t,rfl⟩:=Nat.exists_eq_add_of_le h
   rw [← Nat.add_assoc,← Nat.succ_mul]
   exact rv_form p q t (by omega)
 have hR:=hrvK K hK1 hK2
 constructor
 ·by_cases z : q * 2^p + K = 0
  ·exact .inl z
  refine .inr ?_
  by_cases h : 0 < q ∧ K = 2^p
  ·obtain ⟨h0,rfl⟩:=h
   have h1:=hn2 h0
   have h2 : rv p (q * 2^p + 2^p - 1) < rv p (q * 2^p + 2^p):=rv_lt (by omega)
   rw [hR] at h2 ⊢
   refine .inl ?_
   have h3 : (rv p (q * 2^p + 2^p - 1) + 2^p * 2^q) * C < 2 * (2^p * 2^q) * C:=Nat.mul_lt_mul_of_pos_right (by omega) hC
   have h4 : 2 * (2^p * 2^q) * C = 2 * (2^p * C * 2^q):=by rw [Nat.mul_assoc,Nat.mul_right_comm]
   have h5 : 2^p * C * 2^q ≤ A * 2^q:=Nat.mul_le_mul_right _ h1
   omega
  ·have hK0 : K ≠ 0 := by
    intro e; subst e
    have : 0 < q:=by rcases Nat.eq_zero_or_pos q with z' | z'; (subst z'; simp at z); exact z'
    have:=hK2 this; omega
   have e : q * 2^p + K - 1 = q * 2^p + (K - 1):=by omega
   have h1:=hrvK (K-1) (by omega) (fun h0=>by have:=hK2 h0; omega)
   rw [e,h1,hR,heven,← Nat.add_mul,show K - 1 + K = 2*K-1 from by omega,Nat.mul_right_comm,← Nat.mul_assoc 2,Nat.mul_lt_mul_right hQ,Nat.mul_right_cancel_iff hQ]
   rcases hcut.1 with c | c
   ·exact absurd c hK0
   ·exact c
 ·rw [hR,heven]
  by_cases h : K = 2 * 2^p
  ·subst h
   refine .inl ?_
   have h1 : rv p (q * 2^p + 2*2^p) < rv p (q * 2^p + 2*2^p + 1):=rv_lt (by omega)
   rw [hR] at h1
   have h2 : 2 * (A * 2^q) < 2 * (2 * 2^p * 2^q) * C:=by
    rw [Nat.mul_assoc 2 (2 * 2^p * 2^q),Nat.mul_right_comm (2*2^p)]
    rw [hpp] at hn1
    have:=Nat.mul_lt_mul_of_pos_right hn1 hQ
    omega
   refine Nat.lt_of_lt_of_le h2 (Nat.mul_le_mul_right _ ?_)
   omega
  ·have h1:=hrvK (K+1) (by omega) (fun h0=>by have:=hK2 h0; omega)
   rw [Nat.add_assoc,h1,← Nat.add_mul,show K + (K+1) = 2*K+1 from by omega,Nat.mul_right_comm,← Nat.mul_assoc 2,Nat.mul_lt_mul_right hQ,Nat.mul_right_cancel_iff hQ]
   exact hcut.2
theorem nearest_parts (f : Format) (neg : Bool) (mag : Nat) (place : Int) (hm : mag ≠ 0) :
  ∃ q n d : Nat,f.nearest neg mag place = f.word neg (min (q * 2^f.fractionBits + Toward.even.cut neg n d) f.infRung) ∧
   (place - f.leastPlace + mag.log2 - f.fractionBits ≤ q) ∧ (0 < q → (q : Int) = place - f.leastPlace + mag.log2 - f.fractionBits) ∧
   n = mag * 2^(place - f.leastPlace - q).toNat ∧ d = ((q : Int) - (place - f.leastPlace)).toNat:=by
 unfold Format.nearest
 rw [if_neg hm]
 dsimp only
 generalize hk : place - f.leastPlace = k
 generalize hlast : max (place + (mag.log2 : Int) - f.fractionBits) f.leastPlace = last
 obtain ⟨q,hq⟩ : ∃ q : Nat,last - f.leastPlace = q:=⟨(last - f.leastPlace).toNat,by omega⟩
 have e1 : place - last = k - q:=by omega
 have e2 : last - place = q - k:=by omega
 rw [hq,e1,e2]
 refine ⟨q,mag * 2^(k - q).toNat,((q : Int) - k).toNat,?_,by omega,by omega,rfl,rfl⟩
 simp only [Int.toNat_natCast,Nat.shiftLeft_eq]
 rfl
theorem nearest_near (f : Format) (hp : 0 < f.fractionBits) (neg : Bool) (mag : Nat) (place : Int) (hm : mag ≠ 0) :
  ∃ R,f.nearest neg mag place = f.word neg (min R f.infRung) ∧
   Near f.fractionBits (mag * 2^(place - f.leastPlace).toNat) (2^(f.leastPlace - place).toNat) R:=by
 obtain ⟨q,n,d,h1,hqlo,hqhi,hn,hd⟩:=nearest_parts f neg mag place hm
 have hk' : f.leastPlace - place = -(place - f.leastPlace):=by omega
 rw [hk']
 generalize place - f.leastPlace = k at *
 refine ⟨_,h1,?_⟩
 generalize f.fractionBits = p at *
 have hlog1 : 2^mag.log2 ≤ mag:=Nat.log2_self_le hm
 have hlog2 : mag < 2^(mag.log2+1):=Nat.lt_log2_self
 have hn1 : n < 2^(p+1) * 2^d:=by
  have : n < 2^(mag.log2+1) * 2^(k-q).toNat:=by rw [hn]; exact Nat.mul_lt_mul_of_pos_right hlog2 (Nat.two_pow_pos _)
  refine Nat.lt_of_lt_of_le this ?_
  rw [← Nat.pow_add,← Nat.pow_add]
  exact Nat.pow_le_pow_right (by omega) (by omega)
 have hn2 : 0 < q → 2^p * 2^d ≤ n:=by
  intro h0
  have h1:=hqhi h0
  have : 2^mag.log2 * 2^(k-q).toNat ≤ n:=by rw [hn]; exact Nat.mul_le_mul_right _ hlog1
  refine Nat.le_trans ?_ this
  rw [← Nat.pow_add,← Nat.pow_add]
  exact Nat.pow_le_pow_right (by omega) (by omega)
 have hM : mag * 2^k.toNat * 2^d = n * 2^q * 2^(-k).toNat:=by
  rw [hn,Nat.mul_assoc,Nat.mul_assoc,Nat.mul_assoc,← Nat.pow_add,← Nat.pow_add,← Nat.pow_add]
  congr 2; omega
 rw [← Near.scale (2^d) (Nat.two_pow_pos d),hM,Nat.mul_comm (2^(-k).toNat),Near.scale _ (Nat.two_pow_pos _)]
 exact near_of_rn p q n (2^d) _ hp (Nat.two_pow_pos d) (rn_cut neg n d) hn1 hn2
theorem Near.cross {p M S M' S' R : Nat} (hS : 0 < S) (hS' : 0 < S') (e : M * S' = M' * S) (h : Near p M S R) : Near p M' S' R:=by
 rw [← Near.scale S' hS',e,Nat.mul_comm S S',Near.scale S hS] at h; exact h
theorem near_zero (p S : Nat) (hS : 0 < S) : Near p 0 S 0:=by
 have:=Near.exact p 0 S hS; rwa [rv_zero,Nat.zero_mul] at this
theorem nearest_near' (f : Format) (hp : 0 < f.fractionBits) (neg : Bool) (mag : Nat) (place : Int) :
  ∃ R,f.nearest neg mag place = f.word neg (min R f.infRung) ∧
   Near f.fractionBits (mag * 2^(place - f.leastPlace).toNat) (2^(f.leastPlace - place).toNat) R:=by
 by_cases h : mag = 0
 ·subst h
  exact ⟨0,by simp [Format.nearest],by rw [Nat.zero_mul]; exact near_zero _ _ (Nat.two_pow_pos _)⟩
 ·exact nearest_near f hp neg mag place h
section
variable (f : Format)
def sgn (w : Nat) : Bool:=w / f.signWeight % 2 == 1
def rg (w : Nat) : Nat:=w % f.signWeight
def fin (w : Nat) : Prop:=rg f w < f.infRung
def V (w : Nat) : Int:=if sgn f w then -(rv f.fractionBits (rg f w) : Int) else (rv f.fractionBits (rg f w) : Int)
theorem read_num (w : Nat) (h : fin f w) : ∃ m k : Nat,f.read w = .number (sgn f w) m (f.leastPlace + k) ∧ m * 2^k = rv f.fractionBits (rg f w) ∧ (m = 0 ↔ rg f w = 0):=by
 unfold fin at h
 unfold Format.read rv
 dsimp only
 change ∃ m k : Nat,(if rg f w < f.binade then _ else if rg f w < f.infRung then _ else _) = _ ∧ _
 have hB : 0 < f.binade:=Nat.two_pow_pos _
 by_cases c : rg f w < f.binade
 ·refine ⟨rg f w,0,?_,?_,Iff.rfl⟩
  ·rw [if_pos c]; simp [sgn,rg]
  ·rw [if_pos (show rg f w < 2^f.fractionBits from c)]; simp
 ·refine ⟨f.binade + rg f w % f.binade,rg f w / f.binade - 1,?_,?_,by omega⟩
  ·rw [if_neg c,if_pos h]; rfl
  ·rw [if_neg (show ¬ rg f w < 2^f.fractionBits from c)]; rfl
theorem read_inf (hB : f.binade ≤ f.infRung) (w : Nat) (h : rg f w = f.infRung) : f.read w = .infinity (sgn f w):=by
 unfold Format.read
 dsimp only
 change (if rg f w < f.binade then _ else if rg f w < f.infRung then _ else if rg f w = f.infRung then _ else _) = _
 rw [if_neg (by omega),if_neg (by omega),if_pos h]; rfl
theorem read_nan (hB : f.binade ≤ f.infRung) (w : Nat) (h : f.infRung < rg f w) : f.read w = .nan (sgn f w) (rg f w - f.infRung):=by
 unfold Format.read
 dsimp only
 change (if rg f w < f.binade then _ else if rg f w < f.infRung then _ else if rg f w = f.infRung then _ else _) = _
 rw [if_neg (by omega),if_neg (by omega),if_neg (by omega)]; rfl
theorem signed_mul (s : Bool) (m a b : Nat) : Ieee.signed s m a * ((2^b : Nat) : Int) = if s then -((m * 2^(a+b) : Nat) : Int) else ((m * 2^(a+b) : Nat) : Int):=by
 unfold Ieee.signed
 rw [Nat.shiftLeft_eq,Nat.pow_add,← Nat.mul_assoc]
 split <;> simp [Int.neg_mul]
theorem two_pow_int_pos (b : Nat) : (0:Int) < ((2^b : Nat) : Int):=by have:=Nat.two_pow_pos b; omega
def sg (s : Bool) (n : Nat) : Int:=if s then -(n : Int) else (n : Int)
theorem sg_not (s : Bool) (n : Nat) : sg (!s) n = -sg s n:=by unfold sg; cases s <;> simp
variable (hp : 0 < f.fractionBits)
include hp
omit hp
theorem V_neg (w : Nat) : V f w < 0 ↔ sgn f w = true ∧ rg f w ≠ 0:=by
 unfold V
 have h0 : rv f.fractionBits (rg f w) = 0 ↔ rg f w = 0:=⟨fun h=>rv_inj (p:=f.fractionBits) (by rw [h,rv_zero]),fun h=>by rw [h,rv_zero]⟩
 cases h : sgn f w <;> simp <;> omega
theorem V_zero (w : Nat) : V f w = 0 ↔ rg f w = 0:=by
 unfold V
 have h0 : rv f.fractionBits (rg f w) = 0 ↔ rg f w = 0:=⟨fun h=>rv_inj (p:=f.fractionBits) (by rw [h,rv_zero]),fun h=>by rw [h,rv_zero]⟩
 cases h : sgn f w <;> simp <;> omega
theorem order_fin (x y : Nat) (hx : fin f x) (hy : fin f y) : f.order x y = some (compare (V f x) (V f y)):=by
 obtain ⟨m1,k1,e1,v1,_⟩:=read_num f x hx
 obtain ⟨m2,k2,e2,v2,_⟩:=read_num f y hy
 unfold Format.order
 rw [e1,e2]
 unfold Datum.order
 dsimp only
 have hb : min (f.leastPlace + (k1:Int)) (f.leastPlace + (k2:Int)) = f.leastPlace + ((min k1 k2 : Nat) : Int):=by omega
 rw [hb]
 have h1 : (f.leastPlace + (k1:Int) - (f.leastPlace + ((min k1 k2 : Nat) : Int))).toNat = k1 - min k1 k2:=by omega
 have h2 : (f.leastPlace + (k2:Int) - (f.leastPlace + ((min k1 k2 : Nat) : Int))).toNat = k2 - min k1 k2:=by omega
 rw [h1,h2]
 have hV1 : Ieee.signed (sgn f x) m1 (k1 - min k1 k2) * ((2^(min k1 k2) : Nat) : Int) = V f x:=by
  rw [signed_mul,show k1 - min k1 k2 + min k1 k2 = k1 from by omega,v1]; rfl
 have hV2 : Ieee.signed (sgn f y) m2 (k2 - min k1 k2) * ((2^(min k1 k2) : Nat) : Int) = V f y:=by
  rw [signed_mul,show k2 - min k1 k2 + min k1 k2 = k2 from by omega,v2]; rfl
 rw [← hV1,← hV2]
 generalize Ieee.signed (sgn f x) m1 (k1 - min k1 k2) = a
 generalize Ieee.signed (sgn f y) m2 (k2 - min k1 k2) = b
 have hp:=two_pow_int_pos (min k1 k2)
 congr 1
 show (if a < b then Ordering.lt else if a = b then .eq else .gt) = (if a * ((2^(min k1 k2) : Nat) : Int) < b * ((2^(min k1 k2) : Nat) : Int) then Ordering.lt else if a * ((2^(min k1 k2) : Nat) : Int) = b * ((2^(min k1 k2) : Nat) : Int) then .eq else .gt)
 simp only [Int.mul_lt_mul_right hp,Int.mul_eq_mul_right_iff (show ((2^(min k1 k2) : Nat) : Int) ≠ 0 by omega)]
theorem order_nan_left (hB : f.binade ≤ f.infRung) (x y : Nat) (hx : f.infRung < rg f x) : f.order x y = none:=by
 unfold Format.order
 rw [read_nan f hB x hx]; rfl
theorem order_nan_right (hB : f.binade ≤ f.infRung) (x y : Nat) (hy : f.infRung < rg f y) : f.order x y = none:=by
 unfold Format.order
 rw [read_nan f hB y hy]
 cases f.read x <;> rfl
theorem order_all (hB : f.binade ≤ f.infRung) (x y : Nat) (hx : rg f x ≤ f.infRung) (hy : rg f y ≤ f.infRung) : f.order x y = some (compare (V f x) (V f y)):=by
 have hb : 0 < f.infRung:=Nat.lt_of_lt_of_le (Nat.two_pow_pos _) hB
 have hc : ∀ a b : Int,compare a b = if a < b then .lt else if a = b then .eq else .gt:=fun a b=>rfl
 have big : ∀ w,fin f w → rv f.fractionBits (rg f w) < rv f.fractionBits f.infRung:=fun w hw=>rv_lt hw
 have pos : 0 < rv f.fractionBits f.infRung:=by rw [← rv_zero f.fractionBits]; exact rv_lt hb
 by_cases cx : rg f x = f.infRung
 ·by_cases cy : rg f y = f.infRung
  ·unfold Format.order
   rw [read_inf f hB x cx,read_inf f hB y cy,hc]
   unfold V
   rw [cx,cy]
   cases sgn f x <;> cases sgn f y <;> simp only [Datum.order,if_true] <;> (repeat' split) <;> first | rfl | omega | (exfalso; simp_all <;> omega)
  ·have fy : fin f y:=by unfold fin; omega
   obtain ⟨m2,k2,e2,v2,_⟩:=read_num f y fy
   unfold Format.order
   rw [read_inf f hB x cx,e2,hc]
   have:=big y fy
   unfold V
   rw [cx]
   generalize rv f.fractionBits f.infRung = I at *
   generalize rv f.fractionBits (rg f y) = v at *
   cases sgn f x <;> cases sgn f y <;> simp only [Datum.order] <;> (repeat' split) <;> first | rfl | omega | (exfalso; simp_all <;> omega)
 ·have fx : fin f x:=by unfold fin; omega
  by_cases cy : rg f y = f.infRung
  ·obtain ⟨m2,k2,e2,v2,_⟩:=read_num f x fx
   unfold Format.order
   rw [read_inf f hB y cy,e2,hc]
   have:=big x fx
   unfold V
   rw [cy]
   generalize rv f.fractionBits f.infRung = I at *
   generalize rv f.fractionBits (rg f x) = v at *
   cases sgn f x <;> cases sgn f y <;> simp only [Datum.order] <;> (repeat' split) <;> first | rfl | omega | (exfalso; simp_all <;> omega)
  ·exact order_fin f x y fx (by unfold fin; omega)
theorem mul_fin (hp : 0 < f.fractionBits) (hl : f.leastPlace ≤ 0) (x y : Nat) (hx : fin f x) (hy : fin f y) : ∃ R, f.mul x y = some (f.word (sgn f x ^^ sgn f y) (min R f.infRung)) ∧
  Near f.fractionBits (rv f.fractionBits (rg f x) * rv f.fractionBits (rg f y)) (2^(-f.leastPlace).toNat) R:=by
 obtain ⟨m1,k1,e1,v1,_⟩:=read_num f x hx
 obtain ⟨m2,k2,e2,v2,_⟩:=read_num f y hy
 unfold Format.mul
 rw [e1,e2]
 unfold Datum.product
 obtain ⟨R,h1,h2⟩:=nearest_near' f hp (sgn f x ^^ sgn f y) (m1 * m2) (f.leastPlace + k1 + (f.leastPlace + k2))
 refine ⟨R,congrArg some h1,Near.cross (Nat.two_pow_pos _) (Nat.two_pow_pos _) ?_ h2⟩
 rw [← v1,← v2]
 rw [show m1 * 2^k1 * (m2 * 2^k2) = m1 * m2 * 2^(k1+k2) from by rw [Nat.pow_add]; simp only [Nat.mul_assoc,Nat.mul_left_comm]]
 rw [Nat.mul_assoc (m1*m2),Nat.mul_assoc (m1*m2),← Nat.pow_add,← Nat.pow_add]
 congr 2; omega
end
theorem D_sw : Ieee.double.signWeight = 9223372036854775808:=by decide
theorem D_inf : Ieee.double.infRung = 9218868437227405312:=by decide
theorem D_lp : Ieee.double.leastPlace = -1074:=by decide
theorem D_ok : Ieee.double.binade ≤ Ieee.double.infRung:=by decide
def W64 (b : Nat) : Prop:=b < 18446744073709551616
def absB (b : Nat) : Nat:=b % 9223372036854775808
def sgnB (b : Nat) : Bool:=decide (9223372036854775808 ≤ b)
def sgnW (b : Nat) : Nat:=if sgnB b then 9223372036854775808 else 0
def nanB (b : Nat) : Bool:=decide (9218868437227405312 < absB b)
def infB (b : Nat) : Bool:=decide (absB b = 9218868437227405312)
def zeroB (b : Nat) : Bool:=decide (absB b = 0)
def lowB (b : Nat) : Bool:=decide (absB b < 4503599627370496)
def negB (b : Nat) : Bool:=!nanB b && sgnB b
def finB (b : Nat) : Bool:=decide (absB b < 9218868437227405312)
def clsB (b : Nat) : Int:=if nanB b then 1 else if infB b then 2 else if zeroB b then 3 else if lowB b then 4 else 5
def theNaN : Nat:=9221120237041090560
def oneB (b : Nat) : Nat:=if nanB b then theNaN else b
def keyB (b : Nat) : Int:=if nanB b then 9223372036854775807 else if sgnB b then -(absB b : Int) - 1 else absB b
def atB (k : Int) : Nat:=if k < 0 then 9223372036854775808 + (-k - 1).toNat else k.toNat
def valB (b : Nat) : Int:=if sgnB b then -(rv 52 (absB b) : Int) else rv 52 (absB b)
theorem rg_D (b : Nat) : rg Ieee.double b = absB b:=by unfold rg absB; rw [D_sw]
theorem sgn_D (b : Nat) (h : W64 b) : sgn Ieee.double b = sgnB b:=by
 unfold sgn sgnB; rw [D_sw]; unfold W64 at h
 rw [Bool.eq_iff_iff]; simp; omega
theorem V_D (b : Nat) (h : W64 b) : V Ieee.double b = valB b:=by
 unfold V valB; rw [sgn_D b h,rg_D]; rfl
theorem fin_D (b : Nat) : fin Ieee.double b ↔ finB b = true:=by
 unfold fin finB; rw [rg_D,D_inf]; simp
theorem absB_lt (b : Nat) : absB b < 9223372036854775808:=Nat.mod_lt _ (by decide)
theorem absB_W (b : Nat) : W64 (absB b):=by unfold W64; have:=absB_lt b; omega
theorem absB_abs (b : Nat) : absB (absB b) = absB b:=by unfold absB; omega
theorem sgnB_abs (b : Nat) : sgnB (absB b) = false:=by unfold sgnB; have:=absB_lt b; simp; omega
theorem split_B (b : Nat) (h : W64 b) : b = sgnW b + absB b:=by
 unfold W64 at h; unfold sgnW sgnB absB; split <;> simp_all <;> omega
theorem valB_abs (b : Nat) : valB (absB b) = rv 52 (absB b):=by unfold valB; rw [sgnB_abs,absB_abs]; rfl
theorem ord_D (x y : Nat) (hx : W64 x) (hy : W64 y) (nx : nanB x = false) (ny : nanB y = false) : Ieee.double.order x y = some (compare (valB x) (valB y)):=by
 rw [← V_D x hx,← V_D y hy]
 refine order_all Ieee.double D_ok x y ?_ ?_
 ·rw [rg_D,D_inf]; unfold nanB at nx; simpa using nx
 ·rw [rg_D,D_inf]; unfold nanB at ny; simpa using ny
theorem ord_D_nan_left (x y : Nat) (nx : nanB x = true) : Ieee.double.order x y = none:=
 order_nan_left Ieee.double D_ok x y (by rw [rg_D,D_inf]; unfold nanB at nx; simpa using nx)
theorem ord_D_nan_right (x y : Nat) (ny : nanB y = true) : Ieee.double.order x y = none:=
 order_nan_right Ieee.double D_ok x y (by rw [rg_D,D_inf]; unfold nanB at ny; simpa using ny)
theorem cmp_rv (x y : Nat) : compare ((rv 52 x : Nat) : Int) (rv 52 y : Nat) = compare x y:=by
 show (if ((rv 52 x : Nat) : Int) < (rv 52 y : Nat) then Ordering.lt else if ((rv 52 x : Nat) : Int) = (rv 52 y : Nat) then .eq else .gt) = (if x < y then Ordering.lt else if x = y then .eq else .gt)
 have h1 : ((rv 52 x : Nat) : Int) < (rv 52 y : Nat) ↔ x < y:=by rw [Int.ofNat_lt,rv_lt_iff]
 have h2 : ((rv 52 x : Nat) : Int) = (rv 52 y : Nat) ↔ x = y:=by rw [Int.ofNat_inj]; exact ⟨rv_inj,fun h=>h ▸ rfl⟩
 simp only [h1,h2]
theorem ord_abs (b c : Nat) (hc : c ≤ 9218868437227405312) (nb : nanB b = false) : Ieee.double.order (absB b) c = some (compare (absB b) c):=by
 have hcl : c < 9223372036854775808:=by omega
 have e : c = absB c:=by unfold absB; rw [Nat.mod_eq_of_lt hcl]
 rw [ord_D _ _ (absB_W b) (by unfold W64; omega) (by unfold nanB at *; rw [absB_abs]; exact nb) (by unfold nanB; rw [← e]; simp; exact hc)]
 rw [valB_abs,e,valB_abs,cmp_rv]
theorem cmp_neg (a b : Int) : compare (-a) (-b) = compare b a:=by
 show (if -a < -b then Ordering.lt else if -a = -b then .eq else .gt) = (if b < a then Ordering.lt else if b = a then .eq else .gt)
 have h1 : (-a < -b) ↔ b < a:=by omega
 have h2 : (-a = -b) ↔ b = a:=by omega
 simp only [h1,h2]
theorem cmp_gt (x y : Nat) : (some (compare x y) == some Ordering.gt) = decide (y < x):=by
 show (some (if x < y then Ordering.lt else if x = y then .eq else .gt) == _) = _
 by_cases h : x < y
 ·rw [if_pos h]; have : ¬ y < x:=by omega
  simp [this]
 ·rw [if_neg h]; by_cases e : x = y
  ·rw [if_pos e]; subst e; simp
  ·rw [if_neg e]; have : y < x:=by omega
   simp [this]
theorem cmp_lt (x y : Nat) : (some (compare x y) == some Ordering.lt) = decide (x < y):=by
 show (some (if x < y then Ordering.lt else if x = y then .eq else .gt) == _) = _
 by_cases h : x < y
 ·rw [if_pos h]; simp [h]
 ·rw [if_neg h]; by_cases e : x = y
  ·rw [if_pos e]; simp [h]
  ·rw [if_neg e]; simp [h]
theorem cmp_eq (x y : Nat) : (some (compare x y) == some Ordering.eq) = decide (x = y):=by
 show (some (if x < y then Ordering.lt else if x = y then .eq else .gt) == _) = _
 by_cases h : x < y
 ·rw [if_pos h]; have : ¬ x = y:=by omega
  simp [this]
 ·rw [if_neg h]; by_cases e : x = y
  ·rw [if_pos e]; subst e; simp
  ·rw [if_neg e]; simp [e]
@[go_sem] theorem w_ne_self (b : Nat) : (Go.FloatKind.f64.format.order b b != some Ordering.eq) = nanB b:=by
 show (Ieee.double.order b b != some Ordering.eq) = nanB b
 cases n : nanB b
 ·have hb:=n
  unfold nanB at hb
  have : Ieee.double.order b b = some .eq:=by
   have:=order_all Ieee.double D_ok b b (by rw [rg_D,D_inf]; simpa using hb) (by rw [rg_D,D_inf]; simpa using hb)
   rw [this]; simp
  rw [this]; rfl
 ·rw [ord_D_nan_left b b n]; rfl
@[go_sem] theorem w_eq_self (b : Nat) : (Go.FloatKind.f64.format.order b b == some Ordering.eq) = !nanB b:=by
 have:=w_ne_self b
 simp only [bne] at this
 rw [← this]; simp
theorem order_abs_nan (b c : Nat) (n : nanB b = true) : Go.FloatKind.f64.format.order (absB b) c = none:=
 ord_D_nan_left (absB b) c (by unfold nanB at *; rw [absB_abs]; exact n)
@[go_sem] theorem w_abs_gt_max (b : Nat) : (Go.FloatKind.f64.format.order (absB b) 9218868437227405311 == some Ordering.gt) = infB b:=by
 cases n : nanB b
 ·have hb:=n; unfold nanB at hb
  rw [show Go.FloatKind.f64.format = Ieee.double from rfl,ord_abs b _ (by decide) n,cmp_gt]
  unfold infB; simp at hb; rw [decide_eq_decide]; omega
 ·rw [order_abs_nan b _ n]; unfold nanB at n; unfold infB; simp at n ⊢; omega
@[go_sem] theorem w_abs_eq_zero (b : Nat) : (Go.FloatKind.f64.format.order (absB b) 0 == some Ordering.eq) = zeroB b:=by
 cases n : nanB b
 ·rw [show Go.FloatKind.f64.format = Ieee.double from rfl,ord_abs b _ (by decide) n,cmp_eq]; rfl
 ·rw [order_abs_nan b _ n]; unfold nanB at n; unfold zeroB; simp at n ⊢; omega
@[go_sem] theorem w_abs_lt_norm (b : Nat) : (Go.FloatKind.f64.format.order (absB b) 4503599627370496 == some Ordering.lt) = lowB b:=by
 cases n : nanB b
 ·rw [show Go.FloatKind.f64.format = Ieee.double from rfl,ord_abs b _ (by decide) n,cmp_lt]; rfl
 ·rw [order_abs_nan b _ n]; unfold nanB at n; unfold lowB; simp at n ⊢; omega
@[go_sem] theorem w_andNot_sign (b : Nat) (h : W64 b) : Go.bits .andNot .u64 (b : Int) 9223372036854775808 = ((absB b : Nat) : Int):=by
 rw [show (9223372036854775808 : Int) = ((9223372036854775808 : Nat) : Int) from rfl,Go.u64_andNot_nat b _ h (by decide)]
 rw [show 18446744073709551615 - 9223372036854775808 = 2^63 - 1 from by decide,Nat.and_two_pow_sub_one_eq_mod]; rfl
@[go_sem] theorem w_and_sign (b : Nat) (h : W64 b) : Go.bits .and .u64 (b : Int) 9223372036854775808 = ((sgnW b : Nat) : Int):=by
 rw [show (9223372036854775808 : Int) = ((2^63 : Nat) : Int) from rfl,Go.u64_and_nat b _ h (by decide),Go.nat_bit]
 unfold W64 at h
 congr 1; unfold sgnW sgnB; split <;> simp_all <;> omega
@[go_sem] theorem w_or_sign (x y : Nat) : Go.bits .or .u64 ((absB x : Nat) : Int) ((sgnW y : Nat) : Int) = ((sgnW y + absB x : Nat) : Int):=by
 have h1:=absB_lt x
 have h2 : sgnW y < 18446744073709551616:=by unfold sgnW; split <;> decide
 rw [Go.u64_or_nat _ _ (by omega) h2]
 congr 1
 rw [Nat.or_comm,Go.nat_join 63 _ _ (by unfold sgnW; split <;> rfl) (by omega)]
@[go_sem] theorem w_signbit (b : Nat) (h : W64 b) : decide (Go.RowKit.wrap64 (b : Int) < 0) = sgnB b:=by
 unfold Go.RowKit.wrap64 sgnB; unfold W64 at h
 rw [decide_eq_decide]; omega
theorem negFloat_D (b : Nat) (h : W64 b) : Go.Op.negFloat .f64 b = if sgnB b then absB b else b + 9223372036854775808:=by
 unfold Go.Op.negFloat
 show b ^^^ 2^63 = _
 unfold W64 at h
 have h1 : (b ^^^ 2^63) % 2^63 = b % 2^63:=by rw [Nat.xor_mod_two_pow]; simp
 have h2 : (b ^^^ 2^63) / 2^63 = b / 2^63 ^^^ 1:=by rw [Nat.xor_div_two_pow]
 have h3 : b / 2^63 = 0 ∨ b / 2^63 = 1:=by omega
 have h4:=Nat.div_add_mod (b ^^^ 2^63) (2^63)
 rw [h1,h2] at h4
 unfold sgnB absB
 rcases h3 with e | e <;> rw [e] at h4
 ·rw [show (0 ^^^ 1 : Nat) = 1 from rfl] at h4
  rw [if_neg (by simp; omega)]; omega
 ·rw [show (1 ^^^ 1 : Nat) = 0 from rfl] at h4
  rw [if_pos (by simp; omega)]; omega
def fracB (b : Nat) : Nat:=b % 4503599627370496
def expB (b : Nat) : Nat:=b / 4503599627370496 % 2048
def mantB (b : Nat) : Nat:=fracB b + 4503599627370496
theorem expB_le (b : Nat) : ((expB b : Nat) : Int) ≤ 2047:=by unfold expB; omega
theorem fracB_lt (b : Nat) : fracB b < 4503599627370496:=Nat.mod_lt _ (by decide)
def spS (b : Nat) : Bool:=if nanB b || infB b then false else negB b
def spM (b : Nat) : Nat:=if nanB b || infB b then 0 else if zeroB b then 0 else if lowB b then fracB b else mantB b
def spE (b : Nat) : Int:=if nanB b || infB b then 0 else if zeroB b then 0 else if lowB b then -1074 else (expB b : Int) - 1075
def spX (b : Nat) : Int:=if nanB b || infB b then 10 else 0
@[go_sem] theorem w_and_frac (b : Nat) (h : W64 b) : Go.bits .and .u64 (b : Int) 4503599627370495 = ((fracB b : Nat) : Int):=by
 rw [show (4503599627370495 : Int) = ((4503599627370495 : Nat) : Int) from rfl,Go.u64_and_nat b _ h (by decide)]
 rw [show 4503599627370495 = 2^52 - 1 from by decide,Nat.and_two_pow_sub_one_eq_mod]; rfl
@[go_sem] theorem w_or_first (b : Nat) : Go.bits .or .u64 ((fracB b : Nat) : Int) 4503599627370496 = ((mantB b : Nat) : Int):=by
 have:=fracB_lt b
 rw [show (4503599627370496 : Int) = ((2^52 : Nat) : Int) from rfl,Go.u64_or_nat _ _ (by omega) (by decide)]
 rw [Nat.or_comm,Go.nat_join 52 _ _ (by decide) (by omega)]
 unfold mantB; omega
@[go_sem] theorem w_exp (b : Nat) (h : W64 b) : Go.bits .and .u64 ((b : Int) / 4503599627370496) 2047 = ((expB b : Nat) : Int):=by
 unfold W64 at h
 rw [show (b : Int) / 4503599627370496 = ((b / 4503599627370496 : Nat) : Int) from by omega,show (2047 : Int) = ((2047 : Nat) : Int) from rfl,Go.u64_and_nat _ _ (by omega) (by decide)]
 rw [show 2047 = 2^11 - 1 from by decide,Nat.and_two_pow_sub_one_eq_mod]; rfl
def orderB (a b : Nat) : Int:=if keyB a < keyB b then -1 else if keyB b < keyB a then 1 else 0
@[go_sem] theorem unary_neg_float (k : Go.FloatKind) (b : Nat) : Go.Op.unary .neg (.float k b) = pure (.float k (Go.Op.negFloat k b)):=rfl
def pinfB (b : Nat) : Bool:=decide (b = 9218868437227405312)
def ninfB (b : Nat) : Bool:=decide (b = 18442240474082181120)
def nextB (b : Nat) : Nat:=if nanB b || pinfB b then oneB b else atB (keyB b + 1)
theorem valB_small (x : Nat) (h : x < 9223372036854775808) : valB x = rv 52 x:=by
 unfold valB sgnB absB; rw [if_neg (by simp; omega),Nat.mod_eq_of_lt h]
theorem valB_big (x : Nat) (h : x < 9223372036854775808) : valB (9223372036854775808 + x) = -(rv 52 x : Int):=by
 unfold valB sgnB absB; rw [if_pos (by simp),Nat.add_mod_left,Nat.mod_eq_of_lt h]
@[go_sem] theorem w_gt_max (b : Nat) (hb : W64 b) : (Go.FloatKind.f64.format.order b 9218868437227405311 == some Ordering.gt) = pinfB b:=by
 show (Ieee.double.order b 9218868437227405311 == some Ordering.gt) = pinfB b
 cases n : nanB b
 ·rw [ord_D b _ hb (by unfold W64; decide) n (by decide)]
  rw [valB_small 9218868437227405311 (by decide)]
  unfold valB sgnB
  unfold nanB at n; simp at n; unfold W64 at hb
  have ha:=absB_lt b
  by_cases c : 9223372036854775808 ≤ b
  ·rw [if_pos (by simpa using c)]
   have h1 : compare (-(rv 52 (absB b) : Int)) ((rv 52 9218868437227405311 : Nat) : Int) ≠ .gt:=by
    rw [Ne,Int.compare_eq_gt]; omega
   have h2 : pinfB b = false:=by unfold pinfB; simp; omega
   rw [h2]; simpa using h1
  ·rw [if_neg (by simpa using c),cmp_rv,cmp_gt]
   unfold pinfB absB at *; rw [decide_eq_decide]; omega
 ·rw [ord_D_nan_left b _ n]; unfold nanB absB at n; unfold pinfB; simp at n ⊢; omega
@[go_sem] theorem w_lt_min (b : Nat) (hb : W64 b) : (Go.FloatKind.f64.format.order b 18442240474082181119 == some Ordering.lt) = ninfB b:=by
 show (Ieee.double.order b 18442240474082181119 == some Ordering.lt) = ninfB b
 cases n : nanB b
 ·rw [ord_D b _ hb (by unfold W64; decide) n (by decide)]
  rw [show 18442240474082181119 = 9223372036854775808 + 9218868437227405311 from rfl,valB_big 9218868437227405311 (by decide)]
  unfold valB sgnB
  unfold nanB at n; simp at n; unfold W64 at hb
  have ha:=absB_lt b
  by_cases c : 9223372036854775808 ≤ b
  ·rw [if_pos (by simpa using c)]
   rw [cmp_neg,cmp_rv,cmp_lt]
   unfold ninfB absB at *; rw [decide_eq_decide]; omega
  ·rw [if_neg (by simpa using c)]
   have h1 : compare ((rv 52 (absB b) : Nat) : Int) (-((rv 52 9218868437227405311 : Nat) : Int)) ≠ .lt:=by
    rw [Ne,Int.compare_eq_lt]; omega
   have h2 : ninfB b = false:=by unfold ninfB; simp; omega
   rw [h2]; simpa using h1
 ·rw [ord_D_nan_left b _ n]; unfold nanB absB at n; unfold ninfB; simp at n ⊢; omega
theorem finB_eq (b : Nat) : finB b = (!nanB b && !infB b):=by
 unfold finB nanB infB; rw [Bool.eq_iff_iff]; simp; omega
theorem exp_zero (b : Nat) : (expB b == 0) = lowB b:=by
 unfold expB lowB absB; rw [Bool.eq_iff_iff]; simp; omega
theorem frac_zero (b : Nat) (h : lowB b = true) : (fracB b == 0) = zeroB b:=by
 unfold fracB zeroB; unfold lowB absB at *; rw [Bool.eq_iff_iff]; simp at h ⊢; omega
theorem zero_low (b : Nat) (h : zeroB b = true) : lowB b = true:=by
 unfold zeroB at h; unfold lowB; simp at h ⊢; omega
theorem sp_not (b : Nat) (h : finB b = false) : spS b = false ∧ spM b = 0 ∧ spE b = 0 ∧ spX b = 10:=by
 rw [finB_eq] at h
 have : (nanB b || infB b) = true:=by revert h; cases nanB b <;> cases infB b <;> decide
 unfold spS spM spE spX
 rw [this]; exact ⟨rfl,rfl,rfl,rfl⟩
theorem fin_not (b : Nat) (h : finB b = true) : (nanB b || infB b) = false ∧ negB b = sgnB b:=by
 rw [finB_eq] at h; unfold negB
 revert h; cases nanB b <;> cases infB b <;> simp
theorem sp_norm (b : Nat) (h : finB b = true) (hl : lowB b = false) : spS b = sgnB b ∧ spM b = mantB b ∧ spE b = (expB b : Int) - 1075 ∧ spX b = 0 ∧ (expB b == 0) = false:=by
 obtain ⟨h1,h2⟩:=fin_not b h
 have hz : zeroB b = false:=by cases z : zeroB b; rfl; rw [zero_low b z] at hl; cases hl
 unfold spS spM spE spX
 rw [h1,h2,hl,hz,exp_zero,hl]; exact ⟨rfl,rfl,rfl,rfl,rfl⟩
theorem sp_sub (b : Nat) (h : finB b = true) (hl : lowB b = true) (hz : zeroB b = false) : spS b = sgnB b ∧ spM b = fracB b ∧ spE b = -1074 ∧ spX b = 0 ∧ (expB b == 0) = true ∧ (fracB b == 0) = false:=by
 obtain ⟨h1,h2⟩:=fin_not b h
 unfold spS spM spE spX
 rw [h1,h2,frac_zero b hl,hl,hz,exp_zero,hl]; exact ⟨rfl,rfl,rfl,rfl,rfl,rfl⟩
theorem sp_nought (b : Nat) (h : finB b = true) (hl : lowB b = true) (hz : zeroB b = true) : spS b = sgnB b ∧ spM b = 0 ∧ spE b = 0 ∧ spX b = 0 ∧ (expB b == 0) = true ∧ (fracB b == 0) = true:=by
 obtain ⟨h1,h2⟩:=fin_not b h
 unfold spS spM spE spX
 rw [h1,h2,frac_zero b hl,hz,exp_zero,hl]; exact ⟨rfl,rfl,rfl,rfl,rfl,rfl⟩
theorem orderB_zero (a b : Nat) : (orderB a b == 0) = (keyB a == keyB b):=by
 unfold orderB; rw [Bool.eq_iff_iff]; simp; split <;> (try split) <;> omega
@[go_sem] theorem w_exp_i64 (b : Nat) (h : W64 b) : Go.bits .and .i64 ((b : Int) / 4503599627370496) 2047 = ((expB b : Nat) : Int):=by
 unfold W64 at h
 have:=Go.bits_mask .i64 13 (by decide) (fun n h0 h1=>by rw [Go.IntKind.wrap_i64]; omega) 11 (by decide) ((b : Int) / 4503599627370496) (by omega) (by omega)
 rw [show ((2 : Int)^11 - 1) = 2047 from by decide] at this
 rw [this]; unfold expB; omega
@[go_sem] theorem w_andNot_exp (b : Nat) (h : W64 b) : Go.bits .andNot .u64 (b : Int) 9218868437227405312 = ((sgnW b + fracB b : Nat) : Int):=by
 rw [show (9218868437227405312 : Int) = ((9218868437227405312 : Nat) : Int) from rfl,Go.u64_andNot_nat b _ h (by decide)]
 congr 1
 rw [show 18446744073709551615 - 9218868437227405312 = 2^63 ||| (2^52 - 1) from by decide,Nat.and_or_distrib_left,Nat.and_two_pow_sub_one_eq_mod,Go.nat_bit]
 unfold W64 at h
 rw [Go.nat_join 52 _ _ (by omega) (Nat.mod_lt _ (by decide))]
 unfold sgnW sgnB fracB; split <;> simp_all <;> omega
@[go_sem] theorem w_eq_zero (b : Nat) (h : W64 b) : (Go.FloatKind.f64.format.order b 0 == some Ordering.eq) = zeroB b:=by
 show (Ieee.double.order b 0 == some Ordering.eq) = zeroB b
 cases n : nanB b
 ·rw [ord_D b 0 h (by unfold W64; decide) n (by decide),valB_small 0 (by decide),rv_zero]
  have : (some (compare (valB b) ((0 : Nat) : Int)) == some Ordering.eq) = decide (valB b = 0):=by
   rw [Bool.eq_iff_iff]; simp
  rw [this]; unfold zeroB; rw [decide_eq_decide,← V_D b h,V_zero,rg_D]
 ·rw [ord_D_nan_left b _ n]; unfold nanB at n; unfold zeroB; simp at n ⊢; omega
@[go_sem] theorem w_lt_zero (b : Nat) (h : W64 b) : (Go.FloatKind.f64.format.order b 0 == some Ordering.lt) = (negB b && !zeroB b):=by
 show (Ieee.double.order b 0 == some Ordering.lt) = (negB b && !zeroB b)
 cases n : nanB b
 ·rw [ord_D b 0 h (by unfold W64; decide) n (by decide),valB_small 0 (by decide),rv_zero]
  have : (some (compare (valB b) ((0 : Nat) : Int)) == some Ordering.lt) = decide (valB b < 0):=by
   rw [Bool.eq_iff_iff]; simp [Int.compare_eq_lt]
  rw [this]; unfold zeroB negB; rw [n,Bool.eq_iff_iff,decide_eq_true_eq,← V_D b h,V_neg,rg_D,sgn_D b h]; simp
 ·rw [ord_D_nan_left b _ n]; unfold negB; rw [n]; rfl
def LP : Nat:=1074
theorem LP_eq : LP = 1074:=rfl
attribute [irreducible] LP
theorem D_lp' : Ieee.double.leastPlace = -(LP : Int):=by rw [LP_eq]; exact D_lp
theorem rv_qK (p q K : Nat) (h1 : K ≤ 2 * 2^p) (h2 : 0 < q → 2^p ≤ K) : rv p (q * 2^p + K) = K * 2^q:=by
 rcases Nat.lt_or_ge K (2^p) with h | h
 ·have : q = 0:=by rcases Nat.eq_zero_or_pos q with z | z; exact z; have:=h2 z; omega
  subst this
  simp [rv_small h]
 ·obtain ⟨t,rfl⟩:=Nat.exists_eq_add_of_le h
  rw [← Nat.add_assoc,← Nat.succ_mul]
  exact rv_form p q t (by omega)
theorem rv_kq (q K : Nat) (h1 : K ≤ 9007199254740992) (h2 : 4503599627370496 ≤ K) : rv 52 (q * 4503599627370496 + K) = K * 2^q:=
 rv_qK 52 q K h1 (fun _=>h2)
structure KQ (b K q : Nat) : Prop where
 eq : b = q * 4503599627370496 + K
 lo : 4503599627370496 ≤ K
 hi : K < 9007199254740992
 top : q ≤ 2045
namespace KQ
variable {b K q : Nat} (h : KQ b K q)
include h
theorem lt : b < 9218868437227405312:=by have:=h.eq; have:=h.hi; have:=h.top; omega
theorem W : W64 b:=by unfold W64; have:=h.lt; omega
theorem abs : absB b = b:=by unfold absB; have:=h.lt; omega
theorem nan : nanB b = false:=by unfold nanB; rw [h.abs]; have:=h.lt; simp; omega
theorem inf : infB b = false:=by unfold infB; rw [h.abs]; have:=h.lt; simp; omega
theorem zero : zeroB b = false:=by unfold zeroB; rw [h.abs]; have:=h.eq; have:=h.lo; simp; omega
theorem low : lowB b = false:=by unfold lowB; rw [h.abs]; have:=h.eq; have:=h.lo; simp; omega
theorem sgn : sgnB b = false:=by unfold sgnB; have:=h.lt; simp; omega
theorem exp : expB b = q + 1:=by unfold expB; have:=h.eq; have:=h.lo; have:=h.hi; have:=h.top; omega
theorem frac : fracB b = K - 4503599627370496:=by unfold fracB; have:=h.eq; have:=h.lo; have:=h.hi; omega
theorem rv : Go.Proofs.YtlbokicainimnaaGreatDoor.rv 52 b = K * 2^q:=by rw [h.eq]; exact rv_kq q K (Nat.le_of_lt h.hi) h.lo
theorem fin : fin Ieee.double b:=by rw [fin_D]; unfold finB; rw [h.abs]; simpa using h.lt
end KQ
theorem KQ.neg {b K q : Nat} (h : KQ b K q) : negB b = false:=by unfold negB; rw [h.sgn,Bool.and_false]
theorem KQ.or {b K q : Nat} (h : KQ b K q) (x y : Int) (t : Nat) (hx : x = y) (h0 : 0 ≤ y) (h1 : y ≤ 2047) (ht : t = y.toNat * 4503599627370496 + (K - 4503599627370496)) :
  Go.bits .or .u64 ((sgnW b : Int) + (fracB b : Int)) (x * 4503599627370496) = (t : Int):=by
 have e1 : sgnW b = 0:=by unfold sgnW; rw [h.sgn]; rfl
 rw [e1,h.frac,hx]
 have hk:=h.lo
 have hk2:=h.hi
 rw [show (((0 : Nat) : Int) + ((K - 4503599627370496 : Nat) : Int)) = ((K - 4503599627370496 : Nat) : Int) from by omega,show y * 4503599627370496 = ((y.toNat * 4503599627370496 : Nat) : Int) from by omega,
  Go.u64_or_nat _ _ (by omega) (by omega),Nat.or_comm,Go.nat_join 52 _ _ (by omega) (by omega),ht]
theorem near_kq {M S : Nat} (b K q R : Nat) (h : KQ b K q) (hS : 0 < S) (e : M = K * 2^q * S) (n : Near 52 M S R) : R = b:=by
 subst e
 have:=Near.exact 52 b S hS
 rw [h.rv] at this
 exact Near.uniq hS n this
theorem mul_pos (x y : Nat) (hx : x < 9218868437227405312) (hy : y < 9218868437227405312) : ∃ R,Go.floatBits .mul .f64 x y = some (min R 9218868437227405312) ∧ Near 52 (rv 52 x * rv 52 y) (2^LP) R:=by
 have ax : absB x = x:=by unfold absB; omega
 have ay : absB y = y:=by unfold absB; omega
 have hl:=LP_eq
 obtain ⟨R,h1,h2⟩:=mul_fin Ieee.double (by decide) (by decide) x y (by rw [fin_D]; unfold finB; simp; omega) (by rw [fin_D]; unfold finB; simp; omega)
 rw [sgn_D x (by unfold W64; omega),sgn_D y (by unfold W64; omega),rg_D,rg_D,ax,ay] at *
 rw [D_lp',show (-(-(LP : Int))).toNat = LP from by omega] at h2
 refine ⟨R,?_,h2⟩
 have s1 : sgnB x = false:=by unfold sgnB; simp; omega
 have s2 : sgnB y = false:=by unfold sgnB; simp; omega
 show Ieee.double.mul x y = _
 rw [h1,s1,s2,D_inf]; rfl
theorem pow_rv (q : Nat) : rv 52 (q * 4503599627370496 + 4503599627370496) = 2^(52+q):=by
 rw [rv_kq q _ (by decide) (by decide),Nat.pow_add]
theorem pow_rv' (x j c : Nat) (hx : x = j * 4503599627370496 + 4503599627370496) (hc : c = 52 + j) : rv 52 x = 2^c:=by
 subst hx hc; exact pow_rv j
theorem mul_one (b K q : Nat) (h : KQ b K q) : Go.floatBits .mul .f64 4607182418800017408 b = some b:=by
 obtain ⟨R,h1,h2⟩:=mul_pos 4607182418800017408 b (by decide) h.lt
 rw [pow_rv' 4607182418800017408 1022 LP (by decide) (by rw [LP_eq]),h.rv] at h2
 have:=near_kq b K q R h (Nat.two_pow_pos _) (by rw [Nat.mul_comm]) h2
 subst this
 rw [h1,Nat.min_eq_left (Nat.le_of_lt h.lt)]
theorem mul_low (b K q : Nat) (h : KQ b K q) : ∃ R,Go.floatBits .mul .f64 4368491638549381120 b = some (min R 9218868437227405312) ∧ Near 52 (K * 2^q) (2^53) R:=by
 obtain ⟨R,h1,h2⟩:=mul_pos 4368491638549381120 b (by decide) h.lt
 refine ⟨R,h1,?_⟩
 obtain ⟨c,hc⟩ : ∃ c,c = 1021:=⟨_,rfl⟩
 have hl:=LP_eq
 rw [pow_rv' 4368491638549381120 969 c (by decide) (by omega),h.rv] at h2
 refine Near.cross (Nat.two_pow_pos _) (Nat.two_pow_pos _) ?_ h2
 rw [Nat.mul_comm (2^c),Nat.mul_assoc,← Nat.pow_add]
 congr 2; omega
theorem nearest_kq (m K q : Nat) (e : Int) (h : m * 2^LP = K * 2^q) : ∃ R,Ieee.double.nearest false m e = min R 9218868437227405312 ∧ Near 52 (K * 2^(e + q).toNat) (2^(-(e + q)).toNat) R:=by
 obtain ⟨R,h1,h2⟩:=nearest_near' Ieee.double (by decide) false m e
 refine ⟨R,by rw [h1,D_inf]; rfl,?_⟩
 have hl:=LP_eq
 rw [D_lp'] at h2
 refine Near.cross (Nat.two_pow_pos _) (Nat.two_pow_pos _) ?_ h2
 have hc : ∀ a b : Nat,a * (2^LP * 2^q) = b * (2^LP * 2^q) → a = b:=fun a b hab=>Nat.eq_of_mul_eq_mul_right (Nat.mul_pos (Nat.two_pow_pos _) (Nat.two_pow_pos _)) hab
 apply hc
 rw [show m * 2^(e - -(LP : Int)).toNat * 2^(-(e + q)).toNat * (2^LP * 2^q) = m * 2^LP * (2^(e - -(LP : Int)).toNat * 2^(-(e + q)).toNat * 2^q) from by simp only [Nat.mul_assoc,Nat.mul_left_comm,Nat.mul_comm],
  h,show K * 2^(e + q).toNat * 2^(-(LP : Int) - e).toNat * (2^LP * 2^q) = K * 2^q * (2^(e + q).toNat * 2^(-(LP : Int) - e).toNat * 2^LP) from by simp only [Nat.mul_assoc,Nat.mul_left_comm,Nat.mul_comm]]
 congr 1
 rw [← Nat.pow_add,← Nat.pow_add,← Nat.pow_add,← Nat.pow_add]
 congr 1; omega
section ldexp
variable (m K q b : Nat) (e X : Int) (h : KQ b K q) (hm : m * 2^LP = K * 2^q) (hX : X = e + q - 1022)
include h hm hX
theorem ld_under (c : X < -1075) : Ieee.double.nearest false m e = 0:=by
 obtain ⟨R,h1,h2⟩:=nearest_kq m K q e hm
 rw [h1]
 have e1 : (e + (q : Int)).toNat = 0:=by omega
 obtain ⟨d,hd⟩ : ∃ d : Nat,(-(e + (q : Int))).toNat = 54 + d:=⟨(-(e + (q : Int))).toNat - 54,by omega⟩
 rw [e1,hd,Nat.pow_zero,Nat.mul_one] at h2
 have hp : 0 < 2^d:=Nat.two_pow_pos d
 have h3 : Near 52 K (2^(54+d)) 0:=by
  refine ⟨.inl rfl,.inl ?_⟩
  rw [rv_zero,show rv 52 (0+1) = 1 from rfl,Nat.pow_add]
  have:=h.hi
  simp only [Nat.zero_add,Nat.one_mul]
  have : 2^54 * 1 ≤ 2^54 * 2^d:=Nat.mul_le_mul_left _ hp
  omega
 have:=Near.uniq (Nat.two_pow_pos _) h2 h3
 subst this; rfl
theorem ld_over (c : 1023 < X) : Ieee.double.nearest false m e = 9218868437227405312:=by
 obtain ⟨R,h1,h2⟩:=nearest_kq m K q e hm
 rw [h1]
 refine Nat.min_eq_right ?_
 rcases Nat.lt_or_ge R 9218868437227405312 with lt | ge
 ·exfalso
  obtain ⟨c,hc⟩ : ∃ c,c = 2046:=⟨_,rfl⟩
  obtain ⟨d,hd⟩ : ∃ d : Nat,(e + (q : Int)).toNat = c + d:=⟨(e + (q : Int)).toNat - c,by omega⟩
  have e1 : (-(e + (q : Int))).toNat = 0:=by omega
  rw [e1,hd,Nat.pow_zero] at h2
  have hp : 0 < 2^d:=Nat.two_pow_pos d
  have a1 : rv 52 (R+1) ≤ 2^(52+c):=by
   rw [← pow_rv c]; exact rv_le (by omega)
  have a2 : rv 52 R < rv 52 (R+1):=rv_lt_succ 52 R
  have a3 : 2^(52+c) ≤ K * 2^(c+d):=by
   rw [Nat.pow_add,Nat.pow_add 2 c]
   have : 2^52 * (2^c * 1) ≤ K * (2^c * 2^d):=Nat.mul_le_mul h.lo (Nat.mul_le_mul_left _ hp)
   rwa [Nat.mul_one] at this
  generalize K * 2^(c+d) = A at *
  generalize 2^(52+c) = B at *
  rcases h2.2 with c | ⟨c,_⟩ <;> omega
 ·exact ge
theorem ld_norm (c1 : -1022 ≤ X) (c2 : X ≤ 1023) : KQ ((X + 1023).toNat * 4503599627370496 + (K - 4503599627370496)) K (X + 1022).toNat ∧ Ieee.double.nearest false m e = (X + 1023).toNat * 4503599627370496 + (K - 4503599627370496):=by
 have hk : KQ ((X + 1023).toNat * 4503599627370496 + (K - 4503599627370496)) K (X + 1022).toNat:=by
  refine ⟨?_,h.lo,h.hi,by omega⟩
  have:=h.lo
  have e1 : (X + 1023).toNat = (X + 1022).toNat + 1:=by omega
  rw [e1]; omega
 refine ⟨hk,?_⟩
 obtain ⟨R,h1,h2⟩:=nearest_kq m K q e hm
 rw [h1]
 have e1 : (-(e + (q : Int))).toNat = 0:=by omega
 have e2 : (e + (q : Int)).toNat = (X + 1022).toNat:=by omega
 rw [e1,e2] at h2
 have:=near_kq _ K _ R hk (by decide) (by rw [Nat.pow_zero,Nat.mul_one]) h2
 rw [this,Nat.min_eq_left (Nat.le_of_lt hk.lt)]
theorem ld_low (c1 : -1075 ≤ X) (c2 : X < -1022) : KQ ((X + 53 + 1023).toNat * 4503599627370496 + (K - 4503599627370496)) K (X + 53 + 1022).toNat ∧
  Go.floatBits .mul .f64 4368491638549381120 ((X + 53 + 1023).toNat * 4503599627370496 + (K - 4503599627370496)) = some (Ieee.double.nearest false m e):=by
 have hk : KQ ((X + 53 + 1023).toNat * 4503599627370496 + (K - 4503599627370496)) K (X + 53 + 1022).toNat:=by
  refine ⟨?_,h.lo,h.hi,by omega⟩
  have:=h.lo
  have e1 : (X + 53 + 1023).toNat = (X + 53 + 1022).toNat + 1:=by omega
  rw [e1]; omega
 refine ⟨hk,?_⟩
 obtain ⟨R,h1,h2⟩:=nearest_kq m K q e hm
 obtain ⟨R',h3,h4⟩:=mul_low _ _ _ hk
 rw [h3,h1]
 have : R' = R:=by
  refine Near.uniq (Nat.two_pow_pos _) (Near.cross (Nat.two_pow_pos _) (Nat.two_pow_pos _) ?_ h4) h2
  have e1 : (e + (q : Int)).toNat = 0:=by omega
  rw [e1,Nat.pow_zero,Nat.mul_one,Nat.mul_assoc,← Nat.pow_add,show (X + 53 + 1022).toNat + (-(e + (q : Int))).toNat = 53 from by omega]
 rw [this]
end ldexp
theorem nearest_zero (e : Int) : Ieee.double.nearest false 0 e = 0:=by unfold Format.nearest; rw [if_pos rfl]; rfl
theorem ofInt_kq (m : Nat) (h0 : 0 < m) (h1 : m ≤ 9007199254740992) : ∃ K q,KQ (Go.floatOfInt .f64 m) K q ∧ m * 2^LP = K * 2^q ∧ q = 1022 + m.log2:=by
 have hd : Go.floatOfInt .f64 m = Ieee.double.nearest false m 0:=by
  show Ieee.double.write (.number (decide ((m : Int) < 0)) (m : Int).natAbs 0) = _
  have : decide ((m : Int) < 0) = false:=by simp
  rw [this]; simp [Format.write]
 have hlo : 2^m.log2 ≤ m:=Nat.log2_self_le (by omega)
 have hhi : m < 2^(m.log2+1):=Nat.lt_log2_self
 have hn : m.log2 ≤ 53:=by
  rcases Nat.lt_or_ge 53 m.log2 with g | g
  ·have : 2^54 ≤ 2^m.log2:=Nat.pow_le_pow_right (by omega) g
   omega
  ·exact g
 have core : ∀ K q,4503599627370496 ≤ K → K < 9007199254740992 → q ≤ 2045 → m * 2^LP = K * 2^q → KQ (Go.floatOfInt .f64 m) K q:=by
  intro K q a1 a2 a3 a4
  have hk : KQ (q * 4503599627370496 + K) K q:=⟨rfl,a1,a2,a3⟩
  have : Go.floatOfInt .f64 m = q * 4503599627370496 + K:=by
   rw [hd]
   obtain ⟨R,g1,g2⟩:=nearest_kq m K q 0 a4
   rw [g1]
   have e1 : (-(0 + (q : Int))).toNat = 0:=by omega
   have e2 : (0 + (q : Int)).toNat = q:=by omega
   rw [e1,e2] at g2
   have:=near_kq _ K _ R hk (by decide) (by rw [Nat.pow_zero,Nat.mul_one]) g2
   rw [this,Nat.min_eq_left (Nat.le_of_lt hk.lt)]
  rw [this]; exact hk
 by_cases c : m.log2 = 53
 ·have : m = 2^53:=by rw [c] at hlo; omega
  subst this
  have hl:=LP_eq
  have hv : 2^53 * 2^LP = 2^52 * 2^(LP+1):=by rw [← Nat.pow_add,← Nat.pow_add]; congr 1; omega
  refine ⟨2^52,LP + 1,core _ _ (by decide) (by decide) (by omega) hv,hv,by rw [c]; omega⟩
 ·have e : 2^52 = 2^m.log2 * 2^(52 - m.log2):=by rw [← Nat.pow_add]; congr 1; omega
  have e' : 2^53 = 2^(m.log2+1) * 2^(52 - m.log2):=by rw [← Nat.pow_add]; congr 1; omega
  have hl:=LP_eq
  have hv : m * 2^LP = m * 2^(52 - m.log2) * 2^(1022 + m.log2):=by rw [Nat.mul_assoc,← Nat.pow_add]; congr 2; omega
  refine ⟨m * 2^(52 - m.log2),1022 + m.log2,core _ _ ?_ ?_ (by omega) hv,hv,rfl⟩
  ·have:=Nat.mul_le_mul_right (2^(52 - m.log2)) hlo
   omega
  ·have:=Nat.mul_lt_mul_of_pos_right hhi (Nat.two_pow_pos (52 - m.log2))
   omega
end Go.Proofs.YtlbokicainimnaaGreatDoor
namespace Go.Proofs.YtlbokicainimnaaGreatDoor
open Ieee
def blen (n : Nat) : Nat:=if n = 0 then 0 else n.log2 + 1
theorem blen_pos {n : Nat} (h : n ≠ 0) : 2^(blen n - 1) ≤ n ∧ n < 2^(blen n) ∧ 1 ≤ blen n:=by
 unfold blen; rw [if_neg h,Nat.add_sub_cancel]
 exact ⟨Nat.log2_self_le h,Nat.lt_log2_self,by omega⟩
theorem blen_le {n k : Nat} (h : n < 2^k) : blen n ≤ k:=by
 by_cases z : n = 0
 ·subst z; exact Nat.zero_le _
 ·have:=blen_pos z
  rcases Nat.lt_or_ge k (blen n) with g | g
  ·have : 2^k ≤ 2^(blen n - 1):=Nat.pow_le_pow_right (by omega) (by omega)
   omega
  ·exact g
theorem blen_ge {n k : Nat} (h : 2^k ≤ n) : k + 1 ≤ blen n:=by
 have h0 : n ≠ 0:=by have:=Nat.two_pow_pos k; omega
 have:=blen_pos h0
 rcases Nat.lt_or_ge k (blen n) with g | g
 ·exact g
 ·have : 2^(blen n) ≤ 2^k:=Nat.pow_le_pow_right (by omega) g
  omega
def joZ (m : Nat) : Nat:=Lib.ctz 64 m
def joO (m : Nat) : Nat:=m / 2^joZ m
theorem join_parts (m : Nat) (hm : W64 m) (h0 : m ≠ 0) : m = joO m * 2^joZ m ∧ joO m % 2 = 1 ∧ joZ m < 64 ∧ joO m ≤ m:=by
 unfold W64 at hm
 obtain ⟨k,h1,h2⟩:=Lib.ctzFrom_spec 64 m (by omega) hm
 have e : joZ m = Lib.ctzFrom 64 m:=by unfold joZ Lib.ctz; rw [if_neg h0]
 have e2 : joO m = 2*k+1:=by
  unfold joO; rw [e]
  conv=>lhs; lhs; rw [h1]
  exact Nat.mul_div_cancel_left _ (Nat.two_pow_pos _)
 refine ⟨?_,by omega,by omega,Nat.div_le_self _ _⟩
 rw [e2,e,Nat.mul_comm]; exact h1
def joBad (m : Nat) (e : Int) : Prop:=2000 < e ∨ e < -2000 ∨ 53 < blen (joO m) ∨ e + joZ m < -1074 ∨ 1023 < e + joZ m + blen (joO m) - 1
instance (m : Nat) (e : Int) : Decidable (joBad m e):=by unfold joBad; infer_instance
def sgW (neg : Bool) : Nat:=if neg then 9223372036854775808 else 0
def joinX (m : Nat) (e : Int) : Int:=if m = 0 then 0 else if joBad m e then 11 else 0
def joinB (neg : Bool) (m : Nat) (e : Int) : Nat:=if m = 0 then sgW neg else if joBad m e then 0 else sgW neg + Ieee.double.nearest false (joO m) (e + joZ m)
theorem nearest_rung (o M : Nat) (e E : Int) (i : Nat) (hM : M = o * 2^i) (hE : E = e - i) (h1 : M < 9007199254740992) (h2 : -1074 ≤ E) (h3 : E ≤ 971) (h4 : 4503599627370496 ≤ M ∨ E ≤ -1074) :
  Ieee.double.nearest false o e = (E + 1074).toNat * 4503599627370496 + M:=by
 obtain ⟨R,g1,g2⟩:=nearest_near' Ieee.double (by decide) false o e
 have hl:=LP_eq
 have hr : rv 52 ((E + 1074).toNat * 4503599627370496 + M) = M * 2^(E + 1074).toNat:=rv_qK 52 _ M (by omega) (by omega)
 have hx:=Near.exact 52 ((E + 1074).toNat * 4503599627370496 + M) 1 (by decide)
 rw [hr,Nat.mul_one] at hx
 rw [D_lp'] at g2
 have hR : R = (E + 1074).toNat * 4503599627370496 + M:=by
  refine Near.uniq (by decide) (Near.cross (Nat.two_pow_pos _) (by decide) ?_ g2) hx
  rw [hM,Nat.mul_one,Nat.mul_assoc,Nat.mul_assoc,← Nat.pow_add,← Nat.pow_add]
  congr 2; omega
 rw [g1,D_inf,hR,Nat.min_eq_left (by omega)]; rfl
theorem join_ref (m : Nat) (e : Int) (hm : W64 m) (h0 : m ≠ 0) (M i : Nat) (E : Int) (hM : M = joO m * 2^i) (hE : E = e + joZ m - i)
  (h1 : 4503599627370496 ≤ M ∨ E ≤ -1074) (h2 : i = 0 ∨ (joO m * 2^(i-1) < 4503599627370496 ∧ -1074 ≤ E)) :
  (joBad m e ↔ (9007199254740992 ≤ M ∨ E < -1074 ∨ 971 < E)) ∧ (¬ joBad m e → Ieee.double.nearest false (joO m) (e + joZ m) = (E + 1074).toNat * 4503599627370496 + M):=by
 obtain ⟨p1,p2,p3,p4⟩:=join_parts m hm h0
 have ho : joO m ≠ 0:=by omega
 obtain ⟨b1,b2,b3⟩:=blen_pos ho
 have iff : joBad m e ↔ (9007199254740992 ≤ M ∨ E < -1074 ∨ 971 < E):=by
  unfold joBad
  generalize joO m = o at *
  generalize joZ m = z at *
  have hbig : 53 < blen o → 9007199254740992 ≤ o:=fun g=>by
   have : 2^53 ≤ 2^(blen o - 1):=Nat.pow_le_pow_right (by omega) (by omega)
   omega
  have hbig' : 9007199254740992 ≤ o → 53 < blen o:=fun g=>by have:=blen_ge (n:=o) (k:=53) g; omega
  have hoM : o ≤ M:=by rw [hM]; exact Nat.le_mul_of_pos_right _ (Nat.two_pow_pos _)
  have hlt : i ≠ 0 → M < 9007199254740992:=by
   intro g
   rcases h2 with z | ⟨z,_⟩
   ·exact absurd z g
   ·have : o * 2^i = 2 * (o * 2^(i-1)) := by
     rw [show i = (i-1)+1 from by omega,Nat.pow_succ,Nat.add_sub_cancel,← Nat.mul_assoc,Nat.mul_comm]
    omega
  have hM0 : i = 0 → M = o:=fun g=>by rw [hM,g,Nat.pow_zero,Nat.mul_one]
  have hmb : 2^(blen o - 1 + i) ≤ M:=by rw [hM,Nat.pow_add]; exact Nat.mul_le_mul_right _ b1
  have hmb' : M < 2^(blen o + i):=by rw [hM,Nat.pow_add]; exact Nat.mul_lt_mul_of_pos_right b2 (Nat.two_pow_pos _)
  have hup : 4503599627370496 ≤ M → M < 9007199254740992 → blen o + i = 53:=by
   intro g1 g2
   have a1 : 52 < blen o + i:=by
    rcases Nat.lt_or_ge 52 (blen o + i) with g | g
    ·exact g
    ·have : 2^(blen o + i) ≤ 2^52:=Nat.pow_le_pow_right (by omega) g
     omega
   have a2 : blen o - 1 + i < 53:=by
    rcases Nat.lt_or_ge (blen o - 1 + i) 53 with g | g
    ·exact g
    ·have : 2^53 ≤ 2^(blen o - 1 + i):=Nat.pow_le_pow_right (by omega) g
     omega
   omega
  have hdn : M < 4503599627370496 → blen o + i ≤ 52:=by
   intro g
   rcases Nat.lt_or_ge 52 (blen o + i) with g' | g'
   ·have : 2^52 ≤ 2^(blen o - 1 + i):=Nat.pow_le_pow_right (by omega) (by omega)
    omega
   ·exact g'
  constructor
  ·intro g
   by_cases c1 : 9007199254740992 ≤ M
   ·exact .inl c1
   by_cases c2 : E < -1074
   ·exact .inr (.inl c2)
   refine .inr (.inr ?_)
   have c3 : ¬ 53 < blen o:=fun g=>by have:=hbig g; omega
   by_cases c4 : 4503599627370496 ≤ M
   ·have:=hup c4 (by omega); omega
   ·have:=hdn (by omega)
    rcases g with g | g | g | g | g <;> omega
  ·intro g
   by_cases c3 : 53 < blen o
   ·exact .inr (.inr (.inl c3))
   have c1 : M < 9007199254740992:=by
    by_cases z : i = 0
    ·have:=hM0 z
     rcases Nat.lt_or_ge M 9007199254740992 with g | g
     ·exact g
     ·exact absurd (hbig' (by omega)) c3
    ·exact hlt z
   rcases g with g | g | g
   ·omega
   ·by_cases z : i = 0
    ·omega
    ·rcases h2 with h | ⟨_,h⟩ <;> omega
   ·have c4 : 4503599627370496 ≤ M:=by rcases h1 with h | h <;> omega
    have:=hup c4 c1
    omega
 refine ⟨iff,fun nb=>?_⟩
 have:=mt iff.2 nb
 exact nearest_rung (joO m) M (e + joZ m) E i hM (by omega) (by omega) (by omega) (by omega) h1
theorem ref_or_low (neg : Bool) (M : Nat) (h : M < 4503599627370496) : Go.bits .or .u64 ((sgW neg : Nat) : Int) (M : Int) = ((sgW neg + M : Nat) : Int):=by
 have h2 : sgW neg < 18446744073709551616:=by unfold sgW; split <;> decide
 rw [Go.u64_or_nat _ _ h2 (by omega),Go.nat_join 63 _ _ (by unfold sgW; split <;> rfl) (by omega)]
theorem ref_or_high (neg : Bool) (M : Nat) (E : Int) (h1 : 4503599627370496 ≤ M) (h2 : M < 9007199254740992) (h3 : -1074 ≤ E) (h4 : E ≤ 971) :
  Go.bits .or .u64 (Go.bits .or .u64 ((sgW neg : Nat) : Int) ((E + 1075) * 4503599627370496)) (Go.bits .and .u64 (M : Int) 4503599627370495) = ((sgW neg + ((E + 1074).toNat * 4503599627370496 + M) : Nat) : Int):=by
 have hs : sgW neg < 18446744073709551616:=by unfold sgW; split <;> decide
 have hs2 : sgW neg = 0 ∨ sgW neg = 9223372036854775808:=by unfold sgW; split <;> simp
 obtain ⟨x,hx⟩ : ∃ x : Nat,E + 1075 = x:=⟨(E + 1075).toNat,by omega⟩
 have e1 : (E + 1074).toNat = x - 1:=by omega
 rw [hx,e1,show (x : Int) * 4503599627370496 = ((x * 4503599627370496 : Nat) : Int) from by omega,Go.u64_or_nat _ _ hs (by omega),Go.nat_join 63 _ _ (by unfold sgW; split <;> rfl) (by omega),
  show (4503599627370495 : Int) = ((4503599627370495 : Nat) : Int) from rfl,Go.u64_and_nat _ _ (by omega) (by decide),show 4503599627370495 = 2^52 - 1 from by decide,Nat.and_two_pow_sub_one_eq_mod,
  Go.u64_or_nat _ _ (by omega) (by omega),Go.nat_join 52 _ _ (by omega) (by omega)]
 omega
section
variable (neg : Bool) (m : Nat) (e : Int) (hm : W64 m) (h0 : m ≠ 0) (M i : Nat) (E : Int) (hM : M = joO m * 2^i) (hE : E = e + joZ m - i)
  (h1 : 4503599627370496 ≤ M ∨ E ≤ -1074) (h2 : i = 0 ∨ (joO m * 2^(i-1) < 4503599627370496 ∧ -1074 ≤ E))
include hm h0 hM hE h1 h2
theorem join_ref_bad (h : 9007199254740992 ≤ M ∨ E < -1074 ∨ 971 < E) : joinB neg m e = 0 ∧ joinX m e = 11:=by
 have hb:=(join_ref m e hm h0 M i E hM hE h1 h2).1.2 h
 unfold joinB joinX; rw [if_neg h0,if_pos hb,if_neg h0,if_pos hb]; exact ⟨rfl,rfl⟩
theorem join_ref_ok (h : ¬ (9007199254740992 ≤ M ∨ E < -1074 ∨ 971 < E)) : joinB neg m e = sgW neg + ((E + 1074).toNat * 4503599627370496 + M) ∧ joinX m e = 0:=by
 obtain ⟨j1,j2⟩:=join_ref m e hm h0 M i E hM hE h1 h2
 have hb:=mt j1.1 h
 unfold joinB joinX; rw [if_neg h0,if_neg hb,if_neg h0,if_neg hb,j2 hb]; exact ⟨rfl,rfl⟩
theorem join_ref_low (h : M < 4503599627370496) (hE' : E = -1074) : Go.bits .or .u64 ((sgW neg : Nat) : Int) (M : Int) = ((joinB neg m e : Nat) : Int) ∧ joinX m e = 0:=by
 obtain ⟨e1,e2⟩:=join_ref_ok neg m e hm h0 M i E hM hE h1 h2 (by omega)
 rw [e1,e2,ref_or_low neg M h]; refine ⟨?_,rfl⟩; omega
theorem join_ref_high (h : 4503599627370496 ≤ M) (h' : M < 9007199254740992) (h3 : -1074 ≤ E) (h4 : E ≤ 971) :
  Go.bits .or .u64 (Go.bits .or .u64 ((sgW neg : Nat) : Int) ((E + 1075) * 4503599627370496)) (Go.bits .and .u64 (M : Int) 4503599627370495) = ((joinB neg m e : Nat) : Int) ∧ joinX m e = 0:=by
 obtain ⟨e1,e2⟩:=join_ref_ok neg m e hm h0 M i E hM hE h1 h2 (by omega)
 rw [e1,e2,ref_or_high neg M E h h' h3 h4]; exact ⟨rfl,rfl⟩
end
def LS : Nat:=149
attribute [irreducible] LS
def LD : Nat:=925
attribute [irreducible] LD
def LI : Nat:=277
attribute [irreducible] LI
theorem rep (p : Nat) : ∀ (q K : Nat),K < 2^(p+1) → ∃ r,rv p r = K * 2^q
 | 0,K,h=>⟨K,by rw [Nat.pow_succ] at h; have:=rv_qK p 0 K (by omega) (by omega); simpa using this⟩
 | q + 1, K, h => by
   rw [Nat.pow_succ] at h
   by_cases c : 2^p ≤ K
   ·exact ⟨(q+1) * 2^p + K,rv_qK p (q+1) K (by omega) (fun _=>c)⟩
   ·obtain ⟨r,hr⟩:=rep p q (2 * K) (by rw [Nat.pow_succ]; omega)
    exact ⟨r,by rw [hr,Nat.pow_succ]; simp only [Nat.mul_comm,Nat.mul_assoc]⟩
def sumS (na nb : Bool) (X Y : Nat) : Bool:=if na = nb then na else if Y ≤ X then na else nb
def sumM (na nb : Bool) (X Y : Nat) : Nat:=if na = nb then X + Y else if Y ≤ X then X - Y else Y - X
def resB (neg : Bool) (R : Nat) : Nat:=if R < 9218868437227405312 then sgW neg + R else 0
def resX (R : Nat) : Int:=if R < 9218868437227405312 then 0 else 15
theorem rv_sp (b : Nat) (h : finB b = true) : rv 52 (absB b) = spM b * 2^(spE b + LP).toNat:=by
 have hl:=LP_eq
 cases hlow : lowB b
 ·obtain ⟨e1,e2,e3,e4,e5⟩:=sp_norm b h hlow
  rw [e2,e3]
  have h1 : 4503599627370496 ≤ absB b:=by unfold lowB at hlow; simpa using hlow
  have h3 : absB b < 9218868437227405312:=by unfold finB at h; simpa using h
  have h2 : absB b = (expB b - 1) * 4503599627370496 + mantB b ∧ 1 ≤ expB b:=by unfold absB expB mantB fracB at *; omega
  have h4 : mantB b ≤ 9007199254740992 ∧ 4503599627370496 ≤ mantB b:=by have:=fracB_lt b; unfold mantB; omega
  have h5 : ((expB b : Int) - 1075 + LP).toNat = expB b - 1:=by omega
  rw [h5]
  conv=>lhs; rw [h2.1]
  exact rv_kq _ _ h4.1 h4.2
 ·have h1 : absB b < 4503599627370496:=by unfold lowB at hlow; simpa using hlow
  have h2 : fracB b = absB b:=by unfold absB fracB at *; omega
  rw [rv_small (p:=52) (by omega)]
  cases hz : zeroB b
  ·obtain ⟨e1,e2,e3,e4,-,-⟩:=sp_sub b h hlow hz
   rw [e2,e3,hl,h2]
   simp
  ·obtain ⟨e1,e2,e3,e4,-,-⟩:=sp_nought b h hlow hz
   rw [e2,Nat.zero_mul]
   unfold zeroB at hz
   simpa using hz
theorem valB_sp (b : Nat) (h : finB b = true) : valB b = sg (spS b) (spM b * 2^(spE b + LP).toNat):=by
 have e : spS b = sgnB b:=by
  obtain ⟨h1,h2⟩:=fin_not b h
  unfold spS; rw [h1]; exact h2
 rw [e,← rv_sp b h]; rfl
theorem spE_range (b : Nat) : -1074 ≤ spE b ∧ spE b ≤ 972:=by
 have:=expB_le b
 unfold spE
 split
 ·omega
 ·split
  ·omega
  ·rename_i hz
   split
   ·omega
   ·rename_i hl
    have h1 : 4503599627370496 ≤ absB b:=by unfold lowB at hl; simpa using hl
    have : 1 ≤ expB b:=by unfold absB expB at *; omega
    omega
theorem sg_sum (na nb : Bool) (X Y : Nat) : sg (sumS na nb X Y) (sumM na nb X Y) = sg na X + sg nb Y:=by
 unfold sumS sumM sg
 by_cases h : Y ≤ X <;> cases na <;> cases nb <;> simp [h] <;> omega
theorem sg_natAbs (s : Bool) (n : Nat) : (sg s n).natAbs = n:=by unfold sg; cases s <;> simp
theorem sg_zero (s : Bool) (n : Nat) : sg s n = 0 ↔ n = 0:=by unfold sg; cases s <;> simp
theorem sg_lt (s : Bool) (n : Nat) : sg s n < 0 ↔ (s = true ∧ n ≠ 0):=by unfold sg; cases s <;> simp <;> omega
theorem sg_mul (s : Bool) (n k : Nat) : sg s (n * k) = sg s n * (k : Int):=by unfold sg; cases s <;> simp [Int.neg_mul]
theorem term_shift (M : Nat) (E G : Int) (h : G ≤ E) (hG : -1074 ≤ G) : M * 2^(E + LP).toNat = M * 2^(E - G).toNat * 2^(G + LP).toNat:=by
 have hl:=LP_eq
 rw [Nat.mul_assoc,← Nat.pow_add]
 congr 2
 omega
theorem at_key (b : Nat) (hb : W64 b) (hn : nanB b = false) : atB (keyB b) = b:=by
 unfold keyB
 rw [hn,if_neg (by decide)]
 unfold W64 at hb
 by_cases c : 9223372036854775808 ≤ b
 ·have e1 : sgnB b = true:=by unfold sgnB; simpa using c
  rw [e1,if_pos rfl]
  unfold atB absB
  rw [if_pos (by omega)]; omega
 ·have e1 : sgnB b = false:=by unfold sgnB; simpa using c
  rw [e1,if_neg (by decide)]
  unfold atB absB
  rw [if_neg (by omega)]; omega
theorem key_nan (b : Nat) (h : nanB b = true) : keyB b = 9223372036854775807:=by unfold keyB; rw [if_pos h]
theorem key_range (b : Nat) (h : nanB b = false) : -9218868437227405313 ≤ keyB b ∧ keyB b ≤ 9218868437227405312:=by
 unfold nanB at h; simp at h
 unfold keyB nanB sgnB; simp only [decide_eq_true_eq]; unfold absB at *
 split <;> (try split) <;> omega
theorem key_inj (a b : Nat) (ha : W64 a) (hb : W64 b) (na : nanB a = true → a = theNaN) (nb : nanB b = true → b = theNaN) (h : keyB a = keyB b) : a = b:=by
 cases h1 : nanB a <;> cases h2 : nanB b
 ·rw [← at_key a ha h1,← at_key b hb h2,h]
 ·have:=key_nan b h2; have:=key_range a h1; omega
 ·have:=key_nan a h1; have:=key_range b h2; omega
 ·rw [na h1,nb h2]
end Go.Proofs.YtlbokicainimnaaGreatDoor
