import Derived.Test.YtlbokicainimnaaGreatDoorQTB
import Derived.Test.YtlbokicainimnaaGreatDoorQJM
import Derived.Test.YtlbokicainimnaaGreatDoorQCA
namespace Go.Proofs.YtlbokicainimnaaGreatDoor
open Go Go.RowKit
open Go.Lib hiding intOf
theorem conv_whole9 (g q : Nat) (w : World) (hg : W64 g) (hf : finB g = true) (hv : valB g = (q : Int) * 2 ^ LP) (hq : q < 9223372036854775808) : (convert 24 3 (.float .f64 g)).run Tryz.prog w = .ok (.int .i64 (q : Nat)) w:=by
 have h2:=cut_read g hg hf
 have hs:=val_sgn g
 rw [hv] at hs
 have hp : 0 < 2 ^ LP:=Nat.two_pow_pos _
 have hpI : (0 : Int) < 2 ^ LP:=Int.pow_pos (by decide)
 have hw : whV g = q ∧ (sgnB g = true → q = 0):=by
  unfold whV
  unfold sg at hs
  cases hn : sgnB g
  ·rw [hn,if_neg (by decide)] at hs
   have : q * 2 ^ LP = rv 52 (absB g):=by exact_mod_cast hs
   rw [← this]
   exact ⟨Nat.mul_div_cancel _ hp,fun h=>by cases h⟩
  ·rw [hn,if_pos rfl] at hs
   have h0 : (0 : Int) ≤ (q : Int) * 2 ^ LP:=Int.mul_nonneg (by omega) (Int.le_of_lt hpI)
   have h1 : rv 52 (absB g) = 0:=by omega
   rw [h1] at hs ⊢
   have h3 : (q : Int) * 2 ^ LP = 0:=by rw [hs]; rfl
   rcases Int.mul_eq_zero.1 h3 with h | h
   ·have : q = 0:=by omega
    rw [this,Nat.zero_div]; exact ⟨rfl,fun _=>rfl⟩
   ·omega
 have e1 : (FloatKind.f64.decode g).toInt .zero = some (q : Int):=by
  show (match (Ieee.double.read g).integral .zero with | .number s m _=>some (Ieee.signed s m 0) | _=>none) = _
  rw [h2]
  dsimp only
  congr 1
  rw [hw.1]
  cases hn : sgnB g
  ·rfl
  ·rw [hw.2 hn]; rfl
 have e2 : Conv.floatToInt .f64 g .i64 = pure (.int .i64 (q : Int)):=by
  unfold Conv.floatToInt
  simp only [e1]
  rw [if_pos (by
   have c1 : IntKind.i64.min = -9223372036854775808:=by decide
   have c2 : IntKind.i64.max = 9223372036854775807:=by decide
   rw [c1,c2]; omega)]
 have e3 : (convert 24 3 (.float .f64 g)).run Tryz.prog w = (Conv.floatToInt .f64 g .i64).run Tryz.prog w:=by
  simp [convert]
 rw [e3,e2]
 simp
end Go.Proofs.YtlbokicainimnaaGreatDoor
namespace Go.Proofs.YtlbokicainimnaaGreatDoor
open Go Go.RowKit Go.Lib
theorem Near.mono {p M M' S R R' : Nat} (hS : 0 < S) (h : Near p M S R) (h' : Near p M' S R') (hm : M ≤ M') : R ≤ R':=by
 refine Nat.le_of_not_lt fun lt=>?_
 have a : (rv p R' + rv p (R' + 1)) * S ≤ (rv p (R - 1) + rv p R) * S:=
  Nat.mul_le_mul_right _ (Nat.add_le_add (rv_le (by omega)) (rv_le (by omega)))
 have b:=h'.2
 have c:=h.1
 by_cases e : R = R' + 1
 ·subst e
  simp only [Nat.add_sub_cancel] at c a
  rcases b with b | ⟨b,b'⟩ <;> rcases c with c | c | ⟨c,c'⟩ <;> omega
 ·have a' : (rv p R' + rv p (R' + 1)) * S < (rv p (R - 1) + rv p R) * S :=
   Nat.mul_lt_mul_of_pos_right (Nat.add_lt_add (rv_lt (by omega)) (rv_lt (by omega))) hS
  rcases b with b | ⟨b,b'⟩ <;> rcases c with c | c | ⟨c,c'⟩ <;> omega
theorem sum_val1 {a b : Nat} (fa : finB a = true) (fb : finB b = true) {G : Int} (hG : min (spE b) (spE a) = G) :
  sg (sumS (spS b) (!spS a) (spM b * 2 ^ (spE b - G).toNat) (spM a * 2 ^ (spE a - G).toNat)) (sumM (spS b) (!spS a) (spM b * 2 ^ (spE b - G).toNat) (spM a * 2 ^ (spE a - G).toNat) * 2 ^ (G + LP).toNat) = valB b - valB a:=by
 have h1:=spE_range a
 have h2:=spE_range b
 rw [sg_mul,sg_sum,sg_not,Int.add_mul,Int.neg_mul,← sg_mul,← sg_mul,← term_shift (spM b) (spE b) G (by omega) (by omega),← term_shift (spM a) (spE a) G (by omega) (by omega),← valB_sp b fb,← valB_sp a fa]
 omega
theorem sum_val2 {a b M M1 X Y : Nat} {s1 : Bool} {e G1 G2 : Int} (fa : finB a = true) (he : -1074 ≤ e ∧ e ≤ 0) (hG1 : -1074 ≤ G1 ∧ G1 ≤ 972) (h1 : sg s1 (M1 * 2 ^ (G1 + LP).toNat) = valB b - valB a) (hG2 : min (spE a) (G1 + e) = G2) (hX : X = spM a * 2 ^ (spE a - G2).toNat) (hY : Y = M1 * M * 2 ^ (G1 + e - G2).toNat) :
  sg (sumS (spS a) s1 X Y) (sumM (spS a) s1 X Y * 2 ^ (G2 + LP + LP).toNat) = btT a b (M * 2 ^ (e + LP).toNat):=by
 have h2:=spE_range a
 have hl:=LP_eq
 have eX : X * 2 ^ (G2 + LP + LP).toNat = spM a * 2 ^ (spE a + LP).toNat * 2 ^ LP:=by
  rw [hX,Nat.mul_assoc,Nat.mul_assoc,← Nat.pow_add,← Nat.pow_add]
  congr 2; omega
 have eY : Y * 2 ^ (G2 + LP + LP).toNat = M1 * 2 ^ (G1 + LP).toNat * (M * 2 ^ (e + LP).toNat):=by
  have e1 : M1 * 2 ^ (G1 + LP).toNat * (M * 2 ^ (e + LP).toNat) = M1 * M * (2 ^ (G1 + LP).toNat * 2 ^ (e + LP).toNat):=by ac_rfl
  rw [hY,e1,Nat.mul_assoc,← Nat.pow_add,← Nat.pow_add]
  congr 2; omega
 rw [sg_mul,sg_sum,Int.add_mul,← sg_mul,← sg_mul,eX,eY,sg_mul,sg_mul s1,← valB_sp a fa,h1]
 unfold btT
 rw [Int.natCast_pow]
 rfl
theorem sum_near9 {s : Bool} {m R : Nat} {G T : Int} (hG : -2148 ≤ G) (h : sg s (m * 2 ^ (G + LP + LP).toNat) = T) (hN : Near 52 T.natAbs (2 ^ LP) R) :
  Near 52 (m * 2 ^ (G + LP).toNat) (1 * 2 ^ (-(G + LP)).toNat) R ∧ (m = 0 ↔ T = 0) ∧ (m ≠ 0 → s = decide (T < 0)):=by
 have hl:=LP_eq
 have hp:=Nat.two_pow_pos (G + LP + LP).toNat
 have hz : m = 0 ↔ T = 0:=by
  rw [← h,sg_zero,Nat.mul_eq_zero]
  omega
 refine ⟨?_,hz,fun h0=>?_⟩
 ·rw [← h,sg_natAbs] at hN
  refine Near.cross (Nat.two_pow_pos _) (by rw [Nat.one_mul]; exact Nat.two_pow_pos _) ?_ hN
  rw [Nat.one_mul,Nat.mul_assoc,Nat.mul_assoc,← Nat.pow_add,← Nat.pow_add]
  congr 2
  omega
 ·have h1:=sg_lt s (m * 2 ^ (G + LP + LP).toNat)
  rw [h] at h1
  have h2 : m * 2 ^ (G + LP + LP).toNat ≠ 0:=fun e=>by
   rcases Nat.mul_eq_zero.1 e with e | e
   ·exact h0 e
   ·omega
  rw [Bool.eq_iff_iff,decide_eq_true_iff,h1]
  exact ⟨fun e=>⟨e,h2⟩,fun e=>e.1⟩
theorem val_natAbs9 (a : Nat) : (valB a).natAbs = rv 52 (absB a):=by unfold valB; cases sgnB a <;> simp
theorem btw_abs {a b r : Nat} (hr : r < 2 ^ LP) : (btT a b r).natAbs ≤ rv 52 (max (absB a) (absB b)) * 2 ^ LP:=by
 have ha : (valB a).natAbs ≤ rv 52 (max (absB a) (absB b)):=by rw [val_natAbs9]; exact rv_le (Nat.le_max_left _ _)
 have hb : (valB b).natAbs ≤ rv 52 (max (absB a) (absB b)):=by rw [val_natAbs9]; exact rv_le (Nat.le_max_right _ _)
 have e : btT a b r = valB a * ((2 ^ LP - r : Nat) : Int) + valB b * r:=by
  unfold btT
  rw [Int.natCast_sub (Nat.le_of_lt hr),Int.mul_sub,Int.sub_mul,Int.natCast_pow]
  have : ((2 : Nat) : Int) = 2:=rfl
  rw [this]
  omega
 rw [e]
 refine Nat.le_trans (Int.natAbs_add_le _ _) ?_
 rw [Int.natAbs_mul,Int.natAbs_mul,Int.natAbs_natCast,Int.natAbs_natCast]
 refine Nat.le_trans (Nat.add_le_add (Nat.mul_le_mul_right _ ha) (Nat.mul_le_mul_right _ hb)) ?_
 rw [← Nat.mul_add]
 exact Nat.mul_le_mul_left _ (by omega)
theorem btw_room {a b r R : Nat} (fa : finB a = true) (fb : finB b = true) (hr : r < 2 ^ LP) (hN : Near 52 (btT a b r).natAbs (2 ^ LP) R) : R < 9218868437227405312:=by
 have h1:=Near.mono (Nat.two_pow_pos LP) hN (Near.exact 52 (max (absB a) (absB b)) (2 ^ LP) (Nat.two_pow_pos LP)) (btw_abs hr)
 have h2 : absB a < 9218868437227405312:=of_decide_eq_true fa
 have h3 : absB b < 9218868437227405312:=of_decide_eq_true fb
 omega
def nearK (T : Int) (R : Nat) : Nat:=if T = 0 then 0 else sgW (decide (T < 0)) + R
theorem val_lt9 (a : Nat) : (valB a < 0 ↔ sgnB a = true ∧ absB a ≠ 0) ∧ (valB a = 0 ↔ absB a = 0):=by
 have h1 : rv 52 (absB a) = 0 ↔ absB a = 0:=⟨fun h=>rv_inj (p:=52) (by rw [h,rv_zero]),fun h=>by rw [h,rv_zero]⟩
 unfold valB
 cases sgnB a
 ·rw [if_neg (by decide)]
  refine ⟨⟨fun h=>by omega,fun h=>by simp at h⟩,by omega⟩
 ·rw [if_pos rfl]
  refine ⟨⟨fun h=>⟨rfl,by omega⟩,fun h=>by have:=h.2; omega⟩,by omega⟩
theorem near_self {a : Nat} : Near 52 (valB a * 2 ^ LP).natAbs (2 ^ LP) (absB a):=by
 rw [Int.natAbs_mul,val_natAbs9,Int.natAbs_pow]
 exact Near.exact 52 (absB a) (2 ^ LP) (Nat.two_pow_pos LP)
theorem btwA_fin {a b r R : Nat} {f : Dc} (fa : finB a = true) (fb : finB b = true) (hr : r < 2 ^ LP) (hf : Rep f ((r * 5 ^ LP : Nat) : Int) (-(LP : Int))) (hN : Near 52 (btT a b r).natAbs (2 ^ LP) R) :
  btwA a b f = if keyB a = keyB b then a else nearK (btT a b r) R:=by
 have key : ∀ x,finB x = true → nanB x = false ∧ infB x = false:=fun x hx=>by
  rw [finB_eq] at hx
  revert hx
  cases nanB x <;> cases infB x <;> simp
 obtain ⟨na,ia⟩:=key a fa
 obtain ⟨nb,ib⟩:=key b fb
 have hni : ¬ (ninfB a = true ∧ pinfB b = true):=fun h=>by
  have h1 : a = 18442240474082181120:=of_decide_eq_true h.1
  rw [h1] at ia
  exact absurd ia (by decide)
 unfold btwA
 by_cases hk : keyB a = keyB b
 ·rw [if_pos hk,if_pos hk]
 ·rw [if_neg hk,if_neg hk,if_neg (by rw [na]; decide),if_neg (by rw [nb]; decide),if_neg hni,if_neg (by rw [ia]; decide),if_neg (by rw [ib]; decide)]
  have hR:=btw_room fa fb hr hN
  have h6:=(btw_facts fa fb hr hf).2.2.2.2.2
  rw [(near_to64 h6 hN).1,Nat.min_eq_left (by omega)]
  rfl
def shB (s : List Nat) (q r : Nat) (f : Dc) : Nat:=if r = 0 then s.getD q 0 else btwA (s.getD q 0) (s.getD (q + 1) 0) f
theorem share_doc {p V K : Nat} (hf : finB p = true) (hz : zeroB p = false) (hV : valB p = V) (h1 : V ≤ 2 ^ LP) :
  ∃ d : Nat,spE p = -(d : Int) ∧ 52 ≤ d ∧ d ≤ 1074 ∧ spM p * K / 2 ^ d = V * K / 2 ^ LP ∧ spM p * K % 2 ^ d * 2 ^ (spE p + LP).toNat = V * K % 2 ^ LP:=by
 have hr:=spE_range p
 have hl:=LP_eq
 have hrv:=rv_sp p hf
 have hv : V = spM p * 2 ^ (spE p + LP).toNat:=by
  have:=val_natAbs9 p
  rw [hV,Int.natAbs_natCast] at this
  rw [this,hrv]
 have he : spE p ≤ -52:=by
  cases hlow : lowB p
  ·obtain ⟨e1,e2,e3,e4,e5⟩:=sp_norm p hf hlow
   have hM : 2 ^ 52 ≤ spM p:=by rw [e2]; unfold mantB; omega
   refine Int.not_lt.1 fun hlt=>?_
   have a1 : 2 ^ 52 * 2 ^ (spE p + LP).toNat ≤ V:=by rw [hv]; exact Nat.mul_le_mul_right _ hM
   rw [← Nat.pow_add] at a1
   have a2:=Nat.le_trans a1 h1
   have a3:=(Nat.pow_le_pow_iff_right (by decide : 1 < 2)).1 a2
   omega
  ·obtain ⟨e1,e2,e3,e4,-,-⟩:=sp_sub p hf hlow hz
   rw [e3]; decide
 obtain ⟨d,hd⟩ : ∃ d : Nat,d = (-spE p).toNat:=⟨_,rfl⟩
 have e2 : 2 ^ LP = 2 ^ d * 2 ^ (spE p + LP).toNat:=by rw [← Nat.pow_add]; congr 1; omega
 have e3 : V * K = spM p * K * 2 ^ (spE p + LP).toNat:=by rw [hv]; ac_rfl
 refine ⟨d,by omega,by omega,by omega,?_,?_⟩
 ·rw [e2,e3,Nat.mul_div_mul_right _ _ (Nat.two_pow_pos _)]
 ·rw [e2,e3,Nat.mul_mod_mul_right]
end Go.Proofs.YtlbokicainimnaaGreatDoor
set_option maxRecDepth 100000
namespace Go.Proofs.YtlbokicainimnaaGreatDoor
open Go Go.RowKit
open Go.Lib hiding intOf
def shQ (l : List Nat) (p : Nat) : Nat:=(valB p).toNat * (l.length - 1) / 2 ^ LP
def shR (l : List Nat) (p : Nat) : Nat:=(valB p).toNat * (l.length - 1) % 2 ^ LP
def shF (l : List Nat) (p : Nat) : Dc:=addD (mulD (ofD p) (mkD ((l.length - 1 : Nat) : Int) 0)) (negD (mkD ((shQ l p : Nat) : Int) 0))
def shareA (l : List Nat) (p : Nat) : Nat × Int:=
 if l.length = 0 then (0,4) else if nanB p = false ∧ 0 ≤ valB p ∧ valB p ≤ 2 ^ LP then (shB (ordL l) (shQ l p) (shR l p) (shF l p),0) else (0,1)
theorem rv_one9 : rv 52 4607182418800017408 = 2 ^ LP:=by rw [LP_eq]; kernel_rfl
theorem val_one9 : valB 4607182418800017408 = 2 ^ LP:=by
 have h:=rv_one9
 have e : absB 4607182418800017408 = 4607182418800017408:=by decide
 unfold valB
 rw [e,h,show sgnB 4607182418800017408 = false by decide,if_neg (by decide),Int.natCast_pow]
 rfl
theorem shOk_fin {p : Nat} (h : nanB p = false ∧ 0 ≤ valB p ∧ valB p ≤ 2 ^ LP) : finB p = true:=by
 obtain ⟨h1,h2,h3⟩:=h
 rw [finB_eq,h1]
 cases hi : infB p
 ·rfl
 ·exfalso
  have ha : absB p = 9218868437227405312:=of_decide_eq_true hi
  have hlt : rv 52 4607182418800017408 < rv 52 9218868437227405312:=rv_lt (by decide)
  rw [rv_one9] at hlt
  have hv:=val_natAbs9 p
  rw [ha] at hv
  have e : ((2 ^ LP : Nat) : Int) = 2 ^ LP:=by rw [Int.natCast_pow]; rfl
  omega
theorem rep_whole64 {d : Dc} {q : Nat} (h : Rep d (q : Int) 0) (hq : q < 9007199254740992) : W64 (to64A d 1).bits ∧ finB (to64A d 1).bits = true ∧ valB (to64A d 1).bits = (q : Int) * 2 ^ LP:=by
 obtain ⟨b,-,hb,fb,vb⟩:=float_whole q (by omega)
 have hl : absB b < 9218868437227405312:=of_decide_eq_true fb
 have hN : Near 52 ((q : Int) * 2 ^ LP * 2 ^ LP).natAbs (2 ^ LP) (absB b):=by
  have:=near_self (a:=b)
  rw [vb] at this
  exact this
 have hR : Rep d ((q : Int) * 2 ^ LP * 2 ^ LP * 5 ^ LP * 5 ^ LP) (-(LP : Int) + -(LP : Int)):=by
  have h2:=rep_down (LP + LP) (show Rep d (q : Int) (-(LP : Int) + -(LP : Int) + ((LP + LP : Nat) : Int)) by rw [show -(LP : Int) + -(LP : Int) + ((LP + LP : Nat) : Int) = 0 by omega]; exact h)
  have e : (q : Int) * 2 ^ LP * 2 ^ LP * 5 ^ LP * 5 ^ LP = q * 10 ^ (LP + LP):=by rw [Int.pow_add,ten_pow]; ac_rfl
  rw [e]
  exact h2
 obtain ⟨n1,-⟩:=near_to64 hR hN
 have p2 : (0 : Int) < 2 ^ LP:=Int.pow_pos (by decide)
 by_cases h0 : (q : Int) * 2 ^ LP * 2 ^ LP = 0
 ·rw [if_pos h0] at n1
  have hq0 : (q : Int) = 0:=by
   rcases Int.mul_eq_zero.1 h0 with h | h
   ·rcases Int.mul_eq_zero.1 h with h | h
    ·exact h
    ·omega
   ·omega
  rw [n1,hq0,Int.zero_mul]
  exact ⟨by unfold W64; decide,by decide,by decide +kernel⟩
 ·rw [if_neg h0] at n1
  have hp : 0 ≤ (q : Int) * 2 ^ LP * 2 ^ LP:=Int.mul_nonneg (Int.mul_nonneg (by omega) (by omega)) (by omega)
  rw [decide_eq_false (by omega),Nat.min_eq_left (by omega)] at n1
  have e : (to64A d 1).bits = absB b:=n1.trans (Nat.zero_add _)
  rw [e]
  have hv:=val_natAbs9 b
  rw [vb] at hv
  have hp2 : 0 ≤ (q : Int) * 2 ^ LP:=Int.mul_nonneg (by omega) (by omega)
  refine ⟨absB_W b,?_,?_⟩
  ·unfold finB
   rw [absB_abs,decide_eq_true hl]
  ·rw [valB_abs,← hv]
   omega
set_option maxHeartbeats 8000000 in
theorem share9_v {a : Option Addr} {n c : Nat} {l : List Nat} (p : Nat) (w : World) (hn : l.length = n) (hmax : n * 8 ≤ 140737488355328) (hl : ∀ x ∈ l, W64 x) (hcell : FIn w a n l) (hp : W64 p) (htab : Tab w) :
  Calls Tryz.prog 20 #[.slice a n c,.float .f64 p] w fun e w'=>e = .returned (.tuple #[.float .f64 (shareA l p).1,.int .i64 (shareA l p).2]) ∧ Below w.heap.size w w':=by
 by_cases h0 : n = 0
 ·subst h0
  have ht : shareA l p = (0,4):=by unfold shareA; rw [if_pos hn]
  rw [ht]
  clear hcell hl
  go_enter Tryz.func20,Tryz.ntmps20
  go_wp2
  go_ret2
  exact ⟨rfl,Below.refl _ _⟩
 have one1 : nanB 4607182418800017408 = false:=by decide
 have one2 : W64 4607182418800017408:=by unfold W64; decide
 have nil1 : nanB 0 = false:=by decide
 have nil2 : W64 0:=by unfold W64; decide
 have nil3 : valB 0 = 0:=by decide +kernel
 by_cases hok : ¬ (nanB p = false ∧ 0 ≤ valB p ∧ valB p ≤ 2 ^ LP)
 ·have ht : shareA l p = (0,1):=by unfold shareA; rw [if_neg (by omega),if_neg hok]
  rw [ht]
  clear hcell hl ht
  have key : Go.FloatKind.f64.format.order p 0 = none ∨ Go.FloatKind.f64.format.order p 0 = some .lt ∨ (Go.FloatKind.f64.format.order p 0 = some .eq ∧ Go.FloatKind.f64.format.order p 4607182418800017408 = some .gt) ∨ (Go.FloatKind.f64.format.order p 0 = some .gt ∧ Go.FloatKind.f64.format.order p 4607182418800017408 = some .gt):=by
   cases np : nanB p
   ·have o1 : Go.FloatKind.f64.format.order p 0 = some (compare (valB p) (valB 0)):=ord_D p 0 hp nil2 np nil1
    have o2 : Go.FloatKind.f64.format.order p 4607182418800017408 = some (compare (valB p) (valB 4607182418800017408)):=ord_D p _ hp one2 np one1
    rw [nil3] at o1
    rw [val_one9] at o2
    rw [o1,o2]
    by_cases h : valB p < 0
    ·exact .inr (.inl (by rw [Int.compare_eq_lt.2 h]))
    ·have h : 0 ≤ valB p:=Int.not_lt.1 h
     have h1 : (2 : Int) ^ LP < valB p:=Int.not_le.1 fun hle=>hok ⟨np,h,hle⟩
     have g2 : compare (valB p) (2 ^ LP) = .gt:=Int.compare_eq_gt.2 h1
     rcases Int.lt_or_eq_of_le h with h2 | h2
     ·exact .inr (.inr (.inr ⟨by rw [Int.compare_eq_gt.2 h2],by rw [g2]⟩))
     ·exact .inr (.inr (.inl ⟨by rw [Int.compare_eq_eq.2 h2.symm],by rw [g2]⟩))
   ·exact .inl (ord_D_nan_left p 0 np)
  clear hok
  rcases key with o1 | o1 | ⟨o1,o2⟩ | ⟨o1,o2⟩
  all_goals
   go_enter Tryz.func20,Tryz.ntmps20
   go_wp2
   go_ret2
   exact ⟨rfl,Below.refl _ _⟩
 ·have hok : nanB p = false ∧ 0 ≤ valB p ∧ valB p ≤ 2 ^ LP:=Classical.not_not.1 hok
  obtain ⟨T,hT⟩ : ∃ T,T = shB (ordL l) (shQ l p) (shR l p) (shF l p):=⟨_,rfl⟩
  have ht : shareA l p = (T,0):=by unfold shareA; rw [if_neg (by omega),if_pos hok,hT]
  rw [ht]
  have fp : finB p = true:=shOk_fin hok
  obtain ⟨np,p0,p1⟩:=hok
  have key : (Go.FloatKind.f64.format.order p 0 = some .eq ∨ Go.FloatKind.f64.format.order p 0 = some .gt) ∧ (Go.FloatKind.f64.format.order p 4607182418800017408 = some .eq ∨ Go.FloatKind.f64.format.order p 4607182418800017408 = some .lt):=by
   have o1 : Go.FloatKind.f64.format.order p 0 = some (compare (valB p) (valB 0)):=ord_D p 0 hp nil2 np nil1
   have o2 : Go.FloatKind.f64.format.order p 4607182418800017408 = some (compare (valB p) (valB 4607182418800017408)):=ord_D p _ hp one2 np one1
   rw [nil3] at o1
   rw [val_one9] at o2
   rw [o1,o2]
   constructor
   ·rcases Int.lt_or_eq_of_le p0 with h2 | h2
    ·exact .inr (by rw [Int.compare_eq_gt.2 h2])
    ·exact .inl (by rw [Int.compare_eq_eq.2 h2.symm])
   ·rcases Int.lt_or_eq_of_le p1 with h2 | h2
    ·exact .inr (by rw [Int.compare_eq_lt.2 h2])
    ·exact .inl (by rw [Int.compare_eq_eq.2 h2])
  obtain ⟨V,hV⟩ : ∃ V : Nat,valB p = V:=⟨(valB p).toNat,by omega⟩
  obtain ⟨k1,hK⟩ : ∃ k1 : Nat,k1 = n - 1:=⟨_,rfl⟩
  have hVt : (valB p).toNat = V:=by rw [hV]; rfl
  have e2 : ((2 ^ LP : Nat) : Int) = 2 ^ LP:=by rw [Int.natCast_pow]; rfl
  obtain ⟨x1,o1,x2,x3,rF,q1,q2⟩:=share_facts (K:=k1) fp hV (by omega) (by omega)
  obtain ⟨q,hq⟩ : ∃ q,q = V * k1 / 2 ^ LP:=⟨_,rfl⟩
  obtain ⟨r,hr⟩ : ∃ r,r = V * k1 % 2 ^ LP:=⟨_,rfl⟩
  have hrl : r < 2 ^ LP:=by rw [hr]; exact Nat.mod_lt _ (Nat.two_pow_pos _)
  rw [← hq] at x2 x3 rF q1 q2
  rw [← hr] at rF q2
  have eQ : shQ l p = q:=by unfold shQ; rw [hVt,hn,← hK,hq]
  have eR : shR l p = r:=by unfold shR; rw [hVt,hn,← hK,hr]
  obtain ⟨P,hP⟩ : ∃ P,P = ofD p:=⟨_,rfl⟩
  obtain ⟨I,hI⟩ : ∃ I,I = mkD (k1 : Int) 0:=⟨_,rfl⟩
  rw [← hP,← hI] at x1 o1 x2 x3 rF
  obtain ⟨H,hH⟩ : ∃ H,H = mulD P I:=⟨_,rfl⟩
  rw [← hH] at o1 x2 x3 rF
  obtain ⟨Q,hQ⟩ : ∃ Q,Q = mkD (q : Int) 0:=⟨_,rfl⟩
  rw [← hQ] at x2 x3 rF
  obtain ⟨F,hF⟩ : ∃ F,F = addD H (negD Q):=⟨_,rfl⟩
  rw [← hF] at rF
  have eF : shF l p = F:=by unfold shF; rw [eQ,hn,← hK,← hP,← hI,← hH,← hQ,hF]
  rw [eQ,eR,eF] at hT
  have okP : P.ok:=by rw [hP]; exact ofD_ok p
  have okI : I.ok:=by rw [hI]; exact mkD_ok _ _
  have okQ : Q.ok:=by rw [hQ]; exact mkD_ok _ _
  have rQ : Rep Q (q : Int) 0:=by rw [hQ]; exact int_rep (by omega)
  obtain ⟨R,hR⟩ : ∃ R,R = to64A Q 1:=⟨_,rfl⟩
  obtain ⟨g1,g2,g3⟩:=rep_whole64 rQ (by omega)
  rw [← hR] at g1 g2 g3
  have O1 : Hid (Calls Tryz.prog 47 #[.float .f64 p] w (fun e w'=>e = .returned (.tuple #[.agg #[.bool P.neg,.string (bs P.s),.int .i64 P.e],.int .i64 0]) ∧ Below w.heap.size w w')):=by have:=of_v p hp w htab; rw [of_room fp,← hP] at this; exact this
  have O2 : Hid (∀ W,Below w.heap.size w W → Calls Tryz.prog 61 #[.int .i64 (k1 : Nat)] W (fun e w'=>e = .returned (.agg #[.bool I.neg,.string (bs I.s),.int .i64 I.e]) ∧ Below W.heap.size W w')):=int_c (by omega) (by omega) hI.symm w htab
  have S1 : Hid (∀ W,Below w.heap.size w W → Calls Tryz.prog 60 #[.agg #[.bool P.neg,.string (bs P.s),.int .i64 P.e],.agg #[.bool I.neg,.string (bs I.s),.int .i64 I.e]] W (fun e w'=>e = .returned (.tuple #[.agg #[.bool H.neg,.string (bs H.s),.int .i64 H.e],.int .i64 0]) ∧ Below W.heap.size W w')):=mul_c okP okI x1 hH.symm w htab
  have O3 : Hid (∀ W,Below w.heap.size w W → Calls Tryz.prog 48 #[.agg #[.bool H.neg,.string (bs H.s),.int .i64 H.e],.int .i64 0,.int .i64 5] W (fun e w'=>e = .returned (.tuple #[.agg #[.bool Q.neg,.string (bs Q.s),.int .i64 Q.e],.int .i64 0]) ∧ Below W.heap.size W w')):=fun W hW=>by
   have:=rplaces_v H 0 5 W (htab.below hW) (by have:=ok_len o1; omega)
   rw [x2] at this
   exact this
  have S2 : Hid (∀ W,Below w.heap.size w W → Calls Tryz.prog 62 #[.agg #[.bool H.neg,.string (bs H.s),.int .i64 H.e],.agg #[.bool Q.neg,.string (bs Q.s),.int .i64 Q.e]] W (fun e w'=>e = .returned (.tuple #[.agg #[.bool F.neg,.string (bs F.s),.int .i64 F.e],.int .i64 0]) ∧ Below W.heap.size W w')):=sub_c o1 okQ x3 hF.symm w htab
  have O4 : Hid (∀ W,Below w.heap.size w W → Calls Tryz.prog 49 #[.agg #[.bool Q.neg,.string (bs Q.s),.int .i64 Q.e],.int .i64 1] W (RatioQ R W)):=fun W hW=>by rw [hR]; exact to64_v Q 1 W (htab.below hW) (by have:=ok_len okQ; omega)
  have HCV : Hid (∀ W,(convert 24 3 (.float .f64 R.bits)).run Tryz.prog W = .ok (.int .i64 (q : Nat)) W):=fun W=>conv_whole9 _ _ W g1 g2 g3 (by omega)
  obtain ⟨rb,ri,ro,ru,re⟩:=R
  unfold RatioQ at O4
  have HSO : Hid (∀ W,Below w.heap.size w W → Calls Tryz.prog 31 #[.slice a n c] W fun e w'=>(∃ g,e = .returned (.slice (some ⟨g,0,none⟩) n n) ∧ FOn w' W.heap.size (.slice (some ⟨g,0,none⟩) n n) n (ordL l)) ∧ Below W.heap.size W w'):=fun W hW=>sorted9_v W hn hmax hl (hcell.below hW)
  obtain ⟨s,hs⟩ : ∃ s,s = ordL l:=⟨_,rfl⟩
  have hsl : s.length = n:=by rw [hs,ordL_len,hn]
  have hson : ∀ x ∈ s,Oned x:=by rw [hs]; exact ordL_oned hl
  have hso : ∀ j,j < n → W64 (s.getD j 0):=fun j hj=>by
   rw [List.getD_eq_getElem?_getD,List.getElem?_eq_getElem (by omega)]
   exact (hson _ (List.getElem_mem _)).1
  rw [← hs] at HSO hT
  have hnil:=rep_nil9 rF
  have HT0 : Hid (F.s = [] → T = s.getD q 0):=fun h=>by
   have hr0 : r = 0:=by
    have h1:=hnil.1 h
    have h2 : r * 5 ^ LP = 0:=by exact_mod_cast h1
    rcases Nat.mul_eq_zero.1 h2 with h3 | h3
    ·exact h3
    ·exact absurd h3 (Nat.pos_iff_ne_zero.1 (Nat.pow_pos (by decide)))
   rw [hT]; unfold shB; rw [if_pos hr0]
  have HT1 : Hid (F.s ≠ [] → T = btwA (s.getD q 0) (s.getD (q + 1) 0) F ∧ q + 1 < n):=fun h=>by
   have hr0 : r ≠ 0:=fun e=>h (hnil.2 (by rw [e,Nat.zero_mul]; rfl))
   refine ⟨by rw [hT]; unfold shB; rw [if_neg hr0],?_⟩
   have:=q2 hr0
   omega
  have HBW : Hid (q + 1 < n → ∀ W,Below w.heap.size w W → Calls Tryz.prog 63 #[.float .f64 (s.getD q 0),.float .f64 (s.getD (q + 1) 0),.agg #[.bool F.neg,.string (bs F.s),.int .i64 F.e]] W fun e w'=>e = .returned (.float .f64 (btwA (s.getD q 0) (s.getD (q + 1) 0) F)) ∧ Below W.heap.size W w'):=fun h W hW=>
   between9_v _ _ F r W (hso q (by omega)) (hso (q + 1) h) hrl rF (htab.below hW)
  have HW1 : Hid (IntKind.i64.wrap ((n : Int) - 1) = (k1 : Int)):=by show _ = _; rw [IntWalk.i64_in _ (by omega)]; omega
  have hqn : q < n:=by omega
  have hKn : k1 < n:=by omega
  clear hT hcell hl hn hs hsl hso hson hnil rF rQ okP okI okQ x1 o1 x2 x3 q1 q2 hq hr hrl eQ eR eF hP hI hH hQ hF hR g1 g2 g3 hV hVt e2 p0 p1 np fp ht htab hp one1 one2 nil1 nil2 nil3 hK V
  go_enter Tryz.func20,Tryz.ntmps20
  go_upto_region 3 with fail
  go_cut [28] (fun v wx=>v = .bool false ∧ w = wx)
  case first=>as_aux_lemma=>
   obtain ⟨o1 | o1,o2 | o2⟩:=key
   all_goals
    repeat (first | go_values | go_skip | go_guarded | go_step | go_upon | go_in | go_back)
    go_meet
    exact ⟨rfl,rfl⟩
  case rest=>
  obtain ⟨rfl,rfl⟩:=hcut
  clear key
  go_wp2_with fail
  refine Calls.mono O1.out ?_
  rintro e w1 ⟨rfl,hb1⟩
  obtain ⟨w2,hw2⟩ : ∃ W,W = w1.alloc (.cells #[.bool P.neg,.string (bs P.s),.int .i64 P.e] 35):=⟨_,rfl⟩
  have HK2 : Hid (Kept [(w1.heap.size,decO P)] w2):=by rw [hw2]; exact (Kept.nil w1).dec P
  have HB2 : Hid (Below w.heap.size w w2):=by rw [hw2]; exact hb1.alloc hb1.size _
  clear hb1 O1
  go_upto_region 6 with fail
  rw [← hw2]
  clear hw2
  have h1 : once [(35,0),(36,1),(37,2),(38,3),(39,4),(40,5),(34,6),(41,7),(42,8),(8,9)] = true:=by kernel_rfl
  have h2 : within [(35,0),(36,1),(37,2),(38,3),(39,4),(40,5),(34,6),(41,7),(42,8),(8,9)] 82 = true:=by kernel_rfl
  let S : Nat → (Nat → Value) → World → Prop:=fun ix xs W=>match ix with
   | 0=>xs 0 = .agg #[.bool P.neg,.string (bs P.s),.int .i64 P.e]
   | 1=>xs 1 = .slice a n c
   | 2=>xs 2 = .int .i64 (n : Nat)
   | 3=>xs 3 = .int .i64 (k1 : Nat)
   | 4=>xs 4 = .agg #[.bool I.neg,.string (bs I.s),.int .i64 I.e]
   | 5=>xs 5 = .tuple #[.agg #[.bool H.neg,.string (bs H.s),.int .i64 H.e],.int .i64 0]
   | 6=>xs 6 = .tuple #[.agg #[.bool H.neg,.string (bs H.s),.int .i64 H.e],.int .i64 0]
   | 7=>xs 7 = .agg #[.bool H.neg,.string (bs H.s),.int .i64 H.e]
   | 8=>xs 8 = .int .i64 0
   | 9=>∃ g x y z,xs 9 = .pointer (some ⟨g,0,none⟩) ∧ w2.heap.size ≤ g ∧ g < W.heap.size ∧ W.heap[g]? = some (.cells #[x,y,z] 35 (0,0))
   | 10=>∃ g,xs 9 = .pointer (some ⟨g,0,none⟩) ∧ w2.heap.size ≤ g ∧ W.heap[g]? = some (.cells #[.bool H.neg,.string (bs H.s),.int .i64 H.e] 35 (0,0))
   | _=>True
  have hstab : ∀ j ys W W',S j ys W → Below W.heap.size W W' → S j ys W':=by
   intro j ys W W' h hb
   match j,h with
   | 0,h=>exact h
   | 1,h=>exact h
   | 2,h=>exact h
   | 3,h=>exact h
   | 4,h=>exact h
   | 5,h=>exact h
   | 6,h=>exact h
   | 7,h=>exact h
   | 8,h=>exact h
   | 9,⟨g,x,y,z,s1,s2,s3,s4⟩=>exact ⟨g,x,y,z,s1,s2,Nat.lt_of_lt_of_le s3 hb.size,hb.blk s4 s3⟩
   | 10,⟨g,s1,s2,s4⟩=>exact ⟨g,s1,s2,hb.blk s4 (blk_lt s4)⟩
   | _ + 11,h=>exact trivial
  refine wp_region_flow3 11 12 [(35,0),(36,1),(37,2),(38,3),(39,4),(40,5),(34,6),(41,7),(42,8),(8,9)] [9] S (fun _ W=>Below w2.heap.size w2 W) ((Below.refl _ _).drew) (by kernel_rfl) (by kernel_rfl) (by kernel_rfl) (by decide) (by kernel_rfl) h1 (by kernel_rfl) ?_ ?_ ?_ ?_
  ·intro j hj xs W h
   simp only [List.mem_cons,List.not_mem_nil,or_false] at hj
   subst hj
   obtain ⟨g,_,_,_,s1,_,s3,_⟩:=h; exact ⟨g,s1,s3⟩
  ·intro j xs ys W e h
   match j,e,h with
   | 0,e,h=>exact c_ (e 0 (.inl rfl)) h
   | 1,e,h=>exact c_ (e 1 (.inl rfl)) h
   | 2,e,h=>exact c_ (e 2 (.inl rfl)) h
   | 3,e,h=>exact c_ (e 3 (.inl rfl)) h
   | 4,e,h=>exact c_ (e 4 (.inl rfl)) h
   | 5,e,h=>exact c_ (e 5 (.inl rfl)) h
   | 6,e,h=>exact c_ (e 6 (.inl rfl)) h
   | 7,e,h=>exact c_ (e 7 (.inl rfl)) h
   | 8,e,h=>exact c_ (e 8 (.inl rfl)) h
   | 9,e,⟨g,x,y,z,s1,r⟩=>exact ⟨g,x,y,z,(e 9 (.inl rfl)).symm.trans s1,r⟩
   | 10,e,⟨g,s1,r⟩=>exact ⟨g,(e 9 (.inr (by kernel_rfl))).symm.trans s1,r⟩
   | _ + 11,e,h=>exact trivial
  ·refine ⟨⟨⟨⟨⟨⟨⟨⟨⟨⟨⟨trivial,?_⟩,?_⟩,?_⟩,?_⟩,?_⟩,?_⟩,?_⟩,?_⟩,?_⟩,?_⟩,?_⟩
   ·refine flow3_step _ (some 35) rfl rfl rfl h1 h2 gI gB hstab fun ac xs W D he hni hb hS K hK=>?_
    exact wp_load_row 35 (.tmp 6) rfl w1.heap.size (he 6) _ _ _ _ ((((HK2.out.below hb).drow (.head _)))) Tryz.underlying35 rfl (by kernel_rfl) (hK _ _ rfl bR (fun h=>absurd h (by decide)))
   ·refine flow3_step _ (some 36) rfl rfl rfl h1 h2 gI gB hstab fun ac xs W D he hni hb hS K hK=>?_
    exact op_move (.tmp 0) (.inl rfl) (hK _ _ (he 0) bR (fun h=>absurd h (by decide)))
   ·refine flow3_step _ (some 37) rfl rfl rfl h1 h2 gI gB hstab fun ac xs W D he hni hb hS K hK=>?_
    have e0 : ac.tmps[36]?.getD undef = .slice a n c:=by rw [← Array.getD_eq_getD_getElem?]; exact (he 36).trans (hS 1 (by kernel_rfl))
    refine op_any (.call ⟨.builtin .len,#[.tmp 36],#[40]⟩) rfl (.int .i64 (n : Nat)) (fun o' ho'=>?_) (hK _ _ rfl bR (fun h=>absurd h (by decide)))
    simp only [execOp,ho']
    go_simp
   ·refine flow3_step _ (some 38) rfl rfl rfl h1 h2 gI gB hstab fun ac xs W D he hni hb hS K hK=>?_
    have k0:=HW1.out
    have e0:=(he 37).trans (hS 2 (by kernel_rfl))
    refine op_any (.binOp .sub 3 (.tmp 37) (.const (.int .i64 1)) 3) rfl (.int .i64 (k1 : Nat)) (fun o' ho'=>?_) (hK _ _ rfl bR (fun h=>absurd h (by decide)))
    simp only [execOp,ho',e0]
    go_simp
   ·refine flow3_step _ (some 39) rfl rfl rfl h1 h2 gI gB hstab fun ac xs W D he hni hb hS K hK=>?_
    have e0:=(he 38).trans (hS 3 (by kernel_rfl))
    refine op_call 61 _ _ rfl _ (by simp only [List.map,e0]) (by go_simp) (O2.out W (HB2.out.thru hb)) ?_
    rintro e' W' ⟨rfl,hb'⟩
    exact ⟨_,rfl,hK _ _ (rfl) hb' (fun h=>absurd h (by decide))⟩
   ·refine flow3_step _ (some 40) rfl rfl rfl h1 h2 gI gB hstab fun ac xs W D he hni hb hS K hK=>?_
    have e0:=(he 35).trans (hS 0 (by kernel_rfl))
    have e1:=(he 39).trans (hS 4 (by kernel_rfl))
    refine op_call 60 _ _ rfl _ (by simp only [List.map,e0,e1]) (by go_simp) (S1.out W (HB2.out.thru hb)) ?_
    rintro e' W' ⟨rfl,hb'⟩
    exact ⟨_,rfl,hK _ _ (rfl) hb' (fun h=>absurd h (by decide))⟩
   ·refine flow3_step _ (some 34) rfl rfl rfl h1 h2 gI gB hstab fun ac xs W D he hni hb hS K hK=>?_
    exact op_move (.tmp 40) (.inl rfl) (hK _ _ ((he 40).trans (hS 5 (by kernel_rfl))) bR (fun h=>absurd h (by decide)))
   ·refine flow3_step _ (some 41) rfl rfl rfl h1 h2 gI gB hstab fun ac xs W D he hni hb hS K hK=>?_
    have e0:=(he 34).trans (hS 6 (by kernel_rfl))
    refine op_any (.extract (.tmp 34) 0) rfl (.agg #[.bool H.neg,.string (bs H.s),.int .i64 H.e]) (fun o' ho'=>?_) (hK _ _ rfl bR (fun h=>absurd h (by decide)))
    simp only [execOp,ho',e0]
    go_simp
   ·refine flow3_step _ (some 42) rfl rfl rfl h1 h2 gI gB hstab fun ac xs W D he hni hb hS K hK=>?_
    have e0:=(he 34).trans (hS 6 (by kernel_rfl))
    refine op_any (.extract (.tmp 34) 1) rfl (.int .i64 0) (fun o' ho'=>?_) (hK _ _ rfl bR (fun h=>absurd h (by decide)))
    simp only [execOp,ho',e0]
    go_simp
   ·refine flow3_step _ (some 8) rfl rfl rfl h1 h2 gI gB hstab fun ac xs W D he hni hb hS K hK=>?_
    have hsz:=hb.size
    refine op_anyw (.alloc 35) rfl (.pointer (some ⟨W.heap.size,0,none⟩)) (W.alloc (.cells #[.bool false,.string ⟨#[]⟩,.int .i64 0] 35)) ?_ ?_
    ·intro o' ho'
     simp only [execOp,ho']
     go_simp
    ·exact hK _ _ ⟨_,_,_,_,rfl,by omega,by simp,heap_alloc_new _ _⟩ (bR.alloc (Nat.le_refl _) _) (fun _=>rfl)
   ·refine flow3_store _ rfl rfl rfl h1 h2 (by decide) fun ac xs W D he hni hb hS K hK=>?_
    obtain ⟨g,z1,z2,z3,s1,s2,s3,s4⟩:=hS 9 (by kernel_rfl)
    have hvy : ac.eval (.tmp 41) = .agg #[.bool H.neg,.string (bs H.s),.int .i64 H.e]:=(he 41).trans (hS 7 (by kernel_rfl))
    refine wp_store_row 35 (.tmp 8) (.tmp 41) rfl g #[.bool H.neg,.string (bs H.s),.int .i64 H.e] ((he 8).trans s1) hvy _ _ s4 (by kernel_rfl) rfl (by simp [Value.oneCell']) ?_
    have hself:=setRow_heap W g _ #[.bool H.neg,.string (bs H.s),.int .i64 H.e] 35 (0,0) s4
    refine hK _ ⟨g,s1,s2,hself⟩ (below_setRow hb s2 _) ?_
    intro j ys h
    match j,h with
    | 0,h=>exact h
    | 1,h=>exact h
    | 2,h=>exact h
    | 3,h=>exact h
    | 4,h=>exact h
    | 5,h=>exact h
    | 6,h=>exact h
    | 7,h=>exact h
    | 8,h=>exact h
    | 9, ⟨g1, x, y, z, u1, u2, u3, u4⟩ =>
      by_cases hg : g1 = g
      ·subst hg; exact ⟨g1,_,_,_,u1,u2,by rw [setRow_size]; exact u3,hself⟩
      ·exact ⟨g1,x,y,z,u1,u2,by rw [setRow_size]; exact u3,(setRow_other W g g1 _ hg).trans u4⟩
    | 10, ⟨g1, u1, u2, u4⟩ =>
      by_cases hg : g1 = g
      ·subst hg; exact ⟨g1,u1,u2,hself⟩
      ·exact ⟨g1,u1,u2,(setRow_other W g g1 _ hg).trans u4⟩
    | _ + 11,h=>exact trivial
  ·intro xs w3 D hall hb hS hD
   have s8 : xs 8 = _:=hS 8 (by decide)
   obtain ⟨g9,s9,-,s10⟩:=hS 10 (by decide)
   have HK3 : Hid (Kept _ w3):=(HK2.out.below hb).cons (o:=decO H) s10
   have HB3 : Hid (Below w.heap.size w w3):=HB2.out.thru hb
   generalize xs 0 = y0 at *
   generalize xs 1 = y1 at *
   generalize xs 2 = y2 at *
   generalize xs 3 = y3 at *
   generalize xs 4 = y4 at *
   generalize xs 5 = y5 at *
   generalize xs 6 = y6 at *
   generalize xs 7 = y7 at *
   simp only [layAll,s8,s9]
   clear hS hD hall hstab S s8 s9 s10 hb HK2 HB2
   obtain ⟨a0,a1,a2⟩:=HK3.out.decs (d:=H) (.head _)
   go_wp2_with fail
   refine (O3.out _ HB3.out).mono ?_
   rintro e w4 ⟨rfl,hb⟩
   have HK4 : Hid (Kept _ (w4.alloc (.cells #[.bool Q.neg,.string (bs Q.s),.int .i64 Q.e] 35))):=(HK3.out.below hb).dec Q
   have HB4 : Hid (Below w.heap.size w (w4.alloc (.cells #[.bool Q.neg,.string (bs Q.s),.int .i64 Q.e] 35))):=(HB3.out.thru hb).alloc (HB3.out.thru hb).size _
   clear hb HK3 HB3 O3 a0 a1 a2
   obtain ⟨a0,a1,a2⟩:=HK4.out.decs (d:=Q) (.head _)
   obtain ⟨b0,b1,b2⟩:=HK4.out.decs (d:=H) (.tail _ (.head _))
   go_wp2_with fail
   refine (S2.out _ HB4.out).mono ?_
   rintro e w5 ⟨rfl,hb⟩
   have HK5 : Hid (Kept _ (w5.alloc (.cells #[.bool F.neg,.string (bs F.s),.int .i64 F.e] 35))):=(HK4.out.below hb).dec F
   have HB5 : Hid (Below w.heap.size w (w5.alloc (.cells #[.bool F.neg,.string (bs F.s),.int .i64 F.e] 35))):=(HB4.out.thru hb).alloc (HB4.out.thru hb).size _
   clear hb HK4 HB4 S2 a0 a1 a2 b0 b1 b2
   obtain ⟨a0,a1,a2⟩:=HK5.out.decs (d:=Q) (.tail _ (.head _))
   go_wp2_with fail
   refine (O4.out _ HB5.out).mono ?_
   rintro e w6 ⟨rfl,hb⟩
   have HK6 : Hid (Kept _ (w6.alloc (.cells #[.bool ri,.bool ro,.bool ru] 76))):=(HK5.out.below hb).more _
   have HB6 : Hid (Below w.heap.size w (w6.alloc (.cells #[.bool ri,.bool ro,.bool ru] 76))):=(HB5.out.thru hb).alloc (HB5.out.thru hb).size _
   clear hb HK5 HB5 O4 a0 a1 a2
   have hcv:=HCV.out
   go_wp2_with fail
   refine (HSO.out _ HB6.out).mono ?_
   rintro e w7 ⟨⟨g,rfl,ho⟩,hb⟩
   have HK7 : Hid (Kept _ w7):=HK6.out.below hb
   have HB7 : Hid (Below w.heap.size w w7):=HB6.out.thru hb
   have HF : Hid (∀ W,Below w7.heap.size w7 W → ∀ j,j < n → W.cell? ⟨g,j,none⟩ = some (.float .f64 (s.getD j 0))):=fun W hW j hj=>(hW.cell (p:=⟨g,j,none⟩) ho.lt.2).trans (ho.cell hj)
   clear ho hb HK6 HB6 HSO hcv HCV
   obtain ⟨b0,b1,b2⟩:=HK7.out.decs (d:=F) (.head _)
   have q0 : (0 : Int) ≤ (q : Int):=by omega
   have q1 : (q : Int) < n:=by omega
   by_cases hf0 : F.s = []
   ·have hem : (bs F.s).toList.isEmpty = true:=by rw [bs_emp,hf0]; rfl
    have hc1:=HF.out w7 (Below.refl _ _) q (by omega)
    have hT:=HT0.out hf0
    rw [← hT] at hc1
    clear hf0 hT
    go_wp2_with fail
    go_ret2
    exact ⟨rfl,HB7.out⟩
   ·have hem : (bs F.s).toList.isEmpty = false:=by rw [bs_emp]; cases h : F.s with | nil=>exact absurd h hf0 | cons x r=>rfl
    obtain ⟨hT,hqK⟩:=HT1.out hf0
    have HQ2 : Hid (q + 1 < n):=hqK
    have q2 : (q : Int) + 1 < n:=by omega
    have q3 : (0 : Int) ≤ (q : Int) + 1:=by omega
    have q4 : ((q : Int) + 1).toNat = q + 1:=by omega
    have hw2 : IntKind.i64.wrap ((q : Int) + 1) = ((q + 1 : Nat) : Int):=by rw [IntWalk.i64_in _ (by omega)]; omega
    have HBT : Hid (∀ W,Below w7.heap.size w7 W → Calls Tryz.prog 63 #[.float .f64 (s.getD q 0),.float .f64 (s.getD (q + 1) 0),.agg #[.bool F.neg,.string (bs F.s),.int .i64 F.e]] W fun e w'=>e = .returned (.float .f64 T) ∧ Below W.heap.size W w'):=fun W hW=>by
     have:=HBW.out hqK W (HB7.out.thru hW)
     rw [hT]
     exact this
    clear hf0 hT hqK HT0 HT1 HBW
    go_upto_region 13 with fail
    obtain ⟨A1,hA1⟩ : ∃ x,x = s.getD q 0:=⟨_,rfl⟩
    obtain ⟨A2,hA2⟩ : ∃ x,x = s.getD (q + 1) 0:=⟨_,rfl⟩
    rw [← hA1,← hA2] at HBT
    have HA : Hid (A1 = s.getD q 0 ∧ A2 = s.getD (q + 1) 0):=⟨hA1,hA2⟩
    clear hA1 hA2 b0 b1 b2
    have h1 : once [(71,0),(72,1),(73,2),(74,3),(75,4),(76,5),(77,6),(78,7),(79,8),(80,9),(81,10)] = true:=by kernel_rfl
    have h2 : within [(71,0),(72,1),(73,2),(74,3),(75,4),(76,5),(77,6),(78,7),(79,8),(80,9),(81,10)] 82 = true:=by kernel_rfl
    refine wp_region_flow 11 13 [(71,0),(72,1),(73,2),(74,3),(75,4),(76,5),(77,6),(78,7),(79,8),(80,9),(81,10)] [] (fun ix v W=>match ix with
     | 0=>v = .slice (some ⟨g,0,none⟩) n n
     | 1=>v = .int .i64 (q : Nat)
     | 2=>v = .pointer (some ⟨g,q,none⟩)
     | 3=>v = .float .f64 A1
     | 4=>v = .slice (some ⟨g,0,none⟩) n n
     | 5=>v = .int .i64 (q : Nat)
     | 6=>v = .int .i64 ((q + 1 : Nat) : Int)
     | 7=>v = .pointer (some ⟨g,q + 1,none⟩)
     | 8=>v = .float .f64 A2
     | 9=>v = .agg #[.bool F.neg,.string (bs F.s),.int .i64 F.e]
     | _=>v = .float .f64 T) w7.heap.size (Nat.le_refl _) (by kernel_rfl) (by kernel_rfl) (by kernel_rfl) (by decide) (by kernel_rfl) h1 (by kernel_rfl) ?_ ?_ ?_ ?_
    ·intro j v W W' h hb
     match j,h with
     | 0,h=>exact h
     | 1,h=>exact h
     | 2,h=>exact h
     | 3,h=>exact h
     | 4,h=>exact h
     | 5,h=>exact h
     | 6,h=>exact h
     | 7,h=>exact h
     | 8,h=>exact h
     | 9,h=>exact h
     | _ + 10,h=>exact h
    ·exact fun j hj=>by cases hj
    ·refine ⟨⟨⟨⟨⟨⟨⟨⟨⟨⟨⟨trivial,?_⟩,?_⟩,?_⟩,?_⟩,?_⟩,?_⟩,?_⟩,?_⟩,?_⟩,?_⟩,?_⟩
     ·refine flow_step _ 71 rfl rfl (fun d h=>by simpa using h) h1 h2 fun ac xs W he hb hS K hK=>?_
      exact op_move (.tmp 18) (.inl rfl) (hK _ _ (he 18) bR nA)
     ·refine flow_step _ 72 rfl rfl (fun d h=>by simpa using h) h1 h2 fun ac xs W he hb hS K hK=>?_
      exact op_move (.tmp 17) (.inl rfl) (hK _ _ (he 17) bR nA)
     ·refine flow_step _ 73 rfl rfl (fun d h=>by simpa using h) h1 h2 fun ac xs W he hb hS K hK=>?_
      have e0:=(he 71).trans (hS 0 (by kernel_rfl))
      have e1:=(he 72).trans (hS 1 (by kernel_rfl))
      refine op_any (.indexAddr 40 (.tmp 71) (.tmp 72)) rfl (.pointer (some ⟨g,q,none⟩)) (fun o' ho'=>?_) (hK _ _ rfl bR nA)
      simp only [execOp,ho',e0,e1]
      go_simp
     ·refine flow_step _ 74 rfl rfl (fun d h=>by simpa using h) h1 h2 fun ac xs W he hb hS K hK=>?_
      have hc:=(HF.out W hb q (by omega)).trans (by rw [← HA.out.1])
      have e0:=(he 73).trans (hS 2 (by kernel_rfl))
      refine op_any (.load 24 (.tmp 73)) rfl (.float .f64 A1) (fun o' ho'=>?_) (hK _ _ rfl bR nA)
      simp only [execOp,ho',e0]
      go_simp
     ·refine flow_step _ 75 rfl rfl (fun d h=>by simpa using h) h1 h2 fun ac xs W he hb hS K hK=>?_
      exact op_move (.tmp 18) (.inl rfl) (hK _ _ (he 18) bR nA)
     ·refine flow_step _ 76 rfl rfl (fun d h=>by simpa using h) h1 h2 fun ac xs W he hb hS K hK=>?_
      exact op_move (.tmp 17) (.inl rfl) (hK _ _ (he 17) bR nA)
     ·refine flow_step _ 77 rfl rfl (fun d h=>by simpa using h) h1 h2 fun ac xs W he hb hS K hK=>?_
      have e0:=(he 76).trans (hS 5 (by kernel_rfl))
      refine op_any (.binOp .add 3 (.tmp 76) (.const (.int .i64 1)) 3) rfl (.int .i64 ((q + 1 : Nat) : Int)) (fun o' ho'=>?_) (hK _ _ rfl bR nA)
      simp only [execOp,ho',e0]
      go_simp
     ·refine flow_step _ 78 rfl rfl (fun d h=>by simpa using h) h1 h2 fun ac xs W he hb hS K hK=>?_
      have e0:=(he 75).trans (hS 4 (by kernel_rfl))
      have e1:=(he 77).trans (hS 6 (by kernel_rfl))
      refine op_any (.indexAddr 40 (.tmp 75) (.tmp 77)) rfl (.pointer (some ⟨g,q + 1,none⟩)) (fun o' ho'=>?_) (hK _ _ rfl bR nA)
      simp only [execOp,ho',e0,e1]
      go_simp
     ·refine flow_step _ 79 rfl rfl (fun d h=>by simpa using h) h1 h2 fun ac xs W he hb hS K hK=>?_
      have hc:=(HF.out W hb (q + 1) HQ2.out).trans (by rw [← HA.out.2])
      have e0:=(he 78).trans (hS 7 (by kernel_rfl))
      refine op_any (.load 24 (.tmp 78)) rfl (.float .f64 A2) (fun o' ho'=>?_) (hK _ _ rfl bR nA)
      simp only [execOp,ho',e0]
      go_simp
     ·refine flow_step _ 80 rfl rfl (fun d h=>by simpa using h) h1 h2 fun ac xs W he hb hS K hK=>?_
      exact wp_load_row 35 (.tmp 12) rfl w5.heap.size (he 12) _ _ _ _ ((((HK7.out.below hb).drow (d:=F) (.head _)))) Tryz.underlying35 rfl (by kernel_rfl) (hK _ _ rfl bR nA)
     ·refine flow_step _ 81 rfl rfl (fun d h=>by simpa using h) h1 h2 fun ac xs W he hb hS K hK=>?_
      have e0:=(he 74).trans (hS 3 (by kernel_rfl))
      have e1:=(he 79).trans (hS 8 (by kernel_rfl))
      have e2:=(he 80).trans (hS 9 (by kernel_rfl))
      refine op_call 63 _ _ rfl _ (by simp only [List.map,e0,e1,e2]) (by go_simp) (HBT.out W hb) ?_
      rintro e' W' ⟨rfl,hb'⟩
      exact ⟨_,rfl,hK _ _ (rfl) hb' nA⟩
    ·intro xs w8 hb hS hD
     have s10 : xs 10 = _:=hS 10 (by decide)
     generalize xs 0 = y0 at *
     generalize xs 1 = y1 at *
     generalize xs 2 = y2 at *
     generalize xs 3 = y3 at *
     generalize xs 4 = y4 at *
     generalize xs 5 = y5 at *
     generalize xs 6 = y6 at *
     generalize xs 7 = y7 at *
     generalize xs 8 = y8 at *
     generalize xs 9 = y9 at *
     simp only [layAll,s10]
     have HB8 : Hid (Below w.heap.size w w8):=HB7.out.thru hb
     clear hS hD s10 hb
     go_wp2
     go_ret2
     exact ⟨rfl,HB8.out⟩
theorem middle9_v {a : Option Addr} {n c : Nat} {l : List Nat} (w : World) (hn : l.length = n) (hmax : n * 8 ≤ 140737488355328) (hl : ∀ x ∈ l, W64 x) (hcell : FIn w a n l) (htab : Tab w) :
  Calls Tryz.prog 21 #[.slice a n c] w fun e w'=>e = .returned (.tuple #[.float .f64 (shareA l 4602678819172646912).1,.int .i64 (shareA l 4602678819172646912).2]) ∧ Below w.heap.size w w':=by
 have HS : Hid (Calls Tryz.prog 20 #[.slice a n c,.float .f64 4602678819172646912] w fun e w'=>e = .returned (.tuple #[.float .f64 (shareA l 4602678819172646912).1,.int .i64 (shareA l 4602678819172646912).2]) ∧ Below w.heap.size w w'):=share9_v 4602678819172646912 w hn hmax hl hcell (by unfold W64; decide) htab
 generalize shareA l 4602678819172646912 = X at *
 clear hcell hl htab
 go_enter Tryz.func21,Tryz.ntmps21
 go_wp2_with fail
 refine Calls.mono HS.out ?_
 rintro e w1 ⟨rfl,hb⟩
 have HB : Hid (Below w.heap.size w w1):=hb
 clear hb
 go_wp2
 go_ret2
 exact ⟨rfl,HB.out⟩
end Go.Proofs.YtlbokicainimnaaGreatDoor
