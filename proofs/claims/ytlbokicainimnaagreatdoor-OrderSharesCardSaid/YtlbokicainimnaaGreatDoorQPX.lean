import Derived.Test.YtlbokicainimnaaGreatDoorQAX
import Derived.Test.YtlbokicainimnaaGreatDoorQRG
namespace Go.Proofs.YtlbokicainimnaaGreatDoor
open Go.RowKit
theorem near_least (P : Nat → Prop) : ∀ n,P n → ∃ m,P m ∧ (m = 0 ∨ ¬ P (m - 1))
 | 0,h=>⟨0,h,.inl rfl⟩
 | n + 1, h => by
   by_cases g : P n
   ·exact near_least P n g
   ·exact ⟨n + 1,h,.inr g⟩
theorem near_ex (p M S : Nat) (hS : 0 < S) : ∃ R,Near p M S R:=by
 obtain ⟨R,h1,h2⟩:=near_least (fun R=>2*M < (rv p R + rv p (R+1)) * S ∨ (2*M = (rv p R + rv p (R+1)) * S ∧ R % 2 = 0)) (2 * M) (by
  left
  have:=le_rv p (2 * M)
  have:=le_rv p (2 * M + 1)
  exact Nat.lt_of_lt_of_le (by omega : 2 * M < rv p (2 * M) + rv p (2 * M + 1)) (Nat.le_mul_of_pos_right _ hS))
 refine ⟨R,?_,h1⟩
 rcases h2 with h2 | h2
 ·exact .inl h2
 ·by_cases hR : R = 0
  ·exact .inl hR
  ·right
   rw [show R - 1 + 1 = R by omega] at h2
   have h3 : ¬ 2*M < (rv p (R-1) + rv p R) * S:=fun h=>h2 (.inl h)
   have h4 : ¬ (2*M = (rv p (R-1) + rv p R) * S ∧ (R-1) % 2 = 0):=fun h=>h2 (.inr h)
   by_cases h5 : (rv p (R-1) + rv p R) * S < 2*M
   ·exact .inl h5
   ·right
    have h6 : (rv p (R-1) + rv p R) * S = 2*M:=by omega
    refine ⟨h6,?_⟩
    have h7 : ¬ (R-1) % 2 = 0:=fun h=>h4 ⟨h6.symm,h⟩
    omega
end Go.Proofs.YtlbokicainimnaaGreatDoor
namespace Go.Proofs.YtlbokicainimnaaGreatDoor
open Go Go.RowKit Go.Lib
theorem ofD_ok (b : Nat) : (ofD b).ok:=by
 unfold ofD
 split
 ·have:=mkD_ok (sg (spS b) (ofN b)) (ofE b)
  rw [(mkD_sg _ _ _).1] at this
  exact this
 ·exact none_ok
end Go.Proofs.YtlbokicainimnaaGreatDoor
namespace Go.Proofs.YtlbokicainimnaaGreatDoor
open Go.RowKit
theorem qM_one (a : Dc) : qM a oneD = dval a.s * 10 ^ a.e.toNat ∧ qD a oneD = 1 * 10 ^ (-a.e).toNat:=by
 unfold qM qD quoM quoD
 rw [show oneD.e = 0 from rfl,Int.sub_zero,oneD_val]
 exact ⟨rfl,rfl⟩
end Go.Proofs.YtlbokicainimnaaGreatDoor
namespace Go.Proofs.YtlbokicainimnaaGreatDoor
open Go Go.RowKit
section
variable {P : Program} {ops : Array Oper} {Q : Exit → Act → World → Prop}
theorem unwanted_of {ds : List (Nat × Nat)} {t0 : Array Value} {j0 dj : Nat} {b0 : Bool} {o : Oper} {xs : Nat → Value} (hgd : o.guard = some (j0, b0)) (hoj : (ops[j0]?).bind (·.dst) = some dj)
  (hlk : look ds xs t0 dj = xs j0) (hv : xs j0 = undef) (h1 : once ds = true) (h2 : within ds t0.size = true) : Region.wanted o (yielded ops (layAll ds xs t0)) = false:=by
 have hl:=layAll_look xs dj ds t0 h1 h2
 rw [hlk,hv] at hl
 rw [Array.getD_eq_getD_getElem?] at hl
 unfold Region.wanted
 rw [hgd]
 show (yielded ops (layAll ds xs t0) j0 == some b0) = _
 unfold yielded
 rw [hoj]
 show ((match (layAll ds xs t0)[dj]? with | some (.bool b)=>some b | _=>none) == some b0) = _
 cases hc : (layAll ds xs t0)[dj]? with
 | none=>cases b0 <;> rfl
 | some v =>
   rw [hc] at hl
   have hl : v = undef:=hl
   rw [hl]
   cases b0 <;> rfl
theorem flow3_skipV {ds : List (Nat × Nat)} {al : List Nat} {S : Nat → (Nat → Value) → World → Prop} {G : (Nat → Prop) → World → Prop} {t0 : Array Value} {df : List Deferred} {i : Nat} (o : Oper) (d0 j0 dj : Nat) (b0 : Bool) (ho : ops[i]? = some o) (hgd : o.guard = some (j0, b0)) (hoj : (ops[j0]?).bind (·.dst) = some dj) (hnj : (needs .any ops i).contains j0 = true)
  (hlk : ∀ xs : Nat → Value,look ds xs t0 dj = xs j0) (hSj : ∀ (xs : Nat → Value) W,S j0 xs W → xs j0 = undef ∨ xs j0 = .bool (!b0)) (_hd : ∀ d,(d,i) ∈ ds → d = d0) (_hdo : o.dst = some d0) (h1 : once ds = true) (h2 : within ds t0.size = true)
  (hGi : ∀ D W,¬ D i → G D W → G (fun j=>j = i ∨ D j) W) (hSi : ∀ (xs : Nat → Value) W,xs i = undef → S i xs W) (hal : i ∉ al) : FlowAt3 P ops Q ds al S G t0 df i:=by
 intro xs W D hD hG hS K d hd1 hd2 hd3 hK
 have hdd : o.dst = d:=by rw [ho] at hd3; simpa using hd3
 refine ⟨o,ho,?_⟩
 have hw : Region.wanted o (yielded ops (layAll ds xs t0)) = false:=by
  rcases hSj xs W (hS j0 hnj).1 with hv | hv
  ·exact unwanted_of hgd hoj (hlk xs) hv h1 h2
  ·rw [wanted_of hgd hoj (hlk xs) hv h1 h2]
   cases b0 <;> rfl
 rw [if_neg (by rw [hw]; decide),hdd]
 exact hK undef W (hSi _ _ (if_pos rfl)) (hGi D W hD hG) (fun j ys h=>h) (fun h=>absurd h hal)
end
end Go.Proofs.YtlbokicainimnaaGreatDoor
namespace Go.Proofs.YtlbokicainimnaaGreatDoor
open Go.RowKit
theorem near_outD {M D : Nat} {E : Int} (neg : Bool) (hD : 0 < D) {M' S' R : Nat} (hS : 0 < S') (hN : Near 52 M' S' R) (hx : M' * (D * 2 ^ (-(E + 1074)).toNat) = M * 2 ^ (E + 1074).toNat * S') :
  (outG 53 (-1074) 971 neg 1 (ratMag M D E)).rung 53 (-1074) 971 = min R 9218868437227405312:=by
 have hok:=ratMag_ok (M:=M) (E:=E) hD
 have hE:=isE_of (b:=53) (L:=-1074) (by decide) hok
 obtain ⟨e,he⟩ : ∃ e,e = eOf 53 (-1074) (ratMag M D E):=⟨_,rfl⟩
 rw [← he] at hE
 rw [outG_eq (by decide) hok hE,(out_rung (by decide) (by decide) hE).2]
 have hmax : maxW 1 neg = false:=by cases neg <;> decide
 have hinf : infR 53 (-1074) 971 = 9218868437227405312:=by decide
 obtain ⟨g1,g2,g3⟩:=hE
 have hR : rnR 53 (-1074) neg 1 (ratMag M D E) e = R:=by
  unfold rnR
  rw [kW_toK neg hD]
  have hq : (ratMag M D E).Q e = toN M E e / toD D E e:=rfl
  rw [hq] at g2 g3
  have hC:=toD_pos hD E e
  have hn:=near_of_rn 52 (e - -1074).toNat (toN M E e) (toD D E e) (toK M D E e) (by decide) hC (toK_rn hD) ((Nat.div_lt_iff_lt_mul hC).1 g2) (fun hp=>(Nat.le_div_iff_mul_le hC).1 (g3.resolve_left (by omega)))
  refine Near.uniq hS (hn.cross hC hS ?_) hN
  unfold toN toD
  obtain ⟨u,hu⟩ : ∃ u,u = (-(E + 1074)).toNat:=⟨_,rfl⟩
  obtain ⟨v,hv⟩ : ∃ v,v = (E + 1074).toNat:=⟨_,rfl⟩
  rw [← hu,← hv] at hx
  refine Nat.eq_of_mul_eq_mul_right (Nat.two_pow_pos u) ?_
  have e1 : 2 ^ (E - e).toNat * 2 ^ (e - -1074).toNat * 2 ^ u = 2 ^ v * 2 ^ (e - E).toNat:=by
   rw [← Nat.pow_add,← Nat.pow_add,← Nat.pow_add]; congr 1; omega
  calc M * 2 ^ (E - e).toNat * 2 ^ (e - -1074).toNat * S' * 2 ^ u = M * (2 ^ (E - e).toNat * 2 ^ (e - -1074).toNat * 2 ^ u) * S':=by ac_rfl
   _ = M * 2 ^ v * S' * 2 ^ (e - E).toNat:=by rw [e1]; ac_rfl
   _ = M' * (D * 2 ^ (e - E).toNat) * 2 ^ u:=by rw [← hx]; ac_rfl
 rw [hR,hinf,hmax]
 simp only [Bool.false_eq_true,if_false]
 split <;> omega
end Go.Proofs.YtlbokicainimnaaGreatDoor
