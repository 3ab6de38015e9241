import Derived.Test.YtlbokicainimnaaGreatDoorQNE
import Derived.Test.YtlbokicainimnaaGreatDoorQMH
import Derived.Deep.RegionHeld3
import Derived.Laws.CopyOwn
namespace Go.Proofs.YtlbokicainimnaaGreatDoor
open Go.RowKit
theorem row3 {w : World} {g : Nat} {a b c : Value} {t : TypeId} (h : w.heap[g]? = some (.cells #[a, b, c] t (0, 0))) :
  w.cell? ⟨g,0,none⟩ = some a ∧ w.cell? ⟨g,1,none⟩ = some b ∧ w.cell? ⟨g,2,none⟩ = some c:=
 ⟨cell_of_row w g 0 _ _ _ h,cell_of_row w g 1 _ _ _ h,cell_of_row w g 2 _ _ _ h⟩
def ToR (M D : Nat) (E e : Int) (q : Nat) (h : Int) (b : Bool) : Prop:=q = toQ M D E e ∧ h = ncmp (toN M E e % toD D E e * 2) (toD D E e) ∧ b = decide (toN M E e % toD D E e = 0)
def ToEnd (R : Nat) (inf ov : Bool) (m x : Int) : Prop:=
 if R < 9218868437227405312 then ov = false ∧ inf = false ∧ 0 ≤ m ∧ m < 9007199254740992 ∧ -1074 ≤ x ∧ x ≤ 971 ∧ (x = -1074 ∨ 4503599627370496 ≤ m) ∧ (R : Int) = (x + 1074) * 4503599627370496 + m
 else ov = true ∧ inf = true
def ToPost (neg : Bool) (R : Nat) (w : World) (e : Ending) (w' : World) : Prop:=∃ (inf ine ov un : Bool) (m x : Int),e = .returned (.tuple #[.agg #[.bool neg,.bool inf,.int .u64 m,.int .i64 x],.agg #[.bool ine,.bool ov,.bool un]]) ∧ Below w.heap.size w w' ∧ ToEnd R inf ov m x
theorem to_last {M D q R : Nat} {E e Ki e2 K2 : Int} (hD : 0 < D) (hN : Near 52 (M * 2^(E + LP).toNat) (D * 2^(-(E + LP)).toNat) R) (he1 : -1074 ≤ e) (hq : q = toQ M D E e) (hlt : q < 9007199254740992) (hend : e = -1074 ∨ 4503599627370496 ≤ q)
  (hK : Ki = (toK M D E e : Nat)) (hEK : e2 = (if Ki = 9007199254740992 then e + 1 else e) ∧ K2 = if Ki = 9007199254740992 then 4503599627370496 else Ki) :
  (R : Int) = (e2 + 1074) * 4503599627370496 + K2 ∧ (e2 = -1074 ∨ 4503599627370496 ≤ K2) ∧ 0 ≤ K2 ∧ K2 < 9007199254740992 ∧ -1074 ≤ e2:=by
 have hl:=LP_eq
 have h1:=to_near (M:=M) (E:=E) (e:=e) hD (by omega) (by rw [← hq]; exact hlt) (by rw [← hq]; omega)
 have h2:=Near.uniq (Nat.mul_pos hD (Nat.two_pow_pos _)) hN h1
 have h3:=toK_bound (M:=M) (D:=D) (E:=E) (e:=e) (by rw [← hq]; exact hlt)
 have h4:=toK_low (M:=M) (D:=D) (E:=E) (e:=e)
 rw [← hq] at h4
 obtain ⟨k,hk⟩ : ∃ k,toK M D E e = k:=⟨_,rfl⟩
 rw [hk] at hK h2 h3 h4
 have h5 : (R : Int) = (e + 1074) * 4503599627370496 + k:=by
  obtain ⟨t,ht⟩ : ∃ t : Nat,e + LP = t:=⟨(e + LP).toNat,by omega⟩
  rw [show (e + LP).toNat = t by omega] at h2
  omega
 obtain ⟨a1,a2⟩:=hEK
 by_cases hc : Ki = 9007199254740992
 ·rw [if_pos hc] at a1 a2
  omega
 ·rw [if_neg hc] at a1 a2
  omega
theorem to_over {R : Nat} {e2 K2 : Int} (h1 : (R : Int) = (e2 + 1074) * 4503599627370496 + K2) (h2 : e2 = -1074 ∨ 4503599627370496 ≤ K2) (h3 : 0 ≤ K2) (h4 : K2 < 9007199254740992) (h5 : -1074 ≤ e2) :
  (¬ (971 < e2 ∧ 4503599627370496 ≤ K2) → ToEnd R false false K2 e2) ∧ ((971 < e2 ∧ 4503599627370496 ≤ K2) → ∀ m x,ToEnd R true true m x):=by
 unfold ToEnd
 constructor
 ·intro h
  rw [if_pos (by omega)]
  refine ⟨rfl,rfl,h3,h4,h5,by omega,h2,h1⟩
 ·intro h m x
  rw [if_neg (by omega)]
  exact ⟨rfl,rfl⟩
theorem float_flags_row {fn : Func} {p u : Tmp} (h : fn.results = #[.cell p 137, .cell u 76]) (tmps : Array Value) (w : World) (g g' : Nat) (a b c d a' b' c' : Value)
  (hp : tmps.getD p undef = .pointer (some ⟨g,0,none⟩)) (hg : w.heap[g]? = some (.cells #[a,b,c,d] 137 (0,0)))
  (hp' : tmps.getD u undef = .pointer (some ⟨g',0,none⟩)) (hg' : w.heap[g']? = some (.cells #[a',b',c'] 76 (0,0))) : (results fn tmps).run Tryz.prog w = .ok (.tuple #[.agg #[a,b,c,d],.agg #[a',b',c']]) w:=by
 have h1 : tmps[p]?.getD undef = .pointer (some ⟨g,0,none⟩):=by simpa using hp
 have h2 : tmps[u]?.getD undef = .pointer (some ⟨g',0,none⟩):=by simpa using hp'
 simp only [results,h]
 simp [h1,h2,asAddr,run_loadVar_row (P:=Tryz.prog) w g _ 137 #[a,b,c,d] (0,0) _ hg Tryz.underlying137 rfl (by kernel_rfl),run_loadVar_row (P:=Tryz.prog) w g' _ 76 #[a',b',c'] (0,0) _ hg' Tryz.underlying76 rfl (by kernel_rfl)]
theorem step_plain {P : Program} {ops : Array Oper} {o : Oper} {a : Act} {w : World} {K : Act → World → Prop} {Q : Exit → Act → World → Prop} {E : Prop} (hgd : o.guard = none) (h : Oper.wp P o a w K Q) :
  if Region.wanted o (yielded ops a.tmps) = true then Oper.wp P o a w K Q else E:=by
 have hw : Region.wanted o (yielded ops a.tmps) = true:=by simp [Region.wanted,hgd]
 rw [if_pos hw]; exact h
def ToI (M D : Nat) (E e0 e : Int) (q : Nat) : Prop:=(∃ k : Nat,e = e0 + k ∧ k ≤ 4 ∧ q * 2^k < 144115188075855872) ∧ (e = e0 ∨ 9007199254740992 ≤ toQ M D E (e - 1))
theorem toI_next {M D q : Nat} {E e0 e : Int} (h : ToI M D E e0 e q) (hq : q = toQ M D E e) (hge : 9007199254740992 ≤ q) : ToI M D E e0 (e + 1) (toQ M D E (e + 1)) ∧ toQ M D E (e + 1) < q ∧ e + 1 ≤ e0 + 4:=by
 obtain ⟨⟨k,hk,hk4,hlt⟩,-⟩:=h
 have hn:=toQ_next M D E e
 rw [← hq] at hn
 have hk3 : k ≤ 3:=by
  refine Decidable.byContradiction fun hc=>?_
  have h4 : k = 4:=by omega
  subst h4
  omega
 refine ⟨⟨⟨k + 1,by omega,by omega,?_⟩,.inr (by rw [show e + 1 - 1 = e by omega,← hq]; exact hge)⟩,by rw [hn]; omega,by omega⟩
 rw [hn,Nat.pow_succ,← Nat.mul_assoc,Nat.mul_right_comm]
 exact Nat.lt_of_le_of_lt (Nat.mul_le_mul_right _ (by omega)) hlt
theorem toI_end {M D q : Nat} {E e0 e sz : Int} (h : ToI M D E e0 e q) (hq : q = toQ M D E e) (hlt : q < 9007199254740992) (hM : M ≠ 0) (hD : 0 < D) (hsz : sz = (blen M : Int) - blen D + E) (he0 : max (-1074) (sz - 56) = e0) :
  e = -1074 ∨ 4503599627370496 ≤ q:=by
 obtain ⟨-,h | h⟩:=h
 ·by_cases hs : e0 = sz - 56
  ·have:=toQ_high (e:=e) hM hD hsz (by omega)
   omega
  ·left; omega
 ·right
  have:=toQ_next M D E (e - 1)
  rw [show e - 1 + 1 = e by omega,← hq] at this
  omega
theorem toK_of {M D q : Nat} {E e h qi Ki : Int} {b ru : Bool} (hD : 0 < D) (hR : ToR M D E e q h b) (hru : ru = (!b && (decide (h = 1) || (decide (h = 0) && decide (q % 2 = 1))))) (hKi : Ki = if ru then qi + 1 else qi) (hq : qi = (q : Int)) : Ki = (toK M D E e : Nat):=by
 obtain ⟨r1,r2,r3⟩:=hR
 have hp:=toD_pos hD E e
 have hru2 : ru = decide (toD D E e < toN M E e % toD D E e * 2 ∨ (toN M E e % toD D E e * 2 = toD D E e ∧ toQ M D E e % 2 = 1)):=by
  rw [hru,r3,r2,← r1]
  obtain ⟨r,hr⟩ : ∃ r,toN M E e % toD D E e = r:=⟨_,rfl⟩
  obtain ⟨C,hC⟩ : ∃ C,toD D E e = C:=⟨_,rfl⟩
  rw [hr,hC]
  rw [hC] at hp
  have a1 : decide (ncmp (r * 2) C = 1) = decide (C < r * 2):=by
   congr 1
   unfold ncmp
   rcases Nat.lt_trichotomy (r * 2) C with g | g | g
   ·rw [if_pos g]; simp; omega
   ·rw [if_neg (by omega),if_neg (by omega)]; simp; omega
   ·rw [if_neg (by omega),if_pos g]; simp; omega
  have a2 : decide (ncmp (r * 2) C = 0) = decide (r * 2 = C):=by
   congr 1
   exact propext (ncmp_zero _ _)
  rw [a1,a2]
  by_cases h0 : r = 0
  ·subst h0
   simp
   omega
  ·simp only [h0,decide_false,Bool.not_false,Bool.true_and,Bool.decide_or,Bool.decide_and]
 rw [hKi,hru2]
 unfold toK
 by_cases hc : toD D E e < toN M E e % toD D E e * 2 ∨ (toN M E e % toD D E e * 2 = toD D E e ∧ toQ M D E e % 2 = 1)
 ·rw [if_pos hc,if_pos (by simpa using hc),hq,r1]; rfl
 ·rw [if_neg hc,if_neg (by simpa using hc),hq,r1]
theorem ncmp_cases (M N : Nat) : ncmp M N = -1 ∨ ncmp M N = 0 ∨ ncmp M N = 1:=by unfold ncmp; split; exact .inl rfl; split; exact .inr (.inr rfl); exact .inr (.inl rfl)
theorem wr5 {w : World} {g : Nat} {a b c d e : Value} {t : TypeId} (h : w.heap[g]? = some (.cells #[a, b, c, d, e] t (0, 0))) :
  (w.frozen? ⟨g,0,none⟩ = false ∧ w.cell? ⟨g,0,none⟩ = some a) ∧ (∀ u,(w.setCell ⟨g,0,none⟩ u).frozen? ⟨g,1,none⟩ = false ∧ (w.setCell ⟨g,0,none⟩ u).cell? ⟨g,1,none⟩ = some b) ∧
   (∀ u v,((w.setCell ⟨g,0,none⟩ u).setCell ⟨g,1,none⟩ v).frozen? ⟨g,2,none⟩ = false ∧ ((w.setCell ⟨g,0,none⟩ u).setCell ⟨g,1,none⟩ v).cell? ⟨g,2,none⟩ = some c) ∧
   (∀ u v x,(((w.setCell ⟨g,0,none⟩ u).setCell ⟨g,1,none⟩ v).setCell ⟨g,2,none⟩ x).frozen? ⟨g,3,none⟩ = false ∧ (((w.setCell ⟨g,0,none⟩ u).setCell ⟨g,1,none⟩ v).setCell ⟨g,2,none⟩ x).cell? ⟨g,3,none⟩ = some d) ∧
   (∀ u v x y,((((w.setCell ⟨g,0,none⟩ u).setCell ⟨g,1,none⟩ v).setCell ⟨g,2,none⟩ x).setCell ⟨g,3,none⟩ y).frozen? ⟨g,4,none⟩ = false ∧ ((((w.setCell ⟨g,0,none⟩ u).setCell ⟨g,1,none⟩ v).setCell ⟨g,2,none⟩ x).setCell ⟨g,3,none⟩ y).cell? ⟨g,4,none⟩ = some e) ∧
   ∀ u v x y z,(((((w.setCell ⟨g,0,none⟩ u).setCell ⟨g,1,none⟩ v).setCell ⟨g,2,none⟩ x).setCell ⟨g,3,none⟩ y).setCell ⟨g,4,none⟩ z).heap[g]? = some (.cells #[u,v,x,y,z] t (0,0)):=by
 have h1:=fun u=>heap_setCell_same w g 0 _ _ u h
 have h2:=fun u v=>heap_setCell_same _ g 1 _ _ v (h1 u)
 have h3:=fun u v x=>heap_setCell_same _ g 2 _ _ x (h2 u v)
 have h4:=fun u v x y=>heap_setCell_same _ g 3 _ _ y (h3 u v x)
 have h5:=fun u v x y z=>heap_setCell_same _ g 4 _ _ z (h4 u v x y)
 exact ⟨⟨frozen_of_row w g 0 _ _ h,cell_of_row w g 0 _ _ _ h⟩,fun u=>⟨frozen_of_row _ g 1 _ _ (h1 u),cell_of_row _ g 1 _ _ _ (h1 u)⟩,fun u v=>⟨frozen_of_row _ g 2 _ _ (h2 u v),cell_of_row _ g 2 _ _ _ (h2 u v)⟩,
  fun u v x=>⟨frozen_of_row _ g 3 _ _ (h3 u v x),cell_of_row _ g 3 _ _ _ (h3 u v x)⟩,fun u v x y=>⟨frozen_of_row _ g 4 _ _ (h4 u v x y),cell_of_row _ g 4 _ _ _ (h4 u v x y)⟩,h5⟩
theorem set5_other {w : World} {g k : Nat} (hk : k ≠ g) (u v x y z : Value) :
  (((((w.setCell ⟨g,0,none⟩ u).setCell ⟨g,1,none⟩ v).setCell ⟨g,2,none⟩ x).setCell ⟨g,3,none⟩ y).setCell ⟨g,4,none⟩ z).heap[k]? = w.heap[k]?:=by
 rw [heap_setCell_other _ _ _ _ (by exact hk),heap_setCell_other _ _ _ _ (by exact hk),heap_setCell_other _ _ _ _ (by exact hk),heap_setCell_other _ _ _ _ (by exact hk),heap_setCell_other _ _ _ _ (by exact hk)]
theorem keep5 {w : World} {g : Nat} {t : TypeId} {q : Value} (h : ∀ u v x y z, (((((w.setCell ⟨g, 0, none⟩ u).setCell ⟨g, 1, none⟩ v).setCell ⟨g, 2, none⟩ x).setCell ⟨g, 3, none⟩ y).setCell ⟨g, 4, none⟩ z).heap[g]? = some (.cells #[u, v, x, y, z] t (0, 0))) (hq : w.cell? ⟨g + 1, 0, none⟩ = some q) (u v x y z : Value) :
  (((((w.setCell ⟨g,0,none⟩ u).setCell ⟨g,1,none⟩ v).setCell ⟨g,2,none⟩ x).setCell ⟨g,3,none⟩ y).setCell ⟨g,4,none⟩ z).cell? ⟨g,0,none⟩ = some u ∧ (((((w.setCell ⟨g,0,none⟩ u).setCell ⟨g,1,none⟩ v).setCell ⟨g,2,none⟩ x).setCell ⟨g,3,none⟩ y).setCell ⟨g,4,none⟩ z).cell? ⟨g + 1,0,none⟩ = some q:=
 ⟨(row5 (h u v x y z)).1, by
   have e0:=set5_other (w:=w) (k:=g + 1) (g:=g) (by omega) u v x y z
   have e : (((((w.setCell ⟨g,0,none⟩ u).setCell ⟨g,1,none⟩ v).setCell ⟨g,2,none⟩ x).setCell ⟨g,3,none⟩ y).setCell ⟨g,4,none⟩ z).cell? ⟨g + 1,0,none⟩ = w.cell? ⟨g + 1,0,none⟩:=World.cell?_of_block e0
   exact e.trans hq⟩
theorem set5_below {B g : Nat} {a w : World} (h : Below B a w) (hg : B ≤ g) (u v x y z : Value) :
  Below B a (((((w.setCell ⟨g,0,none⟩ u).setCell ⟨g,1,none⟩ v).setCell ⟨g,2,none⟩ x).setCell ⟨g,3,none⟩ y).setCell ⟨g,4,none⟩ z):=
 ((((h.setCell (by exact hg) _).setCell (by exact hg) _).setCell (by exact hg) _).setCell (by exact hg) _).setCell (by exact hg) _
theorem Num.set5 {w : World} {g : Nat} {a b c d e : Value} {t : TypeId} {s : Value} {N : Nat} (h : Num .u32 4294967296 w s N) (hg : w.heap[g]? = some (.cells #[a, b, c, d, e] t (0, 0))) (hno : ∀ z, a ≠ .int .u32 z ∧ b ≠ .int .u32 z ∧ c ≠ .int .u32 z ∧ d ≠ .int .u32 z ∧ e ≠ .int .u32 z) (u v x y z : Value) :
  Num .u32 4294967296 (((((w.setCell ⟨g,0,none⟩ u).setCell ⟨g,1,none⟩ v).setCell ⟨g,2,none⟩ x).setCell ⟨g,3,none⟩ y).setCell ⟨g,4,none⟩ z) s N:=by
 obtain ⟨xs,⟨p,n,cc,rfl,h1,h2,h3,h4,h5⟩,h6,h7⟩:=h
 refine ⟨xs,⟨p,n,cc,rfl,h1,h2,h3,h4,fun hn=>?_⟩,h6,h7⟩
 obtain ⟨b',o,rfl,hs,hc⟩:=h5 hn
 have hbg : b' ≠ g:=by
  rintro rfl
  have:=hc 0 hn
  rw [cell_of_row _ _ _ _ _ _ hg] at this
  match o with
  | 0=>simp at this; exact (hno _).1 this
  | 1=>simp at this; exact (hno _).2.1 this
  | 2=>simp at this; exact (hno _).2.2.1 this
  | 3=>simp at this; exact (hno _).2.2.2.1 this
  | 4=>simp at this; exact (hno _).2.2.2.2 this
  | o + 5=>simp at this
 refine ⟨b',o,rfl,by simpa [World.setCell] using hs,fun i hi=>?_⟩
 rw [← hc i hi]
 exact World.cell?_of_block (set5_other hbg _ _ _ _ _)
end Go.Proofs.YtlbokicainimnaaGreatDoor
