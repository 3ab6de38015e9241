import Derived.Test.YtlbokicainimnaaGreatDoorQRE
import Derived.Test.YtlbokicainimnaaGreatDoorQAA
namespace Go.Proofs.YtlbokicainimnaaGreatDoor
open Go.Lib
structure Tame (d : Dc) (V e : Int) (m : Nat) (f : Int) : Prop where
 rep : Rep d V e
 lt : V.natAbs < 10 ^ m
 lo : -f ≤ e
 hi : e ≤ f
end Go.Proofs.YtlbokicainimnaaGreatDoor
namespace Go.Proofs.YtlbokicainimnaaGreatDoor
open Go.RowKit
def decO (d : Dc) : Obj:=.cells #[.bool d.neg,.string (bs d.s),.int .i64 d.e] 35 (0,0)
def Kept (l : List (Nat × Obj)) (w : World) : Prop:=∀ p ∈ l,w.heap[p.1]? = some p.2
theorem Kept.nil (w : World) : Kept [] w:=fun p hp=>by cases hp
theorem Kept.cons {l : List (Nat × Obj)} {w : World} (h : Kept l w) {g : Nat} {o : Obj} (hg : w.heap[g]? = some o) : Kept ((g,o) :: l) w:=fun p hp=>by
 rcases List.mem_cons.1 hp with rfl | hp
 ·exact hg
 ·exact h p hp
theorem Kept.below {l : List (Nat × Obj)} {w w' : World} (h : Kept l w) (hb : Below w.heap.size w w') : Kept l w':=fun p hp=>hb.blk (h p hp) (blk_lt (h p hp))
theorem Kept.more {l : List (Nat × Obj)} {w : World} (h : Kept l w) (o : Obj) : Kept l (w.alloc o):=h.below ((Below.refl _ _).alloc (Nat.le_refl _) o)
theorem Kept.push {l : List (Nat × Obj)} {w : World} (h : Kept l w) (o : Obj) : Kept ((w.heap.size,o) :: l) (w.alloc o):=(h.more o).cons (new_blk w o)
theorem Kept.dec {l : List (Nat × Obj)} {w : World} (h : Kept l w) (d : Dc) : Kept ((w.heap.size,decO d) :: l) (w.alloc (.cells #[.bool d.neg,.string (bs d.s),.int .i64 d.e] 35)):=h.push (decO d)
theorem Kept.decs {l : List (Nat × Obj)} {w : World} (h : Kept l w) {g : Nat} {d : Dc} (hm : (g, decO d) ∈ l) :
  w.cell? ⟨g,0,none⟩ = some (.bool d.neg) ∧ w.cell? ⟨g,1,none⟩ = some (.string (bs d.s)) ∧ w.cell? ⟨g,2,none⟩ = some (.int .i64 d.e):=by
 have r : w.heap[g]? = some (.cells #[.bool d.neg,.string (bs d.s),.int .i64 d.e] 35 (0,0)):=h _ hm
 exact ⟨cell_of_row w g 0 _ _ _ r,cell_of_row w g 1 _ _ _ r,cell_of_row w g 2 _ _ _ r⟩
theorem Kept.drow {l : List (Nat × Obj)} {w : World} (h : Kept l w) {g : Nat} {d : Dc} (hm : (g,decO d) ∈ l) : w.heap[g]? = some (.cells #[.bool d.neg,.string (bs d.s),.int .i64 d.e] 35 (0,0)):=h _ hm
theorem add_c {a b r : Dc} (ha : a.ok) (hb : b.ok) (hx : addX a b = 0) (hr : addD a b = r) (w : World) (htab : Tab w) : ∀ W,Below w.heap.size w W → Calls Tryz.prog 124 #[.agg #[.bool a.neg,.string (bs a.s),.int .i64 a.e],.agg #[.bool b.neg,.string (bs b.s),.int .i64 b.e]] W fun e w'=>e = .returned (.tuple #[.agg #[.bool r.neg,.string (bs r.s),.int .i64 r.e],.int .i64 0]) ∧ Below W.heap.size W w':=fun W hW=>by
 have la:=ok_len ha
 have lb:=ok_len hb
 have:=add_v a b W (by omega) (by omega) (htab.below hW)
 rw [okB_ok ha,okB_ok hb,hx,hr] at this
 exact this
theorem sub_c {a b r : Dc} (ha : a.ok) (hb : b.ok) (hx : addX a (negD b) = 0) (hr : addD a (negD b) = r) (w : World) (htab : Tab w) : ∀ W,Below w.heap.size w W → Calls Tryz.prog 62 #[.agg #[.bool a.neg,.string (bs a.s),.int .i64 a.e],.agg #[.bool b.neg,.string (bs b.s),.int .i64 b.e]] W fun e w'=>e = .returned (.tuple #[.agg #[.bool r.neg,.string (bs r.s),.int .i64 r.e],.int .i64 0]) ∧ Below W.heap.size W w':=fun W hW=>by
 have la:=ok_len ha
 have lb:=ok_len hb
 have:=sub_v a b W (by omega) (by omega) (htab.below hW)
 rw [okB_ok ha,okB_ok hb,hx,hr] at this
 exact this
theorem mul_c {a b r : Dc} (ha : a.ok) (hb : b.ok) (hx : mulX a b = 0) (hr : mulD a b = r) (w : World) (htab : Tab w) : ∀ W,Below w.heap.size w W → Calls Tryz.prog 60 #[.agg #[.bool a.neg,.string (bs a.s),.int .i64 a.e],.agg #[.bool b.neg,.string (bs b.s),.int .i64 b.e]] W fun e w'=>e = .returned (.tuple #[.agg #[.bool r.neg,.string (bs r.s),.int .i64 r.e],.int .i64 0]) ∧ Below W.heap.size W w':=fun W hW=>by
 have la:=ok_len ha
 have lb:=ok_len hb
 have:=mul_v a b W (by omega) (by omega) (htab.below hW)
 rw [okB_ok ha,okB_ok hb,hx,hr] at this
 exact this
theorem int_c {n : Int} {r : Dc} (h0 : -9223372036854775808 ≤ n) (h1 : n ≤ 9223372036854775807) (hr : mkD n 0 = r) (w : World) (htab : Tab w) : ∀ W,Below w.heap.size w W → Calls Tryz.prog 61 #[.int .i64 n] W fun e w'=>e = .returned (.agg #[.bool r.neg,.string (bs r.s),.int .i64 r.e]) ∧ Below W.heap.size W w':=fun W hW=>by
 have:=int_v n W h0 h1 (htab.below hW)
 rw [hr] at this
 exact this
end Go.Proofs.YtlbokicainimnaaGreatDoor
namespace Go.Proofs.YtlbokicainimnaaGreatDoor
open Go Go.RowKit Go.Lib
theorem val_sgn (b : Nat) : valB b = sg (sgnB b) (rv 52 (absB b)):=rfl
def rungN (m : Nat) (e : Int) : Nat:=(e + 1074).toNat * 4503599627370496 + m
def Canon (m : Nat) (e : Int) : Prop:=m < 9007199254740992 ∧ -1074 ≤ e ∧ e ≤ 971 ∧ (e = -1074 ∨ 4503599627370496 ≤ m)
theorem fin_form {R : Nat} (h : R < 9218868437227405312) : ∃ m e,Canon m e ∧ R = rungN m e:=by
 by_cases h1 : R < 4503599627370496
 ·exact ⟨R,-1074,⟨by omega,by omega,by omega,.inl rfl⟩,by unfold rungN; rw [show ((-1074 : Int) + 1074).toNat = 0 by decide]; omega⟩
 ·refine ⟨4503599627370496 + R % 4503599627370496,(R / 4503599627370496 : Nat) - 1075,⟨by omega,by omega,by omega,.inr (by omega)⟩,?_⟩
  unfold rungN
  rw [show (((R / 4503599627370496 : Nat) : Int) - 1075 + 1074).toNat = R / 4503599627370496 - 1 by omega]
  omega
theorem Canon.lt {m : Nat} {e : Int} (h : Canon m e) : rungN m e < 9218868437227405312:=by
 obtain ⟨h1,h2,h3,h4⟩:=h
 unfold rungN
 omega
theorem Canon.rv {m : Nat} {e : Int} (h : Canon m e) : rv 52 (rungN m e) = m * 2 ^ (e + 1074).toNat:=by
 obtain ⟨h1,h2,h3,h4⟩:=h
 exact rv_qK 52 _ m (by omega) (by omega)
theorem of_room {b : Nat} (h : finB b = true) : ofX b = 0:=by
 have hx : spX b = 0:=by
  have:=finB_eq b
  rw [h] at this
  unfold spX
  cases hn : nanB b <;> cases hi : infB b <;> rw [hn,hi] at this <;> simp at this ⊢
 rw [(of_mk hx).2]
 obtain ⟨r1,r2,r3⟩:=sp_bd b
 obtain ⟨k,hk⟩ : ∃ k,k = 1200:=⟨_,rfl⟩
 have le10 : ∀ i j : Nat,i ≤ 10 → i ^ j ≤ 10 ^ j:=fun i j h=>Nat.pow_le_pow_left h j
 have hM : spM b < 10 ^ 53:=Nat.lt_of_lt_of_le r3 (by decide)
 have key : ∀ i j : Nat,i ≤ 10 → 53 + j ≤ k → spM b * i ^ j < 10 ^ k:=fun i j hi hj=>by
  refine Nat.lt_of_lt_of_le (Nat.lt_of_le_of_lt (Nat.mul_le_mul_left _ (le10 i j hi)) (Nat.mul_lt_mul_of_pos_right hM (Nat.pow_pos (by decide)))) ?_
  rw [← Nat.pow_add]
  exact Nat.pow_le_pow_right (by decide) hj
 refine mk_room (m:=k) ?_ (by omega) ?_ ?_
 ·rw [sg_natAbs]
  unfold ofN
  split
  ·exact key 2 _ (by decide) (by omega)
  ·exact key 5 _ (by decide) (by omega)
 ·unfold ofE; split <;> omega
 ·unfold ofE; split <;> omega
theorem rep_zero {d : Dc} {e : Int} (h : Rep d 0 e) : d = Dc.none:=h.uniq (rep_none e)
def abs3 (b : Nat) : Nat:=b % 2147483648
def m3 (b : Nat) : Nat:=if abs3 b < 8388608 then abs3 b else abs3 b % 8388608 + 8388608
def e3 (b : Nat) : Int:=if abs3 b < 8388608 then -149 else ((abs3 b / 8388608 : Nat) : Int) - 150
theorem kW_toK {M D : Nat} {E e : Int} (neg : Bool) (hD : 0 < D) : kW neg 1 ((ratMag M D E).Q e) ((ratMag M D E).H e) ((ratMag M D E).Z e) = toK M D E e:=by
 show kW neg 1 (toQ M D E e) (ncmp (toN M E e % toD D E e * 2) (toD D E e)) (decide (toN M E e % toD D E e = 0)) = _
 have hd:=toD_pos hD E e
 unfold toK kW upW ncmp
 generalize toQ M D E e = q
 generalize toN M E e % toD D E e = r
 generalize toD D E e = d at *
 rw [if_pos rfl]
 by_cases a : r * 2 < d
 ·rw [if_pos a,if_neg (by omega : ¬ (d < r * 2 ∨ r * 2 = d ∧ q % 2 = 1))]; simp
 ·rw [if_neg a]
  by_cases c : d < r * 2
  ·have hr : r ≠ 0:=by omega
   rw [if_pos c,if_pos (show d < r * 2 ∨ r * 2 = d ∧ q % 2 = 1 from .inl c),if_pos]; simp [hr]
  ·rw [if_neg c]
   have h1 : r * 2 = d:=by omega
   have h2 : r ≠ 0:=by omega
   by_cases o : q % 2 = 1
   ·rw [if_pos (show d < r * 2 ∨ r * 2 = d ∧ q % 2 = 1 from .inr ⟨h1,o⟩),if_pos]; simp [h2,o]
   ·rw [if_neg (by omega : ¬ (d < r * 2 ∨ r * 2 = d ∧ q % 2 = 1)),if_neg]; simp [o]
end Go.Proofs.YtlbokicainimnaaGreatDoor
