import Derived.Test.YtlbokicainimnaaGreatDoorQMN
import Derived.Test.YtlbokicainimnaaGreatDoorQAA
namespace Go.Proofs.YtlbokicainimnaaGreatDoor
open Go.RowKit
theorem ratMag_half (M D : Nat) (E e : Int) : (ratMag M D E).H e = -1 ∨ (ratMag M D E).H e = 0 ∨ (ratMag M D E).H e = 1:=ncmp_cases _ _
end Go.Proofs.YtlbokicainimnaaGreatDoor
set_option maxRecDepth 100000
namespace Go.Proofs.YtlbokicainimnaaGreatDoor
open Go.RowKit
theorem cellA_lt {w : World} {g o : Nat} {v : Value} (h : w.cell? ⟨g,o,none⟩ = some v) : g < w.heap.size:=by
 refine Decidable.byContradiction fun hc=>?_
 have : w.heap[g]? = none:=Array.getElem?_eq_none (by omega)
 simp [World.cell?,this] at h
def waysV (g1 g2 : Nat) : Value:=.agg #[.nilFunc,.func (.func 222) #[] #[],.func (.func 223) #[] #[],.func (.func 221) #[] #[.pointer (some ⟨g1,0,none⟩)],.func (.func 221) #[] #[.pointer (some ⟨g2,0,none⟩)],
 .func (.func 224) #[] #[],.func (.func 225) #[] #[]]
theorem side_v (b : Bool) (w : World) : Calls Tryz.prog 220 #[.bool b] w fun e w'=>e = .returned (.func (.func 221) #[] #[.pointer (some ⟨w.heap.size,0,none⟩)]) ∧ w' = w.alloc (.cells #[.bool b] 4):=by
 have hmf : ∀ (fn : Fn) (first cap : Array Value) (w : World),(Instr.makeFunc fn first cap).run Tryz.prog w = .ok (.func fn first cap) w:=fun _ _ _ _=>rfl
 go_enter Tryz.func220,Tryz.ntmps220
 go_wp2
 go_ret
 exact ⟨rfl,rfl⟩
theorem ways_v (w : World) : Calls Tryz.prog 164 #[] w fun e w'=>∃ g1 g2,e = .returned (waysV g1 g2) ∧ w'.cell? ⟨g1,0,none⟩ = some (.bool false) ∧ w'.cell? ⟨g2,0,none⟩ = some (.bool true) ∧ Below w.heap.size w w':=by
 have HROW : Hid ((((w.alloc (.cells #[.nilFunc,.nilFunc,.nilFunc,.nilFunc,.nilFunc,.nilFunc,.nilFunc] 196)).alloc (.cells #[.bool false] 4)).alloc (.cells #[.bool true] 4)).heap[w.heap.size]? = some (.cells #[.nilFunc,.nilFunc,.nilFunc,.nilFunc,.nilFunc,.nilFunc,.nilFunc] 196 (0,0))):=
  (heap_alloc_old _ _ (by simp; omega)).trans ((heap_alloc_old _ _ (by simp)).trans (heap_alloc_new _ _))
 have HB : Hid (Below w.heap.size w (((w.alloc (.cells #[.nilFunc,.nilFunc,.nilFunc,.nilFunc,.nilFunc,.nilFunc,.nilFunc] 196)).alloc (.cells #[.bool false] 4)).alloc (.cells #[.bool true] 4))):=(((Below.refl _ _).alloc (Nat.le_refl _) _).alloc (by simp) _).alloc (by simp; omega) _
 go_enter Tryz.func164,Tryz.ntmps164
 go_wp2_with (first | (go_at_call 220; with_reducible refine (side_v _ _).mono ?_; rintro e w' ⟨rfl,rfl⟩) | refine wpList_store_row rfl 196 (.tmp 0) (.tmp 6) rfl w.heap.size #[.nilFunc,.func (.func 222) #[] #[],.func (.func 223) #[] #[],.func (.func 221) #[] #[.pointer (some ⟨w.heap.size + 1,0,none⟩)],.func (.func 221) #[] #[.pointer (some ⟨w.heap.size + 1 + 1,0,none⟩)],.func (.func 224) #[] #[],.func (.func 225) #[] #[]] rfl rfl 196 _ HROW.out (by kernel_rfl) rfl (by simp [Value.oneCell']) ?_)
 refine bodyPost_ret (results_cell_row rfl _ _ w.heap.size 196 _ _ _ rfl (setRow_heap _ _ _ _ _ _ HROW.out) Tryz.underlying196 rfl (by kernel_rfl)) rfl ⟨w.heap.size + 1,w.heap.size + 1 + 1,rfl,?_,?_,below_setRow HB.out (Nat.le_refl _) _⟩
 ·have h1 : (((w.alloc (.cells #[.nilFunc, .nilFunc, .nilFunc, .nilFunc, .nilFunc, .nilFunc, .nilFunc] 196)).alloc (.cells #[.bool false] 4)).alloc (.cells #[.bool true] 4)).heap[w.heap.size + 1]? = some (.cells #[.bool false] 4 (0, 0)) :=
   (heap_alloc_old _ _ (by simp)).trans (by have:=heap_alloc_new (w.alloc (.cells #[.nilFunc,.nilFunc,.nilFunc,.nilFunc,.nilFunc,.nilFunc,.nilFunc] 196)) (.cells #[.bool false] 4); simpa using this)
  exact cell_of_row _ _ 0 _ _ _ ((setRow_other _ _ _ _ (by omega)).trans h1)
 ·have h1 : (((w.alloc (.cells #[.nilFunc, .nilFunc, .nilFunc, .nilFunc, .nilFunc, .nilFunc, .nilFunc] 196)).alloc (.cells #[.bool false] 4)).alloc (.cells #[.bool true] 4)).heap[w.heap.size + 1 + 1]? = some (.cells #[.bool true] 4 (0, 0)) := by
   have:=heap_alloc_new ((w.alloc (.cells #[.nilFunc,.nilFunc,.nilFunc,.nilFunc,.nilFunc,.nilFunc,.nilFunc] 196)).alloc (.cells #[.bool false] 4)) (.cells #[.bool true] 4)
   simpa using this
  exact cell_of_row _ _ 0 _ _ _ ((setRow_other _ _ _ _ (by omega)).trans h1)
def leftV (half : Int) (odd neg : Bool) : Value:=.agg #[.int .i64 half,.bool odd,.bool neg]
theorem way_even (half : Int) (odd neg : Bool) (w : World) (hh : half = -1 ∨ half = 0 ∨ half = 1) : Calls Tryz.prog 222 #[leftV half odd neg] w fun e w'=>e = .returned (.bool (upW 1 neg odd half)) ∧ Below w.heap.size w w':=by
 unfold leftV
 rcases hh with rfl | rfl | rfl
 all_goals
  go_enter Tryz.func222,Tryz.ntmps222
  go_wp2
  go_ret
  exact ⟨by cases odd <;> rfl,(Below.refl _ _).alloc (Nat.le_refl _) _⟩
theorem way_away (half : Int) (odd neg : Bool) (w : World) (hh : half = -1 ∨ half = 0 ∨ half = 1) : Calls Tryz.prog 223 #[leftV half odd neg] w fun e w'=>e = .returned (.bool (upW 2 neg odd half)) ∧ Below w.heap.size w w':=by
 unfold leftV
 rcases hh with rfl | rfl | rfl
 all_goals
  go_enter Tryz.func223,Tryz.ntmps223
  go_wp2
  go_ret
  exact ⟨rfl,(Below.refl _ _).alloc (Nat.le_refl _) _⟩
theorem way_side (half : Int) (odd neg b : Bool) (g : Nat) (w : World) (hc : w.cell? ⟨g,0,none⟩ = some (.bool b)) : Calls Tryz.prog 221 #[leftV half odd neg,.pointer (some ⟨g,0,none⟩)] w fun e w'=>e = .returned (.bool (neg == b)) ∧ Below w.heap.size w w':=by
 unfold leftV
 have h1 : ∀ o,(w.alloc o).cell? ⟨g,0,none⟩ = some (.bool b):=fun o=>by rw [World.cell?_alloc_past _ _ _ (by have:=hc; exact cellA_lt this)]; exact hc
 go_enter Tryz.func221,Tryz.ntmps221
 go_wp2
 go_ret
 exact ⟨rfl,(Below.refl _ _).alloc (Nat.le_refl _) _⟩
theorem way_zero (half : Int) (odd neg : Bool) (w : World) : Calls Tryz.prog 224 #[leftV half odd neg] w fun e w'=>e = .returned (.bool (upW 5 neg odd half)) ∧ Below w.heap.size w w':=by
 unfold leftV
 go_enter Tryz.func224,Tryz.ntmps224
 go_wp2
 go_ret
 exact ⟨rfl,(Below.refl _ _).alloc (Nat.le_refl _) _⟩
theorem way_odd (half : Int) (odd neg : Bool) (w : World) : Calls Tryz.prog 225 #[leftV half odd neg] w fun e w'=>e = .returned (.bool (upW 6 neg odd half)) ∧ Below w.heap.size w w':=by
 unfold leftV
 go_enter Tryz.func225,Tryz.ntmps225
 go_wp2
 go_ret
 exact ⟨rfl,(Below.refl _ _).alloc (Nat.le_refl _) _⟩
end Go.Proofs.YtlbokicainimnaaGreatDoor
namespace Go.Proofs.YtlbokicainimnaaGreatDoor
open Go Go.RowKit
section
variable {P : Program} {Q : Exit → Act → World → Prop}
theorem op_callv {o : Oper} {a : Act} {W : World} {K : Act → World → Prop} (t : Tmp) (f : FuncId) (cap : Array Value) (l : List Operand) (tys : Array TypeId) (ho : o.op = .call { callee := .value (.tmp t), args := l.toArray, argTypes := tys }) (hf : a.eval (.tmp t) = .func (.func f) #[] cap)
  (vl : List Value) (hvs : l.map a.eval = vl) (hcf : (callFunc f (vl.toArray ++ cap)).run P W = .ok (.enter f (vl.toArray ++ cap)) W)
  {R : Ending → World → Prop} (hc : Calls P f (vl.toArray ++ cap) W R) (hk : ∀ e W',R e W' → ∃ v,e = .returned v ∧ K (a.put o.dst v) W') : Oper.wp P o a W K Q:=by
 have hvs' : l.toArray.map a.eval = vl.toArray:=by rw [List.map_toArray,hvs]
 unfold Oper.wp execOp
 simp only [ho,resolve,hvs',hf,Deferred.ofValue]
 go_simp
 refine hc.mono fun e W' h=>?_
 obtain ⟨v,rfl,h2⟩:=hk e W' h
 exact h2
end
def wayF (m : Int) (g1 g2 : Nat) : Value:=
 if m = 1 then .func (.func 222) #[] #[] else if m = 2 then .func (.func 223) #[] #[] else if m = 3 then .func (.func 221) #[] #[.pointer (some ⟨g1,0,none⟩)]
 else if m = 4 then .func (.func 221) #[] #[.pointer (some ⟨g2,0,none⟩)] else if m = 5 then .func (.func 224) #[] #[] else .func (.func 225) #[] #[]
theorem way_index (m : Int) (hm : 1 ≤ m ∧ m ≤ 6) (g1 g2 : Nat) (W : World) : (Instr.index 196 (waysV g1 g2) (.int .i64 m)).run Tryz.prog W = .ok (wayF m g1 g2) W:=by
 rcases (show m = 1 ∨ m = 2 ∨ m = 3 ∨ m = 4 ∨ m = 5 ∨ m = 6 by omega) with rfl | rfl | rfl | rfl | rfl | rfl
 all_goals kernel_rfl
theorem and_one (q : Nat) (h : q < 18446744073709551616) : bits .and .u64 (q : Int) 1 = (q : Int) % 2:=by
 have:=bits_and_u64_nat q 1 h (by decide)
 rw [Nat.and_one_is_mod] at this
 exact this.trans (by omega)
theorem op_way {o : Oper} {a : Act} {W : World} {K : Act → World → Prop} {Q : Exit → Act → World → Prop} (t u : Tmp) (tys : Array TypeId) (ho : o.op = .call { callee := .value (.tmp t), args := #[.tmp u], argTypes := tys }) (m : Int) (hm : 1 ≤ m ∧ m ≤ 6) (g1 g2 : Nat) (half : Int) (odd neg : Bool)
  (hh : half = -1 ∨ half = 0 ∨ half = 1) (hf : a.eval (.tmp t) = wayF m g1 g2) (hu : a.eval (.tmp u) = leftV half odd neg) (hc1 : W.cell? ⟨g1,0,none⟩ = some (.bool false)) (hc2 : W.cell? ⟨g2,0,none⟩ = some (.bool true))
  (hk : ∀ W',Below W.heap.size W W' → K (a.put o.dst (.bool (upW m neg odd half))) W') : Oper.wp Tryz.prog o a W K Q:=by
 have hl : List.map a.eval [.tmp u] = [leftV half odd neg]:=by simp only [List.map,hu]
 have hk2 : ∀ e W',(e = Ending.returned (.bool (upW m neg odd half)) ∧ Below W.heap.size W W') → ∃ v,e = .returned v ∧ K (a.put o.dst v) W':=fun e W' h=>⟨_,h.1,hk W' h.2⟩
 rcases (show m = 1 ∨ m = 2 ∨ m = 3 ∨ m = 4 ∨ m = 5 ∨ m = 6 by omega) with rfl | rfl | rfl | rfl | rfl | rfl
 ·exact op_callv t _ _ [.tmp u] tys ho hf _ hl (by go_simp) (way_even half odd neg W hh) hk2
 ·exact op_callv t _ _ [.tmp u] tys ho hf _ hl (by go_simp) (way_away half odd neg W hh) hk2
 ·refine op_callv t _ _ [.tmp u] tys ho hf _ hl (by go_simp) (way_side half odd neg false g1 W hc1) ?_
  intro e W' h
  refine hk2 e W' ⟨by rw [h.1]; cases neg <;> rfl,h.2⟩
 ·refine op_callv t _ _ [.tmp u] tys ho hf _ hl (by go_simp) (way_side half odd neg true g2 W hc2) ?_
  intro e W' h
  refine hk2 e W' ⟨by rw [h.1]; cases neg <;> rfl,h.2⟩
 ·exact op_callv t _ _ [.tmp u] tys ho hf _ hl (by go_simp) (way_zero half odd neg W) hk2
 ·exact op_callv t _ _ [.tmp u] tys ho hf _ hl (by go_simp) (way_odd half odd neg W) hk2
end Go.Proofs.YtlbokicainimnaaGreatDoor
