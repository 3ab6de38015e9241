/- Parts Ra, Mo of the proof, in one text. -/
import Derived.Test.YtgfbcncjboenbaaGreatDoorRQC
import Derived.Test.YtgfbcncjboenbaaGreatDoorRQD
import Derived.Lib.Hide
import Derived.Test.YtgfbcncjboenbaaGreatDoorRQA
import Derived.Test.YtgfbcncjboenbaaGreatDoorRMA

/- Walks: the references of layer 1 (quadrilleref01) that only look at the bits. -/
namespace Go.Proofs.YtgfbcncjboenbaaGreatDoor
open Go.RowKit

@[go_sem] theorem w_nan (b : Nat) : decide ((9218868437227405312 : Int) < ((absB b : Nat) : Int)) = nanB b := by unfold nanB; rw [decide_eq_decide]; omega
@[go_sem] theorem w_fin (b : Nat) : decide (((absB b : Nat) : Int) < (9218868437227405312 : Int)) = finB b := by unfold finB; rw [decide_eq_decide]; omega
@[go_sem] theorem w_inf (b : Nat) : (((absB b : Nat) : Int) == (9218868437227405312 : Int)) = infB b := by unfold infB; rw [Bool.eq_iff_iff]; simp; omega
@[go_sem] theorem w_zero (b : Nat) : (((absB b : Nat) : Int) == (0 : Int)) = zeroB b := by unfold zeroB; rw [Bool.eq_iff_iff]; simp
@[go_sem] theorem w_low (b : Nat) : decide (((absB b : Nat) : Int) ≤ (4503599627370495 : Int)) = lowB b := by unfold lowB; rw [decide_eq_decide]; omega
@[go_sem] theorem w_sgn (b : Nat) : (((sgnW b : Nat) : Int) != (0 : Int)) = sgnB b := by unfold sgnW; cases sgnB b <;> rfl

@[go_sem] theorem w_pinf (b : Nat) : ((b : Int) == (9218868437227405312 : Int)) = pinfB b := by unfold pinfB; rw [Bool.eq_iff_iff]; simp; omega
@[go_sem] theorem pinf_abs (b : Nat) : pinfB (absB b) = infB b := rfl
@[go_sem] theorem w_ninf (b : Nat) : ((b : Int) == (18442240474082181120 : Int)) = ninfB b := by unfold ninfB; rw [Bool.eq_iff_iff]; simp; omega
end Go.Proofs.YtgfbcncjboenbaaGreatDoor

/- Walks: the reference's kind of numbers, and the bits of a float. -/
namespace Go.Proofs.YtgfbcncjboenbaaGreatDoor
open Go.RowKit

theorem kind_row {fn : Func} {p : Tmp} (h : fn.results = #[.cell p 164]) (tmps : Array Value) (w : World) (g : Nat) (a b c : Value)
    (hp : tmps.getD p undef = .pointer (some ⟨g, 0, none⟩)) (hg : w.heap[g]? = some (.cells #[a, b, c] 164 (0, 0))) : (results fn tmps).run Tryz.prog w = .ok (.agg #[a, b, c]) w :=
  results_cell_row h tmps w g _ _ _ _ hp hg Tryz.underlying164 rfl (by kernel_rfl)

end Go.Proofs.YtgfbcncjboenbaaGreatDoor
