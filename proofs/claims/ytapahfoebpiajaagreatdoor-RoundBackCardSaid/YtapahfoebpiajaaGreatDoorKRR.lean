/- Parts Ra, Jo, Bf of the proof, in one text. -/
import Derived.Test.YtapahfoebpiajaaGreatDoorKQC
import Derived.Test.YtapahfoebpiajaaGreatDoorKQD
import Derived.Lib.Hide
import Derived.Test.YtapahfoebpiajaaGreatDoorKQA
import Derived.Test.YtapahfoebpiajaaGreatDoorRows
import Derived.Test.YtapahfoebpiajaaGreatDoorKQE
import Derived.BigRegion
import Derived.Test.YtapahfoebpiajaaGreatDoorKAN

/- Walks: the references of layer 1 (quadrilleref01) that only look at the bits. -/
namespace Go.Proofs.YtapahfoebpiajaaGreatDoor
open Go.RowKit

@[go_sem] theorem w_nan (b : Nat) : decide ((9218868437227405312 : Int) < ((absB b : Nat) : Int)) = nanB b := by unfold nanB; rw [decide_eq_decide]; omega
@[go_sem] theorem w_fin (b : Nat) : decide (((absB b : Nat) : Int) < (9218868437227405312 : Int)) = finB b := by unfold finB; rw [decide_eq_decide]; omega
@[go_sem] theorem w_inf (b : Nat) : (((absB b : Nat) : Int) == (9218868437227405312 : Int)) = infB b := by unfold infB; rw [Bool.eq_iff_iff]; simp; omega
@[go_sem] theorem w_zero (b : Nat) : (((absB b : Nat) : Int) == (0 : Int)) = zeroB b := by unfold zeroB; rw [Bool.eq_iff_iff]; simp
@[go_sem] theorem w_low (b : Nat) : decide (((absB b : Nat) : Int) ≤ (4503599627370495 : Int)) = lowB b := by unfold lowB; rw [decide_eq_decide]; omega
@[go_sem] theorem w_sgn (b : Nat) : (((sgnW b : Nat) : Int) != (0 : Int)) = sgnB b := by unfold sgnW; cases sgnB b <;> rfl

@[go_sem] theorem w_pinf (b : Nat) : ((b : Int) == (9218868437227405312 : Int)) = pinfB b := by unfold pinfB; rw [Bool.eq_iff_iff]; simp; omega
@[go_sem] theorem pinf_abs (b : Nat) : pinfB (absB b) = infB b := rfl
@[go_sem] theorem w_ninf (b : Nat) : ((b : Int) == (18442240474082181120 : Int)) = ninfB b := by unfold ninfB; rw [Bool.eq_iff_iff]; simp; omega
theorem ref_finite (b : Nat) (w : World) (hb : W64 b) :
    Calls Tryz.prog 31 #[.int .u64 b] w fun e w' => e = .returned (.bool (finB b)) ∧ w = w' := by
  go_enter Tryz.func31, Tryz.ntmps31
  go_wp2
  go_ret
  exact ⟨rfl, rfl⟩
theorem ref_split (b : Nat) (w : World) (hb : W64 b) :
    Calls Tryz.prog 67 #[.int .u64 b] w fun e w' => e = .returned (.tuple #[.bool (spS b), .int .u64 (spM b), .int .i64 (spE b), .int .i64 (spX b)]) ∧ w = w' := by
  have he := expB_le b
  cases hf : finB b
  · obtain ⟨e1, e2, e3, e4⟩ := sp_not b hf
    rw [e1, e2, e3, e4]; clear e1 e2 e3 e4
    go_enter Tryz.func67, Tryz.ntmps67
    go_wp2_with (go_at_call 31; refine (ref_finite _ _ (by assumption)).mono ?_; rintro e w' ⟨rfl, rfl⟩)
    (try simp only [Exit.inBlock, Exit.then])
    exact bodyPost_ret (results_tmp4 rfl _ _ _) rfl ⟨rfl, rfl⟩
  cases hl : lowB b
  · obtain ⟨e1, e2, e3, e4, hx⟩ := sp_norm b hf hl
    rw [e1, e2, e3, e4]; clear e1 e2 e3 e4
    go_enter Tryz.func67, Tryz.ntmps67
    go_wp2_with (go_at_call 31; refine (ref_finite _ _ (by assumption)).mono ?_; rintro e w' ⟨rfl, rfl⟩)
    (try simp only [Exit.inBlock, Exit.then])
    exact bodyPost_ret (results_tmp4 rfl _ _ _) rfl ⟨rfl, rfl⟩
  cases hz : zeroB b
  · obtain ⟨e1, e2, e3, e4, hx, hy⟩ := sp_sub b hf hl hz
    rw [e1, e2, e3, e4]; clear e1 e2 e3 e4
    go_enter Tryz.func67, Tryz.ntmps67
    go_wp2_with (go_at_call 31; refine (ref_finite _ _ (by assumption)).mono ?_; rintro e w' ⟨rfl, rfl⟩)
    (try simp only [Exit.inBlock, Exit.then])
    exact bodyPost_ret (results_tmp4 rfl _ _ _) rfl ⟨rfl, rfl⟩
  · obtain ⟨e1, e2, e3, e4, hx, hy⟩ := sp_nought b hf hl hz
    rw [e1, e2, e3, e4]; clear e1 e2 e3 e4
    go_enter Tryz.func67, Tryz.ntmps67
    go_wp2_with (go_at_call 31; refine (ref_finite _ _ (by assumption)).mono ?_; rintro e w' ⟨rfl, rfl⟩)
    (try simp only [Exit.inBlock, Exit.then])
    exact bodyPost_ret (results_tmp4 rfl _ _ _) rfl ⟨rfl, rfl⟩
end Go.Proofs.YtapahfoebpiajaaGreatDoor

/- Walks: Join and Unit, the program's and the reference's. -/
namespace Go.Proofs.YtapahfoebpiajaaGreatDoor
open Go.RowKit

/-- What the loops keep. -/
def JoDown (m : Nat) (e : Int) (v u : Value) : Prop := ∃ (i M : Nat) (E : Int), v = .int .u64 M ∧ u = .int .i64 E ∧ M = joO m * 2^i ∧ E = e + joZ m - i ∧ i ≤ joZ m
end Go.Proofs.YtapahfoebpiajaaGreatDoor

/- Walks: the document's bits of what is rounded. -/
namespace Go.Proofs.YtapahfoebpiajaaGreatDoor
open Go.RowKit

theorem bits64_fin (neg : Bool) {o : Out} (h : o.inf = false) : bits64 neg o = sgW neg + ((o.e - -1074).toNat * 4503599627370496 + o.m) := by
  have hr : o.rung 53 (-1074) 971 = (o.e - -1074).toNat * 4503599627370496 + o.m := by
    unfold Out.rung
    rw [if_neg (by rw [h]; decide)]
  unfold bits64 sgW
  rw [hr]
end Go.Proofs.YtapahfoebpiajaaGreatDoor
