/- Parts Ra, Jo of the proof, in one text. -/
import Derived.Test.YtlffojopfilfeaaGreatDoorRQC
import Derived.Test.YtlffojopfilfeaaGreatDoorRQD
import Derived.Lib.Hide

/- Walks: the references of layer 1 (quadrilleref01) that only look at the bits. -/
namespace Go.Proofs.YtlffojopfilfeaaGreatDoor
open Go.RowKit

@[go_sem] theorem w_nan (b : Nat) : decide ((9218868437227405312 : Int) < ((absB b : Nat) : Int)) = nanB b := by unfold nanB; rw [decide_eq_decide]; omega
@[go_sem] theorem w_fin (b : Nat) : decide (((absB b : Nat) : Int) < (9218868437227405312 : Int)) = finB b := by unfold finB; rw [decide_eq_decide]; omega
@[go_sem] theorem w_inf (b : Nat) : (((absB b : Nat) : Int) == (9218868437227405312 : Int)) = infB b := by unfold infB; rw [Bool.eq_iff_iff]; simp; omega
@[go_sem] theorem w_zero (b : Nat) : (((absB b : Nat) : Int) == (0 : Int)) = zeroB b := by unfold zeroB; rw [Bool.eq_iff_iff]; simp
@[go_sem] theorem w_low (b : Nat) : decide (((absB b : Nat) : Int) ≤ (4503599627370495 : Int)) = lowB b := by unfold lowB; rw [decide_eq_decide]; omega
@[go_sem] theorem w_sgn (b : Nat) : (((sgnW b : Nat) : Int) != (0 : Int)) = sgnB b := by unfold sgnW; cases sgnB b <;> rfl

@[go_sem] theorem w_pinf (b : Nat) : ((b : Int) == (9218868437227405312 : Int)) = pinfB b := by unfold pinfB; rw [Bool.eq_iff_iff]; simp; omega
@[go_sem] theorem pinf_abs (b : Nat) : pinfB (absB b) = infB b := rfl
@[go_sem] theorem w_ninf (b : Nat) : ((b : Int) == (18442240474082181120 : Int)) = ninfB b := by unfold ninfB; rw [Bool.eq_iff_iff]; simp; omega
end Go.Proofs.YtlffojopfilfeaaGreatDoor

/- Walks: Join and Unit, the program's and the reference's. -/
namespace Go.Proofs.YtlffojopfilfeaaGreatDoor
open Go.RowKit

theorem join_zero (neg : Bool) (e : Int) (w : World) :
    Calls Tryz.prog 64 #[.bool neg, .int .u64 (0 : Nat), .int .i64 e] w fun e' w' => e' = .returned (.tuple #[.float .f64 (sgW neg), .int .i64 0]) ∧ w = w' := by
  have h0 : W64 0 := by unfold W64; decide
  have h1 : W64 4607182418800017408 := by unfold W64; decide
  have h2 : W64 13830554455654793216 := by unfold W64; decide
  cases neg
  all_goals
    go_enter Tryz.func64, Tryz.ntmps64
    go_wp2_with (go_at_call 91; refine (copysign_any _ _ _ (by assumption) (by assumption)).mono ?_; rintro e w' ⟨rfl, rfl⟩)
    go_ret2
    exact ⟨rfl, rfl⟩
theorem join_ok (neg : Bool) (m : Nat) (e : Int) (w : World) (hm : W64 m) (h0 : m ≠ 0) (hT : TabW w) (hb : ¬ joBad m e) :
    Calls Tryz.prog 64 #[.bool neg, .int .u64 m, .int .i64 e] w fun e' w' => e' = .returned (.tuple #[.float .f64 (sgW neg + Ieee.double.nearest false (joO m) (e + joZ m)), .int .i64 0]) ∧ w = w' := by
  obtain ⟨p1, p2, p3, p4⟩ := join_parts m hm h0
  have hn : ((m : Int) == 0) = false := by simp; omega
  unfold joBad at hb
  have hl := blen_le (n := joO m) (k := 64) (by unfold W64 at hm; omega)
  have b1 : ¬ 2000 < e := by omega
  have b2 : ¬ e < -2000 := by omega
  have b3 : ¬ (53 : Int) < blen (joO m) := by omega
  have b4 : ¬ e + joZ m < -1074 := by omega
  have b5 : ¬ 1023 < e + joZ m + blen (joO m) - 1 := by omega
  have hO : (m : Int) / 2^(joZ m) = (joO m : Nat) := by unfold joO; simp
  have p3' : (joZ m : Int) ≤ 63 := by omega
  have p5 : W64 (joO m) := by unfold W64 at *; omega
  have p6 : joO m ≤ 9007199254740992 := by
    have := blen_pos (n := joO m) (by omega)
    have : 2^(blen (joO m)) ≤ 2^53 := Nat.pow_le_pow_right (by omega) (by omega)
    omega
  have p7 := nearest_le (joO m) (e + joZ m)
  have p8 : W64 (Ieee.double.nearest false (joO m) (e + joZ m)) := by unfold W64; omega
  have p9 : absB (Ieee.double.nearest false (joO m) (e + joZ m)) = Ieee.double.nearest false (joO m) (e + joZ m) := by unfold absB; omega
  have q1 : W64 4607182418800017408 := by unfold W64; decide
  have q2 : W64 13830554455654793216 := by unfold W64; decide
  have b6 : -1000000 ≤ e + joZ m := by omega
  have b7 : e + joZ m ≤ 1000000 := by omega
  clear hb p1 p2 p4 p7 hl
  cases neg
  all_goals
    go_enter Tryz.func64, Tryz.ntmps64
    go_wp2_with (go_at_call 92; refine (tz_any _ _ hm h0 hT).mono ?_; rintro e w' ⟨rfl, rfl⟩)
    refine (len_any _ _ p5).mono ?_; rintro e w' ⟨rfl, rfl⟩
    go_wp2_with fail
    refine (ldexp_any _ _ _ p6 b6 b7).mono ?_; rintro e w' ⟨rfl, rfl⟩
    go_wp2_with fail
    refine (copysign_any _ _ _ p8 (by assumption)).mono ?_; rintro e w' ⟨rfl, rfl⟩
    go_wp2_with fail
    go_ret2
    exact ⟨rfl, rfl⟩
theorem join_bad (neg : Bool) (m : Nat) (e : Int) (w : World) (hm : W64 m) (h0 : m ≠ 0) (hT : TabW w) (hb : joBad m e) (he1 : -9223372036854775808 ≤ e) (he2 : e ≤ 9223372036854775807) :
    Calls Tryz.prog 64 #[.bool neg, .int .u64 m, .int .i64 e] w fun e' w' => e' = .returned (.tuple #[.float .f64 0, .int .i64 11]) ∧ w = w' := by
  obtain ⟨p1, p2, p3, p4⟩ := join_parts m hm h0
  have hn : ((m : Int) == 0) = false := by simp; omega
  unfold joBad at hb
  have hl := blen_le (n := joO m) (k := 64) (by unfold W64 at hm; omega)
  have hl' : (blen (joO m) : Int) ≤ 64 := by omega
  have hO : (m : Int) / 2^(joZ m) = (joO m : Nat) := by unfold joO; simp
  have p3' : (joZ m : Int) ≤ 63 := by omega
  have p5 : W64 (joO m) := by unfold W64 at *; omega
  clear p1 p2 p4 hl
  by_cases b1 : 2000 < e
  · clear hb
    cases neg
    all_goals
      go_enter Tryz.func64, Tryz.ntmps64
      go_wp2_with (go_at_call 92; refine (tz_any _ _ hm h0 hT).mono ?_; rintro e w' ⟨rfl, rfl⟩)
      refine (len_any _ _ p5).mono ?_; rintro e w' ⟨rfl, rfl⟩
      go_wp2_with fail
      go_ret2
      exact ⟨rfl, rfl⟩
  by_cases b2 : e < -2000
  · clear hb
    cases neg
    all_goals
      go_enter Tryz.func64, Tryz.ntmps64
      go_wp2_with (go_at_call 92; refine (tz_any _ _ hm h0 hT).mono ?_; rintro e w' ⟨rfl, rfl⟩)
      refine (len_any _ _ p5).mono ?_; rintro e w' ⟨rfl, rfl⟩
      go_wp2_with fail
      go_ret2
      exact ⟨rfl, rfl⟩
  have b1' : e ≤ 2000 := by omega
  have b2' : -2000 ≤ e := by omega
  by_cases b3 : (53 : Int) < blen (joO m)
  · clear hb
    cases neg
    all_goals
      go_enter Tryz.func64, Tryz.ntmps64
      go_wp2_with (go_at_call 92; refine (tz_any _ _ hm h0 hT).mono ?_; rintro e w' ⟨rfl, rfl⟩)
      refine (len_any _ _ p5).mono ?_; rintro e w' ⟨rfl, rfl⟩
      go_wp2_with fail
      go_ret2
      exact ⟨rfl, rfl⟩
  by_cases b4 : e + joZ m < -1074
  · clear hb
    cases neg
    all_goals
      go_enter Tryz.func64, Tryz.ntmps64
      go_wp2_with (go_at_call 92; refine (tz_any _ _ hm h0 hT).mono ?_; rintro e w' ⟨rfl, rfl⟩)
      refine (len_any _ _ p5).mono ?_; rintro e w' ⟨rfl, rfl⟩
      go_wp2_with fail
      go_ret2
      exact ⟨rfl, rfl⟩
  have b5 : 1023 < e + joZ m + blen (joO m) - 1 := by omega
  clear hb
  cases neg
  all_goals
    go_enter Tryz.func64, Tryz.ntmps64
    go_wp2_with (go_at_call 92; refine (tz_any _ _ hm h0 hT).mono ?_; rintro e w' ⟨rfl, rfl⟩)
    refine (len_any _ _ p5).mono ?_; rintro e w' ⟨rfl, rfl⟩
    go_wp2_with fail
    go_ret2
    exact ⟨rfl, rfl⟩
theorem join_any (neg : Bool) (m : Nat) (e : Int) (w : World) (hm : W64 m) (hT : TabW w) (he1 : -9223372036854775808 ≤ e) (he2 : e ≤ 9223372036854775807) :
    Calls Tryz.prog 64 #[.bool neg, .int .u64 m, .int .i64 e] w fun e' w' => e' = .returned (.tuple #[.float .f64 (joinB neg m e), .int .i64 (joinX m e)]) ∧ w = w' := by
  unfold joinB joinX
  by_cases z : m = 0
  · rw [if_pos z, if_pos z]; subst z; exact join_zero neg e w
  · rw [if_neg z, if_neg z]
    by_cases b : joBad m e
    · rw [if_pos b, if_pos b]; exact join_bad neg m e w hm z hT b he1 he2
    · rw [if_neg b, if_neg b]; exact join_ok neg m e w hm z hT b
end Go.Proofs.YtlffojopfilfeaaGreatDoor
