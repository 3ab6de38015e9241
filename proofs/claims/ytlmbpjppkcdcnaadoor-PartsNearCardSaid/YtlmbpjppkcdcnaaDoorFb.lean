/- What follows of layer 1: there and back, neighbours, steps, the order. Plain mathematics. -/
import Derived.Test.YtlmbpjppkcdcnaaDoorFs
namespace Go.Proofs.YtlmbpjppkcdcnaaDoor
open Ieee

theorem oneB_W (a : Nat) (h : W64 a) : W64 (oneB a) := by unfold oneB; split; (unfold W64 theNaN; decide); exact h
theorem oneB_nan (a : Nat) : nanB (oneB a) = true → oneB a = theNaN := by
  unfold oneB; intro h; split
  · rfl
  · rename_i c; rw [if_neg c] at h; exact absurd h c

theorem key_at (k : Int) (h1 : -9218868437227405313 ≤ k) (h2 : k ≤ 9218868437227405312) : keyB (atB k) = k ∧ nanB (atB k) = false ∧ W64 (atB k) := by
  have hw : W64 (atB k) := by unfold W64 atB; split <;> omega
  have hn : nanB (atB k) = false := by unfold nanB absB atB; simp; split <;> omega
  refine ⟨?_, hn, hw⟩
  unfold keyB
  rw [hn, if_neg (by decide)]
  unfold sgnB absB atB
  by_cases c : k < 0
  · rw [if_pos c, if_pos (by simp)]; omega
  · rw [if_neg c, if_neg (by simp; omega)]; omega
theorem at_key (b : Nat) (hb : W64 b) (hn : nanB b = false) : atB (keyB b) = b := by
  unfold keyB
  rw [hn, if_neg (by decide)]
  unfold W64 at hb
  by_cases c : 9223372036854775808 ≤ b
  · have e1 : sgnB b = true := by unfold sgnB; simpa using c
    rw [e1, if_pos rfl]
    unfold atB absB
    rw [if_pos (by omega)]; omega
  · have e1 : sgnB b = false := by unfold sgnB; simpa using c
    rw [e1, if_neg (by decide)]
    unfold atB absB
    rw [if_neg (by omega)]; omega
theorem key_nan (b : Nat) (h : nanB b = true) : keyB b = 9223372036854775807 := by unfold keyB; rw [if_pos h]
theorem key_range (b : Nat) (h : nanB b = false) : -9218868437227405313 ≤ keyB b ∧ keyB b ≤ 9218868437227405312 := by
  unfold nanB at h; simp at h
  unfold keyB nanB sgnB; simp only [decide_eq_true_eq]; unfold absB at *
  split <;> (try split) <;> omega
theorem key_inj (a b : Nat) (ha : W64 a) (hb : W64 b) (na : nanB a = true → a = theNaN) (nb : nanB b = true → b = theNaN) (h : keyB a = keyB b) : a = b := by
  cases h1 : nanB a <;> cases h2 : nanB b
  · rw [← at_key a ha h1, ← at_key b hb h2, h]
  · have := key_nan b h2; have := key_range a h1; omega
  · have := key_nan a h1; have := key_range b h2; omega
  · rw [na h1, nb h2]

theorem cls_finB (b : Nat) : decide (2 < clsB b) = finB b := by
  rw [finB_eq]; unfold clsB
  cases nanB b <;> cases infB b <;> cases zeroB b <;> cases lowB b <;> rfl
theorem spX_finB (b : Nat) : (spX b == 0) = finB b := by
  rw [finB_eq]; unfold spX
  cases nanB b <;> cases infB b <;> rfl
theorem cls_nan (b : Nat) : (clsB b == 1) = nanB b := by
  unfold clsB
  cases nanB b <;> cases infB b <;> cases zeroB b <;> cases lowB b <;> rfl

/-- Join of Split. -/
theorem join_split (b : Nat) (hb : W64 b) (h : finB b = true) : joinB (spS b) (spM b) (spE b) = b ∧ joinX (spM b) (spE b) = 0 ∧ spM b < 9007199254740992 := by
  have hs := split_B b hb
  have hsg : sgW (sgnB b) = sgnW b := rfl
  have hfl := fracB_lt b
  cases hl : lowB b
  · obtain ⟨e1, e2, e3, e4, e5⟩ := sp_norm b h hl
    have e5 : expB b ≠ 0 := by simpa using e5
    have hm : spM b ≠ 0 := by rw [e2]; unfold mantB; omega
    obtain ⟨p1, p2, p3, p4⟩ := join_parts (spM b) (spM_W b) hm
    have hexp := expB_le b
    have hfin : absB b < 9218868437227405312 := by unfold finB at h; simpa using h
    have hlo : 4503599627370496 ≤ spM b := by rw [e2]; unfold mantB; omega
    have hhi : spM b < 9007199254740992 := by rw [e2]; unfold mantB; omega
    have hle : spE b ≤ 971 := by rw [e3]; unfold expB absB at *; omega
    obtain ⟨j1, j2⟩ := join_ref_ok (spS b) (spM b) (spE b) (spM_W b) hm (spM b) (joZ (spM b)) (spE b) p1 (by omega) (.inl hlo)
      (by
        by_cases z : joZ (spM b) = 0
        · exact .inl z
        · refine .inr ⟨?_, (spE_lo b).1⟩
          have : joO (spM b) * 2^joZ (spM b) = 2 * (joO (spM b) * 2^(joZ (spM b) - 1)) := by
            conv => lhs; rw [show joZ (spM b) = joZ (spM b) - 1 + 1 from by omega, Nat.pow_succ]
            rw [← Nat.mul_assoc, Nat.mul_comm]
          omega) (by have := (spE_lo b).1; omega)
    refine ⟨?_, j2, hhi⟩
    rw [j1, e1, hsg]
    conv => rhs; rw [hs]
    congr 1
    rw [e3, e2]
    unfold mantB fracB expB absB at *; omega
  · cases hz : zeroB b
    · obtain ⟨e1, e2, e3, e4, e5, e6⟩ := sp_sub b h hl hz
      have e6 : fracB b ≠ 0 := by simpa using e6
      have hm : spM b ≠ 0 := by rw [e2]; exact e6
      obtain ⟨p1, p2, p3, p4⟩ := join_parts (spM b) (spM_W b) hm
      have hhi : spM b < 4503599627370496 := by rw [e2]; exact hfl
      obtain ⟨j1, j2⟩ := join_ref_ok (spS b) (spM b) (spE b) (spM_W b) hm (spM b) (joZ (spM b)) (spE b) p1 (by omega) (.inr (by omega))
        (by
          by_cases z : joZ (spM b) = 0
          · exact .inl z
          · refine .inr ⟨?_, (spE_lo b).1⟩
            have : joO (spM b) * 2^(joZ (spM b) - 1) ≤ joO (spM b) * 2^joZ (spM b) := Nat.mul_le_mul_left _ (Nat.pow_le_pow_right (by decide) (by omega))
            omega) (by omega)
      refine ⟨?_, j2, by omega⟩
      rw [j1, e1, hsg]
      conv => rhs; rw [hs]
      congr 1
      rw [e3, e2]
      unfold lowB absB at hl; simp at hl
      unfold fracB absB; omega
    · obtain ⟨e1, e2, e3, e4, e5, e6⟩ := sp_nought b h hl hz
      rw [e1, e2, e3]
      refine ⟨?_, rfl, by decide⟩
      unfold joinB; rw [if_pos rfl, hsg]
      have : absB b = 0 := by unfold zeroB at hz; simpa using hz
      omega

/-- The next one is the same just of the NaN and of infinity. -/
theorem next_last (b : Nat) (hone : nanB b = true → b = theNaN) : (keyB (nextB b) == keyB b) = (nanB b || pinfB b) := by
  unfold nextB
  cases n : nanB b
  · cases p : pinfB b
    · obtain ⟨k1, k2⟩ := keyB_next b n p
      obtain ⟨h1, h2, h3⟩ := key_at (keyB b + 1) (by omega) (by omega)
      rw [Bool.or_false, if_neg (by decide), h1]; simp; omega
    · rw [Bool.or_true, if_pos rfl]; unfold oneB; rw [n]; simp
  · rw [Bool.true_or, if_pos rfl]; unfold oneB; rw [n]; simp; rw [hone n]
theorem next_W (b : Nat) (hb : W64 b) : W64 (nextB b) := by
  unfold nextB
  cases n : nanB b
  · cases p : pinfB b
    · obtain ⟨k1, k2⟩ := keyB_next b n p
      exact (key_at (keyB b + 1) (by omega) (by omega)).2.2
    · exact oneB_W b hb
  · exact oneB_W b hb
theorem next_not (b : Nat) (hb : W64 b) (h : (nanB b || pinfB b) = false) : prevB (nextB b) = b ∧ stepsN b (nextB b) = 1 ∧ stepsX b (nextB b) = 0 ∧ nanB (nextB b) = false ∧ keyB (nextB b) = keyB b + 1 := by
  have n : nanB b = false := by revert h; cases nanB b <;> simp
  have p : pinfB b = false := by revert h; cases pinfB b <;> simp
  obtain ⟨k1, k2⟩ := keyB_next b n p
  obtain ⟨h1, h2, h3⟩ := key_at (keyB b + 1) (by omega) (by omega)
  have e : nextB b = atB (keyB b + 1) := by unfold nextB; rw [n, p]; rfl
  rw [e]
  obtain ⟨c1, c2⟩ := rst_core b (atB (keyB b + 1)) n h2
  refine ⟨?_, ?_, ?_, h2, h1⟩
  · unfold prevB
    have : ninfB (atB (keyB b + 1)) = false := by
      unfold ninfB; simp only [decide_eq_false_iff_not]
      intro e
      rw [e] at h1
      have : keyB 18442240474082181120 = -9218868437227405313 := by decide
      omega
    rw [h2, this, if_neg (by decide), h1, show keyB b + 1 - 1 = keyB b from by omega, at_key b hb n]
  · rw [c1, h1, if_neg (by omega)]; omega
  · rw [c2, h1, if_neg (by omega)]

theorem steps_ok (a b : Nat) (h : stepsX a b = 0) : nanB a = false ∧ nanB b = false ∧ stepsN a b = keyB b - keyB a ∧ -9223372036854775808 ≤ keyB b - keyB a ∧ keyB b - keyB a ≤ 9223372036854775807 := by
  unfold stepsX at h
  by_cases c : (nanB a || nanB b) = true
  · rw [if_pos c] at h; cases h
  · have na : nanB a = false := by revert c; cases nanB a <;> simp
    have nb : nanB b = false := by revert c; cases nanB b <;> simp
    obtain ⟨c1, c2⟩ := rst_core a b na nb
    rw [if_neg c] at h
    by_cases d : 9223372036854775807 < keyB b - keyB a ∨ keyB b - keyB a < -9223372036854775808
    · rw [if_pos d] at h; cases h
    · rw [if_neg d] at c1; exact ⟨na, nb, c1, by omega, by omega⟩
theorem steps_add (a b c : Nat) (h1 : stepsX a b = 0) (h2 : stepsX b c = 0) (h3 : stepsX a c = 0) : Go.RowKit.wrap64 (stepsN a b + stepsN b c) = stepsN a c := by
  obtain ⟨_, _, e1, _, _⟩ := steps_ok a b h1
  obtain ⟨_, _, e2, _, _⟩ := steps_ok b c h2
  obtain ⟨_, _, e3, _, _⟩ := steps_ok a c h3
  rw [e1, e2, e3]; unfold Go.RowKit.wrap64; omega
theorem steps_order (a b : Nat) (h1 : stepsX a b = 0) : (decide (0 < stepsN a b) != decide (orderB a b < 0)) = false := by
  obtain ⟨_, _, e1, _, _⟩ := steps_ok a b h1
  rw [e1]; unfold orderB
  have : decide (0 < keyB b - keyB a) = decide ((if keyB a < keyB b then (-1 : Int) else if keyB b < keyB a then 1 else 0) < 0) := by
    rw [decide_eq_decide]; split <;> (try split) <;> omega
  rw [this]; simp
theorem order_opp (a b : Nat) : orderB a b = -orderB b a := by unfold orderB; split <;> (try split) <;> (try split) <;> omega
theorem order_trans (a b c : Nat) (h1 : orderB a b ≤ 0) (h2 : orderB b c ≤ 0) : orderB a c ≤ 0 := by
  unfold orderB at *; revert h1 h2; (repeat' split) <;> omega
theorem order_eq (a b : Nat) (h : orderB a b = 0) : keyB a = keyB b := by
  unfold orderB at h; revert h; (repeat' split) <;> omega
theorem order_range (a b : Nat) : -1 ≤ orderB a b ∧ orderB a b ≤ 1 := by
  unfold orderB; split <;> (try split) <;> omega

/-- The value of the one that stands ahead is no greater. -/
theorem lt_order (x y : Nat) (hx : W64 x) (hy : W64 y) (h : (Go.FloatKind.f64.format.order x y == some Ordering.lt) = true) : orderB x y < 0 := by
  have h : (Ieee.double.order x y == some Ordering.lt) = true := h
  cases nx : nanB x
  · cases ny : nanB y
    · rw [ord_D x y hx hy nx ny] at h
      have hv : valB x < valB y := by simpa [Int.compare_eq_lt] using h
      have : keyB x < keyB y := by
        have ax := absB_lt x
        have ay := absB_lt y
        have lt : ∀ u v, rv 52 u < rv 52 v → u < v := fun u v h => rv_lt_iff.1 h
        unfold keyB
        unfold valB at hv
        rw [nx, ny]
        cases sx : sgnB x <;> cases sy : sgnB y <;> rw [sx, sy] at hv <;> simp only [if_true, if_false, Bool.false_eq_true] at hv ⊢
        · have := lt (absB x) (absB y) (by omega); omega
        · omega
        · omega
        · have := lt (absB y) (absB x) (by omega); omega
      unfold orderB; rw [if_pos this]; decide
    · rw [ord_D_nan_right x y ny] at h; cases h
  · rw [ord_D_nan_left x y nx] at h; cases h
end Go.Proofs.YtlmbpjppkcdcnaaDoor
