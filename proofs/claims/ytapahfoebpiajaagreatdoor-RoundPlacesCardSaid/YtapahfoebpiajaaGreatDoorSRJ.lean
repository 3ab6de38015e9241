/- Parts Sj, Rj, Rl of the proof, in one text. -/
import Derived.Test.YtapahfoebpiajaaGreatDoorSQA
import Derived.Test.YtapahfoebpiajaaGreatDoorSMN

/- The square root: the model's, and the reference's, rounded once. Plain mathematics, no program. -/
namespace Go.Proofs.YtapahfoebpiajaaGreatDoor
open Ieee

theorem sq_lt {a b : Nat} : a * a < b * b ↔ a < b := by
  constructor
  · intro h
    refine Decidable.byContradiction fun hc => ?_
    have := Nat.mul_le_mul (show b ≤ a by omega) (show b ≤ a by omega)
    omega
  · intro h
    exact Nat.mul_lt_mul_of_lt_of_le h (Nat.le_of_lt h) (by omega)

theorem root_from (n : Nat) : ∀ (todo root : Nat), root * root ≤ n → n < (root + 2^todo) * (root + 2^todo) → Datum.rootFrom n todo root * Datum.rootFrom n todo root ≤ n ∧ n < (Datum.rootFrom n todo root + 1) * (Datum.rootFrom n todo root + 1)
  | 0, root, h1, h2 => by simpa [Datum.rootFrom] using ⟨h1, h2⟩
  | todo + 1, root, h1, h2 => by
    have e : 1 <<< todo = 2^todo := by rw [Nat.shiftLeft_eq, Nat.one_mul]
    unfold Datum.rootFrom
    rw [e]
    dsimp only
    by_cases h : (root + 2^todo) * (root + 2^todo) ≤ n
    · rw [if_pos h]
      refine root_from n todo _ h ?_
      rw [Nat.add_assoc, ← Nat.two_mul, Nat.mul_comm 2, ← Nat.pow_succ]
      exact h2
    · rw [if_neg h]
      exact root_from n todo root h1 (by omega)

theorem root_start (n : Nat) : Datum.rootFrom n (n.log2 / 2 + 1) 0 * Datum.rootFrom n (n.log2 / 2 + 1) 0 ≤ n ∧ n < (Datum.rootFrom n (n.log2 / 2 + 1) 0 + 1) * (Datum.rootFrom n (n.log2 / 2 + 1) 0 + 1) := by
  refine root_from n _ 0 (by omega) ?_
  rw [Nat.zero_add, ← Nat.pow_add]
  exact Nat.lt_of_lt_of_le Nat.lt_log2_self (Nat.pow_le_pow_right (by decide) (by omega))

end Go.Proofs.YtapahfoebpiajaaGreatDoor

/- Walks: the reference's root of a quotient of whole numbers. -/
namespace Go.Proofs.YtapahfoebpiajaaGreatDoor
open Go.RowKit

/-- The greatest q with q q D not above N. -/
def rootQ (N D : Nat) : Nat := Ieee.Datum.rootFrom (N / D) ((N / D).log2 / 2 + 1) 0
theorem rootQ_spec (N D : Nat) (hD : 0 < D) : rootQ N D * rootQ N D * D ≤ N ∧ N < (rootQ N D + 1) * (rootQ N D + 1) * D := by
  obtain ⟨h1, h2⟩ := root_start (N / D)
  exact ⟨(Nat.le_div_iff_mul_le hD).1 h1, (Nat.div_lt_iff_lt_mul hD).1 h2⟩
theorem rootQ_uniq {N D q : Nat} (hD : 0 < D) (h1 : q * q * D ≤ N) (h2 : N < (q + 1) * (q + 1) * D) : q = rootQ N D := by
  obtain ⟨g1, g2⟩ := rootQ_spec N D hD
  have a1 : q * q < (rootQ N D + 1) * (rootQ N D + 1) := Nat.lt_of_mul_lt_mul_right (Nat.lt_of_le_of_lt h1 g2)
  have a2 : rootQ N D * rootQ N D < (q + 1) * (q + 1) := Nat.lt_of_mul_lt_mul_right (Nat.lt_of_le_of_lt g1 h2)
  have := sq_lt.1 a1
  have := sq_lt.1 a2
  omega

end Go.Proofs.YtapahfoebpiajaaGreatDoor

/- The reference's To of a root: what it asks. Plain mathematics. -/
namespace Go.Proofs.YtapahfoebpiajaaGreatDoor
open Go.RowKit

theorem root_half {N D N' D' : Nat} (hD : 0 < D) (hD' : 0 < D') (h : N * D' = 4 * (N' * D)) : rootQ N' D' = rootQ N D / 2 := by
  obtain ⟨g1, g2⟩ := rootQ_spec N D hD
  obtain ⟨q, hq⟩ : ∃ q, q = rootQ N D := ⟨_, rfl⟩
  rw [← hq] at g1 g2 ⊢
  obtain ⟨p, hp⟩ : ∃ p, p = q / 2 := ⟨_, rfl⟩
  rw [← hp]
  have hDD : 0 < D * D' := Nat.mul_pos hD hD'
  have e1 : (2 * p) * (2 * p) ≤ q * q := Nat.mul_le_mul (by omega) (by omega)
  have e2 : (q + 1) * (q + 1) ≤ (2 * (p + 1)) * (2 * (p + 1)) := Nat.mul_le_mul (by omega) (by omega)
  refine (rootQ_uniq hD' ?_ ?_).symm
  · have h1 : (2 * p) * (2 * p) * D * D' ≤ N * D' := Nat.mul_le_mul_right _ (Nat.le_trans (Nat.mul_le_mul_right _ e1) g1)
    rw [h] at h1
    have h2 : 4 * D * (p * p * D') ≤ 4 * D * N' := by
      rw [show 4 * D * (p * p * D') = (2 * p) * (2 * p) * D * D' by rw [show (4 : Nat) = 2 * 2 from rfl]; ac_rfl, show 4 * D * N' = 4 * (N' * D) by rw [Nat.mul_assoc, Nat.mul_comm D]]
      exact h1
    exact Nat.le_of_mul_le_mul_left h2 (by omega)
  · have h1 : N * D' < (2 * (p + 1)) * (2 * (p + 1)) * D * D' := Nat.mul_lt_mul_of_pos_right (Nat.lt_of_lt_of_le g2 (Nat.mul_le_mul_right _ e2)) hD'
    rw [h] at h1
    have h2 : 4 * D * N' < 4 * D * ((p + 1) * (p + 1) * D') := by
      rw [show 4 * D * ((p + 1) * (p + 1) * D') = (2 * (p + 1)) * (2 * (p + 1)) * D * D' by rw [show (4 : Nat) = 2 * 2 from rfl]; ac_rfl, show 4 * D * N' = 4 * (N' * D) by rw [Nat.mul_assoc, Nat.mul_comm D]]
      exact h1
    exact Nat.lt_of_mul_lt_mul_left h2

end Go.Proofs.YtapahfoebpiajaaGreatDoor
