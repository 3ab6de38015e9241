/- Parts Ud, Ue of the proof, in one text. -/
import Derived.Test.YtiimjbpfdidgcaaGreatDoorIG

/- Walks: the document's answer for layer 7: Fused, Less, Equal. -/
namespace Go.Proofs.YtiimjbpfdidgcaaGreatDoor
open Go.RowKit

theorem any2 (a b : Nat) (ha : W64 a) (hb : W64 b) (W : World) (g : Nat) (h0 : W.cell? ⟨g, 0, none⟩ = some (.int .u64 (a : Nat))) (h1 : W.cell? ⟨g, 1, none⟩ = some (.int .u64 (b : Nat))) :
    Calls Tryz.prog 20 #[.slice (some ⟨g, 0, none⟩) 2 2] W fun e w' => e = .returned (.bool (nanB a || nanB b)) ∧ W = w' := by
  refine (r7_anynan [a, b] g 2 2 W rfl ?_ ?_ (Nat.le_refl _) (by decide)).mono ?_
  · intro i hi
    match i, hi with
    | 0, _ => exact h0
    | 1, _ => exact h1
  · intro x hx
    simp at hx
    rcases hx with rfl | rfl
    · exact ha
    · exact hb
  · rintro e w' ⟨rfl, rfl⟩
    exact ⟨by simp, rfl⟩
theorem any3 (a b c : Nat) (ha : W64 a) (hb : W64 b) (hc : W64 c) (W : World) (g : Nat) (h0 : W.cell? ⟨g, 0, none⟩ = some (.int .u64 (a : Nat))) (h1 : W.cell? ⟨g, 1, none⟩ = some (.int .u64 (b : Nat))) (h2 : W.cell? ⟨g, 2, none⟩ = some (.int .u64 (c : Nat))) :
    Calls Tryz.prog 20 #[.slice (some ⟨g, 0, none⟩) 3 3] W fun e w' => e = .returned (.bool (nanB a || nanB b || nanB c)) ∧ W = w' := by
  refine (r7_anynan [a, b, c] g 3 3 W rfl ?_ ?_ (Nat.le_refl _) (by decide)).mono ?_
  · intro i hi
    match i, hi with
    | 0, _ => exact h0
    | 1, _ => exact h1
    | 2, _ => exact h2
  · intro x hx
    simp at hx
    rcases hx with rfl | rfl | rfl
    · exact ha
    · exact hb
    · exact hc
  · rintro e w' ⟨rfl, rfl⟩
    exact ⟨by simp [Bool.or_assoc], rfl⟩

end Go.Proofs.YtiimjbpfdidgcaaGreatDoor

/- Walks: the document's answer for layer 7: Fused. -/
namespace Go.Proofs.YtiimjbpfdidgcaaGreatDoor
open Go.RowKit

theorem term_small2 {M K : Nat} {e : Int} (h : M < 2^106) (he : e ≤ K) : M * 2^e.toNat < 2^(106 + K) := by
  rw [Nat.pow_add]
  exact Nat.mul_lt_mul_of_lt_of_le h (Nat.pow_le_pow_right (by decide) (by omega)) (Nat.two_pow_pos _)

end Go.Proofs.YtiimjbpfdidgcaaGreatDoor
