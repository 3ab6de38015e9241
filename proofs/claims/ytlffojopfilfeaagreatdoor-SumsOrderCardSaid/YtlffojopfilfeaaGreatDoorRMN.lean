/- Parts Mn of the proof, in one text. -/
import Derived.Test.YtlffojopfilfeaaGreatDoorRMH
import Derived.Test.YtlffojopfilfeaaGreatDoorRWL
import Derived.Test.YtlffojopfilfeaaGreatDoorRNE
import Derived.Deep.RegionHeld3
import Derived.Laws.CopyOwn

/- Rows of cells; what the reference's To asks of the mathematics. -/
namespace Go.Proofs.YtlffojopfilfeaaGreatDoor
open Go.RowKit

/-- What the walk asks of rows of three and of four cells that it writes. -/
theorem wr3 {w : World} {g : Nat} {a b c : Value} {t : TypeId} (h : w.heap[g]? = some (.cells #[a, b, c] t (0, 0))) :
    (w.frozen? ⟨g, 0, none⟩ = false ∧ w.cell? ⟨g, 0, none⟩ = some a) ∧ (∀ u, (w.setCell ⟨g, 0, none⟩ u).frozen? ⟨g, 1, none⟩ = false ∧ (w.setCell ⟨g, 0, none⟩ u).cell? ⟨g, 1, none⟩ = some b) ∧
      (∀ u v, ((w.setCell ⟨g, 0, none⟩ u).setCell ⟨g, 1, none⟩ v).frozen? ⟨g, 2, none⟩ = false ∧ ((w.setCell ⟨g, 0, none⟩ u).setCell ⟨g, 1, none⟩ v).cell? ⟨g, 2, none⟩ = some c) ∧
      ∀ u v x, (((w.setCell ⟨g, 0, none⟩ u).setCell ⟨g, 1, none⟩ v).setCell ⟨g, 2, none⟩ x).heap[g]? = some (.cells #[u, v, x] t (0, 0)) := by
  have h1 := fun u => heap_setCell_same w g 0 _ _ u h
  have h2 := fun u v => heap_setCell_same _ g 1 _ _ v (h1 u)
  have h3 := fun u v x => heap_setCell_same _ g 2 _ _ x (h2 u v)
  exact ⟨⟨frozen_of_row w g 0 _ _ h, cell_of_row w g 0 _ _ _ h⟩, fun u => ⟨frozen_of_row _ g 1 _ _ (h1 u), cell_of_row _ g 1 _ _ _ (h1 u)⟩, fun u v => ⟨frozen_of_row _ g 2 _ _ (h2 u v), cell_of_row _ g 2 _ _ _ (h2 u v)⟩, h3⟩
theorem wr4 {w : World} {g : Nat} {a b c d : Value} {t : TypeId} (h : w.heap[g]? = some (.cells #[a, b, c, d] t (0, 0))) :
    (w.frozen? ⟨g, 0, none⟩ = false ∧ w.cell? ⟨g, 0, none⟩ = some a) ∧ (∀ u, (w.setCell ⟨g, 0, none⟩ u).frozen? ⟨g, 1, none⟩ = false ∧ (w.setCell ⟨g, 0, none⟩ u).cell? ⟨g, 1, none⟩ = some b) ∧
      (∀ u v, ((w.setCell ⟨g, 0, none⟩ u).setCell ⟨g, 1, none⟩ v).frozen? ⟨g, 2, none⟩ = false ∧ ((w.setCell ⟨g, 0, none⟩ u).setCell ⟨g, 1, none⟩ v).cell? ⟨g, 2, none⟩ = some c) ∧
      (∀ u v x, (((w.setCell ⟨g, 0, none⟩ u).setCell ⟨g, 1, none⟩ v).setCell ⟨g, 2, none⟩ x).frozen? ⟨g, 3, none⟩ = false ∧ (((w.setCell ⟨g, 0, none⟩ u).setCell ⟨g, 1, none⟩ v).setCell ⟨g, 2, none⟩ x).cell? ⟨g, 3, none⟩ = some d) ∧
      ∀ u v x y, ((((w.setCell ⟨g, 0, none⟩ u).setCell ⟨g, 1, none⟩ v).setCell ⟨g, 2, none⟩ x).setCell ⟨g, 3, none⟩ y).heap[g]? = some (.cells #[u, v, x, y] t (0, 0)) := by
  have h1 := fun u => heap_setCell_same w g 0 _ _ u h
  have h2 := fun u v => heap_setCell_same _ g 1 _ _ v (h1 u)
  have h3 := fun u v x => heap_setCell_same _ g 2 _ _ x (h2 u v)
  have h4 := fun u v x y => heap_setCell_same _ g 3 _ _ y (h3 u v x)
  exact ⟨⟨frozen_of_row w g 0 _ _ h, cell_of_row w g 0 _ _ _ h⟩, fun u => ⟨frozen_of_row _ g 1 _ _ (h1 u), cell_of_row _ g 1 _ _ _ (h1 u)⟩, fun u v => ⟨frozen_of_row _ g 2 _ _ (h2 u v), cell_of_row _ g 2 _ _ _ (h2 u v)⟩,
    fun u v x => ⟨frozen_of_row _ g 3 _ _ (h3 u v x), cell_of_row _ g 3 _ _ _ (h3 u v x)⟩, h4⟩

theorem ncmp_cases (M N : Nat) : ncmp M N = -1 ∨ ncmp M N = 0 ∨ ncmp M N = 1 := by unfold ncmp; split; exact .inl rfl; split; exact .inr (.inr rfl); exact .inr (.inl rfl)

/-- What the walk asks of a row of five cells that it writes. -/
theorem wr5 {w : World} {g : Nat} {a b c d e : Value} {t : TypeId} (h : w.heap[g]? = some (.cells #[a, b, c, d, e] t (0, 0))) :
    (w.frozen? ⟨g, 0, none⟩ = false ∧ w.cell? ⟨g, 0, none⟩ = some a) ∧ (∀ u, (w.setCell ⟨g, 0, none⟩ u).frozen? ⟨g, 1, none⟩ = false ∧ (w.setCell ⟨g, 0, none⟩ u).cell? ⟨g, 1, none⟩ = some b) ∧
      (∀ u v, ((w.setCell ⟨g, 0, none⟩ u).setCell ⟨g, 1, none⟩ v).frozen? ⟨g, 2, none⟩ = false ∧ ((w.setCell ⟨g, 0, none⟩ u).setCell ⟨g, 1, none⟩ v).cell? ⟨g, 2, none⟩ = some c) ∧
      (∀ u v x, (((w.setCell ⟨g, 0, none⟩ u).setCell ⟨g, 1, none⟩ v).setCell ⟨g, 2, none⟩ x).frozen? ⟨g, 3, none⟩ = false ∧ (((w.setCell ⟨g, 0, none⟩ u).setCell ⟨g, 1, none⟩ v).setCell ⟨g, 2, none⟩ x).cell? ⟨g, 3, none⟩ = some d) ∧
      (∀ u v x y, ((((w.setCell ⟨g, 0, none⟩ u).setCell ⟨g, 1, none⟩ v).setCell ⟨g, 2, none⟩ x).setCell ⟨g, 3, none⟩ y).frozen? ⟨g, 4, none⟩ = false ∧ ((((w.setCell ⟨g, 0, none⟩ u).setCell ⟨g, 1, none⟩ v).setCell ⟨g, 2, none⟩ x).setCell ⟨g, 3, none⟩ y).cell? ⟨g, 4, none⟩ = some e) ∧
      ∀ u v x y z, (((((w.setCell ⟨g, 0, none⟩ u).setCell ⟨g, 1, none⟩ v).setCell ⟨g, 2, none⟩ x).setCell ⟨g, 3, none⟩ y).setCell ⟨g, 4, none⟩ z).heap[g]? = some (.cells #[u, v, x, y, z] t (0, 0)) := by
  have h1 := fun u => heap_setCell_same w g 0 _ _ u h
  have h2 := fun u v => heap_setCell_same _ g 1 _ _ v (h1 u)
  have h3 := fun u v x => heap_setCell_same _ g 2 _ _ x (h2 u v)
  have h4 := fun u v x y => heap_setCell_same _ g 3 _ _ y (h3 u v x)
  have h5 := fun u v x y z => heap_setCell_same _ g 4 _ _ z (h4 u v x y)
  exact ⟨⟨frozen_of_row w g 0 _ _ h, cell_of_row w g 0 _ _ _ h⟩, fun u => ⟨frozen_of_row _ g 1 _ _ (h1 u), cell_of_row _ g 1 _ _ _ (h1 u)⟩, fun u v => ⟨frozen_of_row _ g 2 _ _ (h2 u v), cell_of_row _ g 2 _ _ _ (h2 u v)⟩,
    fun u v x => ⟨frozen_of_row _ g 3 _ _ (h3 u v x), cell_of_row _ g 3 _ _ _ (h3 u v x)⟩, fun u v x y => ⟨frozen_of_row _ g 4 _ _ (h4 u v x y), cell_of_row _ g 4 _ _ _ (h4 u v x y)⟩, h5⟩

end Go.Proofs.YtlffojopfilfeaaGreatDoor
