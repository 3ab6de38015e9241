/- Parts Bo of the proof, in one text. -/
import Derived.Test.YtapahfoebpiajaaGreatDoorSBJ
import Derived.Test.YtapahfoebpiajaaGreatDoorSAD
import Derived.Test.YtapahfoebpiajaaGreatDoorSAN
import Derived.Test.YtapahfoebpiajaaGreatDoorSMN
import Derived.Test.YtapahfoebpiajaaGreatDoorSRJ
import Derived.Deep.QuietTactic
import Derived.BigQuiet
import Derived.Test.YtapahfoebpiajaaGreatDoorSAT
import Derived.Test.YtapahfoebpiajaaGreatDoorSQS
import Derived.Test.YtapahfoebpiajaaGreatDoorSQV

/- Walks: the document's Of10. -/
namespace Go.Proofs.YtapahfoebpiajaaGreatDoor
open Go.RowKit

theorem num_setRow32 {w : World} {g : Nat} {cs old : Array Value} {t : TypeId} {s : Value} {N : Nat} (h : Num .u32 4294967296 w s N) (hg : w.heap[g]? = some (.cells old t (0, 0))) (hno : ∀ (i : Nat) z, old[i]? ≠ some (.int .u32 z)) :
    Num .u32 4294967296 (w.setRow g cs) s N := by
  obtain ⟨xs, ⟨p, n, cc, rfl, h1, h2, h3, h4, h5⟩, h6, h7⟩ := h
  refine ⟨xs, ⟨p, n, cc, rfl, h1, h2, h3, h4, fun hn => ?_⟩, h6, h7⟩
  obtain ⟨b', o, rfl, hs, hc⟩ := h5 hn
  have hbg : b' ≠ g := by
    rintro rfl
    have := hc 0 hn
    simp [World.cell?, hg] at this
    exact hno _ _ this
  refine ⟨b', o, rfl, by rw [setRow_size]; exact hs, fun i hi => ?_⟩
  rw [← hc i hi]
  exact World.cell?_of_block (setRow_other _ _ _ _ hbg)
/-- A value's row. -/
def DR (W : World) (g : Nat) (neg : Bool) (M D : Nat) (E : Int) (r : Bool) : Prop := ∃ a m c a' m' c', W.heap[g]? = some (.cells #[.bool neg, .slice a m c, .slice a' m' c', .int .i64 E, .bool r] 68 (0, 0)) ∧ Num .u32 4294967296 W (.slice a m c) M ∧ Num .u32 4294967296 W (.slice a' m' c') D
theorem DR.below {W W' : World} {g M D : Nat} {neg r : Bool} {E : Int} (h : DR W g neg M D E r) (hb : Below W.heap.size W W') : DR W' g neg M D E r := by
  obtain ⟨a, m, c, a', m', c', h1, h2, h3⟩ := h
  exact ⟨a, m, c, a', m', c', hb.blk h1 (blk_lt h1), h2.below (Nat.le_refl _) hb, h3.below (Nat.le_refl _) hb⟩
theorem DR.far {W w : World} {g k g' M D : Nat} {neg r : Bool} {E : Int} {x : Value} {o : Obj} (h : DR W g neg M D E r) (hb : Below w.heap.size w W) (hg : w.heap.size ≤ g) (ho : W.heap[g']? = some o) (hne : g' ≠ g) : Below w.heap.size w (W.setCell ⟨g, k, none⟩ x) ∧ (W.setCell ⟨g, k, none⟩ x).heap[g']? = some o := by
  obtain ⟨a1, m1, c1, a2, m2, c2, h1, h2, h3⟩ := h
  rw [setCell_eq_setRow W g k _ _ (0, 0) _ h1]
  exact ⟨below_setRow hb hg _, (setRow_other W g g' _ hne).trans ho⟩
end Go.Proofs.YtapahfoebpiajaaGreatDoor
