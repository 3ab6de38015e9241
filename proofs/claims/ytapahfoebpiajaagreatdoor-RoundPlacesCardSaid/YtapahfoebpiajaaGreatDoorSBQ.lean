/- Parts Bq of the proof, in one text. -/
import Derived.Test.YtapahfoebpiajaaGreatDoorSAW
import Derived.Test.YtapahfoebpiajaaGreatDoorSBM
import Derived.Test.YtapahfoebpiajaaGreatDoorSBG
import Derived.Test.YtapahfoebpiajaaGreatDoorSAU

/- Walks: the document's Ratio. -/
namespace Go.Proofs.YtapahfoebpiajaaGreatDoor
open Go.RowKit

/-- A row of a float; of flags. -/
def FlR (W : World) (g : Nat) : Prop := ∃ x y z u, W.heap[g]? = some (.cells #[.bool x, .bool y, .int .u64 z, .int .i64 u] 62 (0, 0))
def FgR (W : World) (g : Nat) : Prop := ∃ x y z, W.heap[g]? = some (.cells #[.bool x, .bool y, .bool z] 27 (0, 0))
theorem FlR.below {W W' : World} {g : Nat} (h : FlR W g) (hb : Below W.heap.size W W') : FlR W' g := by obtain ⟨x, y, z, u, h⟩ := h; exact ⟨x, y, z, u, hb.blk h (blk_lt h)⟩
theorem FgR.below {W W' : World} {g : Nat} (h : FgR W g) (hb : Below W.heap.size W W') : FgR W' g := by obtain ⟨x, y, z, h⟩ := h; exact ⟨x, y, z, hb.blk h (blk_lt h)⟩
theorem fl_ne {W : World} {g g' : Nat} (h : FlR W g) (h' : FgR W g') : g' ≠ g := by
  rintro rfl
  obtain ⟨x, y, z, u, h⟩ := h
  obtain ⟨x', y', z', h'⟩ := h'
  rw [h] at h'
  simp at h'
theorem FlR.put {W : World} {g g' : Nat} (h : FlR W g') (hg : FlR W g) (x y : Bool) (z u : Int) : FlR (W.setRow g #[.bool x, .bool y, .int .u64 z, .int .i64 u]) g' := by
  by_cases he : g' = g
  · subst he
    obtain ⟨_, _, _, _, h⟩ := h
    exact ⟨_, _, _, _, setRow_heap W g' _ _ _ _ h⟩
  · obtain ⟨a, b, c, d, h⟩ := h
    exact ⟨a, b, c, d, (setRow_other W g g' _ he).trans h⟩
theorem FgR.put {W : World} {g g' : Nat} (h : FgR W g') (hg : FgR W g) (x y z : Bool) : FgR (W.setRow g #[.bool x, .bool y, .bool z]) g' := by
  by_cases he : g' = g
  · subst he
    obtain ⟨_, _, _, h⟩ := h
    exact ⟨_, _, _, setRow_heap W g' _ _ _ _ h⟩
  · obtain ⟨a, b, c, h⟩ := h
    exact ⟨a, b, c, (setRow_other W g g' _ he).trans h⟩
theorem FlR.off {W : World} {g g' : Nat} (h : FlR W g') (hg : FgR W g) (cs : Array Value) : FlR (W.setRow g cs) g' := by
  have hne : g' ≠ g := fun e => fl_ne h hg e.symm
  obtain ⟨a, b, c, d, h⟩ := h
  exact ⟨a, b, c, d, (setRow_other W g g' _ hne).trans h⟩
theorem FgR.off {W : World} {g g' : Nat} (h : FgR W g') (hg : FlR W g) (cs : Array Value) : FgR (W.setRow g cs) g' := by
  have hne := fl_ne hg h
  obtain ⟨a, b, c, h⟩ := h
  exact ⟨a, b, c, (setRow_other W g g' _ hne).trans h⟩
theorem FlR.no {x y : Bool} {z u : Int} : ∀ (i : Nat) k, (#[Value.bool x, Value.bool y, Value.int .u64 z, Value.int .i64 u] : Array Value)[i]? ≠ some (.int .u32 k) := by
  intro i k
  match i with
  | 0 => simp
  | 1 => simp
  | 2 => simp
  | 3 => simp
  | _ + 4 => simp
theorem FgR.no {x y z : Bool} : ∀ (i : Nat) k, (#[Value.bool x, Value.bool y, Value.bool z] : Array Value)[i]? ≠ some (.int .u32 k) := by
  intro i k
  match i with
  | 0 => simp
  | 1 => simp
  | 2 => simp
  | _ + 3 => simp
theorem FlR.val {W : World} {g M D : Nat} {v : Value} {n : Bool} {E : Int} (h : FlR W g) (cs : Array Value) (hv : Val W v n M D E) : Val (W.setRow g cs) v n M D E := by
  obtain ⟨x, y, z, u, h⟩ := h
  obtain ⟨s, t, rfl, h1, h2⟩ := hv
  exact ⟨s, t, rfl, num_setRow32 h1 h FlR.no, num_setRow32 h2 h FlR.no⟩
theorem FgR.val {W : World} {g M D : Nat} {v : Value} {n : Bool} {E : Int} (h : FgR W g) (cs : Array Value) (hv : Val W v n M D E) : Val (W.setRow g cs) v n M D E := by
  obtain ⟨x, y, z, h⟩ := h
  obtain ⟨s, t, rfl, h1, h2⟩ := hv
  exact ⟨s, t, rfl, num_setRow32 h1 h FgR.no, num_setRow32 h2 h FgR.no⟩
end Go.Proofs.YtapahfoebpiajaaGreatDoor
