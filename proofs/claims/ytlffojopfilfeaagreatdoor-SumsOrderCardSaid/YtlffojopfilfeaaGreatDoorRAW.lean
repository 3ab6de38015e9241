/- Parts Bo, Bq of the proof, in one text. -/
import Derived.Test.YtlffojopfilfeaaGreatDoorRBJ
import Derived.Test.YtlffojopfilfeaaGreatDoorRAD
import Derived.Test.YtlffojopfilfeaaGreatDoorRAA
import Derived.Test.YtlffojopfilfeaaGreatDoorRMN
import Derived.Test.YtlffojopfilfeaaGreatDoorRQA
import Derived.Deep.QuietTactic
import Derived.BigQuiet
import Derived.Test.YtlffojopfilfeaaGreatDoorRAT
import Derived.Test.YtlffojopfilfeaaGreatDoorRQS
import Derived.Test.YtlffojopfilfeaaGreatDoorRQV
import Derived.Test.YtlffojopfilfeaaGreatDoorRRR
import Derived.Test.YtlffojopfilfeaaGreatDoorRMA
import Derived.Laws.BitsAllLaws
import Derived.Test.YtlffojopfilfeaaGreatDoorRQW

/- Walks: the document's Of10. -/
namespace Go.Proofs.YtlffojopfilfeaaGreatDoor
open Go.RowKit

theorem num_setRow32 {w : World} {g : Nat} {cs old : Array Value} {t : TypeId} {s : Value} {N : Nat} (h : Num .u32 4294967296 w s N) (hg : w.heap[g]? = some (.cells old t (0, 0))) (hno : ∀ (i : Nat) z, old[i]? ≠ some (.int .u32 z)) :
    Num .u32 4294967296 (w.setRow g cs) s N := by
  obtain ⟨xs, ⟨p, n, cc, rfl, h1, h2, h3, h4, h5⟩, h6, h7⟩ := h
  refine ⟨xs, ⟨p, n, cc, rfl, h1, h2, h3, h4, fun hn => ?_⟩, h6, h7⟩
  obtain ⟨b', o, rfl, hs, hc⟩ := h5 hn
  have hbg : b' ≠ g := by
    rintro rfl
    have := hc 0 hn
    simp [World.cell?, hg] at this
    exact hno _ _ this
  refine ⟨b', o, rfl, by rw [setRow_size]; exact hs, fun i hi => ?_⟩
  rw [← hc i hi]
  exact World.cell?_of_block (setRow_other _ _ _ _ hbg)
/-- A value's row. -/
def DR (W : World) (g : Nat) (neg : Bool) (M D : Nat) (E : Int) (r : Bool) : Prop := ∃ a m c a' m' c', W.heap[g]? = some (.cells #[.bool neg, .slice a m c, .slice a' m' c', .int .i64 E, .bool r] 94 (0, 0)) ∧ Num .u32 4294967296 W (.slice a m c) M ∧ Num .u32 4294967296 W (.slice a' m' c') D
theorem DR.below {W W' : World} {g M D : Nat} {neg r : Bool} {E : Int} (h : DR W g neg M D E r) (hb : Below W.heap.size W W') : DR W' g neg M D E r := by
  obtain ⟨a, m, c, a', m', c', h1, h2, h3⟩ := h
  exact ⟨a, m, c, a', m', c', hb.blk h1 (blk_lt h1), h2.below (Nat.le_refl _) hb, h3.below (Nat.le_refl _) hb⟩
theorem DR.far {W w : World} {g k g' M D : Nat} {neg r : Bool} {E : Int} {x : Value} {o : Obj} (h : DR W g neg M D E r) (hb : Below w.heap.size w W) (hg : w.heap.size ≤ g) (ho : W.heap[g']? = some o) (hne : g' ≠ g) : Below w.heap.size w (W.setCell ⟨g, k, none⟩ x) ∧ (W.setCell ⟨g, k, none⟩ x).heap[g']? = some o := by
  obtain ⟨a1, m1, c1, a2, m2, c2, h1, h2, h3⟩ := h
  rw [setCell_eq_setRow W g k _ _ (0, 0) _ h1]
  exact ⟨below_setRow hb hg _, (setRow_other W g g' _ hne).trans ho⟩
end Go.Proofs.YtlffojopfilfeaaGreatDoor

/- Walks: the document's Ratio. -/
namespace Go.Proofs.YtlffojopfilfeaaGreatDoor
open Go.RowKit

/-- A row of a float; of flags. -/
def FlR (W : World) (g : Nat) : Prop := ∃ x y z u, W.heap[g]? = some (.cells #[.bool x, .bool y, .int .u64 z, .int .i64 u] 88 (0, 0))
def FgR (W : World) (g : Nat) : Prop := ∃ x y z, W.heap[g]? = some (.cells #[.bool x, .bool y, .bool z] 90 (0, 0))
theorem FlR.below {W W' : World} {g : Nat} (h : FlR W g) (hb : Below W.heap.size W W') : FlR W' g := by obtain ⟨x, y, z, u, h⟩ := h; exact ⟨x, y, z, u, hb.blk h (blk_lt h)⟩
theorem FgR.below {W W' : World} {g : Nat} (h : FgR W g) (hb : Below W.heap.size W W') : FgR W' g := by obtain ⟨x, y, z, h⟩ := h; exact ⟨x, y, z, hb.blk h (blk_lt h)⟩
theorem fl_ne {W : World} {g g' : Nat} (h : FlR W g) (h' : FgR W g') : g' ≠ g := by
  rintro rfl
  obtain ⟨x, y, z, u, h⟩ := h
  obtain ⟨x', y', z', h'⟩ := h'
  rw [h] at h'
  simp at h'
theorem FlR.put {W : World} {g g' : Nat} (h : FlR W g') (hg : FlR W g) (x y : Bool) (z u : Int) : FlR (W.setRow g #[.bool x, .bool y, .int .u64 z, .int .i64 u]) g' := by
  by_cases he : g' = g
  · subst he
    obtain ⟨_, _, _, _, h⟩ := h
    exact ⟨_, _, _, _, setRow_heap W g' _ _ _ _ h⟩
  · obtain ⟨a, b, c, d, h⟩ := h
    exact ⟨a, b, c, d, (setRow_other W g g' _ he).trans h⟩
theorem FgR.put {W : World} {g g' : Nat} (h : FgR W g') (hg : FgR W g) (x y z : Bool) : FgR (W.setRow g #[.bool x, .bool y, .bool z]) g' := by
  by_cases he : g' = g
  · subst he
    obtain ⟨_, _, _, h⟩ := h
    exact ⟨_, _, _, setRow_heap W g' _ _ _ _ h⟩
  · obtain ⟨a, b, c, h⟩ := h
    exact ⟨a, b, c, (setRow_other W g g' _ he).trans h⟩
theorem FlR.off {W : World} {g g' : Nat} (h : FlR W g') (hg : FgR W g) (cs : Array Value) : FlR (W.setRow g cs) g' := by
  have hne : g' ≠ g := fun e => fl_ne h hg e.symm
  obtain ⟨a, b, c, d, h⟩ := h
  exact ⟨a, b, c, d, (setRow_other W g g' _ hne).trans h⟩
theorem FgR.off {W : World} {g g' : Nat} (h : FgR W g') (hg : FlR W g) (cs : Array Value) : FgR (W.setRow g cs) g' := by
  have hne := fl_ne hg h
  obtain ⟨a, b, c, h⟩ := h
  exact ⟨a, b, c, (setRow_other W g g' _ hne).trans h⟩
theorem FlR.no {x y : Bool} {z u : Int} : ∀ (i : Nat) k, (#[Value.bool x, Value.bool y, Value.int .u64 z, Value.int .i64 u] : Array Value)[i]? ≠ some (.int .u32 k) := by
  intro i k
  match i with
  | 0 => simp
  | 1 => simp
  | 2 => simp
  | 3 => simp
  | _ + 4 => simp
theorem FgR.no {x y z : Bool} : ∀ (i : Nat) k, (#[Value.bool x, Value.bool y, Value.bool z] : Array Value)[i]? ≠ some (.int .u32 k) := by
  intro i k
  match i with
  | 0 => simp
  | 1 => simp
  | 2 => simp
  | _ + 3 => simp
theorem FlR.val {W : World} {g M D : Nat} {v : Value} {n : Bool} {E : Int} (h : FlR W g) (cs : Array Value) (hv : Val W v n M D E) : Val (W.setRow g cs) v n M D E := by
  obtain ⟨x, y, z, u, h⟩ := h
  obtain ⟨s, t, rfl, h1, h2⟩ := hv
  exact ⟨s, t, rfl, num_setRow32 h1 h FlR.no, num_setRow32 h2 h FlR.no⟩
theorem FgR.val {W : World} {g M D : Nat} {v : Value} {n : Bool} {E : Int} (h : FgR W g) (cs : Array Value) (hv : Val W v n M D E) : Val (W.setRow g cs) v n M D E := by
  obtain ⟨x, y, z, h⟩ := h
  obtain ⟨s, t, rfl, h1, h2⟩ := hv
  exact ⟨s, t, rfl, num_setRow32 h1 h FgR.no, num_setRow32 h2 h FgR.no⟩
end Go.Proofs.YtlffojopfilfeaaGreatDoor
