/- Parts Ga, Gc of the proof, in one text. -/
import Derived.Test.YtlffojopfilfeaaGreatDoorRRA
import Derived.Test.YtlffojopfilfeaaGreatDoorRQT
import Derived.Test.YtlffojopfilfeaaGreatDoorRQC
import Derived.Test.YtlffojopfilfeaaGreatDoorRRE
import Derived.Laws.MakeOwn
import Derived.Laws.IdiomStrings
import Derived.Test.YtlffojopfilfeaaGreatDoorRQS

/- Plain: decimals that have room: sums and products as on paper; how they stand. -/
namespace Go.Proofs.YtlffojopfilfeaaGreatDoor
open Go.Lib

theorem scale_lt {V : Int} {m j k : Nat} (h : V.natAbs < 10 ^ m) (hj : j ≤ k) : (V * 10 ^ j).natAbs < 10 ^ (m + k) := by
  rw [abs_mul_pow, Nat.pow_add]
  calc V.natAbs * 10 ^ j ≤ V.natAbs * 10 ^ k := Nat.mul_le_mul_left _ (Nat.pow_le_pow_right (by decide) hj)
    _ < 10 ^ m * 10 ^ k := Nat.mul_lt_mul_of_pos_right h (Nat.pow_pos (by decide))
/-- A row that has been tamed. -/
structure Tame (d : Dc) (V e : Int) (m : Nat) (f : Int) : Prop where
  rep : Rep d V e
  lt : V.natAbs < 10 ^ m
  lo : -f ≤ e
  hi : e ≤ f
theorem Tame.at {d : Dc} {V e : Int} {m : Nat} {f : Int} (h : Tame d V e m f) (k : Nat) (hk : 2 * f = k) : Rep d (V * 10 ^ (e - -f).toNat) (-f) ∧ (V * 10 ^ (e - -f).toNat).natAbs < 10 ^ (m + k) :=
  ⟨h.rep.at (-f) h.lo, scale_lt h.lt (by have := h.hi; omega)⟩

end Go.Proofs.YtlffojopfilfeaaGreatDoor

/- Rows of decimals that lie in memory; calls of what has room. -/
namespace Go.Proofs.YtlffojopfilfeaaGreatDoor
open Go.RowKit

/-- A decimal's row; a Row's. -/
def decO (d : Dc) : Obj := .cells #[.bool d.neg, .string (bs d.s), .int .i64 d.e] 115 (0, 0)
/-- Rows that lie in memory. -/
def Kept (l : List (Nat × Obj)) (w : World) : Prop := ∀ p ∈ l, w.heap[p.1]? = some p.2
theorem Kept.nil (w : World) : Kept [] w := fun p hp => by cases hp
theorem Kept.cons {l : List (Nat × Obj)} {w : World} (h : Kept l w) {g : Nat} {o : Obj} (hg : w.heap[g]? = some o) : Kept ((g, o) :: l) w := fun p hp => by
  rcases List.mem_cons.1 hp with rfl | hp
  · exact hg
  · exact h p hp
theorem Kept.sub {l r : List (Nat × Obj)} {w : World} (h : Kept l w) (hs : ∀ p ∈ r, p ∈ l) : Kept r w := fun p hp => h p (hs p hp)
theorem Kept.below {l : List (Nat × Obj)} {w w' : World} (h : Kept l w) (hb : Below w.heap.size w w') : Kept l w' := fun p hp => hb.blk (h p hp) (blk_lt (h p hp))
theorem Kept.more {l : List (Nat × Obj)} {w : World} (h : Kept l w) (o : Obj) : Kept l (w.alloc o) := h.below ((Below.refl _ _).alloc (Nat.le_refl _) o)
theorem Kept.push {l : List (Nat × Obj)} {w : World} (h : Kept l w) (o : Obj) : Kept ((w.heap.size, o) :: l) (w.alloc o) := (h.more o).cons (new_blk w o)
theorem Kept.dec {l : List (Nat × Obj)} {w : World} (h : Kept l w) (d : Dc) : Kept ((w.heap.size, decO d) :: l) (w.alloc (.cells #[.bool d.neg, .string (bs d.s), .int .i64 d.e] 115)) := h.push (decO d)
/-- A store into another row, a new one. -/
theorem Kept.stored {l : List (Nat × Obj)} {w w0 : World} {B : Nat} (h0 : Kept l w0) (hb : Below w0.heap.size w0 w) {g : Nat} (hB : w0.heap.size ≤ B) (hg : B ≤ g) (u v y : Value) : Kept l (((w.setCell ⟨g, 0, none⟩ u).setCell ⟨g, 1, none⟩ v).setCell ⟨g, 2, none⟩ y) := fun p hp =>
  row3_other ((h0.below hb) p hp) (by have := blk_lt (h0 p hp); omega) u v y
end Go.Proofs.YtlffojopfilfeaaGreatDoor
