import Derived.Test.YtlffojopfilfeaaGreatDoorSRA
import Derived.Test.YtlffojopfilfeaaGreatDoorSQT
import Derived.Test.YtlffojopfilfeaaGreatDoorSQC
import Derived.Test.YtlffojopfilfeaaGreatDoorSRE
import Derived.Laws.MakeOwn
import Derived.Laws.IdiomStrings
import Derived.WalkMore
import Derived.Lib.LaidTab
import Derived.Test.YtlffojopfilfeaaGreatDoorSQS
namespace Go.Proofs.YtlffojopfilfeaaGreatDoor
open Go.Lib
structure Tame (d : Dc) (V e : Int) (m : Nat) (f : Int) : Prop where
 rep : Rep d V e
 lt : V.natAbs < 10 ^ m
 lo : -f ≤ e
 hi : e ≤ f
end Go.Proofs.YtlffojopfilfeaaGreatDoor
namespace Go.Proofs.YtlffojopfilfeaaGreatDoor
open Go.RowKit
def decO (d : Dc) : Obj := .cells #[.bool d.neg, .string (bs d.s), .int .i64 d.e] 115 (0, 0)
def Kept (l : List (Nat × Obj)) (w : World) : Prop := ∀ p ∈ l, w.heap[p.1]? = some p.2
theorem Kept.nil (w : World) : Kept [] w := fun p hp => by cases hp
theorem Kept.cons {l : List (Nat × Obj)} {w : World} (h : Kept l w) {g : Nat} {o : Obj} (hg : w.heap[g]? = some o) : Kept ((g, o) :: l) w := fun p hp => by
 rcases List.mem_cons.1 hp with rfl | hp
 ·exact hg
 ·exact h p hp
theorem Kept.below {l : List (Nat × Obj)} {w w' : World} (h : Kept l w) (hb : Below w.heap.size w w') : Kept l w' := fun p hp => hb.blk (h p hp) (blk_lt (h p hp))
theorem Kept.more {l : List (Nat × Obj)} {w : World} (h : Kept l w) (o : Obj) : Kept l (w.alloc o) := h.below ((Below.refl _ _).alloc (Nat.le_refl _) o)
theorem Kept.push {l : List (Nat × Obj)} {w : World} (h : Kept l w) (o : Obj) : Kept ((w.heap.size, o) :: l) (w.alloc o) := (h.more o).cons (new_blk w o)
theorem Kept.dec {l : List (Nat × Obj)} {w : World} (h : Kept l w) (d : Dc) : Kept ((w.heap.size, decO d) :: l) (w.alloc (.cells #[.bool d.neg, .string (bs d.s), .int .i64 d.e] 115)) := h.push (decO d)
end Go.Proofs.YtlffojopfilfeaaGreatDoor
