import Derived.Test.YtlbokicainimnaaGreatDoorPRE
import Derived.Laws.MakeOwn
import Derived.Laws.IdiomStrings
import Derived.Test.YtlbokicainimnaaGreatDoorPQS
namespace Go.Proofs.YtlbokicainimnaaGreatDoor
open Go.Lib
structure Tame (d : Dc) (V e : Int) (m : Nat) (f : Int) : Prop where
 rep : Rep d V e
 lt : V.natAbs < 10 ^ m
 lo : -f ≤ e
 hi : e ≤ f
end Go.Proofs.YtlbokicainimnaaGreatDoor
namespace Go.Proofs.YtlbokicainimnaaGreatDoor
open Go.RowKit
def bytesN (zs : List Nat) : List UInt8 := zs.map UInt8.ofNat
theorem bytesN_len (zs : List Nat) : (bytesN zs).length = zs.length := by simp [bytesN]
theorem bytesN_get (zs : List Nat) (j : Nat) (hj : j < (bytesN zs).length) (hz : zs.getD j 0 < 256) : ((bytesN zs)[j].toNat) = zs.getD j 0 := by
 have hj' : j < zs.length := by rw [← bytesN_len]; exact hj
 simp only [bytesN, List.getElem_map]
 rw [List.getD_eq_getElem?_getD, List.getElem?_eq_getElem hj'] at *
 simp only [Option.getD_some] at *
 simp
 omega
theorem bytesN_dig {zs : List Nat} (h : ∀ j, j < zs.length → 48 ≤ zs.getD j 0 ∧ zs.getD j 0 ≤ 57) : allDig (bytesN zs) := by
 rw [← all_dig]
 refine all_true (fun j hj => ?_)
 have hj' : j < zs.length := by rw [← bytesN_len]; exact hj
 have := h j hj'
 rw [bytesN_get zs j hj (by omega)]
 exact this
def decO (d : Dc) : Obj := .cells #[.bool d.neg, .string (bs d.s), .int .i64 d.e] 35 (0, 0)
def Kept (l : List (Nat × Obj)) (w : World) : Prop := ∀ p ∈ l, w.heap[p.1]? = some p.2
theorem Kept.nil (w : World) : Kept [] w := fun p hp => by cases hp
theorem Kept.cons {l : List (Nat × Obj)} {w : World} (h : Kept l w) {g : Nat} {o : Obj} (hg : w.heap[g]? = some o) : Kept ((g, o) :: l) w := fun p hp => by
 rcases List.mem_cons.1 hp with rfl | hp
 ·exact hg
 ·exact h p hp
theorem Kept.below {l : List (Nat × Obj)} {w w' : World} (h : Kept l w) (hb : Below w.heap.size w w') : Kept l w' := fun p hp => hb.blk (h p hp) (blk_lt (h p hp))
theorem Kept.more {l : List (Nat × Obj)} {w : World} (h : Kept l w) (o : Obj) : Kept l (w.alloc o) := h.below ((Below.refl _ _).alloc (Nat.le_refl _) o)
theorem Kept.push {l : List (Nat × Obj)} {w : World} (h : Kept l w) (o : Obj) : Kept ((w.heap.size, o) :: l) (w.alloc o) := (h.more o).cons (new_blk w o)
theorem Kept.dec {l : List (Nat × Obj)} {w : World} (h : Kept l w) (d : Dc) : Kept ((w.heap.size, decO d) :: l) (w.alloc (.cells #[.bool d.neg, .string (bs d.s), .int .i64 d.e] 35)) := h.push (decO d)
theorem Kept.decs {l : List (Nat × Obj)} {w : World} (h : Kept l w) {g : Nat} {d : Dc} (hm : (g, decO d) ∈ l) :
  w.cell? ⟨g, 0, none⟩ = some (.bool d.neg) ∧ w.cell? ⟨g, 1, none⟩ = some (.string (bs d.s)) ∧ w.cell? ⟨g, 2, none⟩ = some (.int .i64 d.e) := by
 have r : w.heap[g]? = some (.cells #[.bool d.neg, .string (bs d.s), .int .i64 d.e] 35 (0, 0)) := h _ hm
 exact ⟨cell_of_row w g 0 _ _ _ r, cell_of_row w g 1 _ _ _ r, cell_of_row w g 2 _ _ _ r⟩
theorem int_c {n : Int} {r : Dc} (h0 : -9223372036854775808 ≤ n) (h1 : n ≤ 9223372036854775807) (hr : mkD n 0 = r) (w : World) (htab : Tab w) : ∀ W, Below w.heap.size w W → Calls Tryz.prog 61 #[.int .i64 n] W fun e w' => e = .returned (.agg #[.bool r.neg, .string (bs r.s), .int .i64 r.e]) ∧ Below W.heap.size W w' := fun W hW => by
 have := int_v n W h0 h1 (htab.below hW)
 rw [hr] at this
 exact this
end Go.Proofs.YtlbokicainimnaaGreatDoor
