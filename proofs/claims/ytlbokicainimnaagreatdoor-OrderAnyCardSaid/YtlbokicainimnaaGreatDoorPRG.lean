import Derived.Test.YtlbokicainimnaaGreatDoorPQT
import Derived.BigRegion
import Derived.Deep.CutBlock
import Derived.Deep.DeepCutAuto
import Derived.Deep.RegionHeld3
import Derived.Ground.MpProg
import Derived.Ground.SlsfProg
import Derived.Laws.Bits64b
import Derived.Laws.CopyOwn
import Derived.Laws.Externs
import Derived.Laws.ResultCell
import Derived.Lib.AppendIntMem
import Derived.Lib.BitFns
import Derived.Lib.Mul64
import Derived.Lib.Slices
import Derived.Lib.Small
import Derived.Lib.Strings
import Derived.Lib.Walk
import Derived.RegionTactic
import Derived.Shelf.Bits.Mul64
import Derived.Shelf.LaysM
import Derived.Shelf.Pu.ParseUintPublic10
import Derived.Shelf.SlSortCmp.HeapSort1
import Derived.Shelf.SlSortCmp.Insertion
import Derived.Shelf.SlSortCmp.Insertion1
import Derived.Shelf.SlSortCmp.Median1
import Derived.Shelf.SlSortCmp.NoneTotal
import Derived.Shelf.SlSortCmp.PartialInsertion1
import Derived.Shelf.SlSortCmp.Partition1
import Derived.Shelf.SlSortCmp.PartitionEqual1
import Derived.Shelf.SlSortCmp.Pdq1
import Derived.Shelf.SlSortCmp.Pivot1
import Derived.Shelf.SlSortCmp.ReverseRange1
import Derived.Shelf.SlSortCmp.SiftDown1
import Derived.Shelf.SlSortCmp.Whole1
import Derived.Shelf.Small.Bits
import Derived.Shelf.Small.Strs
import Derived.Shelf.Small.Utf8
import Derived.Shelf.Spec.BitsCarry
import Derived.Shelf.Strconv.Clone
import Derived.Shelf.Strconv.Itoa0
import Derived.Shelf.Strconv.Itoa1
import Derived.Shelf.Strconv.Itoa2
import Derived.Shelf.Strconv.Itoa3
import Derived.Shelf.Strconv.Lower
import Derived.Shelf.Strconv.ParseUint10
import Derived.Shelf.Strconv.ParseUint10At
import Derived.Shelf.Strconv.ParseUint10Empty
import Derived.Shelf.Strconv.ParseUint10b16
import Derived.Shelf.Strconv.ParseUint10b32
import Derived.Shelf.Strconv.ParseUint10b64
import Derived.Shelf.Strconv.ParseUint10b8
import Derived.Shelf.Strconv.ParseUintEmpty
import Derived.Shelf.Strconv.RangeError
import Derived.Shelf.Strconv.SyntaxError
import Derived.Shelf.Strings.AsciiSet
import Derived.Shelf.Strings.Builder1
import Derived.Shelf.Strings.Builder2
import Derived.Shelf.Strings.Builder2Cap
import Derived.Shelf.Strings.BuilderF
import Derived.Shelf.Strings.BuilderK
import Derived.Shelf.Strings.Prefix
import Derived.Shelf.Strings.Repeat
import Derived.Shelf.Strings.Runes
import Derived.Shelf.Strings.Search1
import Derived.Shelf.Strings.Trim
import Derived.Shelf.Unicode.Decode
import Derived.Shelf.Unicode.DecodeAny
import Derived.Shelf.Unicode.DecodeSlow
import Derived.Test.YtlbokicainimnaaGreatDoorProg
import Derived.Test.YtlbokicainimnaaGreatDoorRows
import Derived.Test.YtlbokicainimnaaGreatDoorPRA
import Derived.Laws.IdiomStrings
import Derived.Laws.MakeOwn
import Derived.Lib.LaidTab
import Derived.WalkMore
namespace Go.Proofs.YtlbokicainimnaaGreatDoor
open Go.Lib
structure Tame (d : Dc) (V e : Int) (m : Nat) (f : Int) : Prop where
 rep : Rep d V e
 lt : V.natAbs < 10 ^ m
 lo : -f ≤ e
 hi : e ≤ f
end Go.Proofs.YtlbokicainimnaaGreatDoor
namespace Go.Proofs.YtlbokicainimnaaGreatDoor
open Go.RowKit
def decO (d : Dc) : Obj := .cells #[.bool d.neg, .string (bs d.s), .int .i64 d.e] 35 (0, 0)
def Kept (l : List (Nat × Obj)) (w : World) : Prop := ∀ p ∈ l, w.heap[p.1]? = some p.2
theorem Kept.nil (w : World) : Kept [] w := fun p hp => by cases hp
theorem Kept.cons {l : List (Nat × Obj)} {w : World} (h : Kept l w) {g : Nat} {o : Obj} (hg : w.heap[g]? = some o) : Kept ((g, o) :: l) w := fun p hp => by
 rcases List.mem_cons.1 hp with rfl | hp
 ·exact hg
 ·exact h p hp
theorem Kept.below {l : List (Nat × Obj)} {w w' : World} (h : Kept l w) (hb : Below w.heap.size w w') : Kept l w' := fun p hp => hb.blk (h p hp) (blk_lt (h p hp))
theorem Kept.more {l : List (Nat × Obj)} {w : World} (h : Kept l w) (o : Obj) : Kept l (w.alloc o) := h.below ((Below.refl _ _).alloc (Nat.le_refl _) o)
theorem Kept.push {l : List (Nat × Obj)} {w : World} (h : Kept l w) (o : Obj) : Kept ((w.heap.size, o) :: l) (w.alloc o) := (h.more o).cons (new_blk w o)
theorem Kept.dec {l : List (Nat × Obj)} {w : World} (h : Kept l w) (d : Dc) : Kept ((w.heap.size, decO d) :: l) (w.alloc (.cells #[.bool d.neg, .string (bs d.s), .int .i64 d.e] 35)) := h.push (decO d)
theorem Kept.decs {l : List (Nat × Obj)} {w : World} (h : Kept l w) {g : Nat} {d : Dc} (hm : (g, decO d) ∈ l) :
  w.cell? ⟨g, 0, none⟩ = some (.bool d.neg) ∧ w.cell? ⟨g, 1, none⟩ = some (.string (bs d.s)) ∧ w.cell? ⟨g, 2, none⟩ = some (.int .i64 d.e) := by
 have r : w.heap[g]? = some (.cells #[.bool d.neg, .string (bs d.s), .int .i64 d.e] 35 (0, 0)) := h _ hm
 exact ⟨cell_of_row w g 0 _ _ _ r, cell_of_row w g 1 _ _ _ r, cell_of_row w g 2 _ _ _ r⟩
theorem Kept.drow {l : List (Nat × Obj)} {w : World} (h : Kept l w) {g : Nat} {d : Dc} (hm : (g, decO d) ∈ l) : w.heap[g]? = some (.cells #[.bool d.neg, .string (bs d.s), .int .i64 d.e] 35 (0, 0)) := h _ hm
theorem add_c {a b r : Dc} (ha : a.ok) (hb : b.ok) (hx : addX a b = 0) (hr : addD a b = r) (w : World) (htab : Tab w) : ∀ W, Below w.heap.size w W → Calls Tryz.prog 124 #[.agg #[.bool a.neg, .string (bs a.s), .int .i64 a.e], .agg #[.bool b.neg, .string (bs b.s), .int .i64 b.e]] W fun e w' => e = .returned (.tuple #[.agg #[.bool r.neg, .string (bs r.s), .int .i64 r.e], .int .i64 0]) ∧ Below W.heap.size W w' := fun W hW => by
 have la := ok_len ha
 have lb := ok_len hb
 have := add_v a b W (by omega) (by omega) (htab.below hW)
 rw [okB_ok ha, okB_ok hb, hx, hr] at this
 exact this
theorem sub_c {a b r : Dc} (ha : a.ok) (hb : b.ok) (hx : addX a (negD b) = 0) (hr : addD a (negD b) = r) (w : World) (htab : Tab w) : ∀ W, Below w.heap.size w W → Calls Tryz.prog 62 #[.agg #[.bool a.neg, .string (bs a.s), .int .i64 a.e], .agg #[.bool b.neg, .string (bs b.s), .int .i64 b.e]] W fun e w' => e = .returned (.tuple #[.agg #[.bool r.neg, .string (bs r.s), .int .i64 r.e], .int .i64 0]) ∧ Below W.heap.size W w' := fun W hW => by
 have la := ok_len ha
 have lb := ok_len hb
 have := sub_v a b W (by omega) (by omega) (htab.below hW)
 rw [okB_ok ha, okB_ok hb, hx, hr] at this
 exact this
theorem mul_c {a b r : Dc} (ha : a.ok) (hb : b.ok) (hx : mulX a b = 0) (hr : mulD a b = r) (w : World) (htab : Tab w) : ∀ W, Below w.heap.size w W → Calls Tryz.prog 60 #[.agg #[.bool a.neg, .string (bs a.s), .int .i64 a.e], .agg #[.bool b.neg, .string (bs b.s), .int .i64 b.e]] W fun e w' => e = .returned (.tuple #[.agg #[.bool r.neg, .string (bs r.s), .int .i64 r.e], .int .i64 0]) ∧ Below W.heap.size W w' := fun W hW => by
 have la := ok_len ha
 have lb := ok_len hb
 have := mul_v a b W (by omega) (by omega) (htab.below hW)
 rw [okB_ok ha, okB_ok hb, hx, hr] at this
 exact this
theorem int_c {n : Int} {r : Dc} (h0 : -9223372036854775808 ≤ n) (h1 : n ≤ 9223372036854775807) (hr : mkD n 0 = r) (w : World) (htab : Tab w) : ∀ W, Below w.heap.size w W → Calls Tryz.prog 61 #[.int .i64 n] W fun e w' => e = .returned (.agg #[.bool r.neg, .string (bs r.s), .int .i64 r.e]) ∧ Below W.heap.size W w' := fun W hW => by
 have := int_v n W h0 h1 (htab.below hW)
 rw [hr] at this
 exact this
end Go.Proofs.YtlbokicainimnaaGreatDoor
