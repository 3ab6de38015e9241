/- Parts Ek, Em of the proof, in one text. -/
import Derived.Test.YtlffojopfilfeaaGreatDoorRQW
import Derived.Test.YtlffojopfilfeaaGreatDoorRQS

/- Walks: dec's lifted. -/
namespace Go.Proofs.YtlffojopfilfeaaGreatDoor
open Go.RowKit

/-- What the world holds while lifted lays its results. -/
structure LiftG (w : World) (a b : Dc) (g7 g8 : Nat) (ba bb : Bool) (s t : Value) (W : World) : Prop where
  bel : Below w.heap.size w W
  ra : W.heap[w.heap.size]? = some (.cells #[.bool a.neg, .string (bs a.s), .int .i64 a.e] 115 (0, 0))
  rb : W.heap[w.heap.size + 1]? = some (.cells #[.bool b.neg, .string (bs b.s), .int .i64 b.e] 115 (0, 0))
  r7 : W.heap[g7]? = some (.cells #[.bool ba, s] 73 (0, 0))
  r8 : W.heap[g8]? = some (.cells #[.bool bb, t] 73 (0, 0))
  n7 : Num .u64 18446744073709551616 W s a.v.natAbs
  n8 : Num .u64 18446744073709551616 W t b.v.natAbs
  r4 : ∃ x a m c, W.heap[w.heap.size + 2]? = some (.cells #[.bool x, .slice a m c] 73 (0, 0))
  r5 : ∃ x a m c, W.heap[w.heap.size + 3]? = some (.cells #[.bool x, .slice a m c] 73 (0, 0))
  d7 : w.heap.size + 4 ≤ g7
  d8 : w.heap.size + 4 ≤ g8
theorem Num.setRow {k : IntKind} {B : Nat} {w : World} {s : Value} {N : Nat} (h : Num k B w s N) {g : Nat} {x : Bool} {a : Option Addr} {n c : Nat} {t : TypeId} (hg : w.heap[g]? = some (.cells #[.bool x, .slice a n c] t (0, 0))) (cs : Array Value) : Num k B (w.setRow g cs) s N := by
  obtain ⟨xs, ⟨p, m, d, rfl, h1, h2, h3, h4, h5⟩, h6, h7⟩ := h
  refine ⟨xs, ⟨p, m, d, rfl, h1, h2, h3, h4, fun hn => ?_⟩, h6, h7⟩
  obtain ⟨b, o, rfl, hs, hc⟩ := h5 hn
  have hbg : b ≠ g := by
    rintro rfl
    have := hc 0 hn
    rw [cell_of_row _ _ _ _ _ _ hg] at this
    match o, this with
    | 0, h => simp at h
    | 1, h => simp at h
    | o + 2, h => simp at h
  exact ⟨b, o, rfl, by rw [setRow_size]; exact hs, fun i hi => (World.cell?_of_block (setRow_other w g b cs hbg)).trans (hc i hi)⟩
theorem WideI.setRow {w : World} {v : Value} {V : Int} (h : WideI w v V) {g : Nat} {x : Bool} {a : Option Addr} {n c : Nat} {t : TypeId} (hg : w.heap[g]? = some (.cells #[.bool x, .slice a n c] t (0, 0))) (cs : Array Value) : WideI (w.setRow g cs) v V := by
  obtain ⟨p, m, d, rfl, hn⟩ := h
  exact ⟨p, m, d, rfl, hn.setRow hg cs⟩
theorem LiftG.below {w : World} {a b : Dc} {g7 g8 : Nat} {ba bb : Bool} {s t : Value} {W W' : World} (h : LiftG w a b g7 g8 ba bb s t W) (hb : Below W.heap.size W W') : LiftG w a b g7 g8 ba bb s t W' :=
  ⟨h.bel.thru hb, hb.blk h.ra (blk_lt h.ra), hb.blk h.rb (blk_lt h.rb), hb.blk h.r7 (blk_lt h.r7), hb.blk h.r8 (blk_lt h.r8), h.n7.below (Nat.le_refl _) hb, h.n8.below (Nat.le_refl _) hb,
    (by obtain ⟨x, a, m, c, e⟩ := h.r4; exact ⟨x, a, m, c, hb.blk e (blk_lt e)⟩), (by obtain ⟨x, a, m, c, e⟩ := h.r5; exact ⟨x, a, m, c, hb.blk e (blk_lt e)⟩), h.d7, h.d8⟩
/-- A row that holds an Int of that sign and magnitude. -/
def ResS (W : World) (g : Nat) (b : Bool) (N : Nat) : Prop := ∃ p m c, W.heap[g]? = some (.cells #[.bool b, .slice p m c] 73 (0, 0)) ∧ Num .u64 18446744073709551616 W (.slice p m c) N
theorem ResS.new {W : World} {g : Nat} {x b : Bool} {p p' : Option Addr} {m m' c c' N : Nat} (hr : W.heap[g]? = some (.cells #[.bool x, .slice p m c] 73 (0, 0))) (hn : Num .u64 18446744073709551616 W (.slice p' m' c') N) : ResS (W.setRow g #[.bool b, .slice p' m' c']) g b N :=
  ⟨p', m', c', setRow_heap W _ _ _ _ _ hr, hn.setRow hr _⟩
theorem ResS.below {W W' : World} {g : Nat} {b : Bool} {N : Nat} (h : ResS W g b N) (hb : Below W.heap.size W W') : ResS W' g b N := by
  obtain ⟨p, m, c, h1, h2⟩ := h
  exact ⟨p, m, c, hb.blk h1 (blk_lt h1), h2.below (Nat.le_refl _) hb⟩
end Go.Proofs.YtlffojopfilfeaaGreatDoor

/- Walks: dec's Cmp, Sub, Mul. -/
namespace Go.Proofs.YtlffojopfilfeaaGreatDoor
open Go.RowKit

theorem row3_other {w : World} {g k : Nat} {x : Option Obj} (h : w.heap[k]? = x) (hk : k ≠ g) (u v y : Value) : (((w.setCell ⟨g, 0, none⟩ u).setCell ⟨g, 1, none⟩ v).setCell ⟨g, 2, none⟩ y).heap[k]? = x := by
  rw [heap_setCell_other _ _ _ _ hk]; exact row2_other h hk u v
end Go.Proofs.YtlffojopfilfeaaGreatDoor
