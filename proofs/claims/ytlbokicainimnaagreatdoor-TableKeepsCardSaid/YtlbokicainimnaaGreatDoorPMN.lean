import Derived.Test.YtlbokicainimnaaGreatDoorPMH
import Derived.Test.YtlbokicainimnaaGreatDoorPWL
import Derived.Test.YtlbokicainimnaaGreatDoorPNE
import Derived.Deep.RegionHeld3
import Derived.Laws.CopyOwn
namespace Go.Proofs.YtlbokicainimnaaGreatDoor
open Go.RowKit
theorem row3 {w : World} {g : Nat} {a b c : Value} {t : TypeId} (h : w.heap[g]? = some (.cells #[a, b, c] t (0, 0))) :
  w.cell? ⟨g, 0, none⟩ = some a ∧ w.cell? ⟨g, 1, none⟩ = some b ∧ w.cell? ⟨g, 2, none⟩ = some c :=
 ⟨cell_of_row w g 0 _ _ _ h, cell_of_row w g 1 _ _ _ h, cell_of_row w g 2 _ _ _ h⟩
theorem float_flags_row {fn : Func} {p u : Tmp} (h : fn.results = #[.cell p 137, .cell u 76]) (tmps : Array Value) (w : World) (g g' : Nat) (a b c d a' b' c' : Value)
  (hp : tmps.getD p undef = .pointer (some ⟨g, 0, none⟩)) (hg : w.heap[g]? = some (.cells #[a, b, c, d] 137 (0, 0)))
  (hp' : tmps.getD u undef = .pointer (some ⟨g', 0, none⟩)) (hg' : w.heap[g']? = some (.cells #[a', b', c'] 76 (0, 0))) : (results fn tmps).run Tryz.prog w = .ok (.tuple #[.agg #[a, b, c, d], .agg #[a', b', c']]) w := by
 have h1 : tmps[p]?.getD undef = .pointer (some ⟨g, 0, none⟩) := by simpa using hp
 have h2 : tmps[u]?.getD undef = .pointer (some ⟨g', 0, none⟩) := by simpa using hp'
 simp only [results, h]
 simp [h1, h2, asAddr, run_loadVar_row (P := Tryz.prog) w g _ 137 #[a, b, c, d] (0, 0) _ hg Tryz.underlying137 rfl (by kernel_rfl), run_loadVar_row (P := Tryz.prog) w g' _ 76 #[a', b', c'] (0, 0) _ hg' Tryz.underlying76 rfl (by kernel_rfl)]
theorem step_plain {P : Program} {ops : Array Oper} {o : Oper} {a : Act} {w : World} {K : Act → World → Prop} {Q : Exit → Act → World → Prop} {E : Prop} (hgd : o.guard = none) (h : Oper.wp P o a w K Q) :
  if Region.wanted o (yielded ops a.tmps) = true then Oper.wp P o a w K Q else E := by
 have hw : Region.wanted o (yielded ops a.tmps) = true := by simp [Region.wanted, hgd]
 rw [if_pos hw]; exact h
theorem ncmp_cases (M N : Nat) : ncmp M N = -1 ∨ ncmp M N = 0 ∨ ncmp M N = 1 := by unfold ncmp; split; exact .inl rfl; split; exact .inr (.inr rfl); exact .inr (.inl rfl)
theorem wr5 {w : World} {g : Nat} {a b c d e : Value} {t : TypeId} (h : w.heap[g]? = some (.cells #[a, b, c, d, e] t (0, 0))) :
  (w.frozen? ⟨g, 0, none⟩ = false ∧ w.cell? ⟨g, 0, none⟩ = some a) ∧ (∀ u, (w.setCell ⟨g, 0, none⟩ u).frozen? ⟨g, 1, none⟩ = false ∧ (w.setCell ⟨g, 0, none⟩ u).cell? ⟨g, 1, none⟩ = some b) ∧
   (∀ u v, ((w.setCell ⟨g, 0, none⟩ u).setCell ⟨g, 1, none⟩ v).frozen? ⟨g, 2, none⟩ = false ∧ ((w.setCell ⟨g, 0, none⟩ u).setCell ⟨g, 1, none⟩ v).cell? ⟨g, 2, none⟩ = some c) ∧
   (∀ u v x, (((w.setCell ⟨g, 0, none⟩ u).setCell ⟨g, 1, none⟩ v).setCell ⟨g, 2, none⟩ x).frozen? ⟨g, 3, none⟩ = false ∧ (((w.setCell ⟨g, 0, none⟩ u).setCell ⟨g, 1, none⟩ v).setCell ⟨g, 2, none⟩ x).cell? ⟨g, 3, none⟩ = some d) ∧
   (∀ u v x y, ((((w.setCell ⟨g, 0, none⟩ u).setCell ⟨g, 1, none⟩ v).setCell ⟨g, 2, none⟩ x).setCell ⟨g, 3, none⟩ y).frozen? ⟨g, 4, none⟩ = false ∧ ((((w.setCell ⟨g, 0, none⟩ u).setCell ⟨g, 1, none⟩ v).setCell ⟨g, 2, none⟩ x).setCell ⟨g, 3, none⟩ y).cell? ⟨g, 4, none⟩ = some e) ∧
   ∀ u v x y z, (((((w.setCell ⟨g, 0, none⟩ u).setCell ⟨g, 1, none⟩ v).setCell ⟨g, 2, none⟩ x).setCell ⟨g, 3, none⟩ y).setCell ⟨g, 4, none⟩ z).heap[g]? = some (.cells #[u, v, x, y, z] t (0, 0)) := by
 have h1 := fun u => heap_setCell_same w g 0 _ _ u h
 have h2 := fun u v => heap_setCell_same _ g 1 _ _ v (h1 u)
 have h3 := fun u v x => heap_setCell_same _ g 2 _ _ x (h2 u v)
 have h4 := fun u v x y => heap_setCell_same _ g 3 _ _ y (h3 u v x)
 have h5 := fun u v x y z => heap_setCell_same _ g 4 _ _ z (h4 u v x y)
 exact ⟨⟨frozen_of_row w g 0 _ _ h, cell_of_row w g 0 _ _ _ h⟩, fun u => ⟨frozen_of_row _ g 1 _ _ (h1 u), cell_of_row _ g 1 _ _ _ (h1 u)⟩, fun u v => ⟨frozen_of_row _ g 2 _ _ (h2 u v), cell_of_row _ g 2 _ _ _ (h2 u v)⟩,
  fun u v x => ⟨frozen_of_row _ g 3 _ _ (h3 u v x), cell_of_row _ g 3 _ _ _ (h3 u v x)⟩, fun u v x y => ⟨frozen_of_row _ g 4 _ _ (h4 u v x y), cell_of_row _ g 4 _ _ _ (h4 u v x y)⟩, h5⟩
theorem set5_other {w : World} {g k : Nat} (hk : k ≠ g) (u v x y z : Value) :
  (((((w.setCell ⟨g, 0, none⟩ u).setCell ⟨g, 1, none⟩ v).setCell ⟨g, 2, none⟩ x).setCell ⟨g, 3, none⟩ y).setCell ⟨g, 4, none⟩ z).heap[k]? = w.heap[k]? := by
 rw [heap_setCell_other _ _ _ _ (by exact hk), heap_setCell_other _ _ _ _ (by exact hk), heap_setCell_other _ _ _ _ (by exact hk), heap_setCell_other _ _ _ _ (by exact hk), heap_setCell_other _ _ _ _ (by exact hk)]
theorem keep5 {w : World} {g : Nat} {t : TypeId} {q : Value} (h : ∀ u v x y z, (((((w.setCell ⟨g, 0, none⟩ u).setCell ⟨g, 1, none⟩ v).setCell ⟨g, 2, none⟩ x).setCell ⟨g, 3, none⟩ y).setCell ⟨g, 4, none⟩ z).heap[g]? = some (.cells #[u, v, x, y, z] t (0, 0))) (hq : w.cell? ⟨g + 1, 0, none⟩ = some q) (u v x y z : Value) :
  (((((w.setCell ⟨g, 0, none⟩ u).setCell ⟨g, 1, none⟩ v).setCell ⟨g, 2, none⟩ x).setCell ⟨g, 3, none⟩ y).setCell ⟨g, 4, none⟩ z).cell? ⟨g, 0, none⟩ = some u ∧ (((((w.setCell ⟨g, 0, none⟩ u).setCell ⟨g, 1, none⟩ v).setCell ⟨g, 2, none⟩ x).setCell ⟨g, 3, none⟩ y).setCell ⟨g, 4, none⟩ z).cell? ⟨g + 1, 0, none⟩ = some q :=
 ⟨(row5 (h u v x y z)).1, by
   have e0 := set5_other (w := w) (k := g + 1) (g := g) (by omega) u v x y z
   have e : (((((w.setCell ⟨g, 0, none⟩ u).setCell ⟨g, 1, none⟩ v).setCell ⟨g, 2, none⟩ x).setCell ⟨g, 3, none⟩ y).setCell ⟨g, 4, none⟩ z).cell? ⟨g + 1, 0, none⟩ = w.cell? ⟨g + 1, 0, none⟩ := World.cell?_of_block e0
   exact e.trans hq⟩
theorem set5_below {B g : Nat} {a w : World} (h : Below B a w) (hg : B ≤ g) (u v x y z : Value) :
  Below B a (((((w.setCell ⟨g, 0, none⟩ u).setCell ⟨g, 1, none⟩ v).setCell ⟨g, 2, none⟩ x).setCell ⟨g, 3, none⟩ y).setCell ⟨g, 4, none⟩ z) :=
 ((((h.setCell (by exact hg) _).setCell (by exact hg) _).setCell (by exact hg) _).setCell (by exact hg) _).setCell (by exact hg) _
theorem Num.set5 {w : World} {g : Nat} {a b c d e : Value} {t : TypeId} {s : Value} {N : Nat} (h : Num .u32 4294967296 w s N) (hg : w.heap[g]? = some (.cells #[a, b, c, d, e] t (0, 0))) (hno : ∀ z, a ≠ .int .u32 z ∧ b ≠ .int .u32 z ∧ c ≠ .int .u32 z ∧ d ≠ .int .u32 z ∧ e ≠ .int .u32 z) (u v x y z : Value) :
  Num .u32 4294967296 (((((w.setCell ⟨g, 0, none⟩ u).setCell ⟨g, 1, none⟩ v).setCell ⟨g, 2, none⟩ x).setCell ⟨g, 3, none⟩ y).setCell ⟨g, 4, none⟩ z) s N := by
 obtain ⟨xs, ⟨p, n, cc, rfl, h1, h2, h3, h4, h5⟩, h6, h7⟩ := h
 refine ⟨xs, ⟨p, n, cc, rfl, h1, h2, h3, h4, fun hn => ?_⟩, h6, h7⟩
 obtain ⟨b', o, rfl, hs, hc⟩ := h5 hn
 have hbg : b' ≠ g := by
  rintro rfl
  have := hc 0 hn
  rw [cell_of_row _ _ _ _ _ _ hg] at this
  match o with
  | 0 => simp at this; exact (hno _).1 this
  | 1 => simp at this; exact (hno _).2.1 this
  | 2 => simp at this; exact (hno _).2.2.1 this
  | 3 => simp at this; exact (hno _).2.2.2.1 this
  | 4 => simp at this; exact (hno _).2.2.2.2 this
  | o + 5 => simp at this
 refine ⟨b', o, rfl, by simpa [World.setCell] using hs, fun i hi => ?_⟩
 rw [← hc i hi]
 exact World.cell?_of_block (set5_other hbg _ _ _ _ _)
end Go.Proofs.YtlbokicainimnaaGreatDoor
