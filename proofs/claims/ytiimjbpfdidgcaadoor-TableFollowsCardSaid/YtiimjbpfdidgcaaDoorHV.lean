/- Parts Rc of the proof, in one text. -/
import Derived.Test.YtiimjbpfdidgcaaDoorHC
import Derived.Test.YtiimjbpfdidgcaaDoorHR

/- Walks: the document's answer for layer 7 (quadrilleref07): isInf, unlike, signed, Of. -/
namespace Go.Proofs.YtiimjbpfdidgcaaDoor
open Go.RowKit

theorem sgnW_ne (a b : Nat) : (((sgnW a : Nat) : Int) != ((sgnW b : Nat) : Int)) = (sgnB a != sgnB b) := by unfold sgnW; cases sgnB a <;> cases sgnB b <;> rfl

theorem r7_isinf (b : Nat) (w : World) (hb : W64 b) :
    Calls Tryd.prog 52 #[.int .u64 b] w fun e w' => e = .returned (.bool (infB b)) ∧ w = w' := by
  go_enter Tryd.func52, Tryd.ntmps52
  go_wp2
  go_ret
  exact ⟨rfl, rfl⟩
theorem r7_unlike (a b : Nat) (w : World) (ha : W64 a) (hb : W64 b) :
    Calls Tryd.prog 61 #[.int .u64 a, .int .u64 b] w fun e w' => e = .returned (.bool (sgnB a != sgnB b)) ∧ w = w' := by
  go_enter Tryd.func61, Tryd.ntmps61
  go_wp2
  go_ret
  exact ⟨by rw [← sgnW_ne]; rfl, rfl⟩
theorem abs_or (b : Nat) : Go.bits .or .u64 ((absB b : Nat) : Int) 9223372036854775808 = ((absB b + 9223372036854775808 : Nat) : Int) := by
  have h := absB_lt b
  rw [show (9223372036854775808 : Int) = ((9223372036854775808 : Nat) : Int) from rfl, Go.u64_or_nat _ _ (by omega) (by decide), or_add (r := 63) (by simpa using h) (by decide)]
theorem r7_signed (b : Nat) (neg : Bool) (w : World) (hb : W64 b) :
    Calls Tryd.prog 53 #[.int .u64 b, .bool neg] w fun e w' => e = .returned (.int .u64 ((if neg then absB b + 9223372036854775808 else absB b : Nat) : Int)) ∧ w = w' := by
  have h := abs_or b
  cases neg
  all_goals
    go_enter Tryd.func53, Tryd.ntmps53
    go_wp2
    go_ret
    exact ⟨rfl, rfl⟩

/-- A term of the reference: a whole number times 2^E, with a sign. -/
def Term (w : World) (v : Value) (neg : Bool) (M : Nat) (E : Int) : Prop := ∃ s, v = .agg #[.bool neg, s, .int .i64 E] ∧ Num .u32 4294967296 w s M
def TermQ (neg : Bool) (M : Nat) (E : Int) (w : World) (e : Ending) (w' : World) : Prop := ∃ v, e = .returned v ∧ Term w' v neg M E ∧ Below w.heap.size w w'

theorem term_row {fn : Func} {p : Tmp} (h : fn.results = #[.cell p 48]) (tmps : Array Value) (w : World) (g : Nat) (a b c : Value)
    (hp : tmps.getD p undef = .pointer (some ⟨g, 0, none⟩)) (hg : w.heap[g]? = some (.cells #[a, b, c] 48 (0, 0))) : (results fn tmps).run Tryd.prog w = .ok (.agg #[a, b, c]) w :=
  results_cell_row h tmps w g _ _ _ _ hp hg Tryd.underlying48 rfl (by kernel_rfl)

theorem spM_lt (b : Nat) : spM b < 9007199254740992 := by
  have := fracB_lt b
  unfold spM mantB
  split
  · decide
  · split
    · decide
    · split <;> omega

theorem wr3' {w : World} {g : Nat} {a b c : Value} {t : TypeId} (h : w.heap[g]? = some (.cells #[a, b, c] t (0, 0))) :
    (w.frozen? ⟨g, 0, none⟩ = false ∧ w.cell? ⟨g, 0, none⟩ = some a) ∧ (∀ u, (w.setCell ⟨g, 0, none⟩ u).frozen? ⟨g, 1, none⟩ = false ∧ (w.setCell ⟨g, 0, none⟩ u).cell? ⟨g, 1, none⟩ = some b) ∧
      (∀ u v, ((w.setCell ⟨g, 0, none⟩ u).setCell ⟨g, 1, none⟩ v).frozen? ⟨g, 2, none⟩ = false ∧ ((w.setCell ⟨g, 0, none⟩ u).setCell ⟨g, 1, none⟩ v).cell? ⟨g, 2, none⟩ = some c) ∧
      ∀ u v x, (((w.setCell ⟨g, 0, none⟩ u).setCell ⟨g, 1, none⟩ v).setCell ⟨g, 2, none⟩ x).heap[g]? = some (.cells #[u, v, x] t (0, 0)) := by
  have h1 := fun u => heap_setCell_same w g 0 _ _ u h
  have h2 := fun u v => heap_setCell_same _ g 1 _ _ v (h1 u)
  have h3 := fun u v x => heap_setCell_same _ g 2 _ _ x (h2 u v)
  exact ⟨⟨frozen_of_row w g 0 _ _ h, cell_of_row w g 0 _ _ _ h⟩, fun u => ⟨frozen_of_row _ g 1 _ _ (h1 u), cell_of_row _ g 1 _ _ _ (h1 u)⟩, fun u v => ⟨frozen_of_row _ g 2 _ _ (h2 u v), cell_of_row _ g 2 _ _ _ (h2 u v)⟩, h3⟩

/-- A number stays where a term's block is written. -/
theorem Num.set3 {w : World} {g : Nat} {a : Bool} {p : Option Addr} {n c : Nat} {E : Int} {t : TypeId} {s : Value} {N : Nat} (h : Num .u32 4294967296 w s N) (hg : w.heap[g]? = some (.cells #[.bool a, .slice p n c, .int .i64 E] t (0, 0))) (u v x : Value) :
    Num .u32 4294967296 (((w.setCell ⟨g, 0, none⟩ u).setCell ⟨g, 1, none⟩ v).setCell ⟨g, 2, none⟩ x) s N := by
  obtain ⟨xs, ⟨q, n', cc, rfl, h1, h2, h3, h4, h5⟩, h6, h7⟩ := h
  refine ⟨xs, ⟨q, n', cc, rfl, h1, h2, h3, h4, fun hn => ?_⟩, h6, h7⟩
  obtain ⟨b', o, rfl, hs, hc⟩ := h5 hn
  have hbg : b' ≠ g := by
    rintro rfl
    have := hc 0 hn
    rw [cell_of_row _ _ _ _ _ _ hg] at this
    match o with
    | 0 => simp at this
    | 1 => simp at this
    | 2 => simp at this
    | o + 3 => simp at this
  refine ⟨b', o, rfl, by simpa [World.setCell] using hs, fun i hi => ?_⟩
  rw [← hc i hi, World.cell?_of_block (heap_setCell_other _ _ _ _ (by exact hbg)), World.cell?_of_block (heap_setCell_other _ _ _ _ (by exact hbg)), World.cell?_of_block (heap_setCell_other _ _ _ _ (by exact hbg))]

set_option maxRecDepth 100000 in
theorem r7_of (b : Nat) (w : World) (hb : W64 b) :
    Calls Tryd.prog 54 #[.int .u64 b] w (TermQ (spS b) (spM b) (spE b) w) := by
  have HB : Hid (W64 b) := hb
  clear hb
  go_enter Tryd.func54, Tryd.ntmps54
  go_wp2_with (go_at_call 77; refine (ref_split b _ HB.out).mono ?_; rintro e w' ⟨rfl, rfl⟩)
  refine (of_any (spM b) _ (Nat.lt_trans (spM_lt b) (by decide))).mono ?_
  rintro e w' ⟨v, rfl, hnum, hb⟩
  obtain ⟨s1, s2, s3, rfl⟩ := hnum.shape
  have hrow := hb.blk (heap_alloc_new w _) (by simp)
  obtain ⟨⟨a0, a1⟩, a2, a3, a4⟩ := wr3' hrow
  have b0 := fun u => (a2 u).1
  have b1 := fun u => (a2 u).2
  have b2 := fun u v => (a3 u v).1
  have b3 := fun u v => (a3 u v).2
  have A4 : Hid _ := a4
  have HR : Hid _ := hrow
  have HN : Hid (Num .u32 4294967296 w' (.slice s1 s2 s3) (spM b)) := hnum
  have HBW : Hid (Below w.heap.size w w') := ((Below.refl _ _).alloc (Nat.le_refl _) _).trans (hb.mono (by simp))
  clear a2 a3 a4 hrow hnum hb
  go_wp2
  refine bodyPost_ret (term_row rfl _ _ w.heap.size _ _ _ rfl (A4.out _ _ _)) rfl ⟨_, rfl, ⟨_, rfl, ?_⟩, ((HBW.out.setCell (Nat.le_refl _) _).setCell (Nat.le_refl _) _).setCell (Nat.le_refl _) _⟩
  exact HN.out.set3 HR.out _ _ _
end Go.Proofs.YtiimjbpfdidgcaaDoor
