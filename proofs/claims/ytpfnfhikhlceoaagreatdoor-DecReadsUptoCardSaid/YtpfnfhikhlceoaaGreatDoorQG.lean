/- Parts Wa, Wb of the proof, in one text. -/
import Derived.Test.YtpfnfhikhlceoaaGreatDoorRows
import Derived.Test.YtpfnfhikhlceoaaGreatDoorQE
import Derived.Test.YtpfnfhikhlceoaaGreatDoorQB

/- Walks: wide's small functions. -/
namespace Go.Proofs.YtpfnfhikhlceoaaGreatDoor
open Go.RowKit

/-- An Int of wide: a sign and words. -/
def Wide (w : World) (v : Value) (neg : Bool) (N : Nat) : Prop := ∃ s, v = .agg #[.bool neg, s] ∧ Num .u64 18446744073709551616 w s N ∧ (neg = true → N ≠ 0)

/-- What a call leaves that hands back an Int: of sign b, of magnitude N. -/
def WideQ (b : Bool) (N : Nat) (w : World) (e : Ending) (w' : World) : Prop := ∃ v, e = .returned v ∧ Wide w' v b N ∧ Below w.heap.size w w'

/-- An Int handed back out of its result cell. -/
theorem int_row {fn : Func} {p : Tmp} (h : fn.results = #[.cell p 63]) (tmps : Array Value) (w : World) (g : Nat) (v s : Value)
    (hp : tmps.getD p undef = .pointer (some ⟨g, 0, none⟩)) (hg : w.heap[g]? = some (.cells #[v, s] 63 (0, 0))) : (results fn tmps).run Tryz.prog w = .ok (.agg #[v, s]) w :=
  results_cell_row h tmps w g _ _ _ _ hp hg Tryz.underlying63 rfl (by kernel_rfl)

theorem made_num {w : World} {a : Option Addr} {n c m : Nat} {xs : List Nat} (h : Limbs .u64 18446744073709551616 w (.slice a n c) xs) (hm : m ≤ n) (hz : ∀ i, m ≤ i → i < n → xs.getD i 0 = 0)
    (hlast : m = 0 ∨ xs.getD (m - 1) 0 ≠ 0) : Num .u64 18446744073709551616 w (.slice a m c) (lval 18446744073709551616 xs) ∧ (lval 18446744073709551616 xs = 0 ↔ m = 0) := by
  have hl : xs.length = n := by obtain ⟨_, _, _, h0, h1, _⟩ := h; cases h0; exact h1
  have e := lval_take_of_zeros 18446744073709551616 xs m (by omega) (by rw [hl]; exact hz)
  refine ⟨⟨xs.take m, h.take hm, e, ?_⟩, ?_⟩
  · unfold Norm
    rcases hlast with rfl | hlast
    · left; simp
    · by_cases h0 : m = 0
      · left; simp [h0]
      · right
        rw [List.length_take, Nat.min_eq_left (by omega)]
        simp only [List.getD_eq_getElem?_getD, List.getElem?_take, if_pos (show m - 1 < m by omega)]
        simpa using hlast
  · constructor
    · intro hv
      rcases hlast with h0 | hlast
      · exact h0
      · by_cases h0 : m = 0
        · exact h0
        · exfalso
          have := lval_take_succ 18446744073709551616 xs (m - 1) (by omega)
          rw [show m - 1 + 1 = m by omega, e, hv] at this
          have h2 : 18446744073709551616 ^ (m - 1) * xs.getD (m - 1) 0 = 0 := by omega
          rcases Nat.mul_eq_zero.mp h2 with h2 | h2
          · have := Nat.pow_pos (n := m - 1) (show 0 < 18446744073709551616 by decide); omega
          · exact hlast h2
    · rintro rfl
      rw [← e]; rfl

set_option maxRecDepth 100000 in
theorem made_any (neg : Bool) (s : Value) (xs : List Nat) (w : World) (h : Limbs .u64 18446744073709551616 w s xs) :
    Calls Tryz.prog 77 #[.bool neg, s] w (WideQ (neg && lval 18446744073709551616 xs != 0) (lval 18446744073709551616 xs) w) := by
  have HL : Hid (Limbs .u64 18446744073709551616 w s xs) := h
  obtain ⟨a, n, c, rfl, hn, hnc, hc, hx, hcell⟩ := h
  have HF : ∀ b, Hid (Wide w (.agg #[]) b 0 → True) := fun _ _ => trivial
  go_enter Tryz.func77, Tryz.ntmps77
  go_wp2
  go_loop [1] (fun v => ∃ m, m ≤ n ∧ v = .slice a m c ∧ ∀ i, m ≤ i → i < n → xs.getD i 0 = 0) (fun v => match v with | .slice _ m _ => m | _ => 0)
  case atStart => exact ⟨n, Nat.le_refl _, rfl, fun i h1 h2 => by omega⟩
  case round =>
    obtain ⟨m, hm, rfl, hz⟩ := hrel
    have HZ : Hid (∀ i, m ≤ i → i < n → xs.getD i 0 = 0) := hz
    clear hz
    by_cases hm0 : 0 < m
    · obtain ⟨b, o, rfl, hb, hcc⟩ := hcell (by omega)
      have h1 := hcc (m - 1) (by omega)
      go_wp2
      · go_round
        case rel =>
          have hlast : xs.getD (m - 1) 0 = 0 := by
            have : (((xs[m - 1]?.getD 0 : Nat) : Int) == 0) = true := by assumption
            simpa using this
          refine ⟨m - 1, by omega, rfl, fun i h1 h2 => ?_⟩
          by_cases h3 : i = m - 1
          · rw [h3]; exact hlast
          · exact HZ.out i (by omega) h2
        case measure => simp; omega
      all_goals
        have hlast : xs.getD (m - 1) 0 ≠ 0 := by
          have : (((xs[m - 1]?.getD 0 : Nat) : Int) == 0) = false := by assumption
          simpa using this
        obtain ⟨hnum, hnil⟩ := made_num HL.out hm HZ.out (.inr hlast)
        refine bodyPost_ret (int_row rfl _ _ w.heap.size _ _ rfl (heap_alloc_new w _)) rfl ⟨_, rfl, ⟨_, ?_, hnum.below (Nat.le_refl _) ((Below.refl _ _).alloc (Nat.le_refl _) _), ?_⟩, (Below.refl _ _).alloc (Nat.le_refl _) _⟩
        · have hlt : lval 18446744073709551616 xs ≠ 0 := fun h => by rw [hnil] at h; omega
          simp [hlt]
        · intro _ h
          rw [hnil] at h; omega
    · go_wp2
      all_goals
        obtain ⟨hnum, hnil⟩ := made_num HL.out hm HZ.out (.inl (by omega))
        refine bodyPost_ret (int_row rfl _ _ w.heap.size _ _ rfl (heap_alloc_new w _)) rfl ⟨_, rfl, ⟨_, ?_, hnum.below (Nat.le_refl _) ((Below.refl _ _).alloc (Nat.le_refl _) _), ?_⟩, (Below.refl _ _).alloc (Nat.le_refl _) _⟩
        · have hlt : lval 18446744073709551616 xs = 0 := hnil.mpr (by omega)
          simp [hlt]
        · have hlt : lval 18446744073709551616 xs = 0 := hnil.mpr (by omega)
          intro h
          simp [hlt] at h

theorem _root_.Go.RowKit.Below.blk {M : Nat} {a w : World} (h : Below M a w) {g : Nat} {x : Option Obj} (hg : a.heap[g]? = x) (hM : g < M) : w.heap[g]? = x := (h.block g hM).trans hg

/-- What the walk asks of a row of two cells that it writes. -/
theorem row2 {w : World} {g : Nat} {x y : Value} {t : TypeId} (h : w.heap[g]? = some (.cells #[x, y] t (0, 0))) :
    w.frozen? ⟨g, 0, none⟩ = false ∧ w.frozen? ⟨g, 1, none⟩ = false ∧ w.cell? ⟨g, 0, none⟩ = some x ∧ w.cell? ⟨g, 1, none⟩ = some y ∧
      (∀ u, (w.setCell ⟨g, 0, none⟩ u).frozen? ⟨g, 1, none⟩ = false) ∧ ∀ u, (w.setCell ⟨g, 0, none⟩ u).cell? ⟨g, 1, none⟩ = some y :=
  ⟨frozen_of_row w g 0 _ _ h, frozen_of_row w g 1 _ _ h, cell_of_row w g 0 _ _ _ h, cell_of_row w g 1 _ _ _ h,
    fun u => frozen_of_row _ g 1 _ _ (heap_setCell_same w g 0 _ _ u h), fun u => cell_of_row _ g 1 _ _ _ (heap_setCell_same w g 0 _ _ u h)⟩
theorem row2_set {w : World} {g : Nat} {x y : Value} {t : TypeId} (h : w.heap[g]? = some (.cells #[x, y] t (0, 0))) (u v : Value) :
    ((w.setCell ⟨g, 0, none⟩ u).setCell ⟨g, 1, none⟩ v).heap[g]? = some (.cells #[u, v] t (0, 0)) := by
  have h1 := heap_setCell_same w g 0 _ _ u h
  exact heap_setCell_same _ g 1 _ _ v h1
/-- A store into a block that holds no words leaves all words as they are. -/
theorem Limbs.off {k : IntKind} {B : Nat} {w : World} {s : Value} {xs : List Nat} (h : Limbs k B w s xs) {g : Nat} (hg : ∀ o z, w.cell? ⟨g, o, none⟩ ≠ some (.int k z)) (j : Nat) (u : Value) :
    Limbs k B (w.setCell ⟨g, j, none⟩ u) s xs := by
  obtain ⟨a, n, c, rfl, h1, h2, h3, h4, h5⟩ := h
  refine ⟨a, n, c, rfl, h1, h2, h3, h4, fun hn => ?_⟩
  obtain ⟨b, o, rfl, hs, hc⟩ := h5 hn
  have hbg : b ≠ g := by
    rintro rfl
    exact hg _ _ (hc 0 hn)
  refine ⟨b, o, rfl, by simpa [World.setCell] using hs, fun i hi => ?_⟩
  rw [← hc i hi]
  exact World.cell?_of_block (heap_setCell_other w _ _ _ hbg)
theorem Num.row {k : IntKind} {B : Nat} {w : World} {s : Value} {N : Nat} (h : Num k B w s N) {g : Nat} {x : Bool} {a : Option Addr} {n c : Nat} {t : TypeId} (hg : w.heap[g]? = some (.cells #[.bool x, .slice a n c] t (0, 0))) (y : Bool) (v : Value) :
    Num k B ((w.setCell ⟨g, 0, none⟩ (.bool y)).setCell ⟨g, 1, none⟩ v) s N := by
  obtain ⟨xs, h1, h2, h3⟩ := h
  refine ⟨xs, Limbs.off (h1.off ?_ 0 _) ?_ 1 _, h2, h3⟩
  · intro o z
    rw [cell_of_row _ _ _ _ _ _ hg]
    match o with
    | 0 => simp
    | 1 => simp
    | o + 2 => simp
  · intro o z
    rw [cell_of_row _ _ _ _ _ _ (heap_setCell_same w g 0 _ _ _ hg)]
    match o with
    | 0 => simp
    | 1 => simp
    | o + 2 => simp
/-- The end of a function that hands back an Int that it has laid into its result's cell. -/
theorem wide_end {fn : Func} {p : Tmp} (hf : fn.results = #[.cell p 63]) {tmps : Array Value} {w0 w : World} {g : Nat} {x b : Bool} {a : Option Addr} {n c : Nat} {s : Value} {N : Nat}
    (hp : tmps.getD p undef = .pointer (some ⟨g, 0, none⟩)) (hg : w.heap[g]? = some (.cells #[.bool x, .slice a n c] 63 (0, 0))) (hv : Num .u64 18446744073709551616 w s N)
    (hb : Below w0.heap.size w0 w) (h0 : w0.heap.size ≤ g) (hn : b = true → N ≠ 0) :
    bodyPost Tryz.prog fn (WideQ b N w0) .ret ⟨tmps, []⟩ ((w.setCell ⟨g, 0, none⟩ (.bool b)).setCell ⟨g, 1, none⟩ s) :=
  bodyPost_ret (int_row hf _ _ g _ _ hp (row2_set hg _ _)) rfl ⟨_, rfl, ⟨_, rfl, hv.row hg _ _, hn⟩, (hb.setCell (by exact h0) _).setCell (by exact h0) _⟩

#print axioms made_any
end Go.Proofs.YtpfnfhikhlceoaaGreatDoor

/- Walks: wide's Word, Neg, Sign, Low, Bits, compare. -/
namespace Go.Proofs.YtpfnfhikhlceoaaGreatDoor
open Go.RowKit

set_option maxRecDepth 100000 in
theorem word_any (n : Nat) (w : World) (hn : n < 18446744073709551616) : Calls Tryz.prog 40 #[.int .u64 n] w (WideQ false n w) := by
  have HN : Hid (n < 18446744073709551616) := hn
  clear hn
  go_enter Tryz.func40, Tryz.ntmps40
  go_wp2_with fail
  have hc := heap_alloc_new (w.alloc (Obj.cells #[Value.bool false, Value.slice none 0 0] 63)) (Obj.cells #[Value.int IntKind.u64 ↑n] 31)
  refine (made_any false _ [n] _ ⟨_, 1, 1, rfl, rfl, Nat.le_refl _, by decide, by simpa using HN.out, fun _ => ⟨_, 0, rfl, by simp, fun i hi => ?_⟩⟩).mono ?_
  · have : i = 0 := by omega
    subst this
    rw [cell_of_row _ _ _ _ _ _ (by simpa using hc)]
    rfl
  rintro e w' ⟨v, rfl, ⟨s, rfl, hnum, hneg⟩, hb⟩
  obtain ⟨sa, sn, sc, rfl⟩ := hnum.shape
  have hres := hb.blk (heap_alloc2_old w _ _) (by simp; omega)
  simp only [Bool.false_and] at hnum hneg
  obtain ⟨f0, f1, c0, c1, f2, c2⟩ := row2 hres
  go_wp2
  refine wide_end (p := 2) rfl rfl hres (by simpa [lval] using hnum) ?_ (Nat.le_refl _) (by simp)
  exact (((Below.refl _ _).alloc (Nat.le_refl _) _).alloc (by simp) _).trans (hb.mono (by simp; omega))
end Go.Proofs.YtpfnfhikhlceoaaGreatDoor
