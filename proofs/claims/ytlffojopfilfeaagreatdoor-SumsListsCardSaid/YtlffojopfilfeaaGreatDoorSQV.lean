import Derived.Test.YtlffojopfilfeaaGreatDoorSQU
import Derived.Test.YtlffojopfilfeaaGreatDoorSQO
import Derived.Test.YtlffojopfilfeaaGreatDoorSQS
import Derived.Test.YtlffojopfilfeaaGreatDoorSQT
namespace Go.Proofs.YtlffojopfilfeaaGreatDoor
open Go.RowKit
def dcV (d : Dc) : Value := .agg #[.bool d.neg, .string (bs d.s), .int .i64 d.e]
def DcQ (d : Dc) (x : Int) (w : World) (en : Ending) (w' : World) : Prop := en = .returned (.tuple #[dcV d, .int .i64 x]) ∧ Below w.heap.size w w'
theorem WideI.neg {w : World} {v : Value} {V : Int} (h : WideI w v V) : ∃ a m c, v = .agg #[.bool (decide (V < 0)), .slice a m c] ∧ Num .u64 18446744073709551616 w (.slice a m c) V.natAbs := h
end Go.Proofs.YtlffojopfilfeaaGreatDoor
set_option maxRecDepth 100000
namespace Go.Proofs.YtlffojopfilfeaaGreatDoor
open Go.RowKit
theorem imul_v (x y : Value) (U V : Int) (w : World) (h : WideI w x U) (h' : WideI w y V) {bb : Nat} (hU : U.natAbs < 2 ^ bb) (hV : V.natAbs < 2 ^ bb) (hbb : bb ≤ 4294967296) :
  Calls Tryz.prog 42 #[x, y] w (WideR (U * V) w) := by
 obtain ⟨a, m, c, rfl, hn⟩ := h
 obtain ⟨a', m', c', rfl, hn'⟩ := h'
 refine (mul_any _ _ _ _ _ _ w hn hn' hU hV hbb).mono fun e w' hq => hq.toR ?_ ?_
 ·have hm : (U.natAbs * V.natAbs : Nat) = (U * V).natAbs := (Int.natAbs_mul U V).symm
  rw [hm]
  rcases Int.lt_trichotomy U 0 with h1 | h1 | h1 <;> rcases Int.lt_trichotomy V 0 with h2 | h2 | h2
  ·have := Int.mul_pos_of_neg_of_neg h1 h2
   rw [decide_eq_true h1, decide_eq_true h2, decide_eq_false (by omega)]; simp
  ·subst h2; simp
  ·have := Int.mul_neg_of_neg_of_pos h1 h2
   rw [decide_eq_true h1, decide_eq_false (by omega), decide_eq_true this]; simp; omega
  ·subst h1; simp
  ·subst h1; simp
  ·subst h1; simp
  ·have := Int.mul_neg_of_pos_of_neg h1 h2
   rw [decide_eq_false (by omega), decide_eq_true h2, decide_eq_true this]; simp; omega
  ·subst h2; simp
  ·have := Int.mul_pos h1 h2
   rw [decide_eq_false (by omega), decide_eq_false (by omega), decide_eq_false (by omega)]; simp
 ·exact (Int.natAbs_mul U V).symm
theorem word_v (n : Nat) (w : World) (hn : n < 18446744073709551616) : Calls Tryz.prog 59 #[.int .u64 n] w (WideR n w) :=
 (word_any n w hn).mono fun e w' hq => hq.toR (by rw [decide_eq_false (by omega)]) (by omega)
theorem power_v (N n : Nat) (w : World) (hN : N < 18446744073709551616) {bb : Nat} (hbd : ∀ i, i ≤ n → N ^ i < 2 ^ bb) (hbb : bb ≤ 4294967296) (hn : n ≤ 4294967296) :
  Calls Tryz.prog 108 #[.int .u64 N, .int .i64 n] w (WideR ((N ^ n : Nat) : Int) w) :=
 (wpower_any N n w hN hbd hbb hn).mono fun e w' hq => hq.toR (by rw [decide_eq_false (by omega)]) (by omega)
theorem wide_endV {fn : Func} {p : Tmp} (hf : fn.results = #[.cell p 73]) {tmps : Array Value} {w0 w : World} {g : Nat} {x b : Bool} {a : Option Addr} {n c : Nat} {s : Value} {V : Int}
  (hp : tmps.getD p undef = .pointer (some ⟨g, 0, none⟩)) (hg : w.heap[g]? = some (.cells #[.bool x, .slice a n c] 73 (0, 0))) (hv : Num .u64 18446744073709551616 w s V.natAbs)
  (hb : Below w0.heap.size w0 w) (h0 : w0.heap.size ≤ g) (hn : b = decide (V < 0)) :
  bodyPost Tryz.prog fn (WideR V w0) .ret ⟨tmps, []⟩ ((w.setCell ⟨g, 0, none⟩ (.bool b)).setCell ⟨g, 1, none⟩ s) := by
 subst hn
 exact bodyPost_ret (int_row hf _ _ g _ _ hp (row2_set hg _ _)) rfl ⟨_, rfl, (by obtain ⟨a', m', c', rfl⟩ := hv.shape; exact ⟨a', m', c', rfl, hv.row hg _ _⟩), (hb.setCell (by exact h0) _).setCell (by exact h0) _⟩
theorem neg_u64 (n : Int) (h0 : n < 0) (h1 : -9223372036854775808 ≤ n) : IntKind.u64.wrap (-IntKind.u64.wrap n) = ((n.natAbs : Nat) : Int) := by
 rw [IntKind.wrap_u64, IntKind.wrap_u64]; omega
theorem pos_u64 (n : Int) (h0 : 0 ≤ n) (h1 : n ≤ 9223372036854775807) : IntKind.u64.wrap n = ((n.natAbs : Nat) : Int) := by
 rw [IntKind.wrap_u64]; omega
theorem iof_v (n : Int) (w : World) (h0 : -9223372036854775808 ≤ n) (h1 : n ≤ 9223372036854775807) : Calls Tryz.prog 41 #[.int .i64 n] w (WideR n w) := by
 obtain ⟨N, hN⟩ : ∃ N, N = n.natAbs := ⟨_, rfl⟩
 have hNb : N < 18446744073709551616 := by omega
 have HN : Hid (N = n.natAbs) := hN
 have HNB : Hid (N < 18446744073709551616) := hNb
 by_cases hn : n < 0
 ·have hw := neg_u64 n hn h0
  rw [← hN] at hw
  have HP : Hid (decide (n < 0) = true ∧ N ≠ 0) := ⟨decide_eq_true hn, by omega⟩
  clear hN hNb h0 h1
  go_enter Tryz.func41, Tryz.ntmps41
  go_wp2_with fail
  have hc := heap_alloc_new (w.alloc (Obj.cells #[Value.bool false, Value.slice none 0 0] 73)) (Obj.cells #[Value.int IntKind.u64 ↑N] 30)
  refine (made_any true _ [N] _ ⟨_, 1, 1, rfl, rfl, Nat.le_refl _, by decide, by simpa using HNB.out, fun _ => ⟨_, 0, rfl, by simp, fun i hi => ?_⟩⟩).mono ?_
  ·have : i = 0 := by omega
   subst this
   rw [cell_of_row _ _ _ _ _ _ (by simpa using hc)]
   rfl
  rintro e w' ⟨v, rfl, ⟨s, rfl, hnum, -⟩, hb⟩
  obtain ⟨sa, sn, sc, rfl⟩ := hnum.shape
  have hres := hb.blk (heap_alloc2_old w _ _) (by simp; omega)
  have hl : lval 18446744073709551616 [N] = N := by simp [lval]
  rw [hl] at hnum ⊢
  obtain ⟨q, hq⟩ : ∃ q, q = (true && N != 0) := ⟨_, rfl⟩
  rw [← hq]
  have HQ : Hid (q = decide (n < 0)) := by
   show _ = _
   rw [hq, HP.out.1, Bool.true_and, bne_iff_ne]; exact HP.out.2
  clear hq
  obtain ⟨f0, f1, c0, c1, f2, c2⟩ := row2 hres
  rw [HN.out] at hnum
  have HNUM : Hid (Num .u64 18446744073709551616 w' (.slice sa sn sc) n.natAbs) := hnum
  have HB : Hid _ := hb
  clear hnum hb
  go_wp2
  refine wide_endV (p := 2) rfl rfl hres HNUM.out ?_ (Nat.le_refl _) HQ.out
  exact (((Below.refl _ _).alloc (Nat.le_refl _) _).alloc (by simp) _).trans (HB.out.mono (by simp; omega))
 ·have hw := pos_u64 n (by omega) h1
  rw [← hN] at hw
  have HP : Hid (decide (n < 0) = false) := decide_eq_false hn
  have HW : Hid (∀ W, Calls Tryz.prog 59 #[.int .u64 N] W (WideQ false N W)) := fun W => word_any N W HNB.out
  clear hN hNb h0 h1
  go_enter Tryz.func41, Tryz.ntmps41
  go_wp2_with fail
  refine (HW.out _).mono ?_
  rintro e w' ⟨v, rfl, ⟨s, rfl, hnum, -⟩, hb⟩
  obtain ⟨sa, sn, sc, rfl⟩ := hnum.shape
  have hres := hb.blk (new_blk w _) (by simp)
  obtain ⟨f0, f1, c0, c1, f2, c2⟩ := row2 hres
  rw [HN.out] at hnum
  have HNUM : Hid (Num .u64 18446744073709551616 w' (.slice sa sn sc) n.natAbs) := hnum
  have HB : Hid _ := hb
  clear hnum hb
  go_wp2
  refine wide_endV (p := 2) rfl rfl hres HNUM.out ?_ (Nat.le_refl _) HP.out.symm
  exact ((Below.refl _ _).alloc (Nat.le_refl _) _).trans (HB.out.mono (by simp))
end Go.Proofs.YtlffojopfilfeaaGreatDoor
