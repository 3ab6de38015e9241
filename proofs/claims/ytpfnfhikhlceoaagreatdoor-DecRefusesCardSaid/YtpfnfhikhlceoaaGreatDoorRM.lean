/- Parts Gm of the proof, in one text. -/
import Derived.Test.YtpfnfhikhlceoaaGreatDoorRG

/- Plain and calls for DecRefuses: what may not be; no room; out of range. -/
namespace Go.Proofs.YtpfnfhikhlceoaaGreatDoor
open Go.RowKit

/-- What may not be. -/
def badD : Nat → Dc
  | 0 => ⟨false, [49, 48], 0⟩
  | 1 => ⟨false, [48, 49], 0⟩
  | 2 => ⟨false, [49, 120], 0⟩
  | 3 => ⟨true, [], 0⟩
  | 4 => ⟨false, [], 1⟩
  | 5 => ⟨false, [49], 20001⟩
  | 6 => ⟨false, [49], -20001⟩
  | 7 => ⟨false, [48], 0⟩
  | 8 => ⟨false, [45, 49], 0⟩
  | _ => ⟨false, [49, 46, 53], 0⟩
theorem bad_ok (p : Nat) : (badD p).okB = false ∧ (badD p).s.length ≤ 3 := by
  rcases p with _ | _ | _ | _ | _ | _ | _ | _ | _ | p
  all_goals exact ⟨by rfl, by first | decide | exact Nat.le_refl 3⟩
def badA : Array Value := #[.bool false, .string ⟨#[49, 48]⟩, .int .i64 0, .bool false, .string ⟨#[48, 49]⟩, .int .i64 0, .bool false, .string ⟨#[49, 120]⟩, .int .i64 0, .bool true, .string ⟨#[]⟩, .int .i64 0, .bool false, .string ⟨#[]⟩, .int .i64 1,
  .bool false, .string ⟨#[49]⟩, .int .i64 20001, .bool false, .string ⟨#[49]⟩, .int .i64 (-20001), .bool false, .string ⟨#[48]⟩, .int .i64 0, .bool false, .string ⟨#[45, 49]⟩, .int .i64 0, .bool false, .string ⟨#[49, 46, 53]⟩, .int .i64 0]
theorem bad_cells (w : World) (g : Nat) (T : TypeId) (h : w.heap[g]? = some (.cells badA T (0, 0))) (p : Nat) (hp : p < 10) :
    w.cell? ⟨g, p * 3, none⟩ = some (.bool (badD p).neg) ∧ w.cell? ⟨g, p * 3 + 1, none⟩ = some (.string (bs (badD p).s)) ∧ w.cell? ⟨g, p * 3 + 2, none⟩ = some (.int .i64 (badD p).e) := by
  have c := fun i => cell_of_row w g i badA T (0, 0) h
  rcases p with _ | _ | _ | _ | _ | _ | _ | _ | _ | p
  all_goals try exact ⟨(c _).trans rfl, (c _).trans rfl, (c _).trans rfl⟩
  obtain rfl : p = 0 := by omega
  exact ⟨(c _).trans rfl, (c _).trans rfl, (c _).trans rfl⟩
theorem one_ok {c : UInt8} {e : Int} (hc : isDig c = true) (h0 : c ≠ 48) (h1 : -20000 ≤ e) (h2 : e ≤ 20000) : (⟨false, [c], e⟩ : Dc).ok := by
  refine (okB_iff _).1 ?_
  unfold Dc.okB
  simp [hc, h0, h1, h2]
theorem one_rep {c : UInt8} {e : Int} (hc : isDig c = true) (h0 : c ≠ 48) (h1 : -20000 ≤ e) (h2 : e ≤ 20000) : Rep ⟨false, [c], e⟩ ((c.toNat - 48 : Nat) : Int) e := by
  have := rep_self (one_ok hc h0 h1 h2)
  have e1 : (⟨false, [c], e⟩ : Dc).v = ((c.toNat - 48 : Nat) : Int) := by
    show sg false (dval [c]) = _
    have : dval [c] = c.toNat - 48 := by unfold dval dvalF; simp
    rw [this]; rfl
  rwa [e1] at this
theorem far_mul {F j : Int} (h1 : 19000 ≤ F) (h2 : F ≤ 20000) (h3 : 0 ≤ j) (h4 : j ≤ 100) :
    (F + j ≤ 20000 → mulD ⟨false, [51], F⟩ ⟨false, [51], j⟩ = ⟨false, [57], F + j⟩ ∧ mulX ⟨false, [51], F⟩ ⟨false, [51], j⟩ = 0) ∧
    (20000 < F + j → mulD ⟨false, [51], F⟩ ⟨false, [51], j⟩ = Dc.none ∧ mulX ⟨false, [51], F⟩ ⟨false, [51], j⟩ = 11) := by
  have r1 := one_rep (c := 51) (e := F) rfl (by decide) (by omega) h2
  have r2 := one_rep (c := 51) (e := j) rfl (by decide) (by omega) (by omega)
  obtain ⟨m1, m2⟩ := mul_rep r1 r2
  rw [m1, m2]
  refine ⟨fun h => ?_, fun h => ?_⟩
  · have r3 := one_rep (c := 57) (e := F + j) rfl (by decide) (by omega) h
    exact r3.mk
  · have hx : mkX (((51 : UInt8).toNat - 48 : Nat) * ((51 : UInt8).toNat - 48 : Nat) : Int) (F + j) = 11 := by
      show madeX 9 (F + j) = 11
      have hs : strip 9 = 9 := strip_not (by decide)
      have ht : tz 9 = 0 := tz_not (by decide)
      have hl := bare_len_le 9 1 (by decide)
      unfold madeX
      rw [if_neg (by decide), hs, ht, if_neg (by omega), if_pos (.inl (by omega))]
    exact ⟨mk_err (by rw [hx]; decide), hx⟩
theorem bare_len_ge (N n : Nat) (h : 10 ^ n ≤ N) : n < (bareD N).length := by
  have h1 := dval_lt (bareD N) (bare_all N)
  rw [dval_bare] at h1
  have h2 : 10 ^ n < 10 ^ (bareD N).length := Nat.lt_of_le_of_lt h h1
  exact (Nat.pow_lt_pow_iff_right (by decide)).1 h2
theorem far_add {F L : Int} {n : Nat} (h1 : 19000 ≤ F) (h2 : F ≤ 20000) (hL : L = F - n) (hn : 1 ≤ n) (hn2 : n ≤ 9000) :
    (n + 1 ≤ 8192 → addX ⟨false, [51], F⟩ ⟨false, [55], L⟩ = 0) ∧ (8192 < n + 1 → addX ⟨false, [51], F⟩ ⟨false, [55], L⟩ = 12 ∧ addD ⟨false, [51], F⟩ ⟨false, [55], L⟩ = Dc.none) := by
  have r1 := (one_rep (c := 51) (e := F) rfl (by decide) (by omega) h2).at L (by omega)
  have r2 := one_rep (c := 55) (e := L) rfl (by decide) (by omega) (by omega)
  rw [show (F - L).toNat = n by omega] at r1
  obtain ⟨m1, m2⟩ := add_rep r1 r2
  rw [m1, m2]
  obtain ⟨P, hP⟩ : ∃ P, P = 10 ^ (n - 1) := ⟨_, rfl⟩
  have hP0 : 0 < P := by rw [hP]; exact Nat.pow_pos (by decide)
  have hPn : 10 ^ n = 10 * P := by rw [hP, show n = n - 1 + 1 by omega, Nat.pow_succ]; simp; omega
  have hPI : (10 : Int) ^ n = ((10 * P : Nat) : Int) := by rw [← hPn]; norm_cast
  have hN : ∀ X : Int, X = (((51 : UInt8).toNat - 48 : Nat) : Int) * 10 ^ n + (((55 : UInt8).toNat - 48 : Nat) : Int) → mkX X L = if 8192 < n + 1 then 12 else 0 := fun X hX => by
    have e : X = ((30 * P + 7 : Nat) : Int) := by
      rw [hX, hPI]; show (3 : Int) * _ + 7 = _; omega
    rw [e]
    show madeX (30 * P + 7) L = _
    have hs : strip (30 * P + 7) = 30 * P + 7 := strip_not (by omega)
    have ht : tz (30 * P + 7) = 0 := tz_not (by omega)
    have l1 := bare_len_le (30 * P + 7) (n + 1) (by rw [Nat.pow_succ, hPn]; omega)
    have l2 := bare_len_ge (30 * P + 7) n (by rw [hPn]; omega)
    unfold madeX
    rw [if_neg (by omega), hs, ht]
    by_cases g : 8192 < n + 1
    · rw [if_pos (by omega), if_pos g]
    · rw [if_neg (by omega), if_neg g, if_neg (by omega)]
  have hx := hN _ rfl
  refine ⟨fun h => by rw [hx, if_neg (by omega)], fun h => ?_⟩
  rw [if_pos h] at hx
  exact ⟨hx, mk_err (by rw [hx]; decide)⟩
section
theorem add_bad {a b : Dc} (ha : a.s.length ≤ 8192) (hb : b.okB = false) (hl : b.s.length ≤ 3) (w : World) (htab : Tab w) : ∀ W, Below w.heap.size w W → Calls Tryz.prog 32 #[.agg #[.bool a.neg, .string (bs a.s), .int .i64 a.e], .agg #[.bool b.neg, .string (bs b.s), .int .i64 b.e]] W fun e w' => e = .returned (.tuple #[.agg #[.bool false, .string ⟨#[]⟩, .int .i64 0], .int .i64 1]) ∧ Below W.heap.size W w' := fun W hW => by
  have := add_v a b W (by omega) (by omega) (htab.below hW)
  rw [hb, Bool.and_false] at this
  exact this
theorem mul_bad {a b : Dc} (ha : a.s.length ≤ 8192) (hb : b.okB = false) (hl : b.s.length ≤ 3) (w : World) (htab : Tab w) : ∀ W, Below w.heap.size w W → Calls Tryz.prog 33 #[.agg #[.bool a.neg, .string (bs a.s), .int .i64 a.e], .agg #[.bool b.neg, .string (bs b.s), .int .i64 b.e]] W fun e w' => e = .returned (.tuple #[.agg #[.bool false, .string ⟨#[]⟩, .int .i64 0], .int .i64 1]) ∧ Below W.heap.size W w' := fun W hW => by
  have := mul_v a b W (by omega) (by omega) (htab.below hW)
  rw [hb, Bool.and_false] at this
  exact this
theorem sub_bad {a b : Dc} (ha : a.s.length ≤ 8192) (hb : b.okB = false) (hl : b.s.length ≤ 3) (w : World) (htab : Tab w) : ∀ W, Below w.heap.size w W → Calls Tryz.prog 37 #[.agg #[.bool b.neg, .string (bs b.s), .int .i64 b.e], .agg #[.bool a.neg, .string (bs a.s), .int .i64 a.e]] W fun e w' => e = .returned (.tuple #[.agg #[.bool false, .string ⟨#[]⟩, .int .i64 0], .int .i64 1]) ∧ Below W.heap.size W w' := fun W hW => by
  have := sub_v b a W (by omega) (by omega) (htab.below hW)
  rw [hb, Bool.false_and] at this
  exact this
theorem cmp_bad {a b : Dc} (ha : a.s.length ≤ 8192) (hb : b.okB = false) (hl : b.s.length ≤ 3) (w : World) : ∀ W, Below w.heap.size w W → Calls Tryz.prog 31 #[.agg #[.bool b.neg, .string (bs b.s), .int .i64 b.e], .agg #[.bool a.neg, .string (bs a.s), .int .i64 a.e]] W fun e w' => e = .returned (.tuple #[.int .i64 0, .int .i64 1]) ∧ Below W.heap.size W w' := fun W _ => by
  have := cmp_v b a W (by omega) (by omega)
  rw [hb, Bool.false_and] at this
  exact this
end
end Go.Proofs.YtpfnfhikhlceoaaGreatDoor
