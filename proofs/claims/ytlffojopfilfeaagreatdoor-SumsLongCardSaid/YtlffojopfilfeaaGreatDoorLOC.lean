/- Parts Oc, Od of the proof, in one text. -/
import Derived.Test.YtlffojopfilfeaaGreatDoorLOA
import Derived.Test.YtlffojopfilfeaaGreatDoorLBJ
import Derived.Test.YtlffojopfilfeaaGreatDoorLAR
import Derived.Test.YtlffojopfilfeaaGreatDoorRows
import Derived.Test.YtlffojopfilfeaaGreatDoorLQE
import Derived.BigRegion
import Derived.Test.YtlffojopfilfeaaGreatDoorLQC
import Derived.Test.YtlffojopfilfeaaGreatDoorLTB

/- Walks: the rows in which sums are laid, the program's and the document's. -/
namespace Go.Proofs.YtlffojopfilfeaaGreatDoor
open Go Go.RowKit

/-- One row is written, what lies below the end of memory stays otherwise. -/
structure But (g : Nat) (w w' : World) : Prop where
  os : w'.os = w.os
  tape : w'.tape = w.tape
  output : w'.output = w.output
  size : w.heap.size ≤ w'.heap.size
  block : ∀ k, k < w.heap.size → k ≠ g → w'.heap[k]? = w.heap[k]?
theorem But.refl (g : Nat) (w : World) : But g w w := ⟨rfl, rfl, rfl, Nat.le_refl _, fun _ _ _ => rfl⟩
theorem But.of {w w' : World} (g : Nat) (h : Below w.heap.size w w') : But g w w' := ⟨h.os, h.tape, h.output, h.size, fun k hk _ => h.block k hk⟩
theorem But.trans {g : Nat} {w w1 w2 : World} (h : But g w w1) (h' : But g w1 w2) : But g w w2 :=
  ⟨h'.os.trans h.os, h'.tape.trans h.tape, h'.output.trans h.output, Nat.le_trans h.size h'.size, fun k hk hn => (h'.block k (Nat.lt_of_lt_of_le hk h.size) hn).trans (h.block k hk hn)⟩
theorem But.thru {g : Nat} {w w1 w2 : World} (h : But g w w1) (h' : Below w1.heap.size w1 w2) : But g w w2 := h.trans (.of g h')
theorem But.below {g B : Nat} {w w' : World} (h : But g w w') (hB : B ≤ g) (hs : B ≤ w.heap.size) : Below B w w' := ⟨h.os, h.tape, h.output, h.size, fun k hk => h.block k (by omega) (by omega)⟩
/-- What is laid above is of no concern. -/
theorem But.over {g B : Nat} {w0 w w' : World} (h0 : Below B w0 w) (h : But g w w') (hB : B ≤ g) (hs : B ≤ w.heap.size) : Below B w0 w' := h0.trans (h.below hB hs)
theorem But.set {g : Nat} {w : World} (cs : Array Value) : But g w (w.setRow g cs) := ⟨rfl, rfl, rfl, by rw [Go.Proofs.YtlffojopfilfeaaGreatDoor.setRow_size]; exact Nat.le_refl _, fun k _ hn => setRow_other w g k cs hn⟩
theorem But.cell {g : Nat} {w w' : World} (h : But g w w') {p : Addr} (hp : p.block < w.heap.size) (hn : p.block ≠ g) : w'.cell? p = w.cell? p := World.cell?_of_block (h.block _ hp hn)
theorem But.row {g k : Nat} {w w' : World} (h : But g w w') {o : Obj} (hk : w.heap[k]? = some o) (hn : k ≠ g) : w'.heap[k]? = some o := (h.block _ (blk_lt hk) hn).trans hk
/-- A row without words. -/
def Clear (w : World) (g : Nat) : Prop := ∀ o k z, w.cell? ⟨g, o, none⟩ = some (.int k z) → k = .i64
theorem Num.but {k : IntKind} {B g N : Nat} {w w' : World} {s : Value} (h : Num k B w s N) (hk : k ≠ .i64) (hc : Clear w g) (hb : But g w w') : Num k B w' s N := by
  obtain ⟨xs, ⟨p, n, c, rfl, h1, h2, h3, h4, h5⟩, h6, h7⟩ := h
  refine ⟨xs, ⟨p, n, c, rfl, h1, h2, h3, h4, fun hn => ?_⟩, h6, h7⟩
  obtain ⟨b', o, rfl, hs, hcell⟩ := h5 hn
  have hne : b' ≠ g := by
    rintro rfl
    exact hk (hc _ _ _ (hcell 0 hn))
  exact ⟨b', o, rfl, Nat.lt_of_lt_of_le hs hb.size, fun i hi => (hb.cell (p := ⟨b', o + i, none⟩) hs hne).trans (hcell i hi)⟩
theorem WideI.but {w w' : World} {g : Nat} {v : Value} {V : Int} (h : WideI w v V) (hc : Clear w g) (hb : But g w w') : WideI w' v V := by
  obtain ⟨a, m, c, rfl, hn⟩ := h
  exact ⟨a, m, c, rfl, hn.but (by decide) hc hb⟩

/-- The program's row: the counts, the sum. -/
def AccRow (w : World) (g : Nat) (c : Nat → Nat) (V : Int) : Prop :=
  ∃ a m k, w.heap[g]? = some (.cells #[.int .i64 (c 0 : Nat), .int .i64 (c 1 : Nat), .int .i64 (c 2 : Nat), .int .i64 (c 3 : Nat), .int .i64 (c 4 : Nat), .bool (decide (V < 0)), .slice a m k] 75 (0, 0)) ∧ Num .u64 18446744073709551616 w (.slice a m k) V.natAbs
/-- The document's row. -/
def DocRow (w : World) (g : Nat) (c : Nat → Nat) (V : Int) : Prop :=
  ∃ s N a m k, V = sg s N ∧ w.heap[g]? = some (.cells #[.int .i64 (c 0 : Nat), .int .i64 (c 1 : Nat), .int .i64 (c 2 : Nat), .int .i64 (c 3 : Nat), .int .i64 (c 4 : Nat), .bool s, .slice a m k] 66 (0, 0)) ∧ Num .u32 4294967296 w (.slice a m k) N
theorem clear_row {w : World} {g : Nat} {n0 n1 n2 n3 n4 : Int} {b : Bool} {a : Option Addr} {m k : Nat} {t : TypeId} (h : w.heap[g]? = some (.cells #[.int .i64 n0, .int .i64 n1, .int .i64 n2, .int .i64 n3, .int .i64 n4, .bool b, .slice a m k] t (0, 0))) : Clear w g := by
  intro o j z hc
  rw [cell_of_row _ _ _ _ _ _ h] at hc
  match o with
  | 0 | 1 | 2 | 3 | 4 => simp at hc; exact hc.1.symm
  | 5 | 6 => simp at hc
  | _ + 7 => simp at hc
theorem AccRow.clear {w : World} {g : Nat} {c : Nat → Nat} {V : Int} (h : AccRow w g c V) : Clear w g := by obtain ⟨a, m, k, h1, -⟩ := h; exact clear_row h1
theorem DocRow.clear {w : World} {g : Nat} {c : Nat → Nat} {V : Int} (h : DocRow w g c V) : Clear w g := by obtain ⟨s, N, a, m, k, -, h1, -⟩ := h; exact clear_row h1
theorem AccRow.lt {w : World} {g : Nat} {c : Nat → Nat} {V : Int} (h : AccRow w g c V) : g < w.heap.size := by obtain ⟨a, m, k, h1, -⟩ := h; exact blk_lt h1
theorem DocRow.lt {w : World} {g : Nat} {c : Nat → Nat} {V : Int} (h : DocRow w g c V) : g < w.heap.size := by obtain ⟨s, N, a, m, k, -, h1, -⟩ := h; exact blk_lt h1
theorem AccRow.below {w w' : World} {g : Nat} {c : Nat → Nat} {V : Int} (h : AccRow w g c V) (hb : Below w.heap.size w w') : AccRow w' g c V := by
  obtain ⟨a, m, k, h1, h2⟩ := h; exact ⟨a, m, k, hb.blk h1 (blk_lt h1), h2.below (Nat.le_refl _) hb⟩
theorem DocRow.below {w w' : World} {g : Nat} {c : Nat → Nat} {V : Int} (h : DocRow w g c V) (hb : Below w.heap.size w w') : DocRow w' g c V := by
  obtain ⟨s, N, a, m, k, e, h1, h2⟩ := h; exact ⟨s, N, a, m, k, e, hb.blk h1 (blk_lt h1), h2.below (Nat.le_refl _) hb⟩
theorem AccRow.but {w w' : World} {g g' : Nat} {c : Nat → Nat} {V : Int} (h : AccRow w g c V) (hne : g ≠ g') (hc : Clear w g') (hb : But g' w w') : AccRow w' g c V := by
  obtain ⟨a, m, k, h1, h2⟩ := h; exact ⟨a, m, k, hb.row h1 hne, h2.but (by decide) hc hb⟩
theorem DocRow.but {w w' : World} {g g' : Nat} {c : Nat → Nat} {V : Int} (h : DocRow w g c V) (hne : g ≠ g') (hc : Clear w g') (hb : But g' w w') : DocRow w' g c V := by
  obtain ⟨s, N, a, m, k, e, h1, h2⟩ := h; exact ⟨s, N, a, m, k, e, hb.row h1 hne, h2.but (by decide) hc hb⟩
/-- The counts with one of them put. -/
def upd (c : Nat → Nat) (k n : Nat) : Nat → Nat := fun j => if j = k then n else c j
theorem AccRow.cell {w : World} {g : Nat} {c : Nat → Nat} {V : Int} (h : AccRow w g c V) {k : Nat} (hk : k < 5) : w.cell? ⟨g, k, none⟩ = some (.int .i64 (c k : Nat)) := by
  obtain ⟨a, m, q, h1, -⟩ := h
  rw [cell_of_row _ _ _ _ _ _ h1]
  match k, hk with
  | 0, _ | 1, _ | 2, _ | 3, _ | 4, _ => rfl
theorem DocRow.cell {w : World} {g : Nat} {c : Nat → Nat} {V : Int} (h : DocRow w g c V) {k : Nat} (hk : k < 5) : w.cell? ⟨g, k, none⟩ = some (.int .i64 (c k : Nat)) := by
  obtain ⟨s, N, a, m, q, -, h1, -⟩ := h
  rw [cell_of_row _ _ _ _ _ _ h1]
  match k, hk with
  | 0, _ | 1, _ | 2, _ | 3, _ | 4, _ => rfl
theorem AccRow.congr {w : World} {g : Nat} {c d : Nat → Nat} {V W : Int} (h : AccRow w g c V) (hc : ∀ k, k < 5 → c k = d k) (hV : V = W) : AccRow w g d W := by
  subst hV
  obtain ⟨a, m, k, h1, h2⟩ := h
  rw [hc 0 (by decide), hc 1 (by decide), hc 2 (by decide), hc 3 (by decide), hc 4 (by decide)] at h1
  exact ⟨a, m, k, h1, h2⟩
theorem DocRow.congr {w : World} {g : Nat} {c d : Nat → Nat} {V W : Int} (h : DocRow w g c V) (hc : ∀ k, k < 5 → c k = d k) (hV : V = W) : DocRow w g d W := by
  subst hV
  obtain ⟨s, N, a, m, k, e, h1, h2⟩ := h
  rw [hc 0 (by decide), hc 1 (by decide), hc 2 (by decide), hc 3 (by decide), hc 4 (by decide)] at h1
  exact ⟨s, N, a, m, k, e, h1, h2⟩

section
variable {P : Program}
/-- A store of one cell inside a row. -/
theorem run_storeVar_one (w : World) (g k : Nat) (t ty : TypeId) (cs : Array Value) (x : Value) (hx : x.cells = #[x]) (hg : w.heap[g]? = some (.cells cs t (0, 0))) (hk : k + 1 ≤ cs.size) (hi : (P.info? ty).map (·.size) = some 1) (h1 : x.oneCell' = true) :
    (storeVar ty ⟨g, k, none⟩ x).run P w = .ok () (w.setRow g (cs.toList.take k ++ [x] ++ cs.toList.drop (k + 1)).toArray) := by
  have := run_storeCells_at (P := P) g k t [x] 0 cs w hg (by simpa using hk) (by intro v hv; simp at hv; subst hv; exact h1)
  cases hq : P.info? ty with
  | none => simp [hq] at hi
  | some i =>
    have hs : i.size = 1 := by simp [hq] at hi; exact hi
    simp only [Nat.add_zero, List.length_cons, List.length_nil, Nat.zero_add] at this
    simp [storeVar, sizeOf, typeInfo, hq, hx, hs, this]
theorem wp_store_one {o : Oper} {a : Act} {w : World} {K : Act → World → Prop} {Q : Exit → Act → World → Prop} (ty : TypeId) (p q : Operand) (ho : o.op = .store ty p q)
    (g k : Nat) (x : Value) (hxc : x.cells = #[x]) (hx : a.eval p = .pointer (some ⟨g, k, none⟩)) (hy : a.eval q = x)
    (t : TypeId) (cs : Array Value) (hg : w.heap[g]? = some (.cells cs t (0, 0))) (hk : k + 1 ≤ cs.size) (hi : (P.info? ty).map (·.size) = some 1) (h1 : x.oneCell' = true)
    (h : K (a.put o.dst undef) (w.setRow g (cs.toList.take k ++ [x] ++ cs.toList.drop (k + 1)).toArray)) : o.wp P a w K Q := by
  unfold Oper.wp execOp
  simp only [ho, hx, hy, Instr.storeAt, Instr.sureAddr, Sem.run_bind, Sem.run_pure, Result.andThen_ok, run_storeVar_one w g k t ty cs x hxc hg hk hi h1]
  exact h
theorem num_set {k : IntKind} {B g N : Nat} {w : World} {s : Value} {cs : Array Value} (h : Num k B w s N) (hk : k ≠ .i64) (hc : Clear w g) : Num k B (w.setRow g cs) s N := h.but hk hc (.set cs)
/-- One of the counts is put. -/
theorem acc_bump {o : Oper} {ac : Act} {W : World} {K : Act → World → Prop} {Q : Exit → Act → World → Prop} (ty : TypeId) (p q : Operand) (ho : o.op = .store ty p q) (hi : (P.info? ty).map (·.size) = some 1) (g : Nat) (c : Nat → Nat) (V : Int) (k n : Nat) (hk : k < 5) (hx : ac.eval p = .pointer (some ⟨g, k, none⟩)) (hy : ac.eval q = .int .i64 (n : Nat)) (hr : AccRow W g c V)
    (h : ∀ W', AccRow W' g (upd c k n) V → But g W W' → K (ac.put o.dst undef) W') : o.wp P ac W K Q := by
  have hcl := hr.clear
  obtain ⟨a, m, q', h1, hn⟩ := hr
  refine wp_store_one ty p q ho g k (.int .i64 (n : Nat)) rfl hx hy _ _ h1 (by simp; omega) hi rfl (h _ ?_ (.set _))
  have h2 := setRow_heap W g _ (((#[.int .i64 (c 0 : Nat), .int .i64 (c 1 : Nat), .int .i64 (c 2 : Nat), .int .i64 (c 3 : Nat), .int .i64 (c 4 : Nat), .bool (decide (V < 0)), .slice a m q'] : Array Value).toList.take k ++ [Value.int .i64 (n : Nat)] ++ (#[.int .i64 (c 0 : Nat), .int .i64 (c 1 : Nat), .int .i64 (c 2 : Nat), .int .i64 (c 3 : Nat), .int .i64 (c 4 : Nat), .bool (decide (V < 0)), .slice a m q'] : Array Value).toList.drop (k + 1)).toArray) _ _ h1
  refine ⟨a, m, q', ?_, num_set hn (by decide) hcl⟩
  match k, hk with
  | 0, _ | 1, _ | 2, _ | 3, _ | 4, _ => exact h2
/-- The sum is put. -/
theorem acc_lay {o : Oper} {ac : Act} {W : World} {K : Act → World → Prop} {Q : Exit → Act → World → Prop} (ty : TypeId) (p q : Operand) (ho : o.op = .store ty p q) (hi : (P.info? ty).map (·.size) = some 2) (g : Nat) (c : Nat → Nat) (V U : Int) (v : Value) (hx : ac.eval p = .pointer (some ⟨g, 5, none⟩)) (hy : ac.eval q = v) (hv : WideI W v U) (hr : AccRow W g c V)
    (h : ∀ W', AccRow W' g c U → But g W W' → K (ac.put o.dst undef) W') : o.wp P ac W K Q := by
  have hcl := hr.clear
  obtain ⟨a, m, q', h1, hn⟩ := hr
  obtain ⟨a', m', c', rfl, hn'⟩ := hv
  refine wp_store_two ty p q ho g 5 _ _ hx hy _ _ h1 (by simp) hi rfl rfl (h _ ?_ (.set _))
  exact ⟨a', m', c', setRow_heap W g _ _ _ _ h1, num_set hn' (by decide) hcl⟩
theorem accL_bump {ops : Array Oper} {rest : List Oper} {o : Oper} {ac : Act} {W : World} {Q : Exit → Act → World → Prop} (hgd : o.guard = none) (ty : TypeId) (p q : Operand) (ho : o.op = .store ty p q) (hi : (P.info? ty).map (·.size) = some 1) (g : Nat) (c : Nat → Nat) (V : Int) (k n : Nat) (hk : k < 5) (hx : ac.eval p = .pointer (some ⟨g, k, none⟩)) (hy : ac.eval q = .int .i64 (n : Nat)) (hr : AccRow W g c V)
    (h : ∀ W', AccRow W' g (upd c k n) V → But g W W' → wpList P ops Q rest (ac.put o.dst undef) W') : wpList P ops Q (o :: rest) ac W :=
  wpList_plain hgd fun _ hK => acc_bump ty p q ho hi g c V k n hk hx hy hr fun W' h1 h2 => hK _ _ (h W' h1 h2)
theorem accL_lay {ops : Array Oper} {rest : List Oper} {o : Oper} {ac : Act} {W : World} {Q : Exit → Act → World → Prop} (hgd : o.guard = none) (ty : TypeId) (p q : Operand) (ho : o.op = .store ty p q) (hi : (P.info? ty).map (·.size) = some 2) (g : Nat) (c : Nat → Nat) (V U : Int) (v : Value) (hx : ac.eval p = .pointer (some ⟨g, 5, none⟩)) (hy : ac.eval q = v) (hv : WideI W v U) (hr : AccRow W g c V)
    (h : ∀ W', AccRow W' g c U → But g W W' → wpList P ops Q rest (ac.put o.dst undef) W') : wpList P ops Q (o :: rest) ac W :=
  wpList_plain hgd fun _ hK => acc_lay ty p q ho hi g c V U v hx hy hv hr fun W' h1 h2 => hK _ _ (h W' h1 h2)
end
end Go.Proofs.YtlffojopfilfeaaGreatDoor

/- Walks: sums' sort, value, of: a number's sort, its value in units. -/
namespace Go.Proofs.YtlffojopfilfeaaGreatDoor
open Go Go.RowKit

theorem cmpI_gt (x y : Int) : (some (compare x y) == some Ordering.gt) = decide (y < x) := by
  have := cmpI_lt y x
  rw [← this, ← Int.compare_swap x y]
  cases compare x y <;> rfl
theorem inf_above {b : Nat} (hb : W64 b) (h : infB b = true) : (FloatKind.f64.format.order b 0 == some Ordering.gt) = !sgnB b := by
  have h0 : absB b = 9218868437227405312 := by unfold infB at h; simpa using h
  have n : nanB b = false := by unfold nanB; rw [h0]; decide
  have := ord_D b 0 hb (by unfold W64; decide) n (by decide)
  show (Ieee.double.order b 0 == some Ordering.gt) = _
  rw [this, cmpI_gt]
  have e0 : valB 0 = 0 := by decide
  have hp : 0 < rv 52 9218868437227405312 := Nat.lt_of_lt_of_le (by decide) (le_rv 52 _)
  rw [e0]
  unfold valB
  rw [h0]
  cases hs : sgnB b
  · simp; omega
  · simp
theorem srt_cases (b : Nat) : (nanB b = true ∧ clsB b = 1 ∧ srtB b = 0) ∨ (nanB b = false ∧ infB b = true ∧ clsB b = 2 ∧ srtB b = if sgnB b = true then 2 else 1) ∨ (nanB b = false ∧ infB b = false ∧ zeroB b = true ∧ clsB b = 3 ∧ srtB b = if sgnB b = true then 3 else 4) ∨ (nanB b = false ∧ infB b = false ∧ zeroB b = false ∧ (clsB b = 4 ∨ clsB b = 5) ∧ srtB b = 4) := by
  unfold srtB clsB
  cases nanB b <;> cases infB b <;> cases zeroB b <;> cases lowB b <;> simp
set_option maxRecDepth 100000 in
theorem sort_v (b : Nat) (w : World) (hb : W64 b) : Calls Tryz.prog 55 #[.float .f64 b] w fun e w' => e = .returned (.int .i64 (srtB b : Nat)) ∧ w = w' := by
  have HC : Hid (∀ W, Calls Tryz.prog 84 #[.float .f64 b] W fun e w' => e = .returned (.int .i64 (clsB b)) ∧ W = w') := fun W => class_any b W hb
  have HN : Hid (∀ W, Calls Tryz.prog 85 #[.float .f64 b] W fun e w' => e = .returned (.bool (negB b)) ∧ W = w') := fun W => negative_any b W hb
  have hneg : nanB b = false → negB b = sgnB b := fun h => by unfold negB; rw [h]; rfl
  rcases srt_cases b with ⟨h1, h2, h3⟩ | ⟨h1, h2, h3, h4⟩ | ⟨h1, h2, h3, h4, h5⟩ | ⟨h1, h2, h3, h4, h5⟩
  · rw [h2] at HC
    rw [h3]
    go_enter Tryz.func55, Tryz.ntmps55
    go_wp2_with (go_at_call 84; refine (HC.out _).mono ?_; rintro e w' ⟨rfl, rfl⟩)
    go_ret
    exact ⟨rfl, rfl⟩
  · have hg := inf_above hb h2
    rw [h3] at HC
    rw [h4]
    cases hs : sgnB b <;> rw [hs] at hg
    all_goals
      go_enter Tryz.func55, Tryz.ntmps55
      go_wp2_with (go_at_call 84; refine (HC.out _).mono ?_; rintro e w' ⟨rfl, rfl⟩)
      go_ret
      exact ⟨rfl, rfl⟩
  · rw [hneg h1] at HN
    rw [h4] at HC
    rw [h5]
    cases hs : sgnB b <;> rw [hs] at HN
    all_goals
      go_enter Tryz.func55, Tryz.ntmps55
      go_wp2_with (first | (go_at_call 84; refine (HC.out _).mono ?_; rintro e w' ⟨rfl, rfl⟩) | (go_at_call 85; refine (HN.out _).mono ?_; rintro e w' ⟨rfl, rfl⟩))
      go_ret
      exact ⟨rfl, rfl⟩
  · rw [h5]
    rcases h4 with h4 | h4 <;> rw [h4] at HC
    all_goals
      go_enter Tryz.func55, Tryz.ntmps55
      go_wp2_with (go_at_call 84; refine (HC.out _).mono ?_; rintro e w' ⟨rfl, rfl⟩)
      go_ret
      exact ⟨rfl, rfl⟩

/-- Where a function ends that hands back an Int out of a row. -/
theorem wide_row {fn : Func} {p : Tmp} (hf : fn.results = #[.cell p 73]) {tmps : Array Value} {w0 w : World} {g : Nat} {b : Bool} {a : Option Addr} {n c : Nat} {V : Int}
    (hp : tmps.getD p undef = .pointer (some ⟨g, 0, none⟩)) (hg : w.heap[g]? = some (.cells #[.bool b, .slice a n c] 73 (0, 0))) (hv : WideI w (.agg #[.bool b, .slice a n c]) V)
    (hb : Below w0.heap.size w0 w) : bodyPost Tryz.prog fn (WideR V w0) .ret ⟨tmps, []⟩ w :=
  bodyPost_ret (int_row hf _ _ g _ _ hp hg) rfl ⟨_, rfl, hv, hb⟩
theorem WideI.agg {w : World} {v : Value} {V : Int} (h : WideI w v V) : ∃ a m c, v = .agg #[.bool (decide (V < 0)), .slice a m c] ∧ WideI w (.agg #[.bool (decide (V < 0)), .slice a m c]) V := by
  obtain ⟨a, m, c, rfl, hn⟩ := h
  exact ⟨a, m, c, rfl, a, m, c, rfl, hn⟩
theorem WideI.num0 {w : World} {s : Bool} {a : Option Addr} {m c : Nat} {V : Int} (h : WideI w (.agg #[.bool s, .slice a m c]) V) : Num .u64 18446744073709551616 w (.slice a m c) V.natAbs := by
  obtain ⟨a', m', c', e, hn⟩ := h
  cases e
  exact hn
theorem WideI.set2 {w : World} {g : Nat} {x : Bool} {a : Option Addr} {m c : Nat} {v : Value} {V : Int} (h : WideI w v V) (hg : w.heap[g]? = some (.cells #[.bool x, .slice a m c] 73 (0, 0))) (y : Bool) (u : Value) : WideI ((w.setCell ⟨g, 0, none⟩ (.bool y)).setCell ⟨g, 1, none⟩ u) v V := by
  obtain ⟨a', m', c', rfl, hn⟩ := h
  exact ⟨a', m', c', rfl, hn.row hg _ _⟩
set_option maxHeartbeats 4000000 in
set_option maxRecDepth 100000 in
theorem value_v (neg : Bool) (x : Value) (m : Nat) (e : Int) (w : World) (h : WideI w x (m : Int)) (h1 : -2148 ≤ e) (h2 : e ≤ 4000) {bb : Nat} (hm : m < 2 ^ bb) (hbb : bb ≤ 1000000) :
    Calls Tryz.prog 60 #[.bool neg, x, .int .i64 e] w (WideR (sg neg (m * 2 ^ (e + LU).toNat)) w) := by
  obtain ⟨n, hn⟩ : ∃ n : Nat, n = (e + LU).toNat := ⟨_, rfl⟩
  have hLU := LU_eq
  have hsub : wrap64 (e + 2148) = (n : Int) := by rw [IntWalk.wrap64_in _ (by omega)]; omega
  rw [← hn]
  have HL : Hid (∀ W v, WideI W v (m : Int) → Calls Tryz.prog 71 #[v, .int .i64 (n : Nat)] W (WideR ((m * 2 ^ n : Nat) : Int) W)) := fun W v hv => left_n v m n W hv hm (by omega) (by omega)
  have HG : Hid (∀ W v, WideI W v ((m * 2 ^ n : Nat) : Int) → Calls Tryz.prog 69 #[v] W (WideR (-((m * 2 ^ n : Nat) : Int)) W)) := fun W v hv => ineg_v v _ W hv
  obtain ⟨N, hN⟩ : ∃ N, N = m * 2 ^ n := ⟨_, rfl⟩
  rw [← hN] at HL HG ⊢
  have HX : Hid (∀ W, Below w.heap.size w W → WideI W x (m : Int)) := fun W hW => h.below hW
  obtain ⟨a, k, c, rfl, -⟩ := h.nat
  clear h hm hbb hN hn hLU h1 h2
  have HB0 : Hid (Below w.heap.size w ((w.alloc (.cells #[.bool false, .slice a k c] 73)).alloc (.cells #[.bool false, .slice none 0 0] 73))) := ((Below.refl _ _).alloc (Nat.le_refl _) _).alloc (by simp) _
  have q1 := heap_alloc_new (w.alloc (.cells #[.bool false, .slice a k c] 73)) (.cells #[.bool false, .slice none 0 0] 73)
  rw [show (w.alloc (.cells #[.bool false, .slice a k c] 73)).heap.size = w.heap.size + 1 by simp] at q1
  have HQ1 : Hid _ := q1
  clear q1
  go_enter Tryz.func60, Tryz.ntmps60
  go_wp2_with fail
  (with_reducible refine (HL.out _ _ (HX.out _ HB0.out)).mono ?_)
  rintro en w3 ⟨v, rfl, hv, hb⟩
  have HB3 : Hid (Below w.heap.size w w3) := HB0.out.thru hb
  have HQ3 : Hid _ := hb.blk HQ1.out (blk_lt HQ1.out)
  have hs3 : w.heap.size + 1 < w3.heap.size := blk_lt HQ3.out
  obtain ⟨a2, k2, c2, rfl, hv2⟩ := hv.nat
  have HV3 : Hid (WideI w3 (.agg #[.bool false, .slice a2 k2 c2]) (N : Int)) := .mk hv2
  clear hv hv2 hb hsub
  go_upto_region 2 with fail
  obtain ⟨w4, hw4⟩ : ∃ W, W = w3.alloc (.cells #[.bool false, .slice a2 k2 c2] 73) := ⟨_, rfl⟩
  obtain ⟨g7, hg7⟩ : ∃ g, g = w3.heap.size := ⟨_, rfl⟩
  have hb4 : Below w3.heap.size w3 w4 := by rw [hw4]; exact (Below.refl _ _).alloc (Nat.le_refl _) _
  have q7 : w4.heap[g7]? = some (.cells #[.bool false, .slice a2 k2 c2] 73 (0, 0)) := by rw [hw4, hg7]; exact heap_alloc_new _ _
  have q6 := hb4.blk HQ3.out hs3
  have HB4 : Hid (Below w.heap.size w w4) := HB3.out.thru hb4
  have HV4 : Hid (WideI w4 (.agg #[.bool false, .slice a2 k2 c2]) (N : Int)) := HV3.out.below hb4
  rw [← hw4, ← hg7]
  have HQ6 : Hid _ := q6
  clear hw4 hg7 hb4 HV3 HB3 HQ3 hs3 HB0 HQ1 HX HL
  have k0 := cell_of_row _ g7 0 _ _ _ q7
  have k1 := cell_of_row _ g7 1 _ _ _ q7
  clear q7
  cases neg
  · obtain ⟨f0, f1, c0, c1, f2, c2⟩ := row2 q6
    clear q6
    go_wp2
    exact wide_endV (p := 6) rfl rfl HQ6.out HV4.out.num0 HB4.out (by omega) (by simp [sg])
  · clear q6
    go_wp2_with fail
    (with_reducible refine (HG.out _ _ HV4.out).mono ?_)
    rintro en w5 ⟨v, rfl, hv, hb⟩
    obtain ⟨a3, k3, c3, rfl, hv3⟩ := hv
    have HV5 : Hid (Num .u64 18446744073709551616 w5 (.slice a3 k3 c3) (-(N : Int)).natAbs) := hv3
    have HB5 : Hid (Below w.heap.size w w5) := HB4.out.thru hb
    have q6 := hb.blk HQ6.out (blk_lt HQ6.out)
    have HQ5 : Hid _ := q6
    obtain ⟨f0, f1, c0, c1, f2, c2⟩ := row2 q6
    clear q6 hb hv3
    go_wp2
    exact wide_endV (p := 6) rfl rfl HQ5.out HV5.out HB5.out (by omega) (by simp [sg])
theorem vN_sp {b : Nat} (h : finB b = true) : vN b = sg (spS b) (spM b * 2 ^ (spE b + LU).toNat) := by
  have h1 := (spE_range b).1
  unfold vN
  rw [if_pos h, valB_sp b h, ← sg_mul, Nat.mul_assoc, ← Nat.pow_add]
  congr 3
  rw [LU_two]
  have := LP_eq
  omega
theorem vN_not {b : Nat} (h : spX b ≠ 0 ∨ spM b = 0) : vN b = 0 := by
  by_cases hf : finB b = true
  · rw [vN_sp hf]
    rcases h with h | h
    · exfalso
      have := finB_eq b
      rw [hf] at this
      unfold spX at h
      cases hn : nanB b <;> cases hi : infB b <;> rw [hn, hi] at this h <;> simp at this h
    · rw [h, Nat.zero_mul]; exact (sg_zero _ _).2 rfl
  · unfold vN; rw [if_neg hf]
theorem spX_fin {b : Nat} (h : spX b = 0) : finB b = true := by
  rw [finB_eq]
  unfold spX at h
  cases hn : nanB b <;> cases hi : infB b <;> rw [hn, hi] at h <;> simp at h ⊢
theorem wide_zero (w : World) : Num .u64 18446744073709551616 w (.slice none 0 0) 0 := by
  refine ⟨[], ⟨none, 0, 0, rfl, rfl, Nat.le_refl _, by decide, by simp, fun h => absurd h (by decide)⟩, rfl, ?_⟩
  first | trivial | simp [Norm]
set_option maxHeartbeats 1000000 in
set_option maxRecDepth 100000 in
theorem ofU_v (b : Nat) (hb : W64 b) (w : World) : Calls Tryz.prog 57 #[.float .f64 b] w (WideR (vN b) w) := by
  have HS : Hid (∀ W, Calls Tryz.prog 58 #[.float .f64 b] W fun e w' => e = .returned (.tuple #[.bool (spS b), .int .u64 (spM b), .int .i64 (spE b), .int .i64 (spX b)]) ∧ W = w') := fun W => split_any b W hb
  have HB0 : Hid (Below w.heap.size w (w.alloc (.cells #[.bool false, .slice none 0 0] 73))) := (Below.refl _ _).alloc (Nat.le_refl _) _
  have HQ0 : Hid _ := heap_alloc_new w (.cells #[.bool false, .slice none 0 0] 73)
  obtain ⟨V, hV⟩ : ∃ V, V = vN b := ⟨_, rfl⟩
  rw [← hV]
  by_cases hz : spX b ≠ 0 ∨ spM b = 0
  · have h0 : V = 0 := by rw [hV]; exact vN_not hz
    have HN0 : Hid (Num .u64 18446744073709551616 (w.alloc (.cells #[.bool false, .slice none 0 0] 73)) (.slice none 0 0) V.natAbs) := by rw [h0]; exact wide_zero _
    have HV0 : Hid (false = decide (V < 0)) := by show false = _; rw [h0]; rfl
    obtain ⟨f0, f1, c0, c1, f2, c2⟩ := row2 HQ0.out
    obtain ⟨s, hs⟩ : ∃ s, s = spS b := ⟨_, rfl⟩
    obtain ⟨m, hm⟩ : ∃ m, m = spM b := ⟨_, rfl⟩
    obtain ⟨e, he⟩ : ∃ e, e = spE b := ⟨_, rfl⟩
    obtain ⟨X, hX⟩ : ∃ X, X = spX b := ⟨_, rfl⟩
    rw [← hs, ← hm, ← he, ← hX] at HS
    rw [← hX, ← hm] at hz
    clear hs hm he hX hV h0
    by_cases hx : X = 0
    · have hm0 : m = 0 := by omega
      subst hx hm0
      clear hz
      go_enter Tryz.func57, Tryz.ntmps57
      go_wp2_with (go_at_call 58; (with_reducible refine (HS.out _).mono ?_); rintro e w' ⟨rfl, rfl⟩)
      exact wide_row (p := 2) rfl rfl HQ0.out ⟨none, 0, 0, by rw [← HV0.out], HN0.out⟩ HB0.out
    · have hx1 : (X == 0) = false := by simpa using hx
      clear hz
      go_enter Tryz.func57, Tryz.ntmps57
      go_wp2_with (go_at_call 58; (with_reducible refine (HS.out _).mono ?_); rintro e w' ⟨rfl, rfl⟩)
      exact wide_row (p := 2) rfl rfl HQ0.out ⟨none, 0, 0, by rw [← HV0.out], HN0.out⟩ HB0.out
  · have hx : spX b = 0 := Decidable.byContradiction fun h => hz (.inl h)
    have hm : spM b ≠ 0 := fun h => hz (.inr h)
    have hv := vN_sp (spX_fin hx)
    rw [← hV] at hv
    obtain ⟨r1, r2⟩ := spE_range b
    have r3 := spM_bd b
    have HW : Hid (∀ W, Calls Tryz.prog 59 #[.int .u64 (spM b)] W (WideR (spM b) W)) := fun W => word_v _ W (by omega)
    have HU : Hid (∀ W v, WideI W v ((spM b : Nat) : Int) → Calls Tryz.prog 60 #[.bool (spS b), v, .int .i64 (spE b)] W (WideR V W)) := fun W v hW => by
      rw [hv]; exact value_v _ _ _ _ W hW (by omega) (by omega) (bb := 64) (by omega) (by decide)
    rw [hx] at HS
    obtain ⟨s, hs⟩ : ∃ s, s = spS b := ⟨_, rfl⟩
    obtain ⟨m, hm1⟩ : ∃ m, m = spM b := ⟨_, rfl⟩
    obtain ⟨e, he⟩ : ∃ e, e = spE b := ⟨_, rfl⟩
    rw [← hs, ← hm1, ← he] at HS HU
    rw [← hm1] at hm HW
    have hm2 : ((m : Int) == 0) = false := by simp; omega
    clear hs hm1 he hv hV hx hz r1 r2 r3
    go_enter Tryz.func57, Tryz.ntmps57
    go_wp2_with (go_at_call 58; (with_reducible refine (HS.out _).mono ?_); rintro e w' ⟨rfl, rfl⟩)
    (with_reducible refine (HW.out _).mono ?_)
    rintro en w3 ⟨v, rfl, hv, hb⟩
    have HB3 : Hid (Below w.heap.size w w3) := HB0.out.thru hb
    have HQ3 : Hid _ := hb.blk HQ0.out (blk_lt HQ0.out)
    have HV3 : Hid (WideI w3 v (m : Int)) := hv
    clear hb hv
    go_wp2_with fail
    (with_reducible refine (HU.out _ _ HV3.out).mono ?_)
    rintro en w5 ⟨v, rfl, hv, hb⟩
    obtain ⟨a3, k3, c3, rfl, hv3⟩ := hv
    have HV5 : Hid (Num .u64 18446744073709551616 w5 (.slice a3 k3 c3) V.natAbs) := hv3
    have HB5 : Hid (Below w.heap.size w w5) := HB3.out.thru hb
    have q6 := hb.blk HQ3.out (blk_lt HQ3.out)
    have HQ5 : Hid _ := q6
    obtain ⟨f0, f1, c0, c1, f2, c2⟩ := row2 q6
    clear q6 hb hv3
    go_wp2
    exact wide_endV (p := 2) rfl rfl HQ5.out HV5.out HB5.out (by simp) rfl
end Go.Proofs.YtlffojopfilfeaaGreatDoor
