/- Parts Rf, Rg of the proof, in one text. -/
import Derived.Test.YtiimjbpfdidgcaaDoorHU
import Derived.Test.YtiimjbpfdidgcaaDoorHV
import Derived.Test.YtiimjbpfdidgcaaDoorHX
import Derived.Test.YtiimjbpfdidgcaaDoorHA
import Derived.Test.YtiimjbpfdidgcaaDoorHD
import Derived.Deep.RegionHeld3

/- Walks: the document's answer for layer 7: Nearest. -/
namespace Go.Proofs.YtiimjbpfdidgcaaDoor
open Go.RowKit

theorem kind_row {fn : Func} {p : Tmp} (h : fn.results = #[.cell p 101]) (tmps : Array Value) (w : World) (g : Nat) (a b c : Value)
    (hp : tmps.getD p undef = .pointer (some ⟨g, 0, none⟩)) (hg : w.heap[g]? = some (.cells #[a, b, c] 101 (0, 0))) : (results fn tmps).run Tryd.prog w = .ok (.agg #[a, b, c]) w :=
  results_cell_row h tmps w g _ _ _ _ hp hg Tryd.underlying101 rfl (by kernel_rfl)

theorem sixty_any (w : World) : Calls Tryd.prog 79 #[] w fun e w' => e = .returned (.agg #[.int .i64 53, .int .i64 (-1074), .int .i64 1023]) ∧ Below w.heap.size w w' := by
  go_enter Tryd.func79, Tryd.ntmps79
  go_wp2
  exact bodyPost_ret (kind_row rfl _ _ w.heap.size _ _ _ rfl (heap_alloc_new _ _)) rfl ⟨rfl, (Below.refl _ _).alloc (Nat.le_refl _) _⟩

/-- A number of the double kind, put together. -/
theorem join_fit (neg : Bool) (m : Nat) (x : Int) (R : Nat) (hm : m < 9007199254740992) (h1 : -1074 ≤ x) (h2 : x ≤ 971) (h3 : x = -1074 ∨ 4503599627370496 ≤ m) (hR : (R : Int) = (x + 1074) * 4503599627370496 + m) : joinB neg m x = sgW neg + R := by
  by_cases h0 : m = 0
  · unfold joinB
    rw [if_pos h0]
    omega
  · have hw : W64 m := by unfold W64; omega
    obtain ⟨p1, p2, p3, p4⟩ := join_parts m hw h0
    have h2' : joZ m = 0 ∨ (joO m * 2^(joZ m - 1) < 4503599627370496 ∧ -1074 ≤ x) := by
      rcases Nat.eq_zero_or_pos (joZ m) with z | z
      · exact .inl z
      · refine .inr ⟨?_, h1⟩
        have e : joO m * 2^(joZ m - 1) * 2 = m := by
          rw [Nat.mul_assoc, ← Nat.pow_succ, Nat.succ_eq_add_one, Nat.sub_add_cancel z]
          exact p1.symm
        omega
    have := (join_ref_ok neg m x hw h0 m (joZ m) x p1 (by omega) (by omega) h2' (by omega)).1
    rw [this]
    omega

set_option maxRecDepth 100000 in
theorem bits64_any (neg : Bool) (m : Nat) (x : Int) (R : Nat) (w : World) (hm : m < 9007199254740992) (h1 : -1074 ≤ x) (h2 : x ≤ 971) (h3 : x = -1074 ∨ 4503599627370496 ≤ m) (hR : (R : Int) = (x + 1074) * 4503599627370496 + m) :
    Calls Tryd.prog 80 #[.agg #[.bool neg, .bool false, .int .u64 m, .int .i64 x]] w fun e w' => e = .returned (.int .u64 (sgW neg + R : Nat)) ∧ Below w.heap.size w w' := by
  have HJ : Hid (joinB neg m x = sgW neg + R) := join_fit neg m x R hm h1 h2 h3 hR
  have HW : Hid (W64 m) := (by unfold W64; omega : W64 m)
  have HB : Hid (∀ F, Below w.heap.size w (w.alloc F)) := fun F => (Below.refl _ _).alloc (Nat.le_refl _) _
  clear hR hm h1 h2 h3
  go_enter Tryd.func80, Tryd.ntmps80
  go_wp2_with (go_at_call 107; refine (rjoin_any neg m x _ HW.out).mono ?_; rintro e w' ⟨rfl, rfl⟩)
  go_ret
  exact ⟨by rw [HJ.out]; rfl, HB.out _⟩

def NearestQ (neg : Bool) (R : Nat) (w : World) (e : Ending) (w' : World) : Prop := e = .returned (.tuple #[.int .u64 (resB neg R : Nat), .int .i64 (resX R)]) ∧ Below w.heap.size w w'

/-- To, of any value that is no root. -/
theorem to_any (neg : Bool) (v : Value) (M D : Nat) (E : Int) (w : World) (h : Val w v neg M D E) {bb : Nat} (hM : M < 2 ^ bb) (hD : D < 2 ^ bb) (hbb : bb ≤ 200000) (hE1 : -200000 ≤ E) (hE2 : E ≤ 200000) (hM0 : 0 < M) (hD0 : 0 < D) {R : Nat} (hN : Near 52 (M * 2^(E + LP).toNat) (D * 2^(-(E + LP)).toNat) R) :
    Calls Tryd.prog 78 #[v, .agg #[.int .i64 53, .int .i64 (-1074), .int .i64 1023], .int .i64 1] w (ToPost neg R w) := by
  rcases Int.lt_or_le 1031 ((blen M : Int) - blen D + E - 56) with c | c
  · exact to_far_any neg v M D E w h hM hD hbb hE1 hE2 hM0 hD0 hN c
  · exact to_near_any neg v M D E w h hM hD hbb hE1 hE2 hM0 hD0 hN c

set_option maxHeartbeats 2000000 in
set_option maxRecDepth 100000 in
theorem nearest_any (neg : Bool) (v : Value) (M D : Nat) (E : Int) (w : World) (h : Val w v neg M D E) {bb : Nat} (hM : M < 2 ^ bb) (hD : D < 2 ^ bb) (hbb : bb ≤ 200000) (hE1 : -200000 ≤ E) (hE2 : E ≤ 200000) (hM0 : 0 < M) (hD0 : 0 < D) {R : Nat} (hN : Near 52 (M * 2^(E + LP).toNat) (D * 2^(-(E + LP)).toNat) R) :
    Calls Tryd.prog 55 #[v] w (NearestQ neg R w) := by
  have HTO : Hid (∀ W, Below w.heap.size w W → Calls Tryd.prog 78 #[v, .agg #[.int .i64 53, .int .i64 (-1074), .int .i64 1023], .int .i64 1] W (ToPost neg R W)) := fun W hW => by
    obtain ⟨s, t, rfl, hs, ht⟩ := h
    exact to_any neg _ M D E W ⟨s, t, rfl, hs.below (Nat.le_refl _) hW, ht.below (Nat.le_refl _) hW⟩ hM hD hbb hE1 hE2 hM0 hD0 hN
  obtain ⟨s, t, rfl, hs, ht⟩ := h
  clear hs ht hM hD hbb hE1 hE2 hM0 hD0 hN
  go_enter Tryd.func55, Tryd.ntmps55
  go_upto_region 1 with fail
  have hb0 : Below w.heap.size w (w.alloc (.cells #[.bool neg, s, t, .int .i64 E, .bool false] 77)) := (Below.refl _ _).alloc (Nat.le_refl _) _
  have q0 := heap_alloc_new w (.cells #[.bool neg, s, t, .int .i64 E, .bool false] 77)
  have hs1 : (w.alloc (.cells #[.bool neg, s, t, .int .i64 E, .bool false] 77)).heap.size = w.heap.size + 1 := by simp
  generalize w.alloc (.cells #[.bool neg, s, t, .int .i64 E, .bool false] 77) = w1 at *
  refine wp_region_inv (fun l a W => ∃ t4 t5 t6 t7 t8 t9 t10 t11 : Value, ∃ gA gB : Nat, ∃ inf ine ov un : Bool, ∃ m x : Int,
    a = { tmps := #[.agg #[.bool neg, s, t, .int .i64 E, .bool false], .pointer (some ⟨w.heap.size, 0, none⟩), .int .u64 0, .int .i64 0, t4, t5, t6, t7, t8, t9, t10, t11, undef, undef, undef, undef], defers := [] } ∧
    Below w1.heap.size w1 W ∧ (Did l 2 → ToEnd R inf ov m x) ∧
    (Did l 0 → t7 = .agg #[.bool neg, s, t, .int .i64 E, .bool false]) ∧ (Did l 1 → t8 = .agg #[.int .i64 53, .int .i64 (-1074), .int .i64 1023]) ∧
    (Did l 2 → t9 = .tuple #[.agg #[.bool neg, .bool inf, .int .u64 m, .int .i64 x], .agg #[.bool ine, .bool ov, .bool un]]) ∧
    (Did l 3 → t6 = .tuple #[.agg #[.bool neg, .bool inf, .int .u64 m, .int .i64 x], .agg #[.bool ine, .bool ov, .bool un]]) ∧
    (Did l 4 → t10 = .agg #[.bool neg, .bool inf, .int .u64 m, .int .i64 x]) ∧ (Did l 5 → t11 = .agg #[.bool ine, .bool ov, .bool un]) ∧
    (Did l 6 → RowD W w1.heap.size t4 gA 95 (Did l 8) #[.bool neg, .bool inf, .int .u64 m, .int .i64 x]) ∧
    (Did l 7 → RowD W w1.heap.size t5 gB 97 (Did l 9) #[.bool ine, .bool ov, .bool un]) ∧ (Did l 6 → Did l 7 → gA ≠ gB)) (by kernel_rfl) (by kernel_rfl) 10 (by kernel_rfl) ?_ ?_ ?_
  · intro l hl
    refine ⟨undef, undef, undef, undef, undef, undef, undef, undef, 0, 0, false, false, false, false, 0, 0, rfl, (Below.refl _ _).drew, ?_⟩
    exact ⟨fun h => absurd h (hl _), fun h => absurd h (hl _), fun h => absurd h (hl _), fun h => absurd h (hl _), fun h => absurd h (hl _), fun h => absurd h (hl _), fun h => absurd h (hl _), fun h => absurd h (hl _), fun h => absurd h (hl _), fun h => absurd h (hl _)⟩
  · refine ⟨⟨⟨⟨⟨⟨⟨⟨⟨⟨trivial, ?_⟩, ?_⟩, ?_⟩, ?_⟩, ?_⟩, ?_⟩, ?_⟩, ?_⟩, ?_⟩, ?_⟩
    all_goals
      rintro l a W hi ⟨t4, t5, t6, t7, t8, t9, t10, t11, gA, gB, inf, ine, ov, un, m, x, rfl, hb, f2, f0, f1, f2', f3, f4, f5, f6, f7, f67⟩ hn hd hs
    · have q := hb.blk q0 (by omega)
      refine wpOp_step rfl fun K hK => step_plain rfl (wp_load_row 77 (.tmp 1) rfl w.heap.size rfl _ _ _ _ q Tryd.underlying77 rfl (by kernel_rfl) (hK _ _ ?_))
      exact ⟨t4, t5, t6, _, t8, t9, t10, t11, gA, gB, inf, ine, ov, un, m, x, rfl, hb, fun h => f2 (h.old hi), fun _ => rfl, fun h => f1 (h.old hi), fun h => f2' (h.old hi), fun h => f3 (h.old hi), fun h => f4 (h.old hi), fun h => f5 (h.old hi),
        fun h => (f6 (h.old hi)).old rfl (fun h => h.old hi), fun h => (f7 (h.old hi)).old rfl (fun h => h.old hi), fun h h' => f67 (h.old hi) (h'.old hi)⟩
    · refine wpOp_step rfl fun K hK => ?_
      go_simp
      go_at_call 79
      refine (sixty_any _).mono ?_
      rintro e w' ⟨rfl, hb'⟩
      refine hK _ _ ?_
      exact ⟨t4, t5, t6, t7, _, t9, t10, t11, gA, gB, inf, ine, ov, un, m, x, rfl, hb.thru hb', fun h => f2 (h.old hi), fun h => f0 (h.old hi), fun _ => rfl, fun h => f2' (h.old hi), fun h => f3 (h.old hi), fun h => f4 (h.old hi), fun h => f5 (h.old hi),
        fun h => (f6 (h.old hi)).thru hb' (fun h => h.old hi), fun h => (f7 (h.old hi)).thru hb' (fun h => h.old hi), fun h h' => f67 (h.old hi) (h'.old hi)⟩
    · obtain rfl := f0 (hd 0 (by kernel_rfl))
      obtain rfl := f1 (hd 1 (by kernel_rfl))
      refine wpOp_step rfl fun K hK => ?_
      go_simp
      go_at_call 78
      refine (HTO.out _ (hb0.trans (hb.mono (by omega)))).mono ?_
      rintro e w' ⟨inf', ine', ov', un', m', x', rfl, hb', hend⟩
      refine hK _ _ ?_
      have n3 : ¬ Did l 3 := fun h => hn (hs 3 2 (by kernel_rfl) h)
      have n8 : ¬ Did l 8 := fun h => n3 (hs 4 3 (by kernel_rfl) (hs 8 4 (by kernel_rfl) h))
      have n9 : ¬ Did l 9 := fun h => n3 (hs 5 3 (by kernel_rfl) (hs 9 5 (by kernel_rfl) h))
      exact ⟨t4, t5, t6, _, _, _, t10, t11, gA, gB, inf', ine', ov', un', m', x', rfl, hb.thru hb', fun _ => hend, fun _ => rfl, fun _ => rfl, fun _ => rfl, fun h => absurd (h.old hi) n3, fun h => absurd (hs 4 3 (by kernel_rfl) (h.old hi)) n3, fun h => absurd (hs 5 3 (by kernel_rfl) (h.old hi)) n3,
        fun h => ((f6 (h.old hi)).thru hb' id).turn rfl (fun h => n8 (h.old hi)), fun h => ((f7 (h.old hi)).thru hb' id).turn rfl (fun h => n9 (h.old hi)), fun h h' => f67 (h.old hi) (h'.old hi)⟩
    · obtain rfl := f2' (hd 2 (by kernel_rfl))
      refine wpOp_step rfl fun K hK => ?_
      go_simp
      refine hK _ _ ?_
      exact ⟨t4, t5, _, t7, t8, _, t10, t11, gA, gB, inf, ine, ov, un, m, x, rfl, hb, fun h => f2 (h.old hi), fun h => f0 (h.old hi), fun h => f1 (h.old hi), fun _ => rfl, fun _ => rfl, fun h => f4 (h.old hi), fun h => f5 (h.old hi),
        fun h => (f6 (h.old hi)).old rfl (fun h => h.old hi), fun h => (f7 (h.old hi)).old rfl (fun h => h.old hi), fun h h' => f67 (h.old hi) (h'.old hi)⟩
    · obtain rfl := f3 (hd 3 (by kernel_rfl))
      refine wpOp_step rfl fun K hK => ?_
      go_simp
      refine hK _ _ ?_
      exact ⟨t4, t5, _, t7, t8, t9, _, t11, gA, gB, inf, ine, ov, un, m, x, rfl, hb, fun h => f2 (h.old hi), fun h => f0 (h.old hi), fun h => f1 (h.old hi), fun h => f2' (h.old hi), fun _ => rfl, fun _ => rfl, fun h => f5 (h.old hi),
        fun h => (f6 (h.old hi)).old rfl (fun h => h.old hi), fun h => (f7 (h.old hi)).old rfl (fun h => h.old hi), fun h h' => f67 (h.old hi) (h'.old hi)⟩
    · obtain rfl := f3 (hd 3 (by kernel_rfl))
      refine wpOp_step rfl fun K hK => ?_
      go_simp
      refine hK _ _ ?_
      exact ⟨t4, t5, _, t7, t8, t9, t10, _, gA, gB, inf, ine, ov, un, m, x, rfl, hb, fun h => f2 (h.old hi), fun h => f0 (h.old hi), fun h => f1 (h.old hi), fun h => f2' (h.old hi), fun _ => rfl, fun h => f4 (h.old hi), fun _ => rfl,
        fun h => (f6 (h.old hi)).old rfl (fun h => h.old hi), fun h => (f7 (h.old hi)).old rfl (fun h => h.old hi), fun h h' => f67 (h.old hi) (h'.old hi)⟩
    · refine wpOp_step rfl fun K hK => ?_
      go_simp
      refine hK _ _ ?_
      have n8 : ¬ Did l 8 := fun h => hn (hs 8 6 (by kernel_rfl) h)
      exact ⟨_, t5, t6, t7, t8, t9, t10, t11, W.heap.size, gB, inf, ine, ov, un, m, x, rfl, hb.alloc hb.size _, fun h => f2 (h.old hi), fun h => f0 (h.old hi), fun h => f1 (h.old hi), fun h => f2' (h.old hi), fun h => f3 (h.old hi), fun h => f4 (h.old hi), fun h => f5 (h.old hi),
        fun _ => RowD.new hb.size rfl (fun h => n8 (h.old hi)), fun h => (f7 (h.old hi)).alloc _ (fun h => h.old hi), fun _ h' => by have := (f7 (h'.old hi)).2.2.1; omega⟩
    · refine wpOp_step rfl fun K hK => ?_
      go_simp
      refine hK _ _ ?_
      have n9 : ¬ Did l 9 := fun h => hn (hs 9 7 (by kernel_rfl) h)
      exact ⟨t4, _, t6, t7, t8, t9, t10, t11, gA, W.heap.size, inf, ine, ov, un, m, x, rfl, hb.alloc hb.size _, fun h => f2 (h.old hi), fun h => f0 (h.old hi), fun h => f1 (h.old hi), fun h => f2' (h.old hi), fun h => f3 (h.old hi), fun h => f4 (h.old hi), fun h => f5 (h.old hi),
        fun h => (f6 (h.old hi)).alloc _ (fun h => h.old hi), fun _ => RowD.new hb.size rfl (fun h => n9 (h.old hi)), fun h _ => by have := (f6 (h.old hi)).2.2.1; omega⟩
    · obtain rfl := f4 (hd 4 (by kernel_rfl))
      have r := f6 (hd 6 (by kernel_rfl))
      obtain ⟨rfl, r2, r3, fs, r4, r5, r6⟩ := f6 (hd 6 (by kernel_rfl))
      refine wpOp_step rfl fun K hK => step_plain rfl (wp_store_row 95 (.tmp 4) (.tmp 10) rfl gA #[.bool neg, .bool inf, .int .u64 m, .int .i64 x] rfl rfl _ _ r4 (by kernel_rfl) r5 (by simp [Value.oneCell']) (hK _ _ ?_))
      exact ⟨_, t5, t6, t7, t8, t9, _, t11, gA, gB, inf, ine, ov, un, m, x, rfl, below_setRow hb r2 _, fun h => f2 (h.old hi), fun h => f0 (h.old hi), fun h => f1 (h.old hi), fun h => f2' (h.old hi), fun h => f3 (h.old hi), fun h => f4 (h.old hi), fun h => f5 (h.old hi),
        fun _ => r.store, fun h => (f7 (h.old hi)).other (f67 (hd 6 (by kernel_rfl)) (h.old hi)).symm _ (fun h => h.old hi), fun h h' => f67 (h.old hi) (h'.old hi)⟩
    · obtain rfl := f5 (hd 5 (by kernel_rfl))
      have r := f7 (hd 7 (by kernel_rfl))
      obtain ⟨rfl, r2, r3, fs, r4, r5, r6⟩ := f7 (hd 7 (by kernel_rfl))
      refine wpOp_step rfl fun K hK => step_plain rfl (wp_store_row 97 (.tmp 5) (.tmp 11) rfl gB #[.bool ine, .bool ov, .bool un] rfl rfl _ _ r4 (by kernel_rfl) r5 (by simp [Value.oneCell']) (hK _ _ ?_))
      exact ⟨t4, _, t6, t7, t8, t9, t10, _, gA, gB, inf, ine, ov, un, m, x, rfl, below_setRow hb r2 _, fun h => f2 (h.old hi), fun h => f0 (h.old hi), fun h => f1 (h.old hi), fun h => f2' (h.old hi), fun h => f3 (h.old hi), fun h => f4 (h.old hi), fun h => f5 (h.old hi),
        fun h => (f6 (h.old hi)).other (f67 (h.old hi) (hd 7 (by kernel_rfl))) _ (fun h => h.old hi), fun _ => r.store, fun h h' => f67 (h.old hi) (h'.old hi)⟩
  · rintro l a W hall ⟨t4, t5, t6, t7, t8, t9, t10, t11, gA, gB, inf, ine, ov, un, m, x, rfl, hb, f2, f0, f1, f2', f3, f4, f5, f6, f7, f67⟩
    have hend := f2 (hall 2 (by decide))
    obtain rfl := f0 (hall 0 (by decide))
    obtain rfl := f1 (hall 1 (by decide))
    obtain rfl := f2' (hall 2 (by decide))
    obtain rfl := f3 (hall 3 (by decide))
    obtain rfl := f4 (hall 4 (by decide))
    obtain rfl := f5 (hall 5 (by decide))
    obtain ⟨rfl, r2, r3, fs, r4, r5, r6⟩ := f6 (hall 6 (by decide))
    obtain rfl := r6 (hall 8 (by decide))
    obtain ⟨rfl, s2, s3, fs', s4, s5, s6⟩ := f7 (hall 7 (by decide))
    obtain rfl := s6 (hall 9 (by decide))
    have HBW : Hid (Below w.heap.size w W) := hb0.trans (hb.mono (by omega))
    clear f2 f0 f1 f2' f3 f4 f5 f6 f7 f67 hall r5 r6 s5 s6 hb hb0 q0
    obtain ⟨x1, x2, x3⟩ := row3 s4
    obtain ⟨y1, y2, y3, y4⟩ := (⟨cell_of_row W gA 0 _ _ _ r4, cell_of_row W gA 1 _ _ _ r4, cell_of_row W gA 2 _ _ _ r4, cell_of_row W gA 3 _ _ _ r4⟩ : W.cell? ⟨gA, 0, none⟩ = some (.bool neg) ∧ W.cell? ⟨gA, 1, none⟩ = some (.bool inf) ∧ W.cell? ⟨gA, 2, none⟩ = some (.int .u64 m) ∧ W.cell? ⟨gA, 3, none⟩ = some (.int .i64 x))
    unfold ToEnd at hend
    by_cases hR : R < 9218868437227405312
    · rw [if_pos hR] at hend
      obtain ⟨rfl, rfl, e1, e2, e3, e4, e5, e6⟩ := hend
      obtain ⟨m', rfl⟩ : ∃ m' : Nat, m = m' := ⟨m.toNat, by omega⟩
      have HBT : Hid (∀ W, Calls Tryd.prog 80 #[.agg #[.bool neg, .bool false, .int .u64 m', .int .i64 x]] W fun e w' => e = .returned (.int .u64 (sgW neg + R : Nat)) ∧ Below W.heap.size W w') := fun W => bits64_any neg m' x R W (by omega) e3 e4 (by omega) e6
      have HE1 : Hid (resB neg R = sgW neg + R) := if_pos hR
      have HE2 : Hid (resX R = 0) := if_pos hR
      clear hR e1 e2 e3 e4 e5 e6 r2 r3 r4 s2 s3 s4
      go_wp2_with (go_at_call 80; refine (HBT.out _).mono ?_; rintro e w' ⟨rfl, hb'⟩)
      go_ret2
      exact ⟨by rw [HE1.out, HE2.out]; rfl, HBW.out.thru hb'⟩
    · rw [if_neg hR] at hend
      obtain ⟨rfl, rfl⟩ := hend
      have HE1 : Hid (resB neg R = 0) := if_neg hR
      have HE2 : Hid (resX R = 15) := if_neg hR
      clear hR r2 r3 r4 s2 s3 s4
      go_wp2
      go_ret2
      exact ⟨by rw [HE1.out, HE2.out]; rfl, HBW.out⟩
end Go.Proofs.YtiimjbpfdidgcaaDoor

/- Walks: the document's answer for layer 7: Told. -/
namespace Go.Proofs.YtiimjbpfdidgcaaDoor
open Go.RowKit

def ToldQ (neg : Bool) (M R nought : Nat) (w : World) (e : Ending) (w' : World) : Prop := e = .returned (.tuple #[.int .u64 (if M = 0 then nought else resB neg R : Nat), .int .i64 (if M = 0 then 0 else resX R)]) ∧ Below w.heap.size w w'

theorem Num.len {k : IntKind} {B : Nat} {w : World} {a : Option Addr} {n c M : Nat} (h : Num k B w (.slice a n c) M) (hB : 0 < B) : M = 0 ↔ n = 0 := by
  obtain ⟨xs, ⟨a', n', c', he, h1, -⟩, rfl, h3⟩ := h
  cases he
  rw [norm_zero h3 hB, h1]

set_option maxHeartbeats 1000000 in
set_option maxRecDepth 100000 in
theorem told_any (neg : Bool) (v : Value) (M nought : Nat) (E : Int) (w : World) (h : Term w v neg M E) {bb : Nat} (hM : M < 2 ^ bb) (hbb1 : 1 ≤ bb) (hbb : bb ≤ 200000) (hE1 : -200000 ≤ E) (hE2 : E ≤ 200000) {R : Nat} (hN : Near 52 (M * 2^(E + LP).toNat) (1 * 2^(-(E + LP)).toNat) R) :
    Calls Tryd.prog 62 #[v, .int .u64 (nought : Nat)] w (ToldQ neg M R nought w) := by
  obtain ⟨s, rfl, hs⟩ := h
  obtain ⟨a, m, c, rfl⟩ := hs.shape
  have hz := hs.len (by decide)
  by_cases hM0 : M = 0
  · obtain rfl : m = 0 := hz.1 hM0
    have HB : Hid (∀ F, Below w.heap.size w (w.alloc F)) := fun F => (Below.refl _ _).alloc (Nat.le_refl _) _
    have HE1 : Hid ((if M = 0 then nought else resB neg R) = nought) := if_pos hM0
    have HE2 : Hid ((if M = 0 then 0 else resX R) = 0) := if_pos hM0
    clear hs hz hM hbb1 hbb hE1 hE2 hN hM0
    go_enter Tryd.func62, Tryd.ntmps62
    go_wp2
    go_ret2
    exact ⟨by rw [HE1.out, HE2.out]; rfl, HB.out _⟩
  · have hm : ((m : Int) == 0) = false := by simp; omega
    have HOB : Hid (∀ W, Calls Tryd.prog 57 #[.int .u64 1] W (NatQ 1 W)) := fun W => of_any 1 W (by decide)
    have HNR : Hid (∀ W x y z, Below w.heap.size w W → Num .u32 4294967296 W (.slice x y z) 1 → Calls Tryd.prog 55 #[.agg #[.bool neg, .slice a m c, .slice x y z, .int .i64 E, .bool false]] W (NearestQ neg R W)) := fun W x y z hW hx =>
      nearest_any neg _ M 1 E W ⟨_, _, rfl, hs.below (Nat.le_refl _) hW, hx⟩ hM (Nat.one_lt_two_pow (by omega)) hbb hE1 hE2 (by omega) (by decide) hN
    have HE1 : Hid ((if M = 0 then nought else resB neg R) = resB neg R) := if_neg hM0
    have HE2 : Hid ((if M = 0 then 0 else resX R) = resX R) := if_neg hM0
    clear hs hz hM hbb1 hbb hE1 hE2 hN hM0
    go_enter Tryd.func62, Tryd.ntmps62
    have hb0 : Below w.heap.size w (w.alloc (.cells #[.bool neg, .slice a m c, .int .i64 E] 48)) := (Below.refl _ _).alloc (Nat.le_refl _) _
    have q0 := heap_alloc_new w (.cells #[.bool neg, .slice a m c, .int .i64 E] 48)
    have hs1 : (w.alloc (.cells #[.bool neg, .slice a m c, .int .i64 E] 48)).heap.size = w.heap.size + 1 := by simp
    go_upto_region 1 with fail
    generalize w.alloc (.cells #[.bool neg, .slice a m c, .int .i64 E] 48) = w1 at *
    have HC : Hid (∀ W, Below w1.heap.size w1 W → Below w1.heap.size w1 W ∧ W.cell? ⟨w.heap.size, 0, none⟩ = some (.bool neg) ∧ W.cell? ⟨w.heap.size, 1, none⟩ = some (.slice a m c) ∧ W.cell? ⟨w.heap.size, 2, none⟩ = some (.int .i64 E)) :=
      fun W hW => ⟨hW, cell_of_row W _ 0 _ _ _ (hW.blk q0 (by omega)), cell_of_row W _ 1 _ _ _ (hW.blk q0 (by omega)), cell_of_row W _ 2 _ _ _ (hW.blk q0 (by omega))⟩
    have HB0 : Hid (Below w.heap.size w w1) := hb0
    have HS1 : Hid (w1.heap.size = w.heap.size + 1) := hs1
    obtain ⟨hbs, x0, x1, x2⟩ := HC.out w1 (Below.refl _ _)
    clear hb0 q0 hs1
    go_upto_region 3 with fail
    clear x0 x1 x2
    go_region_held3 (fun W => Below w1.heap.size w1 W ∧ W.cell? ⟨w.heap.size, 0, none⟩ = some (.bool neg) ∧ W.cell? ⟨w.heap.size, 1, none⟩ = some (.slice a m c) ∧ W.cell? ⟨w.heap.size, 2, none⟩ = some (.int .i64 E))
      (first | exact HC.out _ ‹Below w1.heap.size w1 _› | exact HC.out _ (‹Below w1.heap.size w1 _›).drew)
      (first | (go_at_call 57; (with_reducible refine (HOB.out _).mono ?_); rintro e w7 ⟨v, rfl, hnum, hb⟩; obtain ⟨s1, s2, s3, rfl⟩ := Num.shape hnum; have hB2 : Below w1.heap.size w1 w7 := Below.thru (by first | assumption | exact Below.drew (by assumption)) hb; have HNUM : Hid (Num .u32 4294967296 w7 (.slice s1 s2 s3) 1) := hnum; clear hb hnum) | (go_at_call 55; (with_reducible refine (HNR.out _ _ _ _ (HB0.out.trans (Below.mono (by assumption : Below w1.heap.size w1 _) (by have := HS1.out; omega))) HNUM.out).mono ?_); rintro e w8 ⟨rfl, hb⟩; have hB3 : Below w1.heap.size w1 w8 := Below.thru (by assumption) hb; have HB3 : Hid _ := hB3; clear hb))
    go_wp2
    go_ret2
    exact ⟨by rw [HE1.out, HE2.out]; rfl, HB0.out.trans (HB3.out.mono (by have := HS1.out; omega))⟩
end Go.Proofs.YtiimjbpfdidgcaaDoor
