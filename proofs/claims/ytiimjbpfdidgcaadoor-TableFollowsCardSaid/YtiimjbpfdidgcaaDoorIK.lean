/- Parts Va, Vb, Vc of the proof, in one text. -/
import Derived.Test.YtiimjbpfdidgcaaDoorIJ
import Derived.Test.YtiimjbpfdidgcaaDoorIG
import Derived.Test.YtiimjbpfdidgcaaDoorIA
import Derived.Test.YtiimjbpfdidgcaaDoorID

/- Walks: table's Split. -/
namespace Go.Proofs.YtiimjbpfdidgcaaDoor
open Go.RowKit

theorem w_abs_less (a b : Nat) (fa : finB a = true) (fb : finB b = true) : (Go.FloatKind.f64.format.order (absB a) (absB b) == some Ordering.lt) = decide (absB a < absB b) := by
  have la := finB_lt' a fa
  have lb := finB_lt' b fb
  have wa := absB_W a
  have wb := absB_W b
  have na : nanB (absB a) = false := by unfold nanB; rw [absB_abs]; simp; omega
  have nb : nanB (absB b) = false := by unfold nanB; rw [absB_abs]; simp; omega
  show (Ieee.double.order (absB a) (absB b) == some Ordering.lt) = _
  rw [ord_D _ _ wa wb na nb, valB_abs, valB_abs, cmpI_lt, decide_eq_decide]
  have := @rv_lt_iff 52 (absB a) (absB b)
  omega

theorem results_tmp3' {fn : Func} {t u v : Tmp} (h : fn.results = #[.tmp t, .tmp u, .tmp v]) (tmps : Array Value) (P : Program) (w : World) :
    (results fn tmps).run P w = .ok (.tuple #[tmps.getD t undef, tmps.getD u undef, tmps.getD v undef]) w := by
  simp [results, h]

set_option maxHeartbeats 1000000 in
set_option maxRecDepth 100000 in
theorem tsplit_not (a b : Nat) (w : World) (ha : W64 a) (hb : W64 b) (hf : (finB a && finB b) = false) :
    Calls Tryd.prog 27 #[.float .f64 a, .float .f64 b] w fun e w' => e = .returned (.tuple #[.float .f64 0, .float .f64 0, .int .i64 10]) ∧ w = w' := by
  have HCA : Hid (∀ W, Calls Tryd.prog 59 #[.float .f64 a] W fun e w' => e = .returned (.int .i64 (clsB a)) ∧ W = w') := fun W => class_any a W ha
  have HCB : Hid (∀ W, Calls Tryd.prog 59 #[.float .f64 b] W fun e w' => e = .returned (.int .i64 (clsB b)) ∧ W = w') := fun W => class_any b W hb
  have hcl : clsB a ≤ 2 ∨ (¬ clsB a ≤ 2 ∧ clsB b ≤ 2) := by
    cases fa : finB a
    · have := cls_not a fa; omega
    · rw [fa] at hf
      have h1 := cls_fin a fa
      have h2 := cls_not b (by simpa using hf)
      omega
  generalize clsB a = ca at *
  generalize clsB b = cb at *
  clear hf ha hb
  rcases hcl with h | ⟨h, h'⟩
  all_goals
    go_enter Tryd.func27, Tryd.ntmps27
    go_wp2_with (first | (go_at_call 59; with_reducible refine (HCA.out _).mono ?_; rintro e w' ⟨rfl, rfl⟩) | (go_at_call 59; with_reducible refine (HCB.out _).mono ?_; rintro e w' ⟨rfl, rfl⟩))
    (try simp only [Exit.inBlock, Exit.then])
    exact bodyPost_ret (results_tmp3' rfl _ _ _) rfl ⟨rfl, rfl⟩

set_option maxHeartbeats 1000000 in
set_option maxRecDepth 100000 in
theorem tsplit_fin (a b R : Nat) (w : World) (ha : W64 a) (hb : W64 b) (fa : finB a = true) (fb : finB b = true) (hT : Tab9 w 1 totZ) (hR : Near 52 (valB a + valB b).natAbs 1 R) (hlt : R < 9218868437227405312) :
    ∃ r, r < 9218868437227405312 ∧ rv 52 r = (resD a b (addB a b R)).natAbs ∧
    Calls Tryd.prog 27 #[.float .f64 a, .float .f64 b] w fun e w' => e = .returned (.tuple #[.float .f64 (addB a b R), .float .f64 (restB a b (addB a b R) r), .int .i64 0]) ∧ Below w.heap.size w w' := by
  obtain ⟨t, u, r, g1, g2, g3, g4, g5⟩ := split_D a b R ha hb fa fb hR hlt
  refine ⟨r, g4, g5, ?_⟩
  have HCA : Hid (∀ W, Calls Tryd.prog 59 #[.float .f64 a] W fun e w' => e = .returned (.int .i64 (clsB a)) ∧ W = w') := fun W => class_any a W ha
  have HCB : Hid (∀ W, Calls Tryd.prog 59 #[.float .f64 b] W fun e w' => e = .returned (.int .i64 (clsB b)) ∧ W = w') := fun W => class_any b W hb
  have HAA : Hid (∀ W, Calls Tryd.prog 36 #[.float .f64 a] W fun e w' => e = .returned (.float .f64 (absB a)) ∧ W = w') := fun W => abs_any a W ha
  have HAB : Hid (∀ W, Calls Tryd.prog 36 #[.float .f64 b] W fun e w' => e = .returned (.float .f64 (absB b)) ∧ W = w') := fun W => abs_any b W hb
  have hx0 : addX a b R = 0 := by
    have na : nanB a = false ∧ infB a = false := by rw [finB_eq] at fa; simpa using fa
    have nb : nanB b = false ∧ infB b = false := by rw [finB_eq] at fb; simpa using fb
    have hbad : addBad a b = false := by unfold addBad; rw [na.1, nb.1, na.2]; rfl
    unfold addX resX
    simp only [hbad, na.2, nb.2, Bool.or_self, Bool.false_eq_true, if_false, if_pos hlt]
    split <;> rfl
  have HAD : Hid (Calls Tryd.prog 19 #[.float .f64 a, .float .f64 b] w fun e w' => e = .returned (.tuple #[.float .f64 (addB a b R), .int .i64 0]) ∧ Below w.heap.size w w') := by
    have := tadd_any a b R w ha hb hT (fun _ _ => hR)
    rw [hx0] at this
    exact this
  have h1 := cls_fin a fa
  have h2 := cls_fin b fb
  have hla := w_abs_less a b fa fb
  obtain ⟨l, hl⟩ : ∃ l, l = decide (absB a < absB b) := ⟨_, rfl⟩
  rw [← hl] at hla
  have e1 : (if absB a < absB b then b else a) = if l then b else a := by rw [hl]; by_cases h : absB a < absB b <;> simp [h]
  have e2 : (if absB a < absB b then a else b) = if l then a else b := by rw [hl]; by_cases h : absB a < absB b <;> simp [h]
  rw [e1] at g1
  rw [e2] at g2
  generalize clsB a = ca at *
  generalize clsB b = cb at *
  generalize addB a b R = s at *
  obtain ⟨q, hq⟩ : ∃ q, q = restB a b s r := ⟨_, rfl⟩
  rw [← hq] at g3 ⊢
  have p1 := fun (w : World) => run_float_arith (P := Tryd.prog) w .sub 24 .f64 _ _ _ g1
  have p2 := fun (w : World) => run_float_arith (P := Tryd.prog) w .sub 24 .f64 _ _ _ g2
  have p3 := fun (w : World) => run_float_arith (P := Tryd.prog) w .add 24 .f64 _ _ _ g3
  clear g1 g2 g3 g4 g5 e1 e2 hl hq hx0 ha hb fa fb hT hR hlt
  cases l
  all_goals
    simp only [Bool.false_eq_true, if_false, if_true] at p1 p2
    go_enter Tryd.func27, Tryd.ntmps27
    go_wp2_with (first | (go_at_call 59; with_reducible refine (HCA.out _).mono ?_; rintro e w' ⟨rfl, rfl⟩) | (go_at_call 59; with_reducible refine (HCB.out _).mono ?_; rintro e w' ⟨rfl, rfl⟩))
    refine HAD.out.mono ?_
    rintro e w1 ⟨rfl, hb1⟩
    go_wp2_with (first | (go_at_call 36; with_reducible refine (HAA.out _).mono ?_; rintro e w' ⟨rfl, rfl⟩) | (go_at_call 36; with_reducible refine (HAB.out _).mono ?_; rintro e w' ⟨rfl, rfl⟩))
    (try simp only [Exit.inBlock, Exit.then])
    exact bodyPost_ret (results_tmp3' rfl _ _ _) rfl ⟨rfl, hb1⟩

set_option maxHeartbeats 1000000 in
set_option maxRecDepth 100000 in
theorem tsplit_over (a b R : Nat) (w : World) (ha : W64 a) (hb : W64 b) (fa : finB a = true) (fb : finB b = true) (hT : Tab9 w 1 totZ) (hR : Near 52 (valB a + valB b).natAbs 1 R) (hlt : ¬ R < 9218868437227405312) :
    Calls Tryd.prog 27 #[.float .f64 a, .float .f64 b] w fun e w' => e = .returned (.tuple #[.float .f64 0, .float .f64 0, .int .i64 15]) ∧ Below w.heap.size w w' := by
  have HCA : Hid (∀ W, Calls Tryd.prog 59 #[.float .f64 a] W fun e w' => e = .returned (.int .i64 (clsB a)) ∧ W = w') := fun W => class_any a W ha
  have HCB : Hid (∀ W, Calls Tryd.prog 59 #[.float .f64 b] W fun e w' => e = .returned (.int .i64 (clsB b)) ∧ W = w') := fun W => class_any b W hb
  have hx0 : addX a b R = 15 := by
    have na : nanB a = false ∧ infB a = false := by rw [finB_eq] at fa; simpa using fa
    have nb : nanB b = false ∧ infB b = false := by rw [finB_eq] at fb; simpa using fb
    have hbad : addBad a b = false := by unfold addBad; rw [na.1, nb.1, na.2]; rfl
    have h0 : valB a + valB b ≠ 0 := fun h0 => hlt (by
      rw [h0] at hR
      rw [Near.uniq (by decide) hR (near_zero 52 1 (by decide))]; decide)
    unfold addX resX
    simp only [hbad, na.2, nb.2, Bool.or_self, Bool.false_eq_true, if_false, if_neg hlt, if_neg h0]
  have HAD : Hid (Calls Tryd.prog 19 #[.float .f64 a, .float .f64 b] w fun e w' => e = .returned (.tuple #[.float .f64 (addB a b R), .int .i64 15]) ∧ Below w.heap.size w w') := by
    have := tadd_any a b R w ha hb hT (fun _ _ => hR)
    rw [hx0] at this
    exact this
  have h1 := cls_fin a fa
  have h2 := cls_fin b fb
  generalize clsB a = ca at *
  generalize clsB b = cb at *
  generalize addB a b R = s at *
  clear hx0 ha hb fa fb hT hR hlt
  go_enter Tryd.func27, Tryd.ntmps27
  go_wp2_with (first | (go_at_call 59; with_reducible refine (HCA.out _).mono ?_; rintro e w' ⟨rfl, rfl⟩) | (go_at_call 59; with_reducible refine (HCB.out _).mono ?_; rintro e w' ⟨rfl, rfl⟩))
  refine HAD.out.mono ?_
  rintro e w1 ⟨rfl, hb1⟩
  go_wp2
  (try simp only [Exit.inBlock, Exit.then])
  exact bodyPost_ret (results_tmp3' rfl _ _ _) rfl ⟨rfl, hb1⟩
end Go.Proofs.YtiimjbpfdidgcaaDoor

/- Walks: the document's answer for layer 7: Split. -/
namespace Go.Proofs.YtiimjbpfdidgcaaDoor
open Go.RowKit

set_option maxRecDepth 100000 in
theorem r7_split_not (a b : Nat) (w : World) (ha : W64 a) (hb : W64 b) (hf : (finB a && finB b) = false) :
    Calls Tryd.prog 28 #[.int .u64 a, .int .u64 b] w fun e w' => e = .returned (.tuple #[.int .u64 0, .int .u64 0, .int .i64 10]) ∧ w = w' := by
  have HFA : Hid (∀ W, Calls Tryd.prog 68 #[.int .u64 a] W fun e w' => e = .returned (.bool (finB a)) ∧ W = w') := fun W => ref_finite a W ha
  have HFB : Hid (∀ W, Calls Tryd.prog 68 #[.int .u64 b] W fun e w' => e = .returned (.bool (finB b)) ∧ W = w') := fun W => ref_finite b W hb
  obtain ⟨fa, hfa⟩ : ∃ z, z = finB a := ⟨_, rfl⟩
  obtain ⟨fb, hfb⟩ : ∃ z, z = finB b := ⟨_, rfl⟩
  rw [← hfa] at HFA hf
  rw [← hfb] at HFB hf
  clear hfa hfb ha hb
  cases fa <;> cases fb
  case true.true => cases hf
  all_goals
    clear hf
    go_enter Tryd.func28, Tryd.ntmps28
    go_wp2_with (first | (go_at_call 68; with_reducible refine (HFA.out _).mono ?_; rintro e w' ⟨rfl, rfl⟩) | (go_at_call 68; with_reducible refine (HFB.out _).mono ?_; rintro e w' ⟨rfl, rfl⟩))
    (try simp only [Exit.inBlock, Exit.then])
    exact bodyPost_ret (results_tmp3' rfl _ _ _) rfl ⟨rfl, rfl⟩

set_option maxRecDepth 100000 in
theorem r7_split_over (a b R : Nat) (w : World) (ha : W64 a) (hb : W64 b) (fa : finB a = true) (fb : finB b = true) (hR : Near 52 (valB a + valB b).natAbs 1 R) (hx0 : addX a b R = 15) :
    Calls Tryd.prog 28 #[.int .u64 a, .int .u64 b] w fun e w' => e = .returned (.tuple #[.int .u64 0, .int .u64 0, .int .i64 15]) ∧ Below w.heap.size w w' := by
  have HFA : Hid (∀ W, Calls Tryd.prog 68 #[.int .u64 a] W fun e w' => e = .returned (.bool true) ∧ W = w') := fun W => by rw [← fa]; exact ref_finite a W ha
  have HFB : Hid (∀ W, Calls Tryd.prog 68 #[.int .u64 b] W fun e w' => e = .returned (.bool true) ∧ W = w') := fun W => by rw [← fb]; exact ref_finite b W hb
  have HAD : Hid (∀ W, Calls Tryd.prog 20 #[.int .u64 a, .int .u64 b] W fun e w' => e = .returned (.tuple #[.int .u64 (addB a b R : Nat), .int .i64 15]) ∧ Below W.heap.size W w') := fun W => by
    have := r7_add a b R W ha hb (fun _ _ => hR)
    rw [hx0] at this
    exact this
  generalize addB a b R = s at *
  clear ha hb fa fb hR hx0
  go_enter Tryd.func28, Tryd.ntmps28
  go_wp2_with (first | (go_at_call 68; with_reducible refine (HFA.out _).mono ?_; rintro e w' ⟨rfl, rfl⟩) | (go_at_call 68; with_reducible refine (HFB.out _).mono ?_; rintro e w' ⟨rfl, rfl⟩))
  refine (HAD.out _).mono ?_
  rintro e w1 ⟨rfl, hb1⟩
  go_wp2
  (try simp only [Exit.inBlock, Exit.then])
  exact bodyPost_ret (results_tmp3' rfl _ _ _) rfl ⟨rfl, hb1⟩

set_option maxHeartbeats 1000000 in
set_option maxRecDepth 100000 in
theorem r7_split_fin (a b R r : Nat) (w : World) (ha : W64 a) (hb : W64 b) (fa : finB a = true) (fb : finB b = true) (hR : Near 52 (valB a + valB b).natAbs 1 R) (hlt : R < 9218868437227405312) (hx0 : addX a b R = 0) (hr1 : r < 9218868437227405312) (hr2 : rv 52 r = (resD a b (addB a b R)).natAbs) :
    Calls Tryd.prog 28 #[.int .u64 a, .int .u64 b] w fun e w' => e = .returned (.tuple #[.int .u64 (addB a b R : Nat), .int .u64 (restB a b (addB a b R) r : Nat), .int .i64 0]) ∧ Below w.heap.size w w' := by
  have HFA : Hid (∀ W, Calls Tryd.prog 68 #[.int .u64 a] W fun e w' => e = .returned (.bool true) ∧ W = w') := fun W => by rw [← fa]; exact ref_finite a W ha
  have HFB : Hid (∀ W, Calls Tryd.prog 68 #[.int .u64 b] W fun e w' => e = .returned (.bool true) ∧ W = w') := fun W => by rw [← fb]; exact ref_finite b W hb
  have HAD : Hid (∀ W, Calls Tryd.prog 20 #[.int .u64 a, .int .u64 b] W fun e w' => e = .returned (.tuple #[.int .u64 (addB a b R : Nat), .int .i64 0]) ∧ Below W.heap.size W w') := fun W => by
    have := r7_add a b R W ha hb (fun _ _ => hR)
    rw [hx0] at this
    exact this
  obtain ⟨s1, s2, s3, s4⟩ := add_val a b R fa fb hR hlt
  obtain ⟨s, hs⟩ : ∃ s, s = addB a b R := ⟨_, rfl⟩
  rw [← hs] at s1 s2 hr2 HAD ⊢
  have HOA : Hid (∀ W, Calls Tryd.prog 54 #[.int .u64 a] W (TermQ (spS a) (spM a) (spE a) W)) := fun W => r7_of a W ha
  have HOB : Hid (∀ W, Calls Tryd.prog 54 #[.int .u64 b] W (TermQ (spS b) (spM b) (spE b) W)) := fun W => r7_of b W hb
  have HOS : Hid (∀ W, Calls Tryd.prog 54 #[.int .u64 s] W (TermQ (spS s) (spM s) (spE s) W)) := fun W => r7_of s W s1
  have q1 := spE_range a
  have q2 := spE_range b
  have q3 := spE_range s
  obtain ⟨G, hG⟩ : ∃ G, min (spE a) (spE b) = G := ⟨_, rfl⟩
  obtain ⟨G', hG'⟩ : ∃ G', min G (spE s) = G' := ⟨_, rfl⟩
  obtain ⟨K, hK⟩ : ∃ K : Nat, K = 2046 := ⟨_, rfl⟩
  have hX := term_small (K := K) (spM_lt a) (show spE a - G ≤ K by omega)
  have hY := term_small (K := K) (spM_lt b) (show spE b - G ≤ K by omega)
  have v1 := tsum_val (spS a) (spS b) (spM a) (spM b) hG (by omega) (by omega)
  rw [← valB_sp a fa, ← valB_sp b fb] at v1
  have hS1 : ∀ W v v', Term W v (spS a) (spM a) (spE a) → Term W v' (spS b) (spM b) (spE b) → Calls Tryd.prog 63 #[v, v'] W (TermQ (sumS (spS a) (spS b) (spM a * 2 ^ (spE a - G).toNat) (spM b * 2 ^ (spE b - G).toNat)) (sumM (spS a) (spS b) (spM a * 2 ^ (spE a - G).toNat) (spM b * 2 ^ (spE b - G).toNat)) G W) := fun W v v' h h' =>
    r7_sum v v' _ _ _ _ _ _ _ W h h' (bb := 53) (spM_lt a) (spM_lt b) (by decide) (by omega) (by omega) hG
  have hm1 := sumM_small (spS a) (spS b) hX hY
  generalize sumS (spS a) (spS b) (spM a * 2 ^ (spE a - G).toNat) (spM b * 2 ^ (spE b - G).toNat) = sg1 at *
  generalize sumM (spS a) (spS b) (spM a * 2 ^ (spE a - G).toNat) (spM b * 2 ^ (spE b - G).toNat) = m1 at *
  have v2 := tsum_val sg1 (!spS s) m1 (spM s) hG' (by omega) (by omega)
  rw [v1, sg_not, ← valB_sp s s2] at v2
  have hms : spM s < 2^(53 + K + 1) := Nat.lt_of_lt_of_le (spM_lt s) (show 2^53 ≤ 2^(53 + K + 1) from Nat.pow_le_pow_right (by decide) (by omega))
  have hS2 : ∀ W v v', Term W v sg1 m1 G → Term W v' (!spS s) (spM s) (spE s) → Calls Tryd.prog 63 #[v, v'] W (TermQ (sumS sg1 (!spS s) (m1 * 2 ^ (G - G').toNat) (spM s * 2 ^ (spE s - G').toNat)) (sumM sg1 (!spS s) (m1 * 2 ^ (G - G').toNat) (spM s * 2 ^ (spE s - G').toNat)) G' W) := fun W v v' h h' =>
    r7_sum v v' _ _ _ _ _ _ _ W h h' (bb := 53 + K + 1) hm1 hms (by omega) (by omega) (by omega) hG'
  have hX2 : m1 * 2 ^ (G - G').toNat < 2^(53 + K + 1 + K) := by
    rw [Nat.pow_add 2 (53 + K + 1) K]
    exact Nat.mul_lt_mul_of_lt_of_le hm1 (Nat.pow_le_pow_right (by decide) (by omega)) (Nat.two_pow_pos _)
  have hY2 : spM s * 2 ^ (spE s - G').toNat < 2^(53 + K + 1 + K) := by
    rw [Nat.pow_add 2 (53 + K + 1) K]
    exact Nat.mul_lt_mul_of_lt_of_le hms (Nat.pow_le_pow_right (by decide) (by omega)) (Nat.two_pow_pos _)
  have hm2 := sumM_small sg1 (!spS s) hX2 hY2
  generalize sumS sg1 (!spS s) (m1 * 2 ^ (G - G').toNat) (spM s * 2 ^ (spE s - G').toNat) = sg2 at *
  generalize sumM sg1 (!spS s) (m1 * 2 ^ (G - G').toNat) (spM s * 2 ^ (spE s - G').toNat) = m2 at *
  have v3 : sg sg2 (m2 * 2 ^ (G' + LP).toNat) = resD a b s := by rw [v2]; unfold resD; omega
  have hn : Near 52 (resD a b s).natAbs 1 r := by
    have := Near.exact 52 r 1 (by decide)
    rw [Nat.mul_one, hr2] at this
    exact this
  have z3 := term_zero v3
  have g3 := fun h => term_sign v3 h
  have n3 := term_near v3 (by omega) hn
  have HS1 : Hid (∀ W v v', Term W v (spS a) (spM a) (spE a) → Term W v' (spS b) (spM b) (spE b) → Calls Tryd.prog 63 #[v, v'] W (TermQ sg1 m1 G W)) := hS1
  have HS2 : Hid (∀ W v v', Term W v sg1 m1 G → Term W v' (!spS s) (spM s) (spE s) → Calls Tryd.prog 63 #[v, v'] W (TermQ sg2 m2 G' W)) := hS2
  have HTOLD : Hid (∀ W v, Term W v sg2 m2 G' → Calls Tryd.prog 62 #[v, .int .u64 0] W fun e w' => e = .returned (.tuple #[.int .u64 (restB a b s r : Nat), .int .i64 0]) ∧ Below W.heap.size W w') := fun W v h => by
    have := told_any sg2 v m2 0 G' W h hm2 (by omega) (by omega) (by omega) (by omega) n3
    unfold ToldQ at this
    have e1 : (if m2 = 0 then 0 else resB sg2 r) = restB a b s r := by
      unfold restB resB
      rw [if_pos hr1]
      by_cases h0 : m2 = 0
      · rw [if_pos h0, if_pos (z3.1 h0)]
      · rw [if_neg h0, if_neg (mt z3.2 h0), g3 (mt z3.2 h0)]
    have e2 : (if m2 = 0 then (0 : Int) else resX r) = 0 := by unfold resX; rw [if_pos hr1]; split <;> rfl
    rw [e1, e2] at this
    exact this
  generalize restB a b s r = q at *
  clear hS1 hS2 hX hY hX2 hY2 hm1 hm2 hms v1 v2 v3 hn z3 g3 n3 q1 q2 q3 hG hG' hK s1 s2 s3 s4 hs ha hb fa fb hR hlt hx0 hr1 hr2
  go_enter Tryd.func28, Tryd.ntmps28
  go_wp2_with (first | (go_at_call 68; with_reducible refine (HFA.out _).mono ?_; rintro e w' ⟨rfl, rfl⟩) | (go_at_call 68; with_reducible refine (HFB.out _).mono ?_; rintro e w' ⟨rfl, rfl⟩))
  refine (HAD.out _).mono ?_
  rintro e w1 ⟨rfl, hb1⟩
  go_wp2_with fail
  refine (HOS.out _).mono ?_
  rintro e w2 ⟨vs, rfl, ⟨ts, rfl, htn⟩, hbs⟩
  obtain ⟨x, y, z, rfl⟩ := htn.shape
  go_upto_region 10 with fail
  have hb3 : Below w2.heap.size w2 (w2.alloc (.cells #[.bool (!spS s), .slice x y z, .int .i64 (spE s)] 48)) := (Below.refl _ _).alloc (Nat.le_refl _) _
  have q0 := heap_alloc_new w2 (.cells #[.bool (!spS s), .slice x y z, .int .i64 (spE s)] 48)
  have hsz : (w2.alloc (.cells #[.bool (!spS s), .slice x y z, .int .i64 (spE s)] 48)).heap.size = w2.heap.size + 1 := by simp
  generalize w2.alloc (.cells #[.bool (!spS s), .slice x y z, .int .i64 (spE s)] 48) = w3 at *
  have HC : Hid (∀ W, Below w3.heap.size w3 W → Below w3.heap.size w3 W ∧ W.cell? ⟨w2.heap.size, 0, none⟩ = some (.bool (!spS s)) ∧ W.cell? ⟨w2.heap.size, 1, none⟩ = some (.slice x y z) ∧ W.cell? ⟨w2.heap.size, 2, none⟩ = some (.int .i64 (spE s))) :=
    fun W hW => ⟨hW, cell_of_row W _ 0 _ _ _ (hW.blk q0 (by omega)), cell_of_row W _ 1 _ _ _ (hW.blk q0 (by omega)), cell_of_row W _ 2 _ _ _ (hW.blk q0 (by omega))⟩
  have htn3 := htn.below (Nat.le_refl _) hb3
  have HTN : Hid (∀ W, Below w3.heap.size w3 W → Term W (.agg #[.bool (!spS s), .slice x y z, .int .i64 (spE s)]) (!spS s) (spM s) (spE s)) := fun W hW => ⟨_, rfl, htn3.below (Nat.le_refl _) hW⟩
  have HB3 : Hid (Below w.heap.size w w3) := (hb1.thru hbs).thru hb3
  have hbb3 : Below w3.heap.size w3 w3 := Below.refl _ _
  clear hb3 q0 hsz htn htn3 hb1 hbs
  go_region_held3 (fun W => Below w3.heap.size w3 W ∧ W.cell? ⟨w2.heap.size, 0, none⟩ = some (.bool (!spS s)) ∧ W.cell? ⟨w2.heap.size, 1, none⟩ = some (.slice x y z) ∧ W.cell? ⟨w2.heap.size, 2, none⟩ = some (.int .i64 (spE s)))
    (first | exact HC.out _ ‹Below w3.heap.size w3 _› | exact HC.out _ (‹Below w3.heap.size w3 _›).drew)
    (first | (go_at_call 54; (with_reducible refine (HOA.out _).mono ?_); rintro e w7 ⟨va, rfl, hta, hb⟩; have hB2 : Below w3.heap.size w3 w7 := Below.thru (by first | assumption | exact Below.drew (by assumption)) hb; have HTA : Hid (Term w7 va (spS a) (spM a) (spE a)) := hta; clear hb hta) | (go_at_call 54; (with_reducible refine (HOB.out _).mono ?_); rintro e w8 ⟨vb, rfl, htb, hb⟩; have hB3 : Below w3.heap.size w3 w8 := Below.thru (by assumption) hb; have HTB : Hid (Term w8 vb (spS b) (spM b) (spE b)) := htb; have HTA2 : Hid (Term w8 va (spS a) (spM a) (spE a)) := HTA.out.below (Nat.le_refl _) hb; clear hb htb) | (go_at_call 63; (with_reducible refine (HS1.out _ _ _ HTA2.out HTB.out).mono ?_); rintro e w9 ⟨vp, rfl, htp, hb⟩; have hB4 : Below w3.heap.size w3 w9 := Below.thru (by assumption) hb; have HTP : Hid (Term w9 vp sg1 m1 G) := htp; clear hb htp) | (go_at_call 63; (with_reducible refine (HS2.out _ _ _ HTP.out (HTN.out _ (by assumption))).mono ?_); rintro e wa ⟨vr, rfl, htr, hb⟩; have hB5 : Below w3.heap.size w3 wa := Below.thru (by assumption) hb; have HTR : Hid (Term wa vr sg2 m2 G') := htr; clear hb htr) | (go_at_call 62; (with_reducible refine (HTOLD.out _ _ HTR.out).mono ?_); rintro e wb ⟨rfl, hb⟩; have hB6 : Below w3.heap.size w3 wb := Below.thru (by assumption) hb; have HB6 : Hid _ := hB6; clear hb))
  go_wp2
  (try simp only [Exit.inBlock, Exit.then])
  exact bodyPost_ret (results_tmp3' rfl _ _ _) rfl ⟨rfl, HB3.out.thru HB6.out⟩
end Go.Proofs.YtiimjbpfdidgcaaDoor

/- Walks: the law TableSplits. -/
namespace Go.Proofs.YtiimjbpfdidgcaaDoor
open Go.RowKit

/-- Both splits of two numbers: one answer. -/
theorem split_both (a b : Nat) (ha : W64 a) (hb : W64 b) : ∃ (s q : Nat) (x : Int),
    (∀ W, Tab9 W 1 totZ → Calls Tryd.prog 27 #[.float .f64 a, .float .f64 b] W fun e w' => e = .returned (.tuple #[.float .f64 s, .float .f64 q, .int .i64 x]) ∧ Below W.heap.size W w') ∧
    ∀ W, Calls Tryd.prog 28 #[.int .u64 a, .int .u64 b] W fun e w' => e = .returned (.tuple #[.int .u64 (s : Nat), .int .u64 (q : Nat), .int .i64 x]) ∧ Below W.heap.size W w' := by
  cases hf : (finB a && finB b)
  · refine ⟨0, 0, 10, fun W _ => (tsplit_not a b W ha hb hf).mono ?_, fun W => (r7_split_not a b W ha hb hf).mono ?_⟩
    · rintro e w' ⟨rfl, rfl⟩; exact ⟨rfl, Below.refl _ _⟩
    · rintro e w' ⟨rfl, rfl⟩; exact ⟨rfl, Below.refl _ _⟩
  · have hf2 : finB a = true ∧ finB b = true := by simpa using hf
    obtain ⟨fa, fb⟩ := hf2
    obtain ⟨R, hR, -⟩ := add_D a b ha hb fa fb
    have na : nanB a = false ∧ infB a = false := by rw [finB_eq] at fa; simpa using fa
    have nb : nanB b = false ∧ infB b = false := by rw [finB_eq] at fb; simpa using fb
    have hbad : addBad a b = false := by unfold addBad; rw [na.1, nb.1, na.2]; rfl
    by_cases hlt : R < 9218868437227405312
    · have hx0 : addX a b R = 0 := by
        unfold addX resX
        simp only [hbad, na.2, nb.2, Bool.or_self, Bool.false_eq_true, if_false, if_pos hlt]
        split <;> rfl
      obtain ⟨t, u, r, -, -, -, g4, g5⟩ := split_D a b R ha hb fa fb hR hlt
      refine ⟨addB a b R, restB a b (addB a b R) r, 0, fun W hT => ?_, fun W => r7_split_fin a b R r W ha hb fa fb hR hlt hx0 g4 g5⟩
      obtain ⟨r', h1, h2, h3⟩ := tsplit_fin a b R W ha hb fa fb hT hR hlt
      have : r' = r := rv_inj (p := 52) (by rw [h2, g5])
      subst this
      exact h3
    · have hx0 : addX a b R = 15 := by
        have h0 : valB a + valB b ≠ 0 := fun h0 => hlt (by
          rw [h0] at hR
          rw [Near.uniq (by decide) hR (near_zero 52 1 (by decide))]; decide)
        unfold addX resX
        simp only [hbad, na.2, nb.2, Bool.or_self, Bool.false_eq_true, if_false, if_neg hlt, if_neg h0]
      exact ⟨0, 0, 15, fun W hT => tsplit_over a b R W ha hb fa fb hT hR hlt, fun W => r7_split_over a b R W ha hb fa fb hR hx0⟩

set_option maxHeartbeats 1000000 in
set_option maxRecDepth 100000 in
theorem law_splits (a b : Nat) (w : World) (ha : W64 a) (hb : W64 b) (hT : Tab9 w 1 totZ) (hQ : Tab9 w 4 quoZ) :
    Calls Tryd.prog 6 #[.int .u64 (a : Nat), .int .u64 (b : Nat)] w fun e w' => e = .returned (.bool true) ∧ Below w.heap.size w w' := by
  have HAW : Hid (Calls Tryd.prog 8 #[] w fun e w' => e = .returned (.bool true) ∧ Below w.heap.size w w') := awake7_any w hT hQ
  obtain ⟨s, q, x, h1, h2⟩ := split_both a b ha hb
  have H1 : Hid (∀ W, Below w.heap.size w W → Calls Tryd.prog 27 #[.float .f64 a, .float .f64 b] W fun e w' => e = .returned (.tuple #[.float .f64 s, .float .f64 q, .int .i64 x]) ∧ Below W.heap.size W w') := fun W hW => h1 W (hT.below (Nat.le_refl _) hW)
  have H2 : Hid (∀ W, Calls Tryd.prog 28 #[.int .u64 a, .int .u64 b] W fun e w' => e = .returned (.tuple #[.int .u64 (s : Nat), .int .u64 (q : Nat), .int .i64 x]) ∧ Below W.heap.size W w') := h2
  have HIS : Hid (∀ c W, Calls Tryd.prog 12 #[.float .f64 c, .int .u64 (c : Nat)] W fun e w' => e = .returned (.bool true) ∧ W = w') := fun c W => by have := is7_any c c W; simpa using this
  clear h1 h2 hT hQ ha hb
  go_enter Tryd.func6, Tryd.ntmps6
  go_wp2_with fail
  refine HAW.out.mono ?_
  rintro e w1 ⟨rfl, hb1⟩
  go_wp2_with fail
  refine (H1.out _ hb1).mono ?_
  rintro e w2 ⟨rfl, hb2⟩
  go_wp2_with fail
  refine (H2.out _).mono ?_
  rintro e w3 ⟨rfl, hb3⟩
  go_wp2_with (go_at_call 12; with_reducible refine (HIS.out _ _).mono ?_; rintro e w' ⟨rfl, rfl⟩)
  go_ret
  exact ⟨rfl, (hb1.thru hb2).thru hb3⟩
end Go.Proofs.YtiimjbpfdidgcaaDoor
