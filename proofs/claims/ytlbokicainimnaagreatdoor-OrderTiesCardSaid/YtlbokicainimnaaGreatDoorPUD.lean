import Derived.Test.YtlbokicainimnaaGreatDoorPRH
import Derived.Test.YtlbokicainimnaaGreatDoorPTB
set_option maxRecDepth 100000
namespace Go.Proofs.YtlbokicainimnaaGreatDoor
open Go.RowKit
theorem any2 (a b : Nat) (ha : W64 a) (hb : W64 b) (W : World) (g : Nat) (h0 : W.cell? ⟨g, 0, none⟩ = some (.int .u64 (a : Nat))) (h1 : W.cell? ⟨g, 1, none⟩ = some (.int .u64 (b : Nat))) :
  Calls Tryz.prog 139 #[.slice (some ⟨g, 0, none⟩) 2 2] W fun e w' => e = .returned (.bool (nanB a || nanB b)) ∧ W = w' := by
 refine (r7_anynan [a, b] g 2 2 W rfl ?_ ?_ (Nat.le_refl _) (by decide)).mono ?_
 ·intro i hi
  match i, hi with
  | 0, _ => exact h0
  | 1, _ => exact h1
 ·intro x hx
  simp at hx
  rcases hx with rfl | rfl
  ·exact ha
  ·exact hb
 ·rintro e w' ⟨rfl, rfl⟩
  exact ⟨by simp, rfl⟩
set_option maxHeartbeats 1000000 in
theorem r7_less (a b : Nat) (w : World) (ha : W64 a) (hb : W64 b) : Calls Tryz.prog 138 #[.int .u64 a, .int .u64 b] w fun e w' => e = .returned (.bool (lessB a b)) ∧ Below w.heap.size w w' := by
 have HANY : Hid (∀ W g, W.cell? ⟨g, 0, none⟩ = some (.int .u64 (a : Nat)) → W.cell? ⟨g, 1, none⟩ = some (.int .u64 (b : Nat)) → Calls Tryz.prog 139 #[.slice (some ⟨g, 0, none⟩) 2 2] W fun e w' => e = .returned (.bool (nanB a || nanB b)) ∧ W = w') := fun W g h0 h1 => any2 a b ha hb W g h0 h1
 have HB1 : Hid (∀ F, Below w.heap.size w (w.alloc F)) := fun F => (Below.refl _ _).alloc (Nat.le_refl _) _
 have HZA : Hid (∀ W, Calls Tryz.prog 64 #[.int .u64 a] W fun e w' => e = .returned (.bool (zeroB a)) ∧ W = w') := fun W => ref_nought a W ha
 have HZB : Hid (∀ W, Calls Tryz.prog 64 #[.int .u64 b] W fun e w' => e = .returned (.bool (zeroB b)) ∧ W = w') := fun W => ref_nought b W hb
 have HOR : Hid (∀ W, Calls Tryz.prog 86 #[.int .u64 a, .int .u64 b] W fun e w' => e = .returned (.int .i64 (orderB a b)) ∧ W = w') := fun W => ref_order a b W ha hb
 unfold lessB
 obtain ⟨n, hn⟩ : ∃ n, n = (nanB a || nanB b) := ⟨_, rfl⟩
 rw [← hn] at HANY ⊢
 generalize zeroB a = za at *
 generalize zeroB b = zb at *
 generalize orderB a b = o at *
 clear ha hb hn
 cases n <;> cases za <;> cases zb
 all_goals
  go_enter Tryz.func138, Tryz.ntmps138
  go_wp2_with (first | (go_at_call 139; refine (HANY.out _ _ (by go_simp) (by go_simp)).mono ?_; rintro e w' ⟨rfl, rfl⟩) | (go_at_call 64; with_reducible refine (HZA.out _).mono ?_; rintro e w' ⟨rfl, rfl⟩) | (go_at_call 64; with_reducible refine (HZB.out _).mono ?_; rintro e w' ⟨rfl, rfl⟩) | (go_at_call 86; with_reducible refine (HOR.out _).mono ?_; rintro e w' ⟨rfl, rfl⟩))
  go_ret
  exact ⟨rfl, HB1.out _⟩
set_option maxHeartbeats 1000000 in
theorem r7_equal (a b : Nat) (w : World) (ha : W64 a) (hb : W64 b) : Calls Tryz.prog 88 #[.int .u64 a, .int .u64 b] w fun e w' => e = .returned (.bool (equalB a b)) ∧ Below w.heap.size w w' := by
 have HANY : Hid (∀ W g, W.cell? ⟨g, 0, none⟩ = some (.int .u64 (a : Nat)) → W.cell? ⟨g, 1, none⟩ = some (.int .u64 (b : Nat)) → Calls Tryz.prog 139 #[.slice (some ⟨g, 0, none⟩) 2 2] W fun e w' => e = .returned (.bool (nanB a || nanB b)) ∧ W = w') := fun W g h0 h1 => any2 a b ha hb W g h0 h1
 have HB1 : Hid (∀ F, Below w.heap.size w (w.alloc F)) := fun F => (Below.refl _ _).alloc (Nat.le_refl _) _
 have HZA : Hid (∀ W, Calls Tryz.prog 64 #[.int .u64 a] W fun e w' => e = .returned (.bool (zeroB a)) ∧ W = w') := fun W => ref_nought a W ha
 have HZB : Hid (∀ W, Calls Tryz.prog 64 #[.int .u64 b] W fun e w' => e = .returned (.bool (zeroB b)) ∧ W = w') := fun W => ref_nought b W hb
 have heq : ((a : Int) == (b : Int)) = decide (a = b) := by rw [Bool.eq_iff_iff]; simp; omega
 unfold equalB
 obtain ⟨n, hn⟩ : ∃ n, n = (nanB a || nanB b) := ⟨_, rfl⟩
 rw [← hn] at HANY ⊢
 generalize zeroB a = za at *
 generalize zeroB b = zb at *
 generalize decide (a = b) = q at *
 clear ha hb hn
 cases n <;> cases za <;> cases zb
 all_goals
  go_enter Tryz.func88, Tryz.ntmps88
  go_wp2_with (first | (go_at_call 139; refine (HANY.out _ _ (by go_simp) (by go_simp)).mono ?_; rintro e w' ⟨rfl, rfl⟩) | (go_at_call 64; with_reducible refine (HZA.out _).mono ?_; rintro e w' ⟨rfl, rfl⟩) | (go_at_call 64; with_reducible refine (HZB.out _).mono ?_; rintro e w' ⟨rfl, rfl⟩))
  go_ret
  exact ⟨rfl, HB1.out _⟩
end Go.Proofs.YtlbokicainimnaaGreatDoor
