/- Parts Uf of the proof, in one text. -/
import Derived.Test.YtiimjbpfdidgcaaDoorIH
import Derived.Test.YtiimjbpfdidgcaaDoorID

/- Walks: the law TableFused. -/
namespace Go.Proofs.YtiimjbpfdidgcaaDoor
open Go.RowKit

theorem fusR (a b c : Nat) (ha : W64 a) (hb : W64 b) (hc : W64 c) : ∃ R, fusFin a b c = true → Near 52 (fusT a b c).natAbs (2^LP) R := by
  cases hf : fusFin a b c
  · exact ⟨0, fun h => by cases h⟩
  · have hf2 : (finB a = true ∧ finB b = true) ∧ finB c = true := by unfold fusFin at hf; simpa using hf
    obtain ⟨R, h1, -⟩ := fma_D a b c ha hb hc hf2.1.1 hf2.1.2 hf2.2 (T := fusT a b c) rfl
    exact ⟨R, fun _ => h1⟩

set_option maxHeartbeats 1000000 in
set_option maxRecDepth 100000 in
theorem law_fused (a b c : Nat) (w : World) (ha : W64 a) (hb : W64 b) (hc : W64 c) (hT : Tab9 w 1 totZ) (hQ : Tab9 w 4 quoZ) :
    Calls Tryd.prog 4 #[.int .u64 (a : Nat), .int .u64 (b : Nat), .int .u64 (c : Nat)] w fun e w' => e = .returned (.bool true) ∧ Below w.heap.size w w' := by
  obtain ⟨R, hR⟩ := fusR a b c ha hb hc
  have HAW : Hid (Calls Tryd.prog 8 #[] w fun e w' => e = .returned (.bool true) ∧ Below w.heap.size w w') := awake7_any w hT hQ
  obtain ⟨x1, hx1⟩ : ∃ x, x = fusB a b c R := ⟨_, rfl⟩
  obtain ⟨x2, hx2⟩ : ∃ x, x = fusX a b c R := ⟨_, rfl⟩
  have H1 : Hid (∀ W, Calls Tryd.prog 13 #[.float .f64 a, .float .f64 b, .float .f64 c] W fun e w' => e = .returned (.tuple #[.float .f64 x1, .int .i64 x2]) ∧ Below W.heap.size W w') := fun W => by rw [hx1, hx2]; exact tfused_any a b c R W ha hb hc hR
  have H2 : Hid (∀ W, Calls Tryd.prog 14 #[.int .u64 a, .int .u64 b, .int .u64 c] W fun e w' => e = .returned (.tuple #[.int .u64 (x1 : Nat), .int .i64 x2]) ∧ Below W.heap.size W w') := fun W => by rw [hx1, hx2]; exact r7_fused a b c R W ha hb hc hR
  have H3 : Hid (∀ W, Calls Tryd.prog 15 #[.float .f64 a, .float .f64 b] W fun e w' => e = .returned (.bool (lessB a b)) ∧ W = w') := fun W => tless_any a b W ha hb
  have H4 : Hid (∀ W, Calls Tryd.prog 16 #[.int .u64 a, .int .u64 b] W fun e w' => e = .returned (.bool (lessB a b)) ∧ Below W.heap.size W w') := fun W => r7_less a b W ha hb
  have H5 : Hid (∀ W, Calls Tryd.prog 17 #[.float .f64 a, .float .f64 b] W fun e w' => e = .returned (.bool (equalB a b)) ∧ W = w') := fun W => tequal_any a b W ha hb
  have H6 : Hid (∀ W, Calls Tryd.prog 18 #[.int .u64 a, .int .u64 b] W fun e w' => e = .returned (.bool (equalB a b)) ∧ Below W.heap.size W w') := fun W => r7_equal a b W ha hb
  have HIS : Hid (∀ c W, Calls Tryd.prog 12 #[.float .f64 c, .int .u64 (c : Nat)] W fun e w' => e = .returned (.bool true) ∧ W = w') := fun c W => by have := is7_any c c W; simpa using this
  clear hR hx1 hx2 hT hQ ha hb hc
  generalize lessB a b = l at *
  generalize equalB a b = q at *
  go_enter Tryd.func4, Tryd.ntmps4
  go_wp2_with fail
  refine HAW.out.mono ?_
  rintro e w1 ⟨rfl, hb1⟩
  go_wp2_with fail
  refine (H1.out _).mono ?_
  rintro e w2 ⟨rfl, hb2⟩
  go_wp2_with fail
  refine (H2.out _).mono ?_
  rintro e w3 ⟨rfl, hb3⟩
  go_wp2_with (go_at_call 15; with_reducible refine (H3.out _).mono ?_; rintro e w' ⟨rfl, rfl⟩)
  refine (H4.out _).mono ?_
  rintro e w4 ⟨rfl, hb4⟩
  go_wp2_with (go_at_call 17; with_reducible refine (H5.out _).mono ?_; rintro e w' ⟨rfl, rfl⟩)
  refine (H6.out _).mono ?_
  rintro e w5 ⟨rfl, hb5⟩
  go_wp2_with (go_at_call 12; with_reducible refine (HIS.out _ _).mono ?_; rintro e w' ⟨rfl, rfl⟩)
  go_ret
  exact ⟨rfl, (((hb1.thru hb2).thru hb3).thru hb4).thru hb5⟩
end Go.Proofs.YtiimjbpfdidgcaaDoor
