/- Parts Sj, Rj, Rl, Rk of the proof, in one text. -/
import Derived.Test.YtapahfoebpiajaaGreatDoorPQA
import Derived.Test.YtapahfoebpiajaaGreatDoorPMN
import Derived.Deep.QuietTactic
import Derived.BigQuiet

/- The square root: the model's, and the reference's, rounded once. Plain mathematics, no program. -/
namespace Go.Proofs.YtapahfoebpiajaaGreatDoor
open Ieee

theorem sq_lt {a b : Nat} : a * a < b * b ↔ a < b := by
  constructor
  · intro h
    refine Decidable.byContradiction fun hc => ?_
    have := Nat.mul_le_mul (show b ≤ a by omega) (show b ≤ a by omega)
    omega
  · intro h
    exact Nat.mul_lt_mul_of_lt_of_le h (Nat.le_of_lt h) (by omega)

theorem root_from (n : Nat) : ∀ (todo root : Nat), root * root ≤ n → n < (root + 2^todo) * (root + 2^todo) → Datum.rootFrom n todo root * Datum.rootFrom n todo root ≤ n ∧ n < (Datum.rootFrom n todo root + 1) * (Datum.rootFrom n todo root + 1)
  | 0, root, h1, h2 => by simpa [Datum.rootFrom] using ⟨h1, h2⟩
  | todo + 1, root, h1, h2 => by
    have e : 1 <<< todo = 2^todo := by rw [Nat.shiftLeft_eq, Nat.one_mul]
    unfold Datum.rootFrom
    rw [e]
    dsimp only
    by_cases h : (root + 2^todo) * (root + 2^todo) ≤ n
    · rw [if_pos h]
      refine root_from n todo _ h ?_
      rw [Nat.add_assoc, ← Nat.two_mul, Nat.mul_comm 2, ← Nat.pow_succ]
      exact h2
    · rw [if_neg h]
      exact root_from n todo root h1 (by omega)

theorem root_start (n : Nat) : Datum.rootFrom n (n.log2 / 2 + 1) 0 * Datum.rootFrom n (n.log2 / 2 + 1) 0 ≤ n ∧ n < (Datum.rootFrom n (n.log2 / 2 + 1) 0 + 1) * (Datum.rootFrom n (n.log2 / 2 + 1) 0 + 1) := by
  refine root_from n _ 0 (by omega) ?_
  rw [Nat.zero_add, ← Nat.pow_add]
  exact Nat.lt_of_lt_of_le Nat.lt_log2_self (Nat.pow_le_pow_right (by decide) (by omega))

end Go.Proofs.YtapahfoebpiajaaGreatDoor

/- Walks: the reference's root of a quotient of whole numbers. -/
namespace Go.Proofs.YtapahfoebpiajaaGreatDoor
open Go.RowKit

/-- The greatest q with q q D not above N. -/
def rootQ (N D : Nat) : Nat := Ieee.Datum.rootFrom (N / D) ((N / D).log2 / 2 + 1) 0
theorem rootQ_spec (N D : Nat) (hD : 0 < D) : rootQ N D * rootQ N D * D ≤ N ∧ N < (rootQ N D + 1) * (rootQ N D + 1) * D := by
  obtain ⟨h1, h2⟩ := root_start (N / D)
  exact ⟨(Nat.le_div_iff_mul_le hD).1 h1, (Nat.div_lt_iff_lt_mul hD).1 h2⟩
theorem rootQ_uniq {N D q : Nat} (hD : 0 < D) (h1 : q * q * D ≤ N) (h2 : N < (q + 1) * (q + 1) * D) : q = rootQ N D := by
  obtain ⟨g1, g2⟩ := rootQ_spec N D hD
  have a1 : q * q < (rootQ N D + 1) * (rootQ N D + 1) := Nat.lt_of_mul_lt_mul_right (Nat.lt_of_le_of_lt h1 g2)
  have a2 : rootQ N D * rootQ N D < (q + 1) * (q + 1) := Nat.lt_of_mul_lt_mul_right (Nat.lt_of_le_of_lt g1 h2)
  have := sq_lt.1 a1
  have := sq_lt.1 a2
  omega

theorem results_tmp3r {fn : Func} {t u v : Tmp} (h : fn.results = #[.tmp t, .tmp u, .tmp v]) (tmps : Array Value) (P : Program) (w : World) :
    (results fn tmps).run P w = .ok (.tuple #[tmps.getD t undef, tmps.getD u undef, tmps.getD v undef]) w := by
  simp [results, h]

/-- What root hands back. -/
def RootQ (N D : Nat) (w : World) (e : Ending) (w' : World) : Prop :=
  e = .returned (.tuple #[.int .u64 (rootQ N D : Nat), .int .i64 (ncmp (N * 4) ((2 * rootQ N D + 1) * (2 * rootQ N D + 1) * D)), .bool (decide (rootQ N D * rootQ N D * D = N))]) ∧ Below w.heap.size w w'

theorem or_bit (p j : Nat) (h : (2 * p + 1) * 2^j < 18446744073709551616) : Go.bits .or .u64 ((p * 2^(j + 1) : Nat) : Int) ((2^j : Nat) : Int) = (((2 * p + 1) * 2^j : Nat) : Int) := by
  have e : p * 2^(j + 1) + 2^j = (2 * p + 1) * 2^j := by rw [Nat.pow_succ, Nat.add_mul, Nat.one_mul, Nat.mul_comm (2^j) 2, ← Nat.mul_assoc, Nat.mul_comm p 2]
  have hlt : 2^j < 2^(j + 1) := Nat.pow_lt_pow_right (by decide) (by omega)
  rw [Go.u64_or_nat _ _ (by omega) (by omega), Go.nat_join (j + 1) _ _ (Nat.mul_mod_left _ _) hlt, e]

set_option maxHeartbeats 2000000 in
set_option maxRecDepth 100000 in
theorem nroot_any (s t : Value) (N D : Nat) (w : World) (h : Num .u32 4294967296 w s N) (h' : Num .u32 4294967296 w t D) {bb : Nat} (hN : N < 2 ^ bb) (hD : D < 2 ^ bb) (hb1 : 200 ≤ bb) (hbb : bb ≤ 1000000) (hD0 : 0 < D) (hsm : N < 2305843009213693952 * 2305843009213693952 * D) :
    Calls Tryz.prog 115 #[s, t] w (RootQ N D w) := by
  have HS : Hid (∀ W, Below w.heap.size w W → Num .u32 4294967296 W s N) := fun W hW => h.below (Nat.le_refl _) hW
  have HT : Hid (∀ W, Below w.heap.size w W → Num .u32 4294967296 W t D) := fun W hW => h'.below (Nat.le_refl _) hW
  obtain ⟨a, m, c, rfl⟩ := h.shape
  obtain ⟨a', m', c', rfl⟩ := h'.shape
  have HBD : Hid (N < 2 ^ bb ∧ D < 2 ^ bb ∧ 200 ≤ bb ∧ bb ≤ 1000000) := ⟨hN, hD, hb1, hbb⟩
  -- n n D of n below 2^62
  have HSQ : Hid (∀ W v n, Below w.heap.size w W → Num .u32 4294967296 W v n → n < 18446744073709551616 → Calls Tryz.prog 52 #[v, v] W (NatQ (n * n) W)) := fun W v n hW hv hn =>
    nmul_any v v n n W hv hv (bb := 64) (by omega) (by omega) (by decide)
  have HSD : Hid (∀ W v n, Below w.heap.size w W → Num .u32 4294967296 W v (n * n) → n < 18446744073709551616 → Calls Tryz.prog 52 #[v, .slice a' m' c'] W (NatQ (n * n * D) W)) := fun W v n hW hv hn =>
    nmul_any v _ (n * n) D W hv (HT.out W hW) (bb := bb) (Nat.lt_of_lt_of_le (Nat.mul_lt_mul_of_lt_of_le hn (Nat.le_of_lt hn) (by decide)) (Nat.le_trans (by decide : (18446744073709551616 * 18446744073709551616 : Nat) ≤ 2^200) (Nat.pow_le_pow_right (by decide) hb1))) HBD.out.2.1 (by omega)
  have HD0 : Hid (0 < D) := hD0
  have HSM : Hid (N < 2305843009213693952 * 2305843009213693952 * D) := hsm
  clear h h' hN hD hb1 hbb hD0 hsm
  go_enter Tryz.func115, Tryz.ntmps115
  go_wp2
  go_loopw [7, 8] (fun qv bv wr => ∃ j p : Nat, j ≤ 61 ∧ bv = .int .u64 ((2^j / 2 : Nat) : Int) ∧ qv = .int .u64 ((p * 2^j : Nat) : Int) ∧ p * 2^j + 2^j ≤ 2305843009213693952 ∧ Hid ((p * 2^j) * (p * 2^j) * D ≤ N) ∧ Hid (N < (p * 2^j + 2^j) * (p * 2^j + 2^j) * D) ∧ Below w.heap.size w wr)
    (fun _ bv _ => (intOf bv).toNat)
  case atStart =>
    refine ⟨61, 0, by omega, rfl, rfl, by decide, ?_, ?_, Below.refl _ _⟩
    · show _ ≤ _; simp
    · show _ < _
      rw [show 0 * 2^61 + 2^61 = 2305843009213693952 by decide]
      exact HSM.out
  case round =>
    obtain ⟨j, p, hj, rfl, rfl, hpb, hlo, hhi, hbr⟩ := hrel
    have HBR : Hid (Below w.heap.size w wr) := hbr
    clear hbr
    rcases Nat.eq_zero_or_pos j with hj0 | hj0
    · subst hj0
      rw [Nat.pow_zero, Nat.mul_one] at hlo hhi hpb ⊢
      have hq := rootQ_uniq HD0.out hlo.out hhi.out
      have HQ : Hid (p = rootQ N D) := hq
      rw [show (1 : Nat) / 2 = 0 from rfl]
      obtain ⟨h, hh⟩ : ∃ h : Nat, h = 2 * p + 1 := ⟨_, rfl⟩
      have HH : Hid (h = 2 * p + 1) := hh
      have hw1 : IntKind.u64.wrap (2 * (p : Int)) = 2 * (p : Int) := by rw [IntKind.wrap_u64]; omega
      have hw2 : IntKind.u64.wrap (2 * (p : Int) + 1) = (h : Int) := by rw [IntKind.wrap_u64]; omega
      have HPB : Hid (p < 2305843009213693952) := by show _ < _; omega
      have HL : Hid (∀ W, Below w.heap.size w W → Calls Tryz.prog 114 #[.slice a m c, .int .i64 2] W (NatQ (N * 2^2) W)) := fun W hW => by
        have := nleft_any _ N 0 2 2 W (HS.out W hW) (by omega) (by decide) (by decide) HBD.out.1 (by have := HBD.out.2.2; omega)
        exact this
      clear hq hh hlo hhi hpb hj
      go_wp2_with fail
      refine (of_any p _ (by have := HPB.out; omega)).mono ?_
      rintro ee w1 ⟨v1, rfl, hn1, hb1⟩
      have HW1 : Hid (Below w.heap.size w w1) := HBR.out.thru hb1
      have HN1 : Hid (Num .u32 4294967296 w1 v1 p) := hn1
      clear hb1 hn1
      go_wp2_with fail
      refine (HSQ.out _ _ p HW1.out HN1.out (by have := HPB.out; omega)).mono ?_
      rintro ee w2 ⟨v2, rfl, hn2, hb2⟩
      have HW2 : Hid (Below w.heap.size w w2) := HW1.out.thru hb2
      have HN2 : Hid (Num .u32 4294967296 w2 v2 (p * p)) := hn2
      clear hb2 hn2
      go_wp2_with fail
      refine (HSD.out _ _ p HW2.out HN2.out (by have := HPB.out; omega)).mono ?_
      rintro ee w3 ⟨v3, rfl, hn3, hb3⟩
      have HW3 : Hid (Below w.heap.size w w3) := HW2.out.thru hb3
      have HN3 : Hid (Num .u32 4294967296 w3 v3 (p * p * D)) := hn3
      clear hb3 hn3
      go_wp2_with fail
      refine (ncmp_any _ _ (p * p * D) N _ HN3.out (HS.out _ HW3.out)).mono ?_
      rintro ee w4 ⟨hee, hb4⟩
      subst hee
      have HW4 : Hid (Below w.heap.size w w4) := HW3.out.thru hb4
      have hz : (ncmp (p * p * D) N == 0) = decide (p * p * D = N) := by rw [Bool.eq_iff_iff, beq_iff_eq, decide_eq_true_eq]; exact ncmp_zero _ _
      clear hb4
      go_wp2_with fail
      refine (of_any h _ (by have := HPB.out; have := HH.out; omega)).mono ?_
      rintro ee w5 ⟨v5, rfl, hn5, hb5⟩
      have HW5 : Hid (Below w.heap.size w w5) := HW4.out.thru hb5
      have HN5 : Hid (Num .u32 4294967296 w5 v5 h) := hn5
      clear hb5 hn5 hw1 hw2
      go_wp2_with fail
      refine (HL.out _ HW5.out).mono ?_
      rintro ee w6 ⟨v6, rfl, hn6, hb6⟩
      have HW6 : Hid (Below w.heap.size w w6) := HW5.out.thru hb6
      have HN6 : Hid (Num .u32 4294967296 w6 v6 (N * 2^2)) := hn6
      have HN5' : Hid (Num .u32 4294967296 w6 v5 h) := HN5.out.below (Nat.le_refl _) hb6
      clear hb6 hn6
      go_wp2_with fail
      refine (HSQ.out _ _ h HW6.out HN5'.out (by have := HPB.out; have := HH.out; omega)).mono ?_
      rintro ee w7 ⟨v7, rfl, hn7, hb7⟩
      have HW7 : Hid (Below w.heap.size w w7) := HW6.out.thru hb7
      have HN7 : Hid (Num .u32 4294967296 w7 v7 (h * h)) := hn7
      have HN6' : Hid (Num .u32 4294967296 w7 v6 (N * 2^2)) := HN6.out.below (Nat.le_refl _) hb7
      clear hb7 hn7
      go_wp2_with fail
      refine (HSD.out _ _ h HW7.out HN7.out (by have := HPB.out; have := HH.out; omega)).mono ?_
      rintro ee w8 ⟨v8, rfl, hn8, hb8⟩
      have HW8 : Hid (Below w.heap.size w w8) := HW7.out.thru hb8
      have HN8 : Hid (Num .u32 4294967296 w8 v8 (h * h * D)) := hn8
      have HN6'' : Hid (Num .u32 4294967296 w8 v6 (N * 2^2)) := HN6'.out.below (Nat.le_refl _) hb8
      clear hb8 hn8
      go_wp2_with fail
      refine (ncmp_any _ _ (N * 2^2) (h * h * D) _ HN6''.out HN8.out).mono ?_
      rintro ee w9 ⟨hee, hb9⟩
      subst hee
      have HW9 : Hid (Below w.heap.size w w9) := HW8.out.thru hb9
      clear hb9
      go_wp2
      (try simp only [Exit.inBlock, Exit.then])
      refine bodyPost_ret (results_tmp3r rfl _ _ _) rfl ⟨?_, HW9.out⟩
      rw [← HQ.out, ← HH.out]
      rfl
    · obtain ⟨i, rfl⟩ : ∃ i, j = i + 1 := ⟨j - 1, by omega⟩
      have hB : 2^(i + 1) / 2 = 2^i := by rw [Nat.pow_succ, Nat.mul_div_cancel _ (by decide)]
      rw [hB]
      have eq2 : p * 2^(i + 1) = 2 * p * 2^i := by rw [Nat.pow_succ, Nat.mul_comm (2^i) 2, ← Nat.mul_assoc, Nat.mul_comm p 2]
      have en : (2 * p + 1) * 2^i = 2 * p * 2^i + 2^i := by rw [Nat.add_mul, Nat.one_mul]
      have e2 : 2^(i + 1) = 2^i + 2^i := by rw [Nat.pow_succ]; omega
      have hpos := Nat.two_pow_pos i
      have hor := or_bit p i (by rw [en, ← eq2]; omega)
      obtain ⟨B, hBB⟩ : ∃ B, B = 2^i := ⟨_, rfl⟩
      obtain ⟨n, hn⟩ : ∃ n, n = (2 * p + 1) * 2^i := ⟨_, rfl⟩
      obtain ⟨q0, hq0⟩ : ∃ q0, q0 = p * 2^(i + 1) := ⟨_, rfl⟩
      rw [← hn, ← hq0] at hor
      rw [← hq0] at hlo hhi hpb ⊢
      have HEQ : Hid (B = 2^i ∧ n = (2 * p + 1) * 2^i ∧ q0 = 2 * p * 2^i ∧ n = q0 + B) := ⟨hBB, hn, by rw [hq0, eq2], by rw [hn, en, hq0, eq2, hBB]⟩
      rw [e2] at hhi hpb
      rw [← hBB] at hhi hpb hpos hor ⊢
      have HNB : Hid (q0 + B + B ≤ 2305843009213693952 ∧ i ≤ 60) := by show _ ∧ _; omega
      have hpI : (0 : Int) < (B : Int) := by omega
      clear hB eq2 en e2 hBB hn hq0 hpb hj hj0 hpos
      go_wp2_with fail
      refine (of_any n _ (by have := HNB.out; have := HEQ.out.2.2.2; omega)).mono ?_
      rintro ee w1 ⟨v1, rfl, hn1, hb1⟩
      have HW1 : Hid (Below w.heap.size w w1) := HBR.out.thru hb1
      have HN1 : Hid (Num .u32 4294967296 w1 v1 n) := hn1
      clear hb1 hn1
      go_wp2_with fail
      refine (HSQ.out _ _ n HW1.out HN1.out (by have := HNB.out; have := HEQ.out.2.2.2; omega)).mono ?_
      rintro ee w2 ⟨v2, rfl, hn2, hb2⟩
      have HW2 : Hid (Below w.heap.size w w2) := HW1.out.thru hb2
      have HN2 : Hid (Num .u32 4294967296 w2 v2 (n * n)) := hn2
      clear hb2 hn2
      go_wp2_with fail
      refine (HSD.out _ _ n HW2.out HN2.out (by have := HNB.out; have := HEQ.out.2.2.2; omega)).mono ?_
      rintro ee w3 ⟨v3, rfl, hn3, hb3⟩
      have HW3 : Hid (Below w.heap.size w w3) := HW2.out.thru hb3
      have HN3 : Hid (Num .u32 4294967296 w3 v3 (n * n * D)) := hn3
      clear hb3 hn3
      go_wp2_with fail
      refine (ncmp_any _ _ (n * n * D) N _ HN3.out (HS.out _ HW3.out)).mono ?_
      rintro ee w4 ⟨hee, hb4⟩
      subst hee
      have HW4 : Hid (Below w.heap.size w w4) := HW3.out.thru hb4
      have hle := ncmp_le (n * n * D) N
      clear hb4
      obtain ⟨o, ho⟩ : ∃ o, o = ncmp (n * n * D) N := ⟨_, rfl⟩
      rw [← ho] at hle ⊢
      by_cases hc : n * n * D ≤ N
      · have ho0 : o ≤ 0 := hle.2 hc
        have HC : Hid (n * n * D ≤ N) := hc
        clear hle hc ho
        go_wp2
        go_roundw
        case rel =>
          obtain ⟨x1, x2, x3, x4⟩ := HEQ.out
          refine ⟨i, 2 * p + 1, by have := HNB.out; omega, by rw [← x1]; go_num, by rw [← x2], by rw [← x2, ← x1]; have := HNB.out; omega, ?_, ?_, HW4.out⟩
          · show _ ≤ _; rw [← x2]; exact HC.out
          · show _ < _; rw [← x2, ← x1, x4, Nat.add_assoc]; exact hhi.out
        case measure => simp [intOf]; omega
      · have ho0 : ¬ o ≤ 0 := fun h => hc (hle.1 h)
        have HC : Hid (N < n * n * D) := by show _ < _; omega
        clear hle hc ho
        go_wp2
        go_roundw
        case rel =>
          obtain ⟨x1, x2, x3, x4⟩ := HEQ.out
          refine ⟨i, 2 * p, by have := HNB.out; omega, by rw [← x1]; go_num, by rw [← x3], by rw [← x3, ← x1]; have := HNB.out; omega, ?_, ?_, HW4.out⟩
          · show _ ≤ _; rw [← x3]; exact hlo.out
          · show _ < _; rw [← x3, ← x1, ← x4]; exact HC.out
        case measure => simp [intOf]; omega
end Go.Proofs.YtapahfoebpiajaaGreatDoor

/- The reference's To of a root: what it asks. Plain mathematics. -/
namespace Go.Proofs.YtapahfoebpiajaaGreatDoor
open Go.RowKit

theorem root_half {N D N' D' : Nat} (hD : 0 < D) (hD' : 0 < D') (h : N * D' = 4 * (N' * D)) : rootQ N' D' = rootQ N D / 2 := by
  obtain ⟨g1, g2⟩ := rootQ_spec N D hD
  obtain ⟨q, hq⟩ : ∃ q, q = rootQ N D := ⟨_, rfl⟩
  rw [← hq] at g1 g2 ⊢
  obtain ⟨p, hp⟩ : ∃ p, p = q / 2 := ⟨_, rfl⟩
  rw [← hp]
  have hDD : 0 < D * D' := Nat.mul_pos hD hD'
  have e1 : (2 * p) * (2 * p) ≤ q * q := Nat.mul_le_mul (by omega) (by omega)
  have e2 : (q + 1) * (q + 1) ≤ (2 * (p + 1)) * (2 * (p + 1)) := Nat.mul_le_mul (by omega) (by omega)
  refine (rootQ_uniq hD' ?_ ?_).symm
  · have h1 : (2 * p) * (2 * p) * D * D' ≤ N * D' := Nat.mul_le_mul_right _ (Nat.le_trans (Nat.mul_le_mul_right _ e1) g1)
    rw [h] at h1
    have h2 : 4 * D * (p * p * D') ≤ 4 * D * N' := by
      rw [show 4 * D * (p * p * D') = (2 * p) * (2 * p) * D * D' by rw [show (4 : Nat) = 2 * 2 from rfl]; ac_rfl, show 4 * D * N' = 4 * (N' * D) by rw [Nat.mul_assoc, Nat.mul_comm D]]
      exact h1
    exact Nat.le_of_mul_le_mul_left h2 (by omega)
  · have h1 : N * D' < (2 * (p + 1)) * (2 * (p + 1)) * D * D' := Nat.mul_lt_mul_of_pos_right (Nat.lt_of_lt_of_le g2 (Nat.mul_le_mul_right _ e2)) hD'
    rw [h] at h1
    have h2 : 4 * D * N' < 4 * D * ((p + 1) * (p + 1) * D') := by
      rw [show 4 * D * ((p + 1) * (p + 1) * D') = (2 * (p + 1)) * (2 * (p + 1)) * D * D' by rw [show (4 : Nat) = 2 * 2 from rfl]; ac_rfl, show 4 * D * N' = 4 * (N' * D) by rw [Nat.mul_assoc, Nat.mul_comm D]]
      exact h1
    exact Nat.lt_of_mul_lt_mul_left h2

end Go.Proofs.YtapahfoebpiajaaGreatDoor

/- Walks: the reference's size, beside, of values that are roots. -/
namespace Go.Proofs.YtapahfoebpiajaaGreatDoor
open Go.RowKit

set_option maxHeartbeats 400000 in
set_option maxRecDepth 100000 in
theorem size_root (neg : Bool) (a a' : Option Addr) (m c m' c' M D : Nat) (E : Int) (w : World) (hs : Num .u32 4294967296 w (.slice a m c) M) (ht : Num .u32 4294967296 w (.slice a' m' c') D) {bb : Nat} (hM : M < 2 ^ bb) (hD : D < 2 ^ bb) (hbb : bb ≤ 4294967290) (hE1 : -1000000 ≤ E) (hE2 : E ≤ 1000000) :
    Calls Tryz.prog 73 #[.agg #[.bool neg, .slice a m c, .slice a' m' c', .int .i64 E, .bool true]] w fun e w' => e = .returned (.int .i64 (Int.tdiv (if (blen M : Int) - blen D + E < 0 then (blen M : Int) - blen D + E - 1 else (blen M : Int) - blen D + E) 2)) ∧ Below w.heap.size w w' := by
  have HS : Hid (Num .u32 4294967296 w (.slice a m c) M) := hs
  have HT : Hid (Num .u32 4294967296 w (.slice a' m' c') D) := ht
  have h1 : blen M ≤ 4294967290 := Nat.le_trans (blen_le hM) hbb
  have h2 : blen D ≤ 4294967290 := Nat.le_trans (blen_le hD) hbb
  have HL1 : Hid (∀ W, Below w.heap.size w W → Calls Tryz.prog 113 #[.slice a m c] W fun e w' => e = .returned (.int .i64 (blen M : Nat)) ∧ w' = W) := fun W hW => nlen_same _ M W (Num.below HS.out (Nat.le_refl _) hW) hM (by omega)
  have HL2 : Hid (∀ W, Below w.heap.size w W → Calls Tryz.prog 113 #[.slice a' m' c'] W fun e w' => e = .returned (.int .i64 (blen D : Nat)) ∧ w' = W) := fun W hW => nlen_same _ D W (Num.below HT.out (Nat.le_refl _) hW) hD (by omega)
  obtain ⟨lM, e1⟩ : ∃ l, l = blen M := ⟨_, rfl⟩
  obtain ⟨lD, e2⟩ : ∃ l, l = blen D := ⟨_, rfl⟩
  rw [← e1] at h1 HL1 ⊢
  rw [← e2] at h2 HL2 ⊢
  obtain ⟨n, hn⟩ : ∃ n, n = (lM : Int) - lD + E := ⟨_, rfl⟩
  rw [← hn]
  have i1 : IntKind.i64.wrap ((lM : Int) - lD) = (lM : Int) - lD := IntWalk.i64_in _ (by omega)
  have i2 : IntKind.i64.wrap ((lM : Int) - lD + E) = n := by clear i1; rw [hn]; exact IntWalk.i64_in _ (by omega)
  have hnb : -8589934592 ≤ n ∧ n ≤ 8589934592 := by omega
  clear e1 e2 hs ht hM hD hbb hn h1 h2
  by_cases hneg : n < 0
  · have i3 : IntKind.i64.wrap (n - 1) = n - 1 := IntWalk.i64_in _ (by omega)
    rw [if_pos hneg]
    go_enter Tryz.func73, Tryz.ntmps73
    go_upto_region 1 with fail
    have hb : Below w.heap.size w (w.alloc (.cells #[.bool neg, .slice a m c, .slice a' m' c', .int .i64 E, .bool true] 68)) := (Below.refl _ _).alloc (Nat.le_refl _) _
    obtain ⟨x0, x1, x2, x3, x4⟩ := row5 (heap_alloc_new w (.cells #[.bool neg, .slice a m c, .slice a' m' c', .int .i64 E, .bool true] 68))
    have HB : Hid _ := hb
    clear hb
    generalize w.alloc (.cells #[.bool neg, .slice a m c, .slice a' m' c', .int .i64 E, .bool true] 68) = w1 at *
    go_quiet (first | (go_at_call 113; with_reducible refine Calls.quiet_of_same (HL1.out _ (HB.out.drewM _))) | (go_at_call 113; with_reducible refine Calls.quiet_of_same (HL2.out _ (HB.out.drewM _))))
    go_wp2
    go_ret
    exact ⟨rfl, HB.out.drewM _⟩
  · rw [if_neg hneg, Int.tdiv_eq_ediv_of_nonneg (by omega : 0 ≤ n)]
    go_enter Tryz.func73, Tryz.ntmps73
    go_upto_region 1 with fail
    have hb : Below w.heap.size w (w.alloc (.cells #[.bool neg, .slice a m c, .slice a' m' c', .int .i64 E, .bool true] 68)) := (Below.refl _ _).alloc (Nat.le_refl _) _
    obtain ⟨x0, x1, x2, x3, x4⟩ := row5 (heap_alloc_new w (.cells #[.bool neg, .slice a m c, .slice a' m' c', .int .i64 E, .bool true] 68))
    have HB : Hid _ := hb
    clear hb
    generalize w.alloc (.cells #[.bool neg, .slice a m c, .slice a' m' c', .int .i64 E, .bool true] 68) = w1 at *
    go_quiet (first | (go_at_call 113; with_reducible refine Calls.quiet_of_same (HL1.out _ (HB.out.drewM _))) | (go_at_call 113; with_reducible refine Calls.quiet_of_same (HL2.out _ (HB.out.drewM _))))
    go_wp2
    go_ret
    exact ⟨rfl, HB.out.drewM _⟩

set_option maxHeartbeats 1000000 in
set_option maxRecDepth 100000 in
theorem beside_root (neg : Bool) (a a' : Option Addr) (m c m' c' M D : Nat) (E e : Int) (w : World) (hs : Num .u32 4294967296 w (.slice a m c) M) (ht : Num .u32 4294967296 w (.slice a' m' c') D) {bb : Nat} (hM : M < 2 ^ bb) (hD : D < 2 ^ bb) (hbb1 : 200 ≤ bb) (hbb : bb ≤ 100000) (hD0 : 0 < D) (hE1 : -100000 ≤ E) (hE2 : E ≤ 100000)
    (he1 : -100000 ≤ e) (he2 : e ≤ 100000) (hsm : M * 2 ^ (E - 2 * e).toNat < 2305843009213693952 * 2305843009213693952 * (D * 2 ^ (2 * e - E).toNat)) :
    Calls Tryz.prog 74 #[.agg #[.bool neg, .slice a m c, .slice a' m' c', .int .i64 E, .bool true], .int .i64 e] w (RootQ (M * 2 ^ (E - 2 * e).toNat) (D * 2 ^ (2 * e - E).toNat) w) := by
  have hb : Below w.heap.size w (w.alloc (.cells #[.bool neg, .slice a m c, .slice a' m' c', .int .i64 E, .bool true] 68)) := (Below.refl _ _).alloc (Nat.le_refl _) _
  have HS : Hid (Num .u32 4294967296 (w.alloc (.cells #[.bool neg, .slice a m c, .slice a' m' c', .int .i64 E, .bool true] 68)) (.slice a m c) M) := Num.below hs (Nat.le_refl _) hb
  have HT : Hid (Num .u32 4294967296 (w.alloc (.cells #[.bool neg, .slice a m c, .slice a' m' c', .int .i64 E, .bool true] 68)) (.slice a' m' c') D) := Num.below ht (Nat.le_refl _) hb
  have hr := heap_alloc_new w (.cells #[.bool neg, .slice a m c, .slice a' m' c', .int .i64 E, .bool true] 68)
  obtain ⟨x0, x1, x2, x3, x4⟩ := row5 hr
  have HR : Hid _ := hr
  have HB : Hid _ := hb
  have HMb : Hid (M < 2 ^ bb) := hM
  have HDb : Hid (D < 2 ^ bb) := hD
  have HSM : Hid _ := hsm
  have w1 : IntKind.i64.wrap (2 * e) = 2 * e := IntWalk.i64_in _ (by omega)
  have w2 : IntKind.i64.wrap (E - 2 * e) = E - 2 * e := by clear w1; exact IntWalk.i64_in _ (by omega)
  have w3 : IntKind.i64.wrap (E - e) = E - e := by clear w1 w2; exact IntWalk.i64_in _ (by omega)
  clear hb hr hs ht hM hD hsm
  by_cases hsh : 0 ≤ E - 2 * e
  · obtain ⟨k, hk⟩ : ∃ k : Nat, E - 2 * e = (k : Int) := ⟨(E - 2 * e).toNat, by omega⟩
    have hk2 : (2 * e - E).toNat = 0 := by omega
    have hk3 : (E - 2 * e).toNat = k := by omega
    rw [hk2, hk3, Nat.pow_zero, Nat.mul_one] at HSM ⊢
    have hkb : k ≤ 400000 := by omega
    have HN : Hid (M * 2 ^ k < 2 ^ (bb + k)) := by
      show M * 2 ^ k < 2 ^ (bb + k)
      rw [Nat.pow_add]; exact Nat.mul_lt_mul_of_pos_right HMb.out (Nat.two_pow_pos k)
    have HD2 : Hid (D < 2 ^ (bb + k)) := Nat.lt_of_lt_of_le HDb.out (Nat.pow_le_pow_right (by decide) (by omega))
    have HD0 : Hid (0 < D) := hD0
    clear hk2 hk3 hD0
    go_enter Tryz.func74, Tryz.ntmps74
    go_wp2_with fail
    refine (nleft_any _ M (k / 32) (k % 32) _ _ HS.out (by omega) (Nat.mod_lt _ (by decide)) (by omega) HMb.out (by omega)).mono ?_
    rw [Nat.div_add_mod]
    rintro ee wa ⟨v2, rfl, hn2, hb2⟩
    have NUM2 : Hid (Num .u32 4294967296 wa v2 (M * 2 ^ k)) := hn2
    have DEN2 : Hid (Num .u32 4294967296 wa (.slice a' m' c') D) := Num.below HT.out (Nat.le_refl _) hb2
    have HB2 : Hid (Below w.heap.size w wa) := HB.out.trans (hb2.mono HB.out.size)
    obtain ⟨y0, y1, y2, y3, y4⟩ := row5 (hb2.blk HR.out (by simp))
    clear hn2 hb2 x0 x1 x2 x3 x4
    go_wp2_with fail
    refine (nroot_any _ _ (M * 2 ^ k) D _ NUM2.out DEN2.out HN.out HD2.out (by omega) (by omega) HD0.out HSM.out).mono ?_
    rintro ee wb ⟨rfl, hb3⟩
    have HB3 : Hid (Below w.heap.size w wb) := HB2.out.trans (hb3.mono HB2.out.size)
    clear hb3
    go_wp2
    (try simp only [Exit.inBlock, Exit.then])
    exact bodyPost_ret (results_tmp3r rfl _ _ _) rfl ⟨rfl, HB3.out⟩
  · obtain ⟨k, hk⟩ : ∃ k : Nat, -(E - 2 * e) = (k : Int) := ⟨(2 * e - E).toNat, by omega⟩
    have hk2 : (E - 2 * e).toNat = 0 := by omega
    have hk3 : (2 * e - E).toNat = k := by omega
    rw [hk2, hk3, Nat.pow_zero, Nat.mul_one] at HSM ⊢
    have hkb : k ≤ 400000 := by omega
    have HD2 : Hid (D * 2 ^ k < 2 ^ (bb + k)) := by
      show D * 2 ^ k < 2 ^ (bb + k)
      rw [Nat.pow_add]; exact Nat.mul_lt_mul_of_pos_right HDb.out (Nat.two_pow_pos k)
    have HN : Hid (M < 2 ^ (bb + k)) := Nat.lt_of_lt_of_le HMb.out (Nat.pow_le_pow_right (by decide) (by omega))
    have HD0 : Hid (0 < D * 2 ^ k) := Nat.mul_pos hD0 (Nat.two_pow_pos k)
    have w4 : IntKind.i64.wrap (-(E - 2 * e)) = -(E - 2 * e) := by clear w1 w2 w3; exact IntWalk.i64_in _ (by omega)
    clear hk2 hk3 hD0
    go_enter Tryz.func74, Tryz.ntmps74
    go_wp2_with fail
    refine (nleft_any _ D (k / 32) (k % 32) _ _ HT.out (by omega) (Nat.mod_lt _ (by decide)) (by omega) HDb.out (by omega)).mono ?_
    rw [Nat.div_add_mod]
    rintro ee wa ⟨v2, rfl, hn2, hb2⟩
    have DEN2 : Hid (Num .u32 4294967296 wa v2 (D * 2 ^ k)) := hn2
    have NUM2 : Hid (Num .u32 4294967296 wa (.slice a m c) M) := Num.below HS.out (Nat.le_refl _) hb2
    have HB2 : Hid (Below w.heap.size w wa) := HB.out.trans (hb2.mono HB.out.size)
    obtain ⟨y0, y1, y2, y3, y4⟩ := row5 (hb2.blk HR.out (by simp))
    clear hn2 hb2 x0 x1 x2 x3 x4
    go_wp2_with fail
    refine (nroot_any _ _ M (D * 2 ^ k) _ NUM2.out DEN2.out HN.out HD2.out (by omega) (by omega) HD0.out HSM.out).mono ?_
    rintro ee wb ⟨rfl, hb3⟩
    have HB3 : Hid (Below w.heap.size w wb) := HB2.out.trans (hb3.mono HB2.out.size)
    clear hb3
    go_wp2
    (try simp only [Exit.inBlock, Exit.then])
    exact bodyPost_ret (results_tmp3r rfl _ _ _) rfl ⟨rfl, HB3.out⟩
end Go.Proofs.YtapahfoebpiajaaGreatDoor
