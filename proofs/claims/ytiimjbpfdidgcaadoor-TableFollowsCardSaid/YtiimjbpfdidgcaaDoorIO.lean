/- Parts Ti of the proof, in one text. -/
import Derived.Test.YtiimjbpfdidgcaaDoorIC
import Derived.Test.YtiimjbpfdidgcaaDoorIG
import Derived.Test.YtiimjbpfdidgcaaDoorIM
import Derived.Test.YtiimjbpfdidgcaaDoorIJ

/- Walks: math.Sqrt, table's Root. -/
namespace Go.Proofs.YtiimjbpfdidgcaaDoor
open Go.RowKit

/-- R is what the root of a number above nought is rounded to. -/
def RootR (x R : Nat) : Prop := ∃ n w H, w * w ≤ n ∧ n < (w + 1) * (w + 1) ∧ 2^108 ≤ n ∧ n * 2^(2 * H) = rv 52 (absB x) * 2^LP ∧ 1 ≤ H ∧ Near 52 ((2 * w + (w * w != n).toNat) * 2^(H - 1)) 1 R ∧
  FloatKind.f64.format.sqrt x = some (min R 9218868437227405312)

theorem root_small {x R : Nat} (fx : finB x = true) (h : RootR x R) : R < 9218868437227405312 := by
  obtain ⟨n, w, H, h1, h2, h3, h4, h5, h6, -⟩ := h
  have hl := LP_eq
  obtain ⟨K, hK⟩ : ∃ K : Nat, K = 2047 := ⟨_, rfl⟩
  have hx : rv 52 (absB x) < 2^(53 + K) := by
    rw [rv_sp x fx]
    have a1 := spM_lt x
    have a2 := spE_range x
    exact term_small (M := spM x) (K := K) (e := spE x + LP) a1 (by omega)
  obtain ⟨J, hJ⟩ : ∃ J : Nat, J = 1588 := ⟨_, rfl⟩
  -- w 2^H is below 2^J
  have hw : w * 2^H < 2^J := by
    refine sq_lt.1 ?_
    have e1 : w * 2^H * (w * 2^H) = w * w * 2^(2 * H) := by rw [Nat.mul_mul_mul_comm, ← Nat.pow_add, ← Nat.two_mul]
    rw [e1]
    refine Nat.lt_of_le_of_lt (Nat.mul_le_mul_right _ h1) ?_
    rw [h4, ← Nat.pow_add]
    refine Nat.lt_of_lt_of_le (Nat.mul_lt_mul_of_pos_right hx (Nat.two_pow_pos _)) ?_
    rw [← Nat.pow_add]
    exact Nat.pow_le_pow_right (by decide) (by omega)
  have hX : (2 * w + (w * w != n).toNat) * 2^(H - 1) ≤ 2^(J + 1) := by
    have hs : (w * w != n).toNat ≤ 1 := by cases (w * w != n) <;> simp
    have e : 2^H = 2 * 2^(H - 1) := by rw [← Nat.pow_succ', Nat.succ_eq_add_one, Nat.sub_add_cancel h5]
    have e2 : (2 * w + (w * w != n).toNat) * 2^(H - 1) ≤ (2 * w + 1) * 2^(H - 1) := Nat.mul_le_mul_right _ (by omega)
    have e3 : (2 * w + 1) * 2^(H - 1) = w * 2^H + 2^(H - 1) := by rw [Nat.add_mul, Nat.one_mul, e, Nat.mul_assoc 2, Nat.mul_left_comm]
    have hw1 : 1 ≤ w := by
      refine Decidable.byContradiction fun hc => ?_
      have : w = 0 := by omega
      subst this
      have := Nat.two_pow_pos 108
      omega
    have e4 : 2^(H - 1) ≤ w * 2^H := by rw [e]; exact Nat.le_trans (by omega) (Nat.le_mul_of_pos_left _ hw1)
    rw [Nat.pow_succ]
    omega
  have hC := rv_kq (J + 1 - 52) 4503599627370496 (by decide) (by decide)
  have hC2 : 4503599627370496 * 2^(J + 1 - 52) = 2^(J + 1) := by
    rw [show (4503599627370496 : Nat) = 2^52 by decide, ← Nat.pow_add, show 52 + (J + 1 - 52) = J + 1 by omega]
  have := ((near_best (C := (J + 1 - 52) * 4503599627370496 + 4503599627370496) h6).1 (by rw [hC, hC2]; exact hX)).1
  have := rv_le_iff.1 this
  omega

def rootB (a R : Nat) : Nat := if nanB a then theNaN else if zeroB a then a else if sgnB a then 0 else if infB a then a else resB false R
def rootX (a R : Nat) : Int := if nanB a then 0 else if zeroB a then 0 else if sgnB a then 14 else if infB a then 0 else resX R

theorem sqrt_eq (x : Nat) : Extern.MathSqrt.sqrt #[.float .f64 x] = (match FloatKind.f64.format.sqrt x with
    | some r => pure (.float .f64 r)
    | none => do pure (.float .f64 (← choose (.nanBits .f64 x x)))) := rfl
theorem sqrt_open (x : Nat) (w : World) : (callFunc 93 #[.float .f64 x]).run Tryd.prog w = ((Extern.MathSqrt.sqrt #[.float .f64 x]).run Tryd.prog w).andThen fun v w' => .ok (.value v) w' :=
  run_callFunc_extern Tryd.func93 (by kernel_rfl) (by kernel_rfl) (by kernel_rfl) (by kernel_rfl) _ w
theorem run_sqrt (x r : Nat) (w : World) (h : FloatKind.f64.format.sqrt x = some r) : (callFunc 93 #[.float .f64 x]).run Tryd.prog w = .ok (.value (.float .f64 r)) w := by
  rw [sqrt_open, sqrt_eq, h]
  simp
theorem run_sqrt_nan (x : Nat) (w : World) (h : FloatKind.f64.format.sqrt x = none) : ∃ r, nanB r = true ∧ W64 r ∧ (callFunc 93 #[.float .f64 x]).run Tryd.prog w = .ok (.value (.float .f64 r)) w.drew := by
  rw [sqrt_open, sqrt_eq, h]
  refine ⟨(Question.nanBits .f64 x x).cut (w.tape w.drawn (.nanBits .f64 x x)), (nan_choice _).1, (nan_choice _).2, ?_⟩
  simp [Question.forced]

theorem msqrt_any (a v : Nat) (w : World) (h : FloatKind.f64.format.sqrt a = some v) : Calls Tryd.prog 70 #[.float .f64 a] w fun e w' => e = .returned (.float .f64 v) ∧ w = w' := by
  have hq := fun (w : World) => run_sqrt a v w h
  clear h
  go_enter Tryd.func70, Tryd.ntmps70
  go_wp2
  go_ret
  exact ⟨rfl, rfl⟩
theorem msqrt_nan (a : Nat) (w : World) (h : FloatKind.f64.format.sqrt a = none) : Calls Tryd.prog 70 #[.float .f64 a] w fun e w' => ∃ r, e = .returned (.float .f64 r) ∧ nanB r = true ∧ Below w.heap.size w w' := by
  obtain ⟨r, h1, -, h3⟩ := run_sqrt_nan a w h
  have H1 : Hid (nanB r = true) := h1
  clear h h1
  go_enter Tryd.func70, Tryd.ntmps70
  go_wp2
  go_ret
  exact ⟨r, rfl, H1.out, (Below.refl _ _).drew⟩

theorem oneB_not (v : Nat) (h : nanB v = false) : oneB v = v := by unfold oneB; rw [h]; rfl

/-- What the model's root of a number that is not below nought is. -/
theorem sqrt_cases (a : Nat) (ha : W64 a) : (nanB a = true → FloatKind.f64.format.sqrt a = none) ∧ (zeroB a = true → FloatKind.f64.format.sqrt a = some a) ∧ (infB a = true → sgnB a = false → FloatKind.f64.format.sqrt a = some a) := by
  refine ⟨fun h => ?_, fun h => ?_, fun h hs => ?_⟩
  · show Ieee.double.sqrt a = none
    unfold Ieee.Format.sqrt
    rcases read_cases a ha with ⟨a1, a2, a3, a4, s, k, a5⟩ | ⟨a1, a2, a3, a4, a5⟩ | ⟨a1, a2, a4, m, e, a5, a6⟩
    · rw [a5]; rfl
    · rw [a1] at h; cases h
    · rw [a1] at h; cases h
  · show Ieee.double.sqrt a = some a
    unfold Ieee.Format.sqrt
    rcases read_cases a ha with ⟨a1, a2, a3, a4, s, k, a5⟩ | ⟨a1, a2, a3, a4, a5⟩ | ⟨a1, a2, a4, m, e, a5, a6⟩
    · rw [a3] at h; cases h
    · rw [a3] at h; cases h
    · have hm := a6.2 h
      rw [a5, hm]
      have e1 : Ieee.Datum.root (Ieee.double.fractionBits + 2) (.number (sgnB a) 0 e) = some (.number (sgnB a) 0 e) := by unfold Ieee.Datum.root; simp
      rw [e1]
      show some (Ieee.double.nearest (sgnB a) 0 e) = some a
      obtain ⟨R, g1, g2⟩ := nearest_near' Ieee.double (by decide) (sgnB a) 0 e
      rw [Nat.zero_mul] at g2
      have hR0 : R = 0 := Near.uniq (Nat.two_pow_pos _) g2 (near_zero _ _ (Nat.two_pow_pos _))
      rw [g1, hR0, word_sg, Nat.zero_min, Nat.add_zero]
      have h1 := split_B a ha
      have h2 : absB a = 0 := by unfold zeroB at h; simpa using h
      unfold sgnW at h1
      rw [h2] at h1
      unfold sgW
      rw [← Nat.add_zero (if sgnB a = true then 9223372036854775808 else 0), ← h1]
  · show Ieee.double.sqrt a = some a
    unfold Ieee.Format.sqrt
    rcases read_cases a ha with ⟨a1, a2, a3, a4, s, k, a5⟩ | ⟨a1, a2, a3, a4, a5⟩ | ⟨a1, a2, a4, m, e, a5, a6⟩
    · rw [a2] at h; cases h
    · rw [a5, hs]
      show some (Ieee.double.write (.infinity false)) = some a
      rw [write_inf]
      have := inf_bits a ha h
      rw [hs] at this
      rw [this]
    · rw [a2] at h; cases h

set_option maxHeartbeats 1000000 in
set_option maxRecDepth 100000 in
theorem troot_any (a R : Nat) (w : World) (ha : W64 a) (hR : finB a = true → zeroB a = false → sgnB a = false → RootR a R) :
    Calls Tryd.prog 38 #[.float .f64 a] w fun e w' => e = .returned (.tuple #[.float .f64 (rootB a R), .int .i64 (rootX a R)]) ∧ Below w.heap.size w w' := by
  obtain ⟨k1, k2, k3⟩ := sqrt_cases a ha
  have HW : Hid (W64 a) := ha
  cases hn : nanB a
  · cases hz : zeroB a
    · cases hs : sgnB a
      · -- above nought
        have hlt : (negB a && !zeroB a) = false := by unfold negB; rw [hs]; simp
        obtain ⟨v, hv, hnv, hval⟩ : ∃ v, FloatKind.f64.format.sqrt a = some v ∧ nanB v = false ∧ (rootB a R = v ∧ rootX a R = 0) := by
          unfold rootB rootX
          rw [hn, hz, hs]
          simp only [Bool.false_eq_true, if_false]
          cases hi : infB a
          · have fa : finB a = true := by rw [finB_eq, hn, hi]; rfl
            have hr := hR fa hz hs
            have hRs := root_small fa hr
            obtain ⟨n, u, H, g1, g2, g3, g4, g5, g6, g7⟩ := hr
            refine ⟨R, by rw [g7, Nat.min_eq_left (by omega)], by unfold nanB absB; simp; omega, ?_⟩
            unfold resB resX sgW
            rw [if_pos hRs, if_pos hRs]
            exact ⟨by simp, rfl⟩
          · exact ⟨a, k3 hi hs, hn, rfl, rfl⟩
        have HQ : Hid (FloatKind.f64.format.sqrt a = some v) := hv
        have HO : Hid (∀ W, Calls Tryd.prog 60 #[.float .f64 v] W fun e w' => e = .returned (.float .f64 v) ∧ W = w') := fun W => by
          have h := one_any v W
          rwa [oneB_not v hnv] at h
        have HE1 : Hid (rootB a R = v) := hval.1
        have HE2 : Hid (rootX a R = 0) := hval.2
        clear k1 k2 k3 hR hn hz hs hv hnv hval
        have hlt2 := w_lt_zero a HW.out
        rw [hlt] at hlt2
        clear hlt
        go_enter Tryd.func38, Tryd.ntmps38
        go_wp2_with (first | (go_at_call 70; refine (msqrt_any a v _ HQ.out).mono ?_; rintro e w' ⟨rfl, rfl⟩) | (go_at_call 60; with_reducible refine (HO.out _).mono ?_; rintro e w' ⟨rfl, rfl⟩))
        go_ret2
        exact ⟨by rw [HE1.out, HE2.out]; rfl, Below.refl _ _⟩
      · -- below nought
        have hlt2 := w_lt_zero a HW.out
        have hlt : (negB a && !zeroB a) = true := by unfold negB; rw [hn, hs, hz]; rfl
        rw [hlt] at hlt2
        have HE1 : Hid (rootB a R = 0) := by show _ = _; unfold rootB; rw [hn, hz, hs]; rfl
        have HE2 : Hid (rootX a R = 14) := by show _ = _; unfold rootX; rw [hn, hz, hs]; rfl
        clear k1 k2 k3 hR hn hz hs hlt
        go_enter Tryd.func38, Tryd.ntmps38
        go_wp2
        go_ret2
        exact ⟨by rw [HE1.out, HE2.out]; rfl, Below.refl _ _⟩
    · -- a nought
      have hlt2 := w_lt_zero a HW.out
      have hlt : (negB a && !zeroB a) = false := by rw [hz]; simp
      rw [hlt] at hlt2
      have HQ : Hid (FloatKind.f64.format.sqrt a = some a) := k2 hz
      have HO : Hid (∀ W, Calls Tryd.prog 60 #[.float .f64 a] W fun e w' => e = .returned (.float .f64 a) ∧ W = w') := fun W => by
        have h := one_any a W
        rwa [oneB_not a hn] at h
      have HE1 : Hid (rootB a R = a) := by show _ = _; unfold rootB; rw [hn, hz]; rfl
      have HE2 : Hid (rootX a R = 0) := by show _ = _; unfold rootX; rw [hn, hz]; rfl
      clear k1 k2 k3 hR hn hz hlt
      go_enter Tryd.func38, Tryd.ntmps38
      go_wp2_with (first | (go_at_call 70; refine (msqrt_any a a _ HQ.out).mono ?_; rintro e w' ⟨rfl, rfl⟩) | (go_at_call 60; with_reducible refine (HO.out _).mono ?_; rintro e w' ⟨rfl, rfl⟩))
      go_ret2
      exact ⟨by rw [HE1.out, HE2.out]; rfl, Below.refl _ _⟩
  · have hlt2 := w_lt_zero a HW.out
    have hlt : (negB a && !zeroB a) = false := by unfold negB; rw [hn]; rfl
    rw [hlt] at hlt2
    have HQ : Hid (FloatKind.f64.format.sqrt a = none) := k1 hn
    have HE1 : Hid (rootB a R = theNaN) := by show _ = _; unfold rootB; rw [hn]; rfl
    have HE2 : Hid (rootX a R = 0) := by show _ = _; unfold rootX; rw [hn]; rfl
    clear k1 k2 k3 hR hn hlt
    go_enter Tryd.func38, Tryd.ntmps38
    go_wp2_with fail
    refine (msqrt_nan a _ HQ.out).mono ?_
    rintro e w1 ⟨r, rfl, hr, hb⟩
    have HO : Hid (∀ W, Calls Tryd.prog 60 #[.float .f64 r] W fun e w' => e = .returned (.float .f64 theNaN) ∧ W = w') := fun W => by
      have h := one_any r W
      have e : oneB r = theNaN := by unfold oneB; rw [hr]; rfl
      rwa [e] at h
    clear hr
    go_wp2_with (go_at_call 60; with_reducible refine (HO.out _).mono ?_; rintro e w' ⟨rfl, rfl⟩)
    go_ret2
    exact ⟨by rw [HE1.out, HE2.out]; rfl, hb⟩
end Go.Proofs.YtiimjbpfdidgcaaDoor
