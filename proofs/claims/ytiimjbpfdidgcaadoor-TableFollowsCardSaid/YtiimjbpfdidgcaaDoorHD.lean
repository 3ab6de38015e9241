/- Parts Tz, Jo of the proof, in one text. -/
import Derived.Test.YtiimjbpfdidgcaaDoorHC
import Derived.Test.YtiimjbpfdidgcaaDoorHA
import Derived.Test.YtiimjbpfdidgcaaDoorHB
import Derived.Lib.TrailingZeros
import Derived.Lib.Hide

/- Walks: math/bits.TrailingZeros64 and Len64 (after the library's own proved ones), math.IsInf, IsNaN, Inf, normalize, ldexp, Ldexp. -/
namespace Go.Proofs.YtiimjbpfdidgcaaDoor
open Go.RowKit

theorem tz_key (x a : Nat) (hx : x < 18446744073709551616) (hx0 : x ≠ 0) (hlow : x &&& (18446744073709551616 - x) = a) :
    IntKind.u64.wrap (bits BinOp.and IntKind.u64 (x : Int) (IntKind.u64.wrap (-(x : Int))) * 285870213051353865) / 288230376151711744 = ((a * 285870213051353865 % 18446744073709551616 / 288230376151711744 : Nat) : Int) := by
  have e1 : IntKind.u64.wrap (-(x : Int)) = ((18446744073709551616 - x : Nat) : Int) := by rw [IntKind.wrap_u64]; omega
  rw [e1, u64_and_nat x _ hx (by omega), hlow, IntKind.wrap_u64]
  omega
theorem bitLen_blen (x : Nat) (hx : W64 x) : Lib.bitLen x = blen x := by
  unfold W64 at hx
  unfold blen
  by_cases h : x = 0
  · subst h; rfl
  · rw [if_neg h]
    have h1 : 2^x.log2 ≤ x := Nat.log2_self_le h
    have h2 : x < 2^(x.log2+1) := Nat.lt_log2_self
    rw [Lib.bitLen_shift x.log2 x h1 hx]
    have : x / 2^x.log2 = 1 := by
      have p := Nat.two_pow_pos x.log2
      rw [Nat.pow_succ] at h2
      exact Nat.div_eq_of_lt_le (by omega) (by omega)
    rw [this]; rfl
theorem len_any (x : Nat) (w : World) (hx : W64 x) :
    Calls Tryd.prog 101 #[.int .u64 x] w fun e w' => e = .returned (.int .i64 (blen x : Nat)) ∧ w = w' :=
  (len_core x w (by omega) (by unfold W64 at hx; omega)).mono fun e w' ⟨h1, h2⟩ => ⟨by rw [h1, Int.toNat_natCast, bitLen_blen x hx], h2.symm⟩

/-! Ldexp -/
theorem isinf_any (b : Nat) (w : World) (hb : W64 b) :
    Calls Tryd.prog 43 #[.float .f64 b, .int .i64 0] w fun e w' => e = .returned (.bool (infB b)) ∧ w = w' := by
  go_enter Tryd.func43, Tryd.ntmps43
  go_wp2_with (go_at_call 36; refine (abs_any _ _ hb).mono ?_; rintro e w' ⟨rfl, rfl⟩)
  go_ret
  exact ⟨rfl, rfl⟩
theorem isnan_any (b : Nat) (w : World) :
    Calls Tryd.prog 108 #[.float .f64 b] w fun e w' => e = .returned (.bool (nanB b)) ∧ w = w' := by
  go_enter Tryd.func108, Tryd.ntmps108
  go_wp2
  go_ret
  exact ⟨rfl, rfl⟩
theorem inf_one (w : World) :
    Calls Tryd.prog 90 #[.int .i64 1] w fun e w' => e = .returned (.float .f64 9218868437227405312) ∧ w = w' := by
  go_enter Tryd.func90, Tryd.ntmps90
  go_wp2
  go_ret
  exact ⟨rfl, rfl⟩
theorem norm_any (b : Nat) (w : World) (hb : W64 b) (hl : lowB b = false) :
    Calls Tryd.prog 127 #[.float .f64 b] w fun e w' => e = .returned (.tuple #[.float .f64 b, .int .i64 0]) ∧ w = w' := by
  go_enter Tryd.func127, Tryd.ntmps127
  go_wp2_with (go_at_call 36; refine (abs_any _ _ hb).mono ?_; rintro e w' ⟨rfl, rfl⟩)
  go_ret2
  exact ⟨rfl, rfl⟩
section
variable (b K q m : Nat) (e X : Int) (w : World) (h : KQ b K q) (hm : m * 2^LP = K * 2^q) (hX : X = e + q - 1022)
include h hm hX
set_option maxHeartbeats 1000000 in
theorem ldexp_norm (c1 : -1022 ≤ X) (c2 : X ≤ 1023) :
    Calls Tryd.prog 119 #[.float .f64 b, .int .i64 e] w fun e' w' => e' = .returned (.float .f64 (Ieee.double.nearest false m e)) ∧ w = w' := by
  obtain ⟨hk, hr⟩ := ld_norm m K q b e X h hm hX c1 c2
  have hE := h.exp
  rw [hr]; clear hr
  have he : e = X + 1023 - expB b := by omega
  clear hm hX
  obtain ⟨t, ht⟩ : ∃ t, t = (X + 1023).toNat * 4503599627370496 + (K - 4503599627370496) := ⟨_, rfl⟩
  rw [← ht] at hk ⊢
  have ho := h.or (X + 1023 - (expB b : Int) + ((expB b : Int) - 1023) + 1023) (X + 1023) t (by omega) (by omega) (by omega) ht
  have hq := fun (w : World) => run_float_arith (P := Tryd.prog) w .mul 24 .f64 _ _ _ (mul_one _ _ _ hk)
  clear hk ht
  have hW := h.W
  have h1 := h.zero
  have h2 := h.inf
  have h3 := h.nan
  have h4 := h.low
  have h5 := expB_le b
  have h6 : (b : Int) / 4503599627370496 ≤ 4095 := by have := h.lt; omega
  have h7 : 0 ≤ (b : Int) / 4503599627370496 := by omega
  clear h hE
  subst he
  go_enter Tryd.func119, Tryd.ntmps119
  go_wp2_with (first | (go_at_call 43; refine (isinf_any _ _ (by assumption)).mono ?_; rintro e w' ⟨rfl, rfl⟩) | (go_at_call 108; refine (isnan_any _ _).mono ?_; rintro e w' ⟨rfl, rfl⟩) | (go_at_call 127; refine (norm_any _ _ (by assumption) (by assumption)).mono ?_; rintro e w' ⟨rfl, rfl⟩))
  go_ret
  exact ⟨rfl, rfl⟩
set_option maxHeartbeats 1000000 in
theorem ldexp_low (c1 : -1075 ≤ X) (c2 : X < -1022) :
    Calls Tryd.prog 119 #[.float .f64 b, .int .i64 e] w fun e' w' => e' = .returned (.float .f64 (Ieee.double.nearest false m e)) ∧ w = w' := by
  obtain ⟨hk, hr⟩ := ld_low m K q b e X h hm hX c1 c2
  have hE := h.exp
  obtain ⟨r, hr'⟩ : ∃ r, r = Ieee.double.nearest false m e := ⟨_, rfl⟩
  rw [← hr'] at hr ⊢; clear hr'
  have he : e = X + 1023 - expB b := by omega
  clear hm hX
  obtain ⟨t, ht⟩ : ∃ t, t = (X + 53 + 1023).toNat * 4503599627370496 + (K - 4503599627370496) := ⟨_, rfl⟩
  rw [← ht] at hr
  have ho := h.or (X + 1023 - (expB b : Int) + ((expB b : Int) - 1023) + 53 + 1023) (X + 53 + 1023) t (by omega) (by omega) (by omega) ht
  have hq := fun (w : World) => run_float_arith (P := Tryd.prog) w .mul 24 .f64 _ _ _ hr
  clear hk ht hr
  have hW := h.W
  have h1 := h.zero
  have h2 := h.inf
  have h3 := h.nan
  have h4 := h.low
  have h5 := expB_le b
  have h6 : (b : Int) / 4503599627370496 ≤ 4095 := by have := h.lt; omega
  have h7 : 0 ≤ (b : Int) / 4503599627370496 := by omega
  clear h hE
  subst he
  go_enter Tryd.func119, Tryd.ntmps119
  go_wp2_with (first | (go_at_call 43; refine (isinf_any _ _ (by assumption)).mono ?_; rintro e w' ⟨rfl, rfl⟩) | (go_at_call 108; refine (isnan_any _ _).mono ?_; rintro e w' ⟨rfl, rfl⟩) | (go_at_call 127; refine (norm_any _ _ (by assumption) (by assumption)).mono ?_; rintro e w' ⟨rfl, rfl⟩))
  go_ret
  exact ⟨rfl, rfl⟩
set_option maxHeartbeats 1000000 in
theorem ldexp_under (c1 : X < -1075) (c2 : -1000000 ≤ e) :
    Calls Tryd.prog 119 #[.float .f64 b, .int .i64 e] w fun e' w' => e' = .returned (.float .f64 (Ieee.double.nearest false m e)) ∧ w = w' := by
  rw [ld_under m K q b e X h hm hX c1]
  have hE := h.exp
  have he : e = X + 1023 - expB b := by omega
  have hs : sgnW b + absB 0 = 0 := by unfold sgnW; rw [h.sgn]; rfl
  have hlow : -2000000 ≤ X := by have := h.top; omega
  clear hm hX c2
  have h0 : W64 0 := by unfold W64; decide
  have hW := h.W
  have h1 := h.zero
  have h2 := h.inf
  have h3 := h.nan
  have h4 := h.low
  have h5 := expB_le b
  have h6 : (b : Int) / 4503599627370496 ≤ 4095 := by have := h.lt; omega
  have h7 : 0 ≤ (b : Int) / 4503599627370496 := by omega
  clear h hE
  subst he
  go_enter Tryd.func119, Tryd.ntmps119
  go_wp2_with (first | (go_at_call 43; refine (isinf_any _ _ (by assumption)).mono ?_; rintro e w' ⟨rfl, rfl⟩) | (go_at_call 108; refine (isnan_any _ _).mono ?_; rintro e w' ⟨rfl, rfl⟩) | (go_at_call 127; refine (norm_any _ _ (by assumption) (by assumption)).mono ?_; rintro e w' ⟨rfl, rfl⟩) | (go_at_call 31; refine (copysign_any _ _ _ h0 (by assumption)).mono ?_; rintro e w' ⟨rfl, rfl⟩))
  go_ret
  exact ⟨rfl, rfl⟩
set_option maxHeartbeats 1000000 in
theorem ldexp_over (c1 : 1023 < X) (c2 : e ≤ 1000000) :
    Calls Tryd.prog 119 #[.float .f64 b, .int .i64 e] w fun e' w' => e' = .returned (.float .f64 (Ieee.double.nearest false m e)) ∧ w = w' := by
  rw [ld_over m K q b e X h hm hX c1]
  have hE := h.exp
  have he : e = X + 1023 - expB b := by omega
  have hlow : X ≤ 2000000 := by have := h.top; omega
  clear hm hX c2
  have hW := h.W
  have h1 := h.zero
  have h2 := h.inf
  have h3 := h.nan
  have h4 := h.low
  have h8 := h.neg
  have h5 := expB_le b
  have h6 : (b : Int) / 4503599627370496 ≤ 4095 := by have := h.lt; omega
  have h7 : 0 ≤ (b : Int) / 4503599627370496 := by omega
  clear h hE
  subst he
  go_enter Tryd.func119, Tryd.ntmps119
  go_wp2_with (first | (go_at_call 43; refine (isinf_any _ _ (by assumption)).mono ?_; rintro e w' ⟨rfl, rfl⟩) | (go_at_call 108; refine (isnan_any _ _).mono ?_; rintro e w' ⟨rfl, rfl⟩) | (go_at_call 127; refine (norm_any _ _ (by assumption) (by assumption)).mono ?_; rintro e w' ⟨rfl, rfl⟩) | (go_at_call 90; refine (inf_one _).mono ?_; rintro e w' ⟨rfl, rfl⟩))
  go_ret
  exact ⟨rfl, rfl⟩
end
theorem ldexp_zero (e : Int) (w : World) :
    Calls Tryd.prog 119 #[.float .f64 0, .int .i64 e] w fun e' w' => e' = .returned (.float .f64 0) ∧ w = w' := by
  have h0 : W64 0 := by unfold W64; decide
  have h1 : zeroB 0 = true := by decide
  go_enter Tryd.func119, Tryd.ntmps119
  go_wp2
  go_ret
  exact ⟨rfl, rfl⟩
/-- Ldexp of a whole number of at most 53 bits: rounded once. -/
theorem ldexp_any (m : Nat) (e : Int) (w : World) (hm : m ≤ 9007199254740992) (h1 : -1000000 ≤ e) (h2 : e ≤ 1000000) :
    Calls Tryd.prog 103 #[.float .f64 (floatOfInt .f64 m), .int .i64 e] w fun e' w' => e' = .returned (.float .f64 (Ieee.double.nearest false m e)) ∧ w = w' := by
  have core : Calls Tryd.prog 119 #[.float .f64 (floatOfInt .f64 m), .int .i64 e] w fun e' w' => e' = .returned (.float .f64 (Ieee.double.nearest false m e)) ∧ w = w' := by
    by_cases z : m = 0
    · subst z; rw [nearest_zero]; exact ldexp_zero e w
    · obtain ⟨K, q, hk, hv, hq⟩ := ofInt_kq m (by omega) hm
      obtain ⟨X, hX⟩ : ∃ X, X = e + (q : Int) - 1022 := ⟨_, rfl⟩
      by_cases a : X < -1075
      · exact ldexp_under _ K q m e X w hk hv hX a h1
      by_cases b : X < -1022
      · exact ldexp_low _ K q m e X w hk hv hX (by omega) b
      by_cases c : X ≤ 1023
      · exact ldexp_norm _ K q m e X w hk hv hX (by omega) c
      · exact ldexp_over _ K q m e X w hk hv hX (by omega) h2
  go_enter Tryd.func103, Tryd.ntmps103
  go_wp2_with (go_at_call 119; refine core.mono ?_; rintro e w' ⟨rfl, rfl⟩)
  go_ret
  exact ⟨rfl, rfl⟩
end Go.Proofs.YtiimjbpfdidgcaaDoor

/- Walks: Join and Unit, the program's and the reference's. -/
namespace Go.Proofs.YtiimjbpfdidgcaaDoor
open Go.RowKit

theorem rjoin_zero (neg : Bool) (e : Int) (w : World) :
    Calls Tryd.prog 107 #[.bool neg, .int .u64 (0 : Nat), .int .i64 e] w fun e' w' => e' = .returned (.tuple #[.int .u64 (sgW neg : Nat), .int .i64 0]) ∧ w = w' := by
  cases neg
  all_goals
    go_enter Tryd.func107, Tryd.ntmps107
    go_wp2
    go_ret2
    exact ⟨rfl, rfl⟩
theorem rjoin_far (neg : Bool) (m : Nat) (e : Int) (w : World) (h0 : m ≠ 0) (hb : 3000 < e ∨ e < -3000) :
    Calls Tryd.prog 107 #[.bool neg, .int .u64 m, .int .i64 e] w fun e' w' => e' = .returned (.tuple #[.int .u64 (0 : Nat), .int .i64 11]) ∧ w = w' := by
  have hn : ((m : Int) == 0) = false := by simp; omega
  rcases hb with b | b
  all_goals
    cases neg
    all_goals
      go_enter Tryd.func107, Tryd.ntmps107
      go_wp2
      go_ret2
      exact ⟨rfl, rfl⟩
/-- What the loops keep. -/
def JoDown (m : Nat) (e : Int) (v u : Value) : Prop := ∃ (i M : Nat) (E : Int), v = .int .u64 M ∧ u = .int .i64 E ∧ M = joO m * 2^i ∧ E = e + joZ m - i ∧ i ≤ joZ m
def JoUp (m : Nat) (e : Int) (v u : Value) : Prop := ∃ (i : Nat) (M E : Int), v = .int .u64 M ∧ u = .int .i64 E ∧ M = ((joO m * 2^i : Nat) : Int) ∧ E = e + joZ m - i ∧ (i = 0 ∨ (joO m * 2^(i-1) < 4503599627370496 ∧ -1074 ≤ E))
set_option maxHeartbeats 1000000 in
set_option maxRecDepth 100000 in
theorem rjoin_near_false (m : Nat) (e : Int) (w : World) (hm : W64 m) (h0 : m ≠ 0) (b1 : -3000 ≤ e) (b2 : e ≤ 3000) :
    Calls Tryd.prog 107 #[.bool false, .int .u64 m, .int .i64 e] w fun e' w' => e' = .returned (.tuple #[.int .u64 (joinB false m e : Nat), .int .i64 (joinX m e)]) ∧ w = w' := by
  obtain ⟨p1, p2, p3, p4⟩ := join_parts m hm h0
  have hn : ((m : Int) == 0) = false := by simp; omega
  have P1 := Lib.hid p1; clear p1
  have P2 := Lib.hid p2; clear p2
  have P4 := Lib.hid p4; clear p4
  go_enter Tryd.func107, Tryd.ntmps107
  go_wp2
  go_loop [1, 2] (JoDown m e) (fun v _ => (intOf v).toNat)
  case atStart => exact ⟨joZ m, m, e, rfl, rfl, P1.out, by omega, Nat.le_refl _⟩
  case round =>
    obtain ⟨i, M, E, rfl, rfl, hM, hE, hi⟩ := hrel
    have HM := Lib.hid hM; clear hM
    have HE := Lib.hid hE; clear hE
    have hE1 : -3000 ≤ E := by have := HE.out; omega
    have hE2 : E ≤ 4000 := by have := HE.out; omega
    cases i with
    | succ j =>
      have h1 : M = 2 * (joO m * 2^j) := by rw [HM.out, Nat.pow_succ, ← Nat.mul_assoc, Nat.mul_comm]
      have h2 : ((M : Int) % 2 == 0) = true := by rw [h1]; simp
      have h3 : (M : Int) / 2 = ((joO m * 2^j : Nat) : Int) := by omega
      have h5 : 0 < joO m * 2^j := Nat.mul_pos (by have := P2.out; omega) (Nat.two_pow_pos _)
      have hMW : (M : Int) ≤ 18446744073709551615 := by
        have h1 := HM.out; have h2 := P1.out; unfold W64 at hm
        have : joO m * 2^(j+1) ≤ joO m * 2^joZ m := Nat.mul_le_mul_left _ (Nat.pow_le_pow_right (by decide) hi)
        omega
      have H1 := Lib.hid h1; clear h1
      have H3 := Lib.hid h3; clear h3
      go_wp2
      go_round
      case rel => exact ⟨j, joO m * 2^j, E + 1, by rw [H3.out], rfl, rfl, by have := HE.out; omega, by omega⟩
      case measure => have := H1.out; simp [intOf]; omega
    | zero =>
      have h1 : M = joO m := by rw [HM.out, Nat.pow_zero, Nat.mul_one]
      have h2 : ((M : Int) % 2 == 0) = false := by have := P2.out; simp; omega
      clear HM
      subst h1
      have h3 : ((joO m : Nat) : Int) ≤ 18446744073709551615 := by have := P4.out; unfold W64 at hm; omega
      go_wp2
      clear h2 h3
      go_loop [1, 2] (JoUp m e) (fun _ u => (intOf u + 1074).toNat)
      case atStart => exact ⟨0, (joO m : Nat), E, rfl, rfl, by simp, HE.out, .inl rfl⟩
      case round =>
        clear hE1 hE2 HE hi
        obtain ⟨i, M, E, rfl, rfl, hM, hE, hi⟩ := hrel
        have HM := Lib.hid hM; clear hM
        have HE := Lib.hid hE; clear hE
        have HI := Lib.hid hi; clear hi
        have hE1 : -4000 ≤ E := by have := HE.out; rcases HI.out with z | z <;> omega
        have hE2 : E ≤ 4000 := by have := HE.out; omega
        by_cases c1 : M < 4503599627370496
        · have c6 : M < 9007199254740992 := by omega
          have c7 : 0 ≤ M := by have := HM.out; omega
          by_cases c2 : -1074 < E
          · go_wp2
            go_round
            case rel => exact ⟨i + 1, 2 * M, E - 1, rfl, rfl, by rw [HM.out, Nat.pow_succ, ← Nat.mul_assoc]; omega, by have := HE.out; omega, .inr ⟨by rw [Nat.add_sub_cancel]; have := HM.out; omega, by omega⟩⟩
            case measure => simp [intOf]; omega
          · obtain ⟨N, hN⟩ : ∃ N : Nat, N = joO m * 2^i := ⟨_, rfl⟩
            have hMN : M = (N : Int) := by rw [HM.out, hN]
            have c2' : E ≤ -1074 := by omega
            by_cases c3 : E < -1074
            · obtain ⟨j1, j2⟩ := join_ref_bad false m e hm h0 N i E hN HE.out (.inr c2') HI.out (.inr (.inl c3))
              clear hN hMN
              have J1 := Lib.hid j1; clear j1
              have J2 := Lib.hid j2; clear j2
              go_wp2
              go_ret2
              exact ⟨ret_two (by rw [J1.out]; rfl) J2.out.symm, rfl⟩
            · have c4 : E = -1074 := by omega
              obtain ⟨j1, j2⟩ := join_ref_low false m e hm h0 N i E hN HE.out (.inr c2') HI.out (by omega) c4
              rw [← hMN] at j1
              clear hN hMN
              have J2 := Lib.hid j2; clear j2
              have j3 : bits .or .u64 0 M = ((joinB false m e : Nat) : Int) := j1
              clear j1 c4
              go_wp2
              go_ret2
              exact ⟨ret_two rfl J2.out.symm, rfl⟩
        · obtain ⟨N, hN⟩ : ∃ N : Nat, N = joO m * 2^i := ⟨_, rfl⟩
          have hMN : M = (N : Int) := by rw [HM.out, hN]
          by_cases c3 : 9007199254740992 ≤ M
          · obtain ⟨j1, j2⟩ := join_ref_bad false m e hm h0 N i E hN HE.out (.inl (by omega)) HI.out (.inl (by omega))
            clear hN hMN
            have J1 := Lib.hid j1; clear j1
            have J2 := Lib.hid j2; clear j2
            go_wp2
            all_goals
              go_ret2
              exact ⟨ret_two (by rw [J1.out]; rfl) J2.out.symm, rfl⟩
          · have c6 : M < 9007199254740992 := by omega
            by_cases c4 : E < -1074
            · obtain ⟨j1, j2⟩ := join_ref_bad false m e hm h0 N i E hN HE.out (.inl (by omega)) HI.out (.inr (.inl c4))
              clear hN hMN
              have J1 := Lib.hid j1; clear j1
              have J2 := Lib.hid j2; clear j2
              go_wp2
              all_goals
                go_ret2
                exact ⟨ret_two (by rw [J1.out]; rfl) J2.out.symm, rfl⟩
            by_cases c5 : 971 < E
            · obtain ⟨j1, j2⟩ := join_ref_bad false m e hm h0 N i E hN HE.out (.inl (by omega)) HI.out (.inr (.inr c5))
              clear hN hMN
              have J1 := Lib.hid j1; clear j1
              have J2 := Lib.hid j2; clear j2
              go_wp2
              all_goals
                go_ret2
                exact ⟨ret_two (by rw [J1.out]; rfl) J2.out.symm, rfl⟩
            · have c4' : -1074 ≤ E := by omega
              have c5' : E ≤ 971 := by omega
              obtain ⟨j1, j2⟩ := join_ref_high false m e hm h0 N i E hN HE.out (.inl (by omega)) HI.out (by omega) (by omega) c4' c5'
              rw [← hMN] at j1
              clear hN hMN
              have J2 := Lib.hid j2; clear j2
              have j3 : bits .or .u64 (bits .or .u64 0 ((E + 1075) * 4503599627370496)) (bits .and .u64 M 4503599627370495) = ((joinB false m e : Nat) : Int) := j1
              clear j1
              go_wp2
              go_ret2
              exact ⟨ret_two rfl J2.out.symm, rfl⟩
set_option maxHeartbeats 1000000 in
set_option maxRecDepth 100000 in
theorem rjoin_near_true (m : Nat) (e : Int) (w : World) (hm : W64 m) (h0 : m ≠ 0) (b1 : -3000 ≤ e) (b2 : e ≤ 3000) :
    Calls Tryd.prog 107 #[.bool true, .int .u64 m, .int .i64 e] w fun e' w' => e' = .returned (.tuple #[.int .u64 (joinB true m e : Nat), .int .i64 (joinX m e)]) ∧ w = w' := by
  obtain ⟨p1, p2, p3, p4⟩ := join_parts m hm h0
  have hn : ((m : Int) == 0) = false := by simp; omega
  have P1 := Lib.hid p1; clear p1
  have P2 := Lib.hid p2; clear p2
  have P4 := Lib.hid p4; clear p4
  go_enter Tryd.func107, Tryd.ntmps107
  go_wp2
  go_loop [1, 2] (JoDown m e) (fun v _ => (intOf v).toNat)
  case atStart => exact ⟨joZ m, m, e, rfl, rfl, P1.out, by omega, Nat.le_refl _⟩
  case round =>
    obtain ⟨i, M, E, rfl, rfl, hM, hE, hi⟩ := hrel
    have HM := Lib.hid hM; clear hM
    have HE := Lib.hid hE; clear hE
    have hE1 : -3000 ≤ E := by have := HE.out; omega
    have hE2 : E ≤ 4000 := by have := HE.out; omega
    cases i with
    | succ j =>
      have h1 : M = 2 * (joO m * 2^j) := by rw [HM.out, Nat.pow_succ, ← Nat.mul_assoc, Nat.mul_comm]
      have h2 : ((M : Int) % 2 == 0) = true := by rw [h1]; simp
      have h3 : (M : Int) / 2 = ((joO m * 2^j : Nat) : Int) := by omega
      have h5 : 0 < joO m * 2^j := Nat.mul_pos (by have := P2.out; omega) (Nat.two_pow_pos _)
      have hMW : (M : Int) ≤ 18446744073709551615 := by
        have h1 := HM.out; have h2 := P1.out; unfold W64 at hm
        have : joO m * 2^(j+1) ≤ joO m * 2^joZ m := Nat.mul_le_mul_left _ (Nat.pow_le_pow_right (by decide) hi)
        omega
      have H1 := Lib.hid h1; clear h1
      have H3 := Lib.hid h3; clear h3
      go_wp2
      go_round
      case rel => exact ⟨j, joO m * 2^j, E + 1, by rw [H3.out], rfl, rfl, by have := HE.out; omega, by omega⟩
      case measure => have := H1.out; simp [intOf]; omega
    | zero =>
      have h1 : M = joO m := by rw [HM.out, Nat.pow_zero, Nat.mul_one]
      have h2 : ((M : Int) % 2 == 0) = false := by have := P2.out; simp; omega
      clear HM
      subst h1
      have h3 : ((joO m : Nat) : Int) ≤ 18446744073709551615 := by have := P4.out; unfold W64 at hm; omega
      go_wp2
      clear h2 h3
      go_loop [1, 2] (JoUp m e) (fun _ u => (intOf u + 1074).toNat)
      case atStart => exact ⟨0, (joO m : Nat), E, rfl, rfl, by simp, HE.out, .inl rfl⟩
      case round =>
        clear hE1 hE2 HE hi
        obtain ⟨i, M, E, rfl, rfl, hM, hE, hi⟩ := hrel
        have HM := Lib.hid hM; clear hM
        have HE := Lib.hid hE; clear hE
        have HI := Lib.hid hi; clear hi
        have hE1 : -4000 ≤ E := by have := HE.out; rcases HI.out with z | z <;> omega
        have hE2 : E ≤ 4000 := by have := HE.out; omega
        by_cases c1 : M < 4503599627370496
        · have c6 : M < 9007199254740992 := by omega
          have c7 : 0 ≤ M := by have := HM.out; omega
          by_cases c2 : -1074 < E
          · go_wp2
            go_round
            case rel => exact ⟨i + 1, 2 * M, E - 1, rfl, rfl, by rw [HM.out, Nat.pow_succ, ← Nat.mul_assoc]; omega, by have := HE.out; omega, .inr ⟨by rw [Nat.add_sub_cancel]; have := HM.out; omega, by omega⟩⟩
            case measure => simp [intOf]; omega
          · obtain ⟨N, hN⟩ : ∃ N : Nat, N = joO m * 2^i := ⟨_, rfl⟩
            have hMN : M = (N : Int) := by rw [HM.out, hN]
            have c2' : E ≤ -1074 := by omega
            by_cases c3 : E < -1074
            · obtain ⟨j1, j2⟩ := join_ref_bad true m e hm h0 N i E hN HE.out (.inr c2') HI.out (.inr (.inl c3))
              clear hN hMN
              have J1 := Lib.hid j1; clear j1
              have J2 := Lib.hid j2; clear j2
              go_wp2
              go_ret2
              exact ⟨ret_two (by rw [J1.out]; rfl) J2.out.symm, rfl⟩
            · have c4 : E = -1074 := by omega
              obtain ⟨j1, j2⟩ := join_ref_low true m e hm h0 N i E hN HE.out (.inr c2') HI.out (by omega) c4
              rw [← hMN] at j1
              clear hN hMN
              have J2 := Lib.hid j2; clear j2
              have j3 : bits .or .u64 9223372036854775808 M = ((joinB true m e : Nat) : Int) := j1
              clear j1 c4
              go_wp2
              go_ret2
              exact ⟨ret_two rfl J2.out.symm, rfl⟩
        · obtain ⟨N, hN⟩ : ∃ N : Nat, N = joO m * 2^i := ⟨_, rfl⟩
          have hMN : M = (N : Int) := by rw [HM.out, hN]
          by_cases c3 : 9007199254740992 ≤ M
          · obtain ⟨j1, j2⟩ := join_ref_bad true m e hm h0 N i E hN HE.out (.inl (by omega)) HI.out (.inl (by omega))
            clear hN hMN
            have J1 := Lib.hid j1; clear j1
            have J2 := Lib.hid j2; clear j2
            go_wp2
            all_goals
              go_ret2
              exact ⟨ret_two (by rw [J1.out]; rfl) J2.out.symm, rfl⟩
          · have c6 : M < 9007199254740992 := by omega
            by_cases c4 : E < -1074
            · obtain ⟨j1, j2⟩ := join_ref_bad true m e hm h0 N i E hN HE.out (.inl (by omega)) HI.out (.inr (.inl c4))
              clear hN hMN
              have J1 := Lib.hid j1; clear j1
              have J2 := Lib.hid j2; clear j2
              go_wp2
              all_goals
                go_ret2
                exact ⟨ret_two (by rw [J1.out]; rfl) J2.out.symm, rfl⟩
            by_cases c5 : 971 < E
            · obtain ⟨j1, j2⟩ := join_ref_bad true m e hm h0 N i E hN HE.out (.inl (by omega)) HI.out (.inr (.inr c5))
              clear hN hMN
              have J1 := Lib.hid j1; clear j1
              have J2 := Lib.hid j2; clear j2
              go_wp2
              all_goals
                go_ret2
                exact ⟨ret_two (by rw [J1.out]; rfl) J2.out.symm, rfl⟩
            · have c4' : -1074 ≤ E := by omega
              have c5' : E ≤ 971 := by omega
              obtain ⟨j1, j2⟩ := join_ref_high true m e hm h0 N i E hN HE.out (.inl (by omega)) HI.out (by omega) (by omega) c4' c5'
              rw [← hMN] at j1
              clear hN hMN
              have J2 := Lib.hid j2; clear j2
              have j3 : bits .or .u64 (bits .or .u64 9223372036854775808 ((E + 1075) * 4503599627370496)) (bits .and .u64 M 4503599627370495) = ((joinB true m e : Nat) : Int) := j1
              clear j1
              go_wp2
              go_ret2
              exact ⟨ret_two rfl J2.out.symm, rfl⟩
theorem rjoin_any (neg : Bool) (m : Nat) (e : Int) (w : World) (hm : W64 m) :
    Calls Tryd.prog 107 #[.bool neg, .int .u64 m, .int .i64 e] w fun e' w' => e' = .returned (.tuple #[.int .u64 (joinB neg m e : Nat), .int .i64 (joinX m e)]) ∧ w = w' := by
  by_cases z : m = 0
  · subst z; exact rjoin_zero neg e w
  · by_cases b : 3000 < e ∨ e < -3000
    · have hb : joBad m e := by unfold joBad; omega
      have := rjoin_far neg m e w z b
      unfold joinB joinX; rw [if_neg z, if_pos hb, if_neg z, if_pos hb]; exact this
    · cases neg
      · exact rjoin_near_false m e w hm z (by omega) (by omega)
      · exact rjoin_near_true m e w hm z (by omega) (by omega)
end Go.Proofs.YtiimjbpfdidgcaaDoor
