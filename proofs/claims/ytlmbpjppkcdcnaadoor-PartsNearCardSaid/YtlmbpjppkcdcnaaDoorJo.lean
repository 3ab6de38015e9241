/- Walks: Join and Unit, the program's and the reference's. -/
import Derived.Test.YtlmbpjppkcdcnaaDoorPb
import Derived.Test.YtlmbpjppkcdcnaaDoorRa
import Derived.Test.YtlmbpjppkcdcnaaDoorTz
import Derived.Lib.Hide
namespace Go.Proofs.YtlmbpjppkcdcnaaDoor
open Go.RowKit

theorem join_zero (neg : Bool) (e : Int) (w : World) :
    Calls Tryd.prog 9 #[.bool neg, .int .u64 (0 : Nat), .int .i64 e] w fun e' w' => e' = .returned (.tuple #[.float .f64 (sgW neg), .int .i64 0]) ∧ w = w' := by
  have h0 : W64 0 := by unfold W64; decide
  have h1 : W64 4607182418800017408 := by unfold W64; decide
  have h2 : W64 13830554455654793216 := by unfold W64; decide
  cases neg
  all_goals
    go_enter Tryd.func9, Tryd.ntmps9
    go_wp2_with (go_at_call 38; refine (copysign_any _ _ _ (by assumption) (by assumption)).mono ?_; rintro e w' ⟨rfl, rfl⟩)
    go_ret2
    exact ⟨rfl, rfl⟩
theorem join_ok (neg : Bool) (m : Nat) (e : Int) (w : World) (hm : W64 m) (h0 : m ≠ 0) (hT : TabW w) (hb : ¬ joBad m e) :
    Calls Tryd.prog 9 #[.bool neg, .int .u64 m, .int .i64 e] w fun e' w' => e' = .returned (.tuple #[.float .f64 (sgW neg + Ieee.double.nearest false (joO m) (e + joZ m)), .int .i64 0]) ∧ w = w' := by
  obtain ⟨p1, p2, p3, p4⟩ := join_parts m hm h0
  have hn : ((m : Int) == 0) = false := by simp; omega
  unfold joBad at hb
  have hl := blen_le (n := joO m) (k := 64) (by unfold W64 at hm; omega)
  have b1 : ¬ 2000 < e := by omega
  have b2 : ¬ e < -2000 := by omega
  have b3 : ¬ (53 : Int) < blen (joO m) := by omega
  have b4 : ¬ e + joZ m < -1074 := by omega
  have b5 : ¬ 1023 < e + joZ m + blen (joO m) - 1 := by omega
  have hO : (m : Int) / 2^(joZ m) = (joO m : Nat) := by unfold joO; simp
  have p3' : (joZ m : Int) ≤ 63 := by omega
  have p5 : W64 (joO m) := by unfold W64 at *; omega
  have p6 : joO m ≤ 9007199254740992 := by
    have := blen_pos (n := joO m) (by omega)
    have : 2^(blen (joO m)) ≤ 2^53 := Nat.pow_le_pow_right (by omega) (by omega)
    omega
  have p7 := nearest_le (joO m) (e + joZ m)
  have p8 : W64 (Ieee.double.nearest false (joO m) (e + joZ m)) := by unfold W64; omega
  have p9 : absB (Ieee.double.nearest false (joO m) (e + joZ m)) = Ieee.double.nearest false (joO m) (e + joZ m) := by unfold absB; omega
  have q1 : W64 4607182418800017408 := by unfold W64; decide
  have q2 : W64 13830554455654793216 := by unfold W64; decide
  have b6 : -1000000 ≤ e + joZ m := by omega
  have b7 : e + joZ m ≤ 1000000 := by omega
  clear hb p1 p2 p4 p7 hl
  cases neg
  all_goals
    go_enter Tryd.func9, Tryd.ntmps9
    go_wp2_with (go_at_call 39; refine (tz_any _ _ hm h0 hT).mono ?_; rintro e w' ⟨rfl, rfl⟩)
    refine (len_any _ _ p5).mono ?_; rintro e w' ⟨rfl, rfl⟩
    go_wp2_with fail
    refine (ldexp_any _ _ _ p6 b6 b7).mono ?_; rintro e w' ⟨rfl, rfl⟩
    go_wp2_with fail
    refine (copysign_any _ _ _ p8 (by assumption)).mono ?_; rintro e w' ⟨rfl, rfl⟩
    go_wp2_with fail
    go_ret2
    exact ⟨rfl, rfl⟩
theorem join_bad (neg : Bool) (m : Nat) (e : Int) (w : World) (hm : W64 m) (h0 : m ≠ 0) (hT : TabW w) (hb : joBad m e) (he1 : -9223372036854775808 ≤ e) (he2 : e ≤ 9223372036854775807) :
    Calls Tryd.prog 9 #[.bool neg, .int .u64 m, .int .i64 e] w fun e' w' => e' = .returned (.tuple #[.float .f64 0, .int .i64 11]) ∧ w = w' := by
  obtain ⟨p1, p2, p3, p4⟩ := join_parts m hm h0
  have hn : ((m : Int) == 0) = false := by simp; omega
  unfold joBad at hb
  have hl := blen_le (n := joO m) (k := 64) (by unfold W64 at hm; omega)
  have hl' : (blen (joO m) : Int) ≤ 64 := by omega
  have hO : (m : Int) / 2^(joZ m) = (joO m : Nat) := by unfold joO; simp
  have p3' : (joZ m : Int) ≤ 63 := by omega
  have p5 : W64 (joO m) := by unfold W64 at *; omega
  clear p1 p2 p4 hl
  by_cases b1 : 2000 < e
  · clear hb
    cases neg
    all_goals
      go_enter Tryd.func9, Tryd.ntmps9
      go_wp2_with (go_at_call 39; refine (tz_any _ _ hm h0 hT).mono ?_; rintro e w' ⟨rfl, rfl⟩)
      refine (len_any _ _ p5).mono ?_; rintro e w' ⟨rfl, rfl⟩
      go_wp2_with fail
      go_ret2
      exact ⟨rfl, rfl⟩
  by_cases b2 : e < -2000
  · clear hb
    cases neg
    all_goals
      go_enter Tryd.func9, Tryd.ntmps9
      go_wp2_with (go_at_call 39; refine (tz_any _ _ hm h0 hT).mono ?_; rintro e w' ⟨rfl, rfl⟩)
      refine (len_any _ _ p5).mono ?_; rintro e w' ⟨rfl, rfl⟩
      go_wp2_with fail
      go_ret2
      exact ⟨rfl, rfl⟩
  have b1' : e ≤ 2000 := by omega
  have b2' : -2000 ≤ e := by omega
  by_cases b3 : (53 : Int) < blen (joO m)
  · clear hb
    cases neg
    all_goals
      go_enter Tryd.func9, Tryd.ntmps9
      go_wp2_with (go_at_call 39; refine (tz_any _ _ hm h0 hT).mono ?_; rintro e w' ⟨rfl, rfl⟩)
      refine (len_any _ _ p5).mono ?_; rintro e w' ⟨rfl, rfl⟩
      go_wp2_with fail
      go_ret2
      exact ⟨rfl, rfl⟩
  by_cases b4 : e + joZ m < -1074
  · clear hb
    cases neg
    all_goals
      go_enter Tryd.func9, Tryd.ntmps9
      go_wp2_with (go_at_call 39; refine (tz_any _ _ hm h0 hT).mono ?_; rintro e w' ⟨rfl, rfl⟩)
      refine (len_any _ _ p5).mono ?_; rintro e w' ⟨rfl, rfl⟩
      go_wp2_with fail
      go_ret2
      exact ⟨rfl, rfl⟩
  have b5 : 1023 < e + joZ m + blen (joO m) - 1 := by omega
  clear hb
  cases neg
  all_goals
    go_enter Tryd.func9, Tryd.ntmps9
    go_wp2_with (go_at_call 39; refine (tz_any _ _ hm h0 hT).mono ?_; rintro e w' ⟨rfl, rfl⟩)
    refine (len_any _ _ p5).mono ?_; rintro e w' ⟨rfl, rfl⟩
    go_wp2_with fail
    go_ret2
    exact ⟨rfl, rfl⟩
theorem join_any (neg : Bool) (m : Nat) (e : Int) (w : World) (hm : W64 m) (hT : TabW w) (he1 : -9223372036854775808 ≤ e) (he2 : e ≤ 9223372036854775807) :
    Calls Tryd.prog 9 #[.bool neg, .int .u64 m, .int .i64 e] w fun e' w' => e' = .returned (.tuple #[.float .f64 (joinB neg m e), .int .i64 (joinX m e)]) ∧ w = w' := by
  unfold joinB joinX
  by_cases z : m = 0
  · rw [if_pos z, if_pos z]; subst z; exact join_zero neg e w
  · rw [if_neg z, if_neg z]
    by_cases b : joBad m e
    · rw [if_pos b, if_pos b]; exact join_bad neg m e w hm z hT b he1 he2
    · rw [if_neg b, if_neg b]; exact join_ok neg m e w hm z hT b
theorem rjoin_zero (neg : Bool) (e : Int) (w : World) :
    Calls Tryd.prog 10 #[.bool neg, .int .u64 (0 : Nat), .int .i64 e] w fun e' w' => e' = .returned (.tuple #[.int .u64 (sgW neg : Nat), .int .i64 0]) ∧ w = w' := by
  cases neg
  all_goals
    go_enter Tryd.func10, Tryd.ntmps10
    go_wp2
    go_ret2
    exact ⟨rfl, rfl⟩
theorem rjoin_far (neg : Bool) (m : Nat) (e : Int) (w : World) (h0 : m ≠ 0) (hb : 3000 < e ∨ e < -3000) :
    Calls Tryd.prog 10 #[.bool neg, .int .u64 m, .int .i64 e] w fun e' w' => e' = .returned (.tuple #[.int .u64 (0 : Nat), .int .i64 11]) ∧ w = w' := by
  have hn : ((m : Int) == 0) = false := by simp; omega
  rcases hb with b | b
  all_goals
    cases neg
    all_goals
      go_enter Tryd.func10, Tryd.ntmps10
      go_wp2
      go_ret2
      exact ⟨rfl, rfl⟩
/-- What the loops keep. -/
def JoDown (m : Nat) (e : Int) (v u : Value) : Prop := ∃ (i M : Nat) (E : Int), v = .int .u64 M ∧ u = .int .i64 E ∧ M = joO m * 2^i ∧ E = e + joZ m - i ∧ i ≤ joZ m
def JoUp (m : Nat) (e : Int) (v u : Value) : Prop := ∃ (i : Nat) (M E : Int), v = .int .u64 M ∧ u = .int .i64 E ∧ M = ((joO m * 2^i : Nat) : Int) ∧ E = e + joZ m - i ∧ (i = 0 ∨ (joO m * 2^(i-1) < 4503599627370496 ∧ -1074 ≤ E))
set_option maxHeartbeats 1000000 in
set_option maxRecDepth 100000 in
theorem rjoin_near_false (m : Nat) (e : Int) (w : World) (hm : W64 m) (h0 : m ≠ 0) (b1 : -3000 ≤ e) (b2 : e ≤ 3000) :
    Calls Tryd.prog 10 #[.bool false, .int .u64 m, .int .i64 e] w fun e' w' => e' = .returned (.tuple #[.int .u64 (joinB false m e : Nat), .int .i64 (joinX m e)]) ∧ w = w' := by
  obtain ⟨p1, p2, p3, p4⟩ := join_parts m hm h0
  have hn : ((m : Int) == 0) = false := by simp; omega
  have P1 := Lib.hid p1; clear p1
  have P2 := Lib.hid p2; clear p2
  have P4 := Lib.hid p4; clear p4
  go_enter Tryd.func10, Tryd.ntmps10
  go_wp2
  go_loop [1, 2] (JoDown m e) (fun v _ => (intOf v).toNat)
  case atStart => exact ⟨joZ m, m, e, rfl, rfl, P1.out, by omega, Nat.le_refl _⟩
  case round =>
    obtain ⟨i, M, E, rfl, rfl, hM, hE, hi⟩ := hrel
    have HM := Lib.hid hM; clear hM
    have HE := Lib.hid hE; clear hE
    have hE1 : -3000 ≤ E := by have := HE.out; omega
    have hE2 : E ≤ 4000 := by have := HE.out; omega
    cases i with
    | succ j =>
      have h1 : M = 2 * (joO m * 2^j) := by rw [HM.out, Nat.pow_succ, ← Nat.mul_assoc, Nat.mul_comm]
      have h2 : ((M : Int) % 2 == 0) = true := by rw [h1]; simp
      have h3 : (M : Int) / 2 = ((joO m * 2^j : Nat) : Int) := by omega
      have h5 : 0 < joO m * 2^j := Nat.mul_pos (by have := P2.out; omega) (Nat.two_pow_pos _)
      have hMW : (M : Int) ≤ 18446744073709551615 := by
        have h1 := HM.out; have h2 := P1.out; unfold W64 at hm
        have : joO m * 2^(j+1) ≤ joO m * 2^joZ m := Nat.mul_le_mul_left _ (Nat.pow_le_pow_right (by decide) hi)
        omega
      have H1 := Lib.hid h1; clear h1
      have H3 := Lib.hid h3; clear h3
      go_wp2
      go_round
      case rel => exact ⟨j, joO m * 2^j, E + 1, by rw [H3.out], rfl, rfl, by have := HE.out; omega, by omega⟩
      case measure => have := H1.out; simp [intOf]; omega
    | zero =>
      have h1 : M = joO m := by rw [HM.out, Nat.pow_zero, Nat.mul_one]
      have h2 : ((M : Int) % 2 == 0) = false := by have := P2.out; simp; omega
      clear HM
      subst h1
      have h3 : ((joO m : Nat) : Int) ≤ 18446744073709551615 := by have := P4.out; unfold W64 at hm; omega
      go_wp2
      clear h2 h3
      go_loop [1, 2] (JoUp m e) (fun _ u => (intOf u + 1074).toNat)
      case atStart => exact ⟨0, (joO m : Nat), E, rfl, rfl, by simp, HE.out, .inl rfl⟩
      case round =>
        clear hE1 hE2 HE hi
        obtain ⟨i, M, E, rfl, rfl, hM, hE, hi⟩ := hrel
        have HM := Lib.hid hM; clear hM
        have HE := Lib.hid hE; clear hE
        have HI := Lib.hid hi; clear hi
        have hE1 : -4000 ≤ E := by have := HE.out; rcases HI.out with z | z <;> omega
        have hE2 : E ≤ 4000 := by have := HE.out; omega
        by_cases c1 : M < 4503599627370496
        · have c6 : M < 9007199254740992 := by omega
          have c7 : 0 ≤ M := by have := HM.out; omega
          by_cases c2 : -1074 < E
          · go_wp2
            go_round
            case rel => exact ⟨i + 1, 2 * M, E - 1, rfl, rfl, by rw [HM.out, Nat.pow_succ, ← Nat.mul_assoc]; omega, by have := HE.out; omega, .inr ⟨by rw [Nat.add_sub_cancel]; have := HM.out; omega, by omega⟩⟩
            case measure => simp [intOf]; omega
          · obtain ⟨N, hN⟩ : ∃ N : Nat, N = joO m * 2^i := ⟨_, rfl⟩
            have hMN : M = (N : Int) := by rw [HM.out, hN]
            have c2' : E ≤ -1074 := by omega
            by_cases c3 : E < -1074
            · obtain ⟨j1, j2⟩ := join_ref_bad false m e hm h0 N i E hN HE.out (.inr c2') HI.out (.inr (.inl c3))
              clear hN hMN
              have J1 := Lib.hid j1; clear j1
              have J2 := Lib.hid j2; clear j2
              go_wp2
              go_ret2
              exact ⟨ret_two (by rw [J1.out]; rfl) J2.out.symm, rfl⟩
            · have c4 : E = -1074 := by omega
              obtain ⟨j1, j2⟩ := join_ref_low false m e hm h0 N i E hN HE.out (.inr c2') HI.out (by omega) c4
              rw [← hMN] at j1
              clear hN hMN
              have J2 := Lib.hid j2; clear j2
              have j3 : bits .or .u64 0 M = ((joinB false m e : Nat) : Int) := j1
              clear j1 c4
              go_wp2
              go_ret2
              exact ⟨ret_two rfl J2.out.symm, rfl⟩
        · obtain ⟨N, hN⟩ : ∃ N : Nat, N = joO m * 2^i := ⟨_, rfl⟩
          have hMN : M = (N : Int) := by rw [HM.out, hN]
          by_cases c3 : 9007199254740992 ≤ M
          · obtain ⟨j1, j2⟩ := join_ref_bad false m e hm h0 N i E hN HE.out (.inl (by omega)) HI.out (.inl (by omega))
            clear hN hMN
            have J1 := Lib.hid j1; clear j1
            have J2 := Lib.hid j2; clear j2
            go_wp2
            all_goals
              go_ret2
              exact ⟨ret_two (by rw [J1.out]; rfl) J2.out.symm, rfl⟩
          · have c6 : M < 9007199254740992 := by omega
            by_cases c4 : E < -1074
            · obtain ⟨j1, j2⟩ := join_ref_bad false m e hm h0 N i E hN HE.out (.inl (by omega)) HI.out (.inr (.inl c4))
              clear hN hMN
              have J1 := Lib.hid j1; clear j1
              have J2 := Lib.hid j2; clear j2
              go_wp2
              all_goals
                go_ret2
                exact ⟨ret_two (by rw [J1.out]; rfl) J2.out.symm, rfl⟩
            by_cases c5 : 971 < E
            · obtain ⟨j1, j2⟩ := join_ref_bad false m e hm h0 N i E hN HE.out (.inl (by omega)) HI.out (.inr (.inr c5))
              clear hN hMN
              have J1 := Lib.hid j1; clear j1
              have J2 := Lib.hid j2; clear j2
              go_wp2
              all_goals
                go_ret2
                exact ⟨ret_two (by rw [J1.out]; rfl) J2.out.symm, rfl⟩
            · have c4' : -1074 ≤ E := by omega
              have c5' : E ≤ 971 := by omega
              obtain ⟨j1, j2⟩ := join_ref_high false m e hm h0 N i E hN HE.out (.inl (by omega)) HI.out (by omega) (by omega) c4' c5'
              rw [← hMN] at j1
              clear hN hMN
              have J2 := Lib.hid j2; clear j2
              have j3 : bits .or .u64 (bits .or .u64 0 ((E + 1075) * 4503599627370496)) (bits .and .u64 M 4503599627370495) = ((joinB false m e : Nat) : Int) := j1
              clear j1
              go_wp2
              go_ret2
              exact ⟨ret_two rfl J2.out.symm, rfl⟩
set_option maxHeartbeats 1000000 in
set_option maxRecDepth 100000 in
theorem rjoin_near_true (m : Nat) (e : Int) (w : World) (hm : W64 m) (h0 : m ≠ 0) (b1 : -3000 ≤ e) (b2 : e ≤ 3000) :
    Calls Tryd.prog 10 #[.bool true, .int .u64 m, .int .i64 e] w fun e' w' => e' = .returned (.tuple #[.int .u64 (joinB true m e : Nat), .int .i64 (joinX m e)]) ∧ w = w' := by
  obtain ⟨p1, p2, p3, p4⟩ := join_parts m hm h0
  have hn : ((m : Int) == 0) = false := by simp; omega
  have P1 := Lib.hid p1; clear p1
  have P2 := Lib.hid p2; clear p2
  have P4 := Lib.hid p4; clear p4
  go_enter Tryd.func10, Tryd.ntmps10
  go_wp2
  go_loop [1, 2] (JoDown m e) (fun v _ => (intOf v).toNat)
  case atStart => exact ⟨joZ m, m, e, rfl, rfl, P1.out, by omega, Nat.le_refl _⟩
  case round =>
    obtain ⟨i, M, E, rfl, rfl, hM, hE, hi⟩ := hrel
    have HM := Lib.hid hM; clear hM
    have HE := Lib.hid hE; clear hE
    have hE1 : -3000 ≤ E := by have := HE.out; omega
    have hE2 : E ≤ 4000 := by have := HE.out; omega
    cases i with
    | succ j =>
      have h1 : M = 2 * (joO m * 2^j) := by rw [HM.out, Nat.pow_succ, ← Nat.mul_assoc, Nat.mul_comm]
      have h2 : ((M : Int) % 2 == 0) = true := by rw [h1]; simp
      have h3 : (M : Int) / 2 = ((joO m * 2^j : Nat) : Int) := by omega
      have h5 : 0 < joO m * 2^j := Nat.mul_pos (by have := P2.out; omega) (Nat.two_pow_pos _)
      have hMW : (M : Int) ≤ 18446744073709551615 := by
        have h1 := HM.out; have h2 := P1.out; unfold W64 at hm
        have : joO m * 2^(j+1) ≤ joO m * 2^joZ m := Nat.mul_le_mul_left _ (Nat.pow_le_pow_right (by decide) hi)
        omega
      have H1 := Lib.hid h1; clear h1
      have H3 := Lib.hid h3; clear h3
      go_wp2
      go_round
      case rel => exact ⟨j, joO m * 2^j, E + 1, by rw [H3.out], rfl, rfl, by have := HE.out; omega, by omega⟩
      case measure => have := H1.out; simp [intOf]; omega
    | zero =>
      have h1 : M = joO m := by rw [HM.out, Nat.pow_zero, Nat.mul_one]
      have h2 : ((M : Int) % 2 == 0) = false := by have := P2.out; simp; omega
      clear HM
      subst h1
      have h3 : ((joO m : Nat) : Int) ≤ 18446744073709551615 := by have := P4.out; unfold W64 at hm; omega
      go_wp2
      clear h2 h3
      go_loop [1, 2] (JoUp m e) (fun _ u => (intOf u + 1074).toNat)
      case atStart => exact ⟨0, (joO m : Nat), E, rfl, rfl, by simp, HE.out, .inl rfl⟩
      case round =>
        clear hE1 hE2 HE hi
        obtain ⟨i, M, E, rfl, rfl, hM, hE, hi⟩ := hrel
        have HM := Lib.hid hM; clear hM
        have HE := Lib.hid hE; clear hE
        have HI := Lib.hid hi; clear hi
        have hE1 : -4000 ≤ E := by have := HE.out; rcases HI.out with z | z <;> omega
        have hE2 : E ≤ 4000 := by have := HE.out; omega
        by_cases c1 : M < 4503599627370496
        · have c6 : M < 9007199254740992 := by omega
          have c7 : 0 ≤ M := by have := HM.out; omega
          by_cases c2 : -1074 < E
          · go_wp2
            go_round
            case rel => exact ⟨i + 1, 2 * M, E - 1, rfl, rfl, by rw [HM.out, Nat.pow_succ, ← Nat.mul_assoc]; omega, by have := HE.out; omega, .inr ⟨by rw [Nat.add_sub_cancel]; have := HM.out; omega, by omega⟩⟩
            case measure => simp [intOf]; omega
          · obtain ⟨N, hN⟩ : ∃ N : Nat, N = joO m * 2^i := ⟨_, rfl⟩
            have hMN : M = (N : Int) := by rw [HM.out, hN]
            have c2' : E ≤ -1074 := by omega
            by_cases c3 : E < -1074
            · obtain ⟨j1, j2⟩ := join_ref_bad true m e hm h0 N i E hN HE.out (.inr c2') HI.out (.inr (.inl c3))
              clear hN hMN
              have J1 := Lib.hid j1; clear j1
              have J2 := Lib.hid j2; clear j2
              go_wp2
              go_ret2
              exact ⟨ret_two (by rw [J1.out]; rfl) J2.out.symm, rfl⟩
            · have c4 : E = -1074 := by omega
              obtain ⟨j1, j2⟩ := join_ref_low true m e hm h0 N i E hN HE.out (.inr c2') HI.out (by omega) c4
              rw [← hMN] at j1
              clear hN hMN
              have J2 := Lib.hid j2; clear j2
              have j3 : bits .or .u64 9223372036854775808 M = ((joinB true m e : Nat) : Int) := j1
              clear j1 c4
              go_wp2
              go_ret2
              exact ⟨ret_two rfl J2.out.symm, rfl⟩
        · obtain ⟨N, hN⟩ : ∃ N : Nat, N = joO m * 2^i := ⟨_, rfl⟩
          have hMN : M = (N : Int) := by rw [HM.out, hN]
          by_cases c3 : 9007199254740992 ≤ M
          · obtain ⟨j1, j2⟩ := join_ref_bad true m e hm h0 N i E hN HE.out (.inl (by omega)) HI.out (.inl (by omega))
            clear hN hMN
            have J1 := Lib.hid j1; clear j1
            have J2 := Lib.hid j2; clear j2
            go_wp2
            all_goals
              go_ret2
              exact ⟨ret_two (by rw [J1.out]; rfl) J2.out.symm, rfl⟩
          · have c6 : M < 9007199254740992 := by omega
            by_cases c4 : E < -1074
            · obtain ⟨j1, j2⟩ := join_ref_bad true m e hm h0 N i E hN HE.out (.inl (by omega)) HI.out (.inr (.inl c4))
              clear hN hMN
              have J1 := Lib.hid j1; clear j1
              have J2 := Lib.hid j2; clear j2
              go_wp2
              all_goals
                go_ret2
                exact ⟨ret_two (by rw [J1.out]; rfl) J2.out.symm, rfl⟩
            by_cases c5 : 971 < E
            · obtain ⟨j1, j2⟩ := join_ref_bad true m e hm h0 N i E hN HE.out (.inl (by omega)) HI.out (.inr (.inr c5))
              clear hN hMN
              have J1 := Lib.hid j1; clear j1
              have J2 := Lib.hid j2; clear j2
              go_wp2
              all_goals
                go_ret2
                exact ⟨ret_two (by rw [J1.out]; rfl) J2.out.symm, rfl⟩
            · have c4' : -1074 ≤ E := by omega
              have c5' : E ≤ 971 := by omega
              obtain ⟨j1, j2⟩ := join_ref_high true m e hm h0 N i E hN HE.out (.inl (by omega)) HI.out (by omega) (by omega) c4' c5'
              rw [← hMN] at j1
              clear hN hMN
              have J2 := Lib.hid j2; clear j2
              have j3 : bits .or .u64 (bits .or .u64 9223372036854775808 ((E + 1075) * 4503599627370496)) (bits .and .u64 M 4503599627370495) = ((joinB true m e : Nat) : Int) := j1
              clear j1
              go_wp2
              go_ret2
              exact ⟨ret_two rfl J2.out.symm, rfl⟩
theorem rjoin_any (neg : Bool) (m : Nat) (e : Int) (w : World) (hm : W64 m) :
    Calls Tryd.prog 10 #[.bool neg, .int .u64 m, .int .i64 e] w fun e' w' => e' = .returned (.tuple #[.int .u64 (joinB neg m e : Nat), .int .i64 (joinX m e)]) ∧ w = w' := by
  by_cases z : m = 0
  · subst z; exact rjoin_zero neg e w
  · by_cases b : 3000 < e ∨ e < -3000
    · have hb : joBad m e := by unfold joBad; omega
      have := rjoin_far neg m e w z b
      unfold joinB joinX; rw [if_neg z, if_pos hb, if_neg z, if_pos hb]; exact this
    · cases neg
      · exact rjoin_near_false m e w hm z (by omega) (by omega)
      · exact rjoin_near_true m e w hm z (by omega) (by omega)
end Go.Proofs.YtlmbpjppkcdcnaaDoor
