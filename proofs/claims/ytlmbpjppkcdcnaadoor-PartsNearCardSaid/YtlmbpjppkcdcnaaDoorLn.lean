/- Walk: the law PartsNear. -/
import Derived.Test.YtlmbpjppkcdcnaaDoorLa
import Derived.Test.YtlmbpjppkcdcnaaDoorFn
import Derived.Deep.DeepCutAuto
namespace Go.Proofs.YtlmbpjppkcdcnaaDoor
open Go.RowKit

theorem lt_abs (x y : Nat) (hx : finB x = true) (hy : finB y = true) : (FloatKind.f64.format.order (absB x) (absB y) == some Ordering.lt) = decide (absB x < absB y) := by
  show (Ieee.double.order (absB x) (absB y) == some Ordering.lt) = _
  rw [ord_abs x (absB y) (by have := finB_lt y hy; omega) (nan_fin x hx), cmp_lt]

theorem ne_of_eq (a b : Nat) (h : (FloatKind.f64.format.order a b == some Ordering.eq) = true) : (FloatKind.f64.format.order a b != some Ordering.eq) = false := by
  unfold bne; rw [h]; rfl
/-- What the test for nearness leaves, where it doesn't end the law. -/
def NearOk (X Y : Nat) : Prop := finB X = true ∧ finB Y = true ∧ sgnB X = sgnB Y ∧ ∃ hx hy, Near 52 (rv 52 (absB X)) 2 hx ∧ Near 52 (rv 52 (absB Y)) 2 hy ∧ hx ≤ absB Y ∧ hy ≤ absB X

set_option maxRecDepth 100000 in
set_option maxHeartbeats 4000000 in
theorem law_near_core (a b X Y Z : Nat) (w : World) (hT : TabW w) (hX : X = oneB a) (hY : Y = oneB b) (hZ : Z = nextB X) (ha : W64 a) (hb : W64 b) :
    Calls Tryd.prog 5 #[.int .u64 a, .int .u64 b] w fun e w' => e = .returned (.bool true) ∧ w = w' := by
  have wX : W64 X := by rw [hX]; exact oneB_W a ha
  have wY : W64 Y := by rw [hY]; exact oneB_W b hb
  have wZ : W64 Z := by rw [hZ]; exact next_W X wX
  have cX := fun w => one_any a w; rw [← hX] at cX
  have cY := fun w => one_any b w; rw [← hY] at cY
  have cZ := fun w => next_any X w wX; rw [← hZ] at cZ
  have nu := next_unit X wX; rw [← hZ] at nu
  have CX := Lib.hid cX; clear cX
  have CY := Lib.hid cY; clear cY
  have CZ := Lib.hid cZ; clear cZ
  have NU := Lib.hid nu; clear nu
  have f1 := cls_finB X
  have f2 := cls_finB Z
  have f3 := cls_finB Y
  clear hX hY hZ ha hb
  go_enter Tryd.func5, Tryd.ntmps5
  go_wp2_with fail
  refine (awake_any _ hT).mono ?_; rintro e w' ⟨rfl, rfl⟩
  go_wp2_with fail
  refine (CX.out _).mono ?_; rintro e w' ⟨rfl, rfl⟩
  go_wp2_with fail
  refine (CY.out _).mono ?_; rintro e w' ⟨rfl, rfl⟩
  go_wp2_with fail
  refine (CZ.out _).mono ?_; rintro e w' ⟨rfl, rfl⟩
  go_wp2_with fail
  refine (class_any _ _ wX).mono ?_; rintro e w' ⟨rfl, rfl⟩
  go_wp2_with fail
  refine (class_any _ _ wZ).mono ?_; rintro e w' ⟨rfl, rfl⟩
  go_wp2_with fail
  refine (class_any _ _ wY).mono ?_; rintro e w' ⟨rfl, rfl⟩
  clear CX CY CZ
  go_upto_region 10 with fail
  go_cut [9, 10, 59] (fun s _ t wx => s = .bool (finB X) ∧ t = .bool (finB X && finB Z && !(zeroB X && zeroB Z)) ∧ w = wx)
  case first => as_aux_lemma =>
    cases h1 : finB X <;> cases h2 : finB Z <;> cases h3 : zeroB X <;> cases h4 : zeroB Z
    all_goals
      go_wp2_with fail
      all_goals (go_meet; exact ⟨by rw [h1], by rw [h1, h2, h3, h4]; rfl, rfl⟩)
  case rest =>
  obtain ⟨rfl, rfl, rfl⟩ := hcut
  clear f1 f2
  go_upto_if 59 with fail
  go_cut [12, 13, 14] (fun _ _ _ wx => w = wx)
  case first => as_aux_lemma =>
    cases hc : (finB X && finB Z && !(zeroB X && zeroB Z))
    · go_wp2_with fail
      all_goals (go_meet; exact rfl)
    · have h1 : finB X = true := by revert hc; cases finB X <;> simp
      have h2 : finB Z = true := by revert hc; cases finB Z <;> simp
      have h3 : (zeroB X && zeroB Z) = false := by revert hc; cases finB X <;> cases finB Z <;> cases zeroB X <;> cases zeroB Z <;> decide
      obtain ⟨s, g1, g2, g3⟩ := NU.out h1 h2 h3
      have g2 := ne_of_eq _ _ g2
      have hq := fun (w : World) => run_float_arith (P := Tryd.prog) w .sub 24 .f64 _ _ _ g1
      have hlt := lt_abs Z X h2 h1
      clear h1 h2 h3 g1 f3
      by_cases h4 : absB Z < absB X
      · rw [if_pos h4] at g2 g3
        rw [decide_eq_true h4] at hlt
        clear h4
        go_wp2_with (first | (go_at_call 23; refine (abs_any _ _ (by assumption)).mono ?_; rintro e w' ⟨rfl, rfl⟩) | (go_at_call 24; refine (unit_any _ _ wZ hT).mono ?_; rintro e w' ⟨rfl, rfl⟩))
        all_goals (go_meet; exact rfl)
      · rw [if_neg h4] at g2 g3
        rw [decide_eq_false h4] at hlt
        clear h4
        go_wp2_with (first | (go_at_call 23; refine (abs_any _ _ (by assumption)).mono ?_; rintro e w' ⟨rfl, rfl⟩) | (go_at_call 24; refine (unit_any _ _ wX hT).mono ?_; rintro e w' ⟨rfl, rfl⟩))
        all_goals (go_meet; exact rfl)
  case rest =>
  obtain rfl := hcut
  clear NU
  go_upto_region 17 with fail
  go_cut [9, 11, 109] (fun _ _ s wx => ∃ g : Bool, s = .bool g ∧ (g = false → NearOk X Y) ∧ w = wx)
  case first => as_aux_lemma =>
    cases h1 : finB X
    · go_wp2_with fail
      all_goals (go_meet; exact ⟨true, rfl, fun h => by (cases h), rfl⟩)
    cases h2 : finB Y
    · go_wp2_with fail
      all_goals (go_meet; exact ⟨true, rfl, fun h => by (cases h), rfl⟩)
    obtain ⟨hx, x1, x2, x3⟩ := half_spec (absB X) (finB_lt X h1)
    obtain ⟨hy, y1, y2, y3⟩ := half_spec (absB Y) (finB_lt Y h2)
    have qx := fun (w : World) => run_float_arith (P := Tryd.prog) w .quo 24 .f64 _ _ _ x1
    have qy := fun (w : World) => run_float_arith (P := Tryd.prog) w .quo 24 .f64 _ _ _ y1
    have gx := le_of_not_gt hx (absB Y) x2 (finB_lt Y h2)
    have gy := le_of_not_gt hy (absB X) y2 (finB_lt X h1)
    have k1 := Lib.hid (neg_fin X h1)
    have k2 := Lib.hid (neg_fin Y h2)
    have X3 := Lib.hid x3; clear x3
    have Y3 := Lib.hid y3; clear y3
    have H1 := Lib.hid h1
    have H2 := Lib.hid h2
    clear x1 x2 y1 y2
    cases s1 : negB X <;> cases s2 : negB Y
    all_goals cases c1 : decide (absB X < hy)
    all_goals cases c2 : decide (absB Y < hx)
    all_goals
      rw [c1] at gy
      rw [c2] at gx
      go_wp2_with (first | (go_at_call 23; refine (abs_any _ _ (by assumption)).mono ?_; rintro e w' ⟨rfl, rfl⟩) | (go_at_call 18; refine (negative_any _ _ (by assumption)).mono ?_; rintro e w' ⟨rfl, rfl⟩))
      all_goals
        go_meet
        first
          | exact ⟨true, rfl, fun h => by (cases h), rfl⟩
          | exact ⟨false, rfl, fun _ => ⟨H1.out, H2.out, by rw [← k1.out, ← k2.out, s1, s2], hx, hy, X3.out, Y3.out, by have := of_decide_eq_false c2; omega, by have := of_decide_eq_false c1; omega⟩, rfl⟩
  case rest =>
  obtain ⟨g, rfl, hg, rfl⟩ := hcut
  clear f3
  cases g
  · obtain ⟨fX, fY, hs, hx, hy, X3, Y3, l1, l2⟩ := hg rfl
    clear hg
    obtain ⟨M, hM⟩ : ∃ M : Int, M = (spM X : Nat) := ⟨_, rfl⟩
    obtain ⟨N, hN⟩ : ∃ N : Int, N = (spM Y : Nat) := ⟨_, rfl⟩
    obtain ⟨E, hE⟩ : ∃ E : Int, E = spE X := ⟨_, rfl⟩
    obtain ⟨F, hF⟩ : ∃ F : Int, F = spE Y := ⟨_, rfl⟩
    have sX := fun w => split_any X w wX; rw [fin_spX X fX, ← hM, ← hE] at sX
    have sY := fun w => split_any Y w wY; rw [fin_spX Y fY, ← hN, ← hF] at sY
    have SX := Lib.hid sX; clear sX
    have SY := Lib.hid sY; clear sY
    have HM := Lib.hid hM; clear hM
    have HN := Lib.hid hN; clear hN
    have HE := Lib.hid hE; clear hE
    have HF := Lib.hid hF; clear hF
    have HS := Lib.hid hs; clear hs
    have FX := Lib.hid fX; clear fX
    have FY := Lib.hid fY; clear fY
    have HX3 := Lib.hid X3; clear X3
    have HY3 := Lib.hid Y3; clear Y3
    go_wp2_with fail
    refine (SX.out _).mono ?_; rintro e w' ⟨rfl, rfl⟩
    go_wp2_with fail
    refine (SY.out _).mono ?_; rintro e w' ⟨rfl, rfl⟩
    clear SX SY
    by_cases m0 : M = 0
    · have m0 : (M == 0) = true := by simpa using m0
      clear HM HN HE HF FX FY HS HX3 HY3 l1 l2
      go_wp2_with fail
      go_ret
      exact ⟨rfl, rfl⟩
    by_cases n0 : N = 0
    · have m0 : (M == 0) = false := by simpa using m0
      have n0 : (N == 0) = true := by simpa using n0
      clear HM HN HE HF FX FY HS HX3 HY3 l1 l2
      go_wp2_with fail
      go_ret
      exact ⟨rfl, rfl⟩
    have hM := HM.out; clear HM
    have hN := HN.out; clear HN
    have hE := HE.out; clear HE
    have hF := HF.out; clear HF
    have hs := HS.out; clear HS
    have fX := FX.out; clear FX
    have fY := FY.out; clear FY
    have X3 := HX3.out; clear HX3
    have Y3 := HY3.out; clear HY3
    have zx : zeroB X = false := by
      cases z : zeroB X
      · rfl
      · exfalso; apply m0
        cases hl : lowB X
        · rw [zero_low X z] at hl; cases hl
        · rw [hM, (sp_nought X fX hl z).2.1]; rfl
    have zy : zeroB Y = false := by
      cases z : zeroB Y
      · rfl
      · exfalso; apply n0
        cases hl : lowB Y
        · rw [zero_low Y z] at hl; cases hl
        · rw [hN, (sp_nought Y fY hl z).2.1]; rfl
    have norm : ∀ b, finB b = true → zeroB b = false → -1073 ≤ spE b → 4503599627370496 ≤ spM b := by
      intro b fb zb h
      cases hl : lowB b
      · obtain ⟨e1, e2, e3, e4, e5⟩ := sp_norm b fb hl
        rw [e2]; unfold mantB; omega
      · obtain ⟨e1, e2, e3, e4, e5⟩ := sp_sub b fb hl zb
        omega
    have le971 : ∀ b, finB b = true → spE b ≤ 971 := by
      intro b fb
      cases hl : lowB b
      · obtain ⟨e1, e2, e3, e4, e5⟩ := sp_norm b fb hl
        have := finB_lt b fb
        rw [e3]; unfold expB; unfold absB at this; omega
      · have := (spE_lo b).2
        unfold spE
        rw [(fin_not b fb).1, hl]; simp; split <;> omega
    have hmX := (join_split X wX fX).2.2
    have hmY := (join_split Y wY fY).2.2
    obtain ⟨n1, n2, n3, n4⟩ := near_exps (absB X) (absB Y) (spM X) (spM Y) hx hy (spE X) (spE Y) (sp_val X fX) (sp_val Y fY) (spE_lo X).1 (spE_lo Y).1 hmX hmY (norm X fX zx) (norm Y fY zy) X3 Y3 l1 l2
    have eX := (spE_lo X).1
    have eY := (spE_lo Y).1
    have eX' := le971 X fX
    have eY' := le971 Y fY
    have vX := sp_val X fX
    have vY := sp_val Y fY
    have nX := norm X fX zx
    have nY := norm Y fY zy
    have fin : ∀ (D : Nat) (L : Int) (less : Bool), D < 9007199254740992 → -1074 ≤ L → L ≤ 971 → (if less then rv 52 (absB X) + D * 2^(L + 1074).toNat = rv 52 (absB Y) else rv 52 (absB Y) + D * 2^(L + 1074).toNat = rv 52 (absB X)) →
        ∃ s d, (∀ w, TabW w → Calls Tryd.prog 9 #[.bool (negB X != less), .int .u64 D, .int .i64 L] w fun e w' => e = .returned (.tuple #[.float .f64 d, .int .i64 0]) ∧ w = w') ∧
          (∀ w : World, (binOp .sub 24 (.float .f64 X) (.float .f64 Y)).run Tryd.prog w = .ok (.float .f64 s) w) ∧ (FloatKind.f64.format.order d s == some Ordering.eq) = true := by
      intro D L less d1 d2 d3 d4
      obtain ⟨s, g1, g2, g3⟩ := near_final X Y D L less wX wY fX fY hs d1 d2 d3 d4
      refine ⟨s, _, fun w hT => ?_, fun w => run_float_arith w .sub _ .f64 _ _ _ g1, g3⟩
      have := join_any (sgnB X != less) D L w (by unfold W64; omega) hT (by omega) (by omega)
      rw [g2] at this
      rw [neg_fin X fX]; exact this
    have m0 : (M == 0) = false := by simpa using m0
    have n0 : (N == 0) = false := by simpa using n0
    have M1 : 0 ≤ M := by omega
    have N1 : 0 ≤ N := by omega
    have M2 : M ≤ 9007199254740991 := by omega
    have N2 : N ≤ 9007199254740991 := by omega
    have FIN := Lib.hid fin; clear fin
    have VX := Lib.hid vX; clear vX
    have VY := Lib.hid vY; clear vY
    have HM := Lib.hid hM; clear hM
    have HN := Lib.hid hN; clear hN
    rw [← hE] at n1 n2 n3 n4 eX eX' nX
    rw [← hF] at n1 n2 n3 n4 eY eY' nY
    have N3 := Lib.hid n3; clear n3
    have N4 := Lib.hid n4; clear n4
    have HE := Lib.hid hE; clear hE
    have HF := Lib.hid hF; clear hF
    have NX := Lib.hid nX; clear nX
    have NY := Lib.hid nY; clear nY
    have MX := Lib.hid hmX; clear hmX
    have MY := Lib.hid hmY; clear hmY
    clear norm le971 zx zy X3 Y3 l1 l2 fX fY hs
    rcases (show E = F ∨ E = F + 1 ∨ F = E + 1 by omega) with c | c | c
    · subst c
      by_cases lt : M < N
      · obtain ⟨s, d, J, q, o⟩ := FIN.out (spM Y - spM X) E true (by have := MX.out; have := MY.out; have := HM.out; have := HN.out; have := N3.out; have := N4.out; omega) (by omega) (by omega) (by
          have hX := VX.out
          have hY := VY.out
          rw [← HE.out] at hX
          rw [← HF.out] at hY
          rw [if_pos rfl, hX, hY, ← Nat.add_mul]; congr 1; have := HM.out; have := HN.out; omega)
        have hD : N - M = ((spM Y - spM X : Nat) : Int) := by have := HM.out; have := HN.out; have := N3.out; have := N4.out; omega
        rw [← hD] at J
        have J : ∀ w, TabW w → Calls Tryd.prog 9 #[.bool (!negB X), .int .u64 (N - M), .int .i64 E] w fun e w' => e = .returned (.tuple #[.float .f64 d, .int .i64 0]) ∧ w = w' := by
          intro w hT
          have := J w hT
          revert this
          cases negB X <;> exact id
        have J := Lib.hid J
        clear hD FIN VX VY HM HN HE HF N3 N4 NX NY MX MY
        go_wp2_with (go_at_call 18; refine (negative_any _ _ wX).mono ?_; rintro e w' ⟨rfl, rfl⟩)
        refine (J.out _ hT).mono ?_; rintro e w' ⟨rfl, rfl⟩
        go_wp2_with fail
        go_ret
        exact ⟨rfl, rfl⟩
      · have lt' : N ≤ M := by omega
        have hless : decide (M < N) = false := by simp; omega
        clear lt
        obtain ⟨s, d, J, q, o⟩ := FIN.out (spM X - spM Y) E false (by have := MX.out; have := MY.out; have := HM.out; have := HN.out; have := N3.out; have := N4.out; omega) (by omega) (by omega) (by
          have hX := VX.out
          have hY := VY.out
          rw [← HE.out] at hX
          rw [← HF.out] at hY
          rw [if_neg (by decide), hX, hY, ← Nat.add_mul]; congr 1; have := HM.out; have := HN.out; omega)
        have hD : M - N = ((spM X - spM Y : Nat) : Int) := by have := HM.out; have := HN.out; have := N3.out; have := N4.out; omega
        rw [← hD] at J
        have J : ∀ w, TabW w → Calls Tryd.prog 9 #[.bool (negB X), .int .u64 (M - N), .int .i64 E] w fun e w' => e = .returned (.tuple #[.float .f64 d, .int .i64 0]) ∧ w = w' := by
          intro w hT
          have := J w hT
          revert this
          cases negB X <;> exact id
        have J := Lib.hid J
        clear hD FIN VX VY HM HN HE HF N3 N4 NX NY MX MY
        go_wp2_with (go_at_call 18; refine (negative_any _ _ wX).mono ?_; rintro e w' ⟨rfl, rfl⟩)
        refine (J.out _ hT).mono ?_; rintro e w' ⟨rfl, rfl⟩
        go_wp2_with fail
        go_ret
        exact ⟨rfl, rfl⟩
    · subst c
      have hmin : min (F + 1) F = F := by omega
      have lt : N < 2 * M := by have := NX.out (by omega); have := HM.out; omega
      have hless : decide (2 * M < N) = false := by simp; omega
      have le : M ≤ N := by have := N3.out rfl; have := HM.out; have := HN.out; omega
      obtain ⟨s, d, J, q, o⟩ := FIN.out (2 * spM X - spM Y) F false (by have := MX.out; have := MY.out; have := HM.out; have := HN.out; have := N3.out; have := N4.out; omega) (by omega) (by omega) (by
        have hX := VX.out
        have hY := VY.out
        rw [← HE.out] at hX
        rw [← HF.out] at hY
        rw [if_neg (by decide), hX, hY, show (F + 1 + 1074).toNat = (F + 1074).toNat + 1 from by omega, Nat.pow_succ, ← Nat.add_mul, Nat.mul_comm (2^_) 2, ← Nat.mul_assoc]; congr 1; have := HM.out; have := HN.out; omega)
      have hD : 2 * M - N = ((2 * spM X - spM Y : Nat) : Int) := by have := HM.out; have := HN.out; have := N3.out; have := N4.out; omega
      rw [← hD] at J
      have J : ∀ w, TabW w → Calls Tryd.prog 9 #[.bool (negB X), .int .u64 (2 * M - N), .int .i64 F] w fun e w' => e = .returned (.tuple #[.float .f64 d, .int .i64 0]) ∧ w = w' := by
        intro w hT
        have := J w hT
        revert this
        cases negB X <;> exact id
      have J := Lib.hid J
      clear hD FIN VX VY HM HN HE HF N3 N4 NX NY MX MY
      go_wp2_with (go_at_call 18; refine (negative_any _ _ wX).mono ?_; rintro e w' ⟨rfl, rfl⟩)
      refine (J.out _ hT).mono ?_; rintro e w' ⟨rfl, rfl⟩
      go_wp2_with fail
      go_ret
      exact ⟨rfl, rfl⟩
    · subst c
      have hmin : min E (E + 1) = E := by omega
      have lt : M < 2 * N := by have := NY.out (by omega); have := HN.out; omega
      have le : N ≤ M := by have := N4.out rfl; have := HM.out; have := HN.out; omega
      obtain ⟨s, d, J, q, o⟩ := FIN.out (2 * spM Y - spM X) E true (by have := MX.out; have := MY.out; have := HM.out; have := HN.out; have := N3.out; have := N4.out; omega) (by omega) (by omega) (by
        have hX := VX.out
        have hY := VY.out
        rw [← HE.out] at hX
        rw [← HF.out] at hY
        rw [if_pos rfl, hX, hY, show (E + 1 + 1074).toNat = (E + 1074).toNat + 1 from by omega, Nat.pow_succ, ← Nat.add_mul, Nat.mul_comm (2^_) 2, ← Nat.mul_assoc]; congr 1; have := HM.out; have := HN.out; omega)
      have hD : 2 * N - M = ((2 * spM Y - spM X : Nat) : Int) := by have := HM.out; have := HN.out; have := N3.out; have := N4.out; omega
      rw [← hD] at J
      have J : ∀ w, TabW w → Calls Tryd.prog 9 #[.bool (!negB X), .int .u64 (2 * N - M), .int .i64 E] w fun e w' => e = .returned (.tuple #[.float .f64 d, .int .i64 0]) ∧ w = w' := by
        intro w hT
        have := J w hT
        revert this
        cases negB X <;> exact id
      have J := Lib.hid J
      clear hD FIN VX VY HM HN HE HF N3 N4 NX NY MX MY
      go_wp2_with (go_at_call 18; refine (negative_any _ _ wX).mono ?_; rintro e w' ⟨rfl, rfl⟩)
      refine (J.out _ hT).mono ?_; rintro e w' ⟨rfl, rfl⟩
      go_wp2_with fail
      go_ret
      exact ⟨rfl, rfl⟩
  · clear hg
    go_wp2_with fail
    go_ret
    exact ⟨rfl, rfl⟩
theorem law_near (a b : Nat) (w : World) (ha : W64 a) (hb : W64 b) (hT : TabW w) :
    Calls Tryd.prog 5 #[.int .u64 a, .int .u64 b] w fun e w' => e = .returned (.bool true) ∧ w = w' :=
  law_near_core a b _ _ _ w hT rfl rfl rfl ha hb
end Go.Proofs.YtlmbpjppkcdcnaaDoor
