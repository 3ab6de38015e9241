/- Parts Cl, Cm, Cn, Co, Cp of the proof, in one text. -/
import Derived.Test.YtgfbcncjboenbaaGreatDoorSBU
import Derived.Test.YtgfbcncjboenbaaGreatDoorSBM
import Derived.Test.YtgfbcncjboenbaaGreatDoorSBG
import Derived.Test.YtgfbcncjboenbaaGreatDoorSRR
import Derived.Test.YtgfbcncjboenbaaGreatDoorSQC
import Derived.Laws.FloatArith
import Derived.Test.YtgfbcncjboenbaaGreatDoorSAW
import Derived.Test.YtgfbcncjboenbaaGreatDoorSQD
import Derived.Test.YtgfbcncjboenbaaGreatDoorSRH

/- Walks: a single's bits; single's Nan, One, right, Widen, Next; the document's IsNaN, One, split, Widen, Next, mode. -/
namespace Go.Proofs.YtgfbcncjboenbaaGreatDoor
open Go.RowKit
open Go.Lib hiding intOf

theorem nan3_order {b : Nat} (h : nan3 b = true) (c : Nat) : Ieee.single.order b c = none :=
  order_nan_left Ieee.single S_ok b c (by rw [rg_S, S_inf]; exact of_decide_eq_true h)
@[go_sem] theorem w3_eq_self (b : Nat) : (Go.FloatKind.f32.format.order b b == some Ordering.eq) = !nan3 b := by
  show (Ieee.single.order b b == some Ordering.eq) = !nan3 b
  cases n : nan3 b
  · exact ord32_self b (by have := of_decide_eq_false n; unfold abs3 at this; omega)
  · rw [nan3_order n]; rfl
@[go_sem] theorem w3_ne_self (b : Nat) : (Go.FloatKind.f32.format.order b b != some Ordering.eq) = nan3 b := by
  have := w3_eq_self b
  simp only [bne]
  rw [this]; simp
@[go_sem] theorem w3_andNot (b : Nat) (h : W32 b) : Go.bits .andNot .u32 (b : Int) 2147483648 = ((abs3 b : Nat) : Int) := by
  rw [show (2147483648 : Int) = ((2147483648 : Nat) : Int) from rfl, Go.u32_andNot_nat b _ h (by decide)]
  rw [show 4294967295 - 2147483648 = 2^31 - 1 from by decide, Nat.and_two_pow_sub_one_eq_mod]; rfl
@[go_sem] theorem w3_and_sign (b : Nat) (h : W32 b) : Go.bits .and .u32 (b : Int) 2147483648 = ((sgS (sgn3 b) : Nat) : Int) := by
  rw [show (2147483648 : Int) = ((2^31 : Nat) : Int) from rfl, Go.u32_and_nat b _ h (by decide), Go.nat_bit]
  unfold W32 at h
  congr 1; unfold sgS sgn3; split <;> simp_all <;> omega
theorem w3_exp (b : Nat) (h : W32 b) : Go.bits .and .u32 ((b : Int) / 8388608) 255 = ((abs3 b / 8388608 : Nat) : Int) := by
  unfold W32 at h
  rw [show (b : Int) / 8388608 = ((b / 8388608 : Nat) : Int) from by omega, show (255 : Int) = ((255 : Nat) : Int) from rfl, Go.u32_and_nat _ _ (by omega) (by decide)]
  rw [show 255 = 2^8 - 1 from by decide, Nat.and_two_pow_sub_one_eq_mod]
  unfold abs3; congr 1; omega
theorem w3_frac (b : Nat) (h : W32 b) : Go.bits .and .u32 (b : Int) 8388607 = ((abs3 b % 8388608 : Nat) : Int) := by
  rw [show (8388607 : Int) = ((8388607 : Nat) : Int) from rfl, Go.u32_and_nat _ _ h (by decide)]
  rw [show 8388607 = 2^23 - 1 from by decide, Nat.and_two_pow_sub_one_eq_mod]
  unfold abs3; congr 1; omega
theorem w3_or_first (f : Nat) (h : f < 8388608) : Go.bits .or .u64 (f : Int) 8388608 = ((f + 8388608 : Nat) : Int) := by
  rw [show (8388608 : Int) = ((2^23 : Nat) : Int) from rfl, Go.u64_or_nat _ _ (by omega) (by decide)]
  rw [Nat.or_comm, Go.nat_join 23 _ _ (by decide) (by omega)]
  congr 1; omega
theorem sgS_zero (s : Bool) : (((sgS s : Nat) : Int) != 0) = s := by unfold sgS; cases s <;> rfl

theorem s_nan (w : World) : Calls Tryz.prog 52 #[] w fun e w' => e = .returned (.float .f32 2143289344) ∧ w = w' := by
  go_enter Tryz.func52, Tryz.ntmps52
  go_wp2
  go_ret
  exact ⟨rfl, rfl⟩
def one3 (b : Nat) : Nat := if nan3 b = true then 2143289344 else b
theorem s_one (b : Nat) (w : World) : Calls Tryz.prog 37 #[.float .f32 b] w fun e w' => e = .returned (.float .f32 (one3 b)) ∧ w = w' := by
  unfold one3
  cases h : nan3 b
  all_goals
    go_enter Tryz.func37, Tryz.ntmps37
    go_wp2_with (go_at_call 52; refine (s_nan _).mono ?_; rintro e w' ⟨rfl, rfl⟩)
    go_ret
    exact ⟨rfl, rfl⟩
theorem s_right (m : Int) (w : World) : Calls Tryz.prog 73 #[.int .i64 m] w fun e w' => e = .returned (.bool (decide (1 ≤ m ∧ m ≤ 6))) ∧ w = w' := by
  by_cases h1 : 1 ≤ m
  · by_cases h2 : m ≤ 6
    · rw [decide_eq_true (show 1 ≤ m ∧ m ≤ 6 from ⟨h1, h2⟩)]
      go_enter Tryz.func73, Tryz.ntmps73
      go_wp2
      go_ret
      exact ⟨rfl, rfl⟩
    · rw [decide_eq_false (show ¬ (1 ≤ m ∧ m ≤ 6) by omega)]
      go_enter Tryz.func73, Tryz.ntmps73
      go_wp2
      go_ret
      exact ⟨rfl, rfl⟩
  · rw [decide_eq_false (show ¬ (1 ≤ m ∧ m ≤ 6) by omega)]
    go_enter Tryz.func73, Tryz.ntmps73
    go_wp2
    go_ret
    exact ⟨rfl, rfl⟩
/-- The number of a single. -/
def widB (b : Nat) : Nat := if nan3 b = true then theNaN else if inf3 b = true then sgW (sgn3 b) + 9218868437227405312 else joinB (sgn3 b) (m3 b) (e3 b)
theorem join_exact (neg : Bool) {q r : Nat} {e : Int} (hq : q ≤ 9007199254740992) (h1 : -1074 ≤ e) (h2 : e ≤ 900) (hr : r < 9218868437227405312) (h : rv 52 r = q * 2 ^ (e + 1074).toNat) : joinB neg q e = sgW neg + r ∧ joinX q e = 0 := by
  unfold joinB joinX
  by_cases h0 : q = 0
  · rw [if_pos h0, if_pos h0]
    rw [h0, Nat.zero_mul, ← rv_zero 52] at h
    rw [rv_inj h]; exact ⟨rfl, rfl⟩
  · rw [if_neg h0, if_neg h0]
    obtain ⟨g1, g2, g3⟩ := joO_bd h0 hq
    have hb : ¬ joBad q e := by unfold joBad; omega
    rw [if_neg hb, if_neg hb]
    refine ⟨?_, rfl⟩
    rw [near_exact (s := false) (r := r) (by omega) hr ?_]
    · show _ + (0 + r) = _
      rw [Nat.zero_add]
    · rw [h, show (e + (joZ q : Int) + 1074).toNat = joZ q + (e + 1074).toNat by omega, Nat.pow_add, ← Nat.mul_assoc, g3]
theorem wid_fin {b : Nat} (hb : W32 b) (fb : abs3 b < 2139095040) : Go.floatToFloatBits .f32 b .f64 = some (widB b) ∧ W64 (widB b) ∧ finB (widB b) = true ∧ sgnB (widB b) = sgn3 b ∧ rv 52 (absB (widB b)) = m3 b * 2 ^ (e3 b + 1074).toNat := by
  obtain ⟨p1, p2, p3, p4, p5, p6⟩ := sp3 fb
  obtain ⟨c, w1, w2, w3, w4, w5⟩ := widen_conv (sgn3 b) (abs3 b) fb
  rw [word_S, ← b3_join hb] at w1
  rw [p1, scale32 p3] at w5
  have n1 : nan3 b = false := by unfold nan3; simp; omega
  have i1 : inf3 b = false := by unfold inf3; simp; omega
  have hw : widB b = c := by
    unfold widB
    rw [n1, i1, if_neg (by decide), if_neg (by decide), (join_exact (sgn3 b) (r := absB c) (by omega) (by omega) (by omega) (finA_lt w3) w5).1]
    rw [← w4]; exact (split_B c w2).symm
  rw [hw]
  exact ⟨w1, w2, w3, w4, w5⟩
theorem wid_inf {b : Nat} (hb : W32 b) (h : inf3 b = true) : Go.floatToFloatBits .f32 b .f64 = some (widB b) ∧ nan3 b = false := by
  have n1 : nan3 b = false := by unfold nan3; rw [of_decide_eq_true h]; rfl
  refine ⟨?_, n1⟩
  unfold widB
  rw [n1, if_neg (by decide), if_pos h]
  unfold Go.floatToFloatBits
  rw [if_neg (by decide)]
  show (match Ieee.single.read b with | .nan _ _ => none | .infinity s => some (Ieee.double.write (.infinity s)) | .number s m e => if (Ieee.double.read (Ieee.double.write (.number s m e))).isInfinity then none else some (Ieee.double.write (.number s m e))) = _
  rw [read_inf3 hb h]
  dsimp only
  rw [show Ieee.double.write (.infinity (sgn3 b)) = Ieee.double.word (sgn3 b) Ieee.double.infRung from rfl, D_inf, word_sg]
theorem run_wid {b r : Nat} (h : Go.floatToFloatBits .f32 b .f64 = some r) (w : World) : (convert 33 23 (.float .f32 b)).run Tryz.prog w = .ok (.float .f64 r) w :=
  run_convert_float_float (P := Tryz.prog) w 33 23 .f32 .f64 b r (by kernel_rfl) (by kernel_rfl) h
theorem run_nar {b r : Nat} (h : Go.floatToFloatBits .f64 b .f32 = some r) (w : World) : (convert 23 33 (.float .f64 b)).run Tryz.prog w = .ok (.float .f32 r) w :=
  run_convert_float_float (P := Tryz.prog) w 23 33 .f64 .f32 b r (by kernel_rfl) (by kernel_rfl) h
theorem run_wid_nan {b : Nat} (h : nan3 b = true) (w : World) : ∃ v, (convert 33 23 (.float .f32 b)).run Tryz.prog w = .ok (.float .f64 v) w.drew ∧ nanB v = true := by
  obtain ⟨s, t, hr⟩ := read_nan3 h
  refine ⟨(Question.nanConv .f64 b).cut (w.tape w.drawn (.nanConv .f64 b)), ?_, ?_⟩
  · have e2 : Conv.floatToFloat .f32 b .f64 = (do pure (.float .f64 (← choose (.nanConv .f64 b)))) := by
      unfold Conv.floatToFloat
      rw [if_neg (by decide)]
      show (match Ieee.single.read b with | .nan _ _ => _ | .infinity _ => _ | .number _ _ _ => _) = _
      rw [hr]
    have e3 : (convert 33 23 (.float .f32 b)).run Tryz.prog w = (Conv.floatToFloat .f32 b .f64).run Tryz.prog w := by
      simp [convert]
    rw [e3, e2]
    simp [Question.forced]
  · unfold nanB absB
    simp only [Question.cut]
    generalize w.tape w.drawn (.nanConv .f64 b) = t
    refine decide_eq_true ?_
    rcases Nat.mod_two_eq_zero_or_one t with h | h <;> rw [h] <;> omega
theorem run_sum_nan {op : BinOp} {a b : Nat} (h : Go.floatBits op .f32 a b = none) (ho : op = .add ∨ op = .mul) (t : TypeId) (w : World) : ∃ v, (binOp op t (.float .f32 a) (.float .f32 b)).run Tryz.prog w = .ok (.float .f32 v) w.drew ∧ nan3 v = true := by
  refine ⟨(Question.nanBits .f32 a b).cut (w.tape w.drawn (.nanBits .f32 a b)), ?_, ?_⟩
  · unfold Go.floatBits at h
    rcases ho with rfl | rfl <;> simp only at h <;> simp [binOp, Op.floatArith, h, Question.forced]
  · unfold nan3 abs3
    simp only [Question.cut]
    generalize w.tape w.drawn (.nanBits .f32 a b) = t
    refine decide_eq_true ?_
    rcases Nat.mod_two_eq_zero_or_one t with h | h <;> rw [h] <;> omega
end Go.Proofs.YtgfbcncjboenbaaGreatDoor

/- Walks: single's Widen, Next, Add, Mul; the document's IsNaN, One, split, Widen, Next, mode. -/
namespace Go.Proofs.YtgfbcncjboenbaaGreatDoor
open Go.RowKit
open Go.Lib hiding intOf

theorem fin_nan {b : Nat} (h : finB b = true) : nanB b = false := by have := finA_lt h; unfold nanB; exact decide_eq_false (by omega)
theorem one_wid {b : Nat} (hb : W32 b) : oneB (widB b) = widB b := by
  unfold oneB
  rcases kind3 b with ⟨n1, i1⟩ | ⟨i1, n1⟩ | ⟨n1, i1, f1⟩
  · have : widB b = theNaN := by unfold widB; rw [if_pos n1]
    rw [this]; split <;> rfl
  · have : widB b = sgW (sgn3 b) + 9218868437227405312 := by unfold widB; rw [n1, i1, if_neg (by decide), if_pos rfl]
    rw [this, if_neg]
    cases sgn3 b <;> decide
  · obtain ⟨-, h2, h3, -⟩ := wid_fin hb f1
    rw [fin_nan h3, if_neg (by decide)]
set_option maxRecDepth 100000 in
theorem s_widen (b : Nat) (hb : W32 b) (w : World) : Calls Tryz.prog 19 #[.float .f32 b] w fun e w' => e = .returned (.float .f64 (widB b)) ∧ Below w.heap.size w w' := by
  cases n : nan3 b
  · have hc : Go.floatToFloatBits .f32 b .f64 = some (widB b) := by
      rcases kind3 b with ⟨n1, i1⟩ | ⟨i1, n1⟩ | ⟨n1, i1, f1⟩
      · rw [n] at n1; cases n1
      · exact (wid_inf hb i1).1
      · exact (wid_fin hb f1).1
    have k := run_wid hc w
    have ho := one_wid hb
    clear hc
    go_enter Tryz.func19, Tryz.ntmps19
    go_wp2_with (go_at_call 74; refine (one_any _ _).mono ?_; rintro e w' ⟨rfl, rfl⟩)
    go_ret
    exact ⟨rfl, Below.refl _ _⟩
  · obtain ⟨v, k, hv⟩ := run_wid_nan n w
    have ho : oneB v = widB b := by unfold oneB widB; rw [hv, n, if_pos rfl, if_pos rfl]
    clear hv n
    go_enter Tryz.func19, Tryz.ntmps19
    go_wp2_with (go_at_call 74; refine (one_any _ _).mono ?_; rintro e w' ⟨rfl, rfl⟩)
    go_ret
    exact ⟨rfl, (Below.refl _ _).drew⟩
/-- The first one behind it. -/
def nxt3 (b : Nat) : Nat := if nan3 b = true then 2143289344 else if b = 2139095040 then b else if b = 2147483648 then 0 else if sgn3 b = true then b - 1 else b + 1
theorem isinf_one (b : Nat) (w : World) (hb : W64 b) :
    Calls Tryz.prog 70 #[.float .f64 b, .int .i64 1] w fun e w' => e = .returned (.bool (pinfB b)) ∧ w = w' := by
  go_enter Tryz.func70, Tryz.ntmps70
  go_wp2
  go_ret
  exact ⟨rfl, rfl⟩
theorem wid_pinf {b : Nat} (hb : W32 b) (n : nan3 b = false) : pinfB (widB b) = decide (b = 2139095040) ∧ W64 (widB b) ∧ nanB (widB b) = false ∧ Go.floatToFloatBits .f32 b .f64 = some (widB b) := by
  rcases kind3 b with ⟨n1, i1⟩ | ⟨i1, n1⟩ | ⟨n1, i1, f1⟩
  · rw [n] at n1; cases n1
  · have hw : widB b = sgW (sgn3 b) + 9218868437227405312 := by unfold widB; rw [n1, i1, if_neg (by decide), if_pos rfl]
    refine ⟨?_, ?_, ?_, (wid_inf hb i1).1⟩
    · have hi := inf3_eq hb i1
      rw [hw]
      cases h : sgn3 b
      · rw [h] at hi; rw [hi]; decide
      · rw [h] at hi; rw [hi]; decide
    · rw [hw]; unfold W64; cases sgn3 b <;> decide
    · rw [hw]; cases sgn3 b <;> decide
  · obtain ⟨h1, h2, h3, -⟩ := wid_fin hb f1
    refine ⟨?_, h2, fin_nan h3, h1⟩
    have e1 : ¬ b = 2139095040 := by intro h; rw [h] at f1; revert f1; decide
    rw [decide_eq_false e1]
    unfold pinfB
    rw [decide_eq_false]
    intro h; rw [h] at h3; revert h3; decide
set_option maxRecDepth 100000 in
theorem s_next (b : Nat) (hb : W32 b) (w : World) : Calls Tryz.prog 55 #[.float .f32 b] w fun e w' => e = .returned (.float .f32 (nxt3 b)) ∧ Below w.heap.size w w' := by
  unfold nxt3
  cases n : nan3 b
  · obtain ⟨h1, h2, -, h4⟩ := wid_pinf hb n
    have k := run_wid h4 w
    rw [if_neg (by decide)]
    have hs : ((b : Int) / 2147483648 == 1) = sgn3 b := by
      unfold W32 at hb; unfold sgn3
      rw [Bool.eq_iff_iff, beq_iff_eq, decide_eq_true_eq]; omega
    by_cases c1 : b = 2139095040
    · rw [if_pos c1]
      rw [decide_eq_true c1] at h1
      clear c1 hs
      go_enter Tryz.func55, Tryz.ntmps55
      go_wp2_with (go_at_call 70; refine (isinf_one _ _ h2).mono ?_; rintro e w' ⟨rfl, rfl⟩)
      go_ret
      exact ⟨rfl, Below.refl _ _⟩
    · rw [if_neg c1]
      rw [decide_eq_false c1] at h1
      clear c1
      by_cases c2 : b = 2147483648
      · rw [if_pos c2]
        have c3 : ((b : Int) == 2147483648) = true := by rw [c2]; rfl
        clear c2
        go_enter Tryz.func55, Tryz.ntmps55
        go_wp2_with (go_at_call 70; refine (isinf_one _ _ h2).mono ?_; rintro e w' ⟨rfl, rfl⟩)
        go_ret
        exact ⟨rfl, Below.refl _ _⟩
      · rw [if_neg c2]
        have c3 : ((b : Int) == 2147483648) = false := by rw [Bool.eq_false_iff, Ne, beq_iff_eq]; omega
        cases hg : sgn3 b
        · rw [hg] at hs
          have hw : IntKind.u32.wrap ((b : Int) + 1) = ((b + 1 : Nat) : Int) := by
            unfold sgn3 at hg; simp at hg
            rw [IntWalk.u32_in _ (by omega)]; omega
          clear c2 hg
          go_enter Tryz.func55, Tryz.ntmps55
          go_wp2_with (go_at_call 70; refine (isinf_one _ _ h2).mono ?_; rintro e w' ⟨rfl, rfl⟩)
          go_ret
          exact ⟨rfl, Below.refl _ _⟩
        · rw [hg] at hs
          have hw : IntKind.u32.wrap ((b : Int) - 1) = ((b - 1 : Nat) : Int) := by
            unfold sgn3 at hg; simp at hg; unfold W32 at hb
            rw [IntWalk.u32_in _ (by omega)]; omega
          clear c2 hg
          go_enter Tryz.func55, Tryz.ntmps55
          go_wp2_with (go_at_call 70; refine (isinf_one _ _ h2).mono ?_; rintro e w' ⟨rfl, rfl⟩)
          go_ret
          exact ⟨rfl, Below.refl _ _⟩
  · rw [if_pos rfl]
    go_enter Tryz.func55, Tryz.ntmps55
    go_wp2_with (go_at_call 52; refine (s_nan _).mono ?_; rintro e w' ⟨rfl, rfl⟩)
    go_ret
    exact ⟨rfl, Below.refl _ _⟩
set_option maxRecDepth 100000 in
theorem s_add {a b : Nat} (ha : W32 a) (hb : W32 b) (w : World) : Calls Tryz.prog 31 #[.float .f32 a, .float .f32 b] w fun e w' => e = .returned (.float .f32 (addF a b)) ∧ Below w.heap.size w w' := by
  have hS := add_S ha hb
  cases hbad : badS a b
  · rw [hbad, if_neg (by decide)] at hS
    have k := run_float_arith (P := Tryz.prog) w .add 33 .f32 a b _ hS
    have ho : one3 (addF a b) = addF a b := by unfold one3; rw [(addF_num ha hb).2 hbad, if_neg (by decide)]
    clear hS
    go_enter Tryz.func31, Tryz.ntmps31
    go_wp2_with (go_at_call 37; refine (s_one _ _).mono ?_; rintro e w' ⟨rfl, rfl⟩)
    go_ret
    exact ⟨rfl, Below.refl _ _⟩
  · rw [hbad, if_pos rfl] at hS
    obtain ⟨v, k, hv⟩ := run_sum_nan hS (.inl rfl) 33 w
    have ho : one3 v = addF a b := by unfold one3 addF; rw [hv, hbad, if_pos rfl, if_pos rfl]
    clear hv hbad hS
    go_enter Tryz.func31, Tryz.ntmps31
    go_wp2_with (go_at_call 37; refine (s_one _ _).mono ?_; rintro e w' ⟨rfl, rfl⟩)
    go_ret
    exact ⟨rfl, (Below.refl _ _).drew⟩
set_option maxRecDepth 100000 in
theorem s_mul {a b : Nat} (ha : W32 a) (hb : W32 b) (w : World) : Calls Tryz.prog 33 #[.float .f32 a, .float .f32 b] w fun e w' => e = .returned (.float .f32 (mulF a b)) ∧ Below w.heap.size w w' := by
  have hS := mul_S ha hb
  cases hbad : badM a b
  · rw [hbad, if_neg (by decide)] at hS
    have k := run_float_arith (P := Tryz.prog) w .mul 33 .f32 a b _ hS
    have ho : one3 (mulF a b) = mulF a b := by unfold one3; rw [(mulF_num a b).2 hbad, if_neg (by decide)]
    clear hS
    go_enter Tryz.func33, Tryz.ntmps33
    go_wp2_with (go_at_call 37; refine (s_one _ _).mono ?_; rintro e w' ⟨rfl, rfl⟩)
    go_ret
    exact ⟨rfl, Below.refl _ _⟩
  · rw [hbad, if_pos rfl] at hS
    obtain ⟨v, k, hv⟩ := run_sum_nan hS (.inr rfl) 33 w
    have ho : one3 v = mulF a b := by unfold one3 mulF; rw [hv, hbad, if_pos rfl, if_pos rfl]
    clear hv hbad hS
    go_enter Tryz.func33, Tryz.ntmps33
    go_wp2_with (go_at_call 37; refine (s_one _ _).mono ?_; rintro e w' ⟨rfl, rfl⟩)
    go_ret
    exact ⟨rfl, (Below.refl _ _).drew⟩

/-! The document's. -/
theorem d_isnan (b : Nat) (hb : W32 b) (w : World) : Calls Tryz.prog 91 #[.int .u32 b] w fun e w' => e = .returned (.bool (nan3 b)) ∧ w = w' := by
  have h : decide ((2139095040 : Int) < (abs3 b : Nat)) = nan3 b := by unfold nan3; rw [decide_eq_decide]; omega
  go_enter Tryz.func91, Tryz.ntmps91
  go_wp2
  go_ret
  refine ⟨?_, rfl⟩
  first | rw [h] | rfl
theorem d_one (b : Nat) (hb : W32 b) (w : World) : Calls Tryz.prog 53 #[.int .u32 b] w fun e w' => e = .returned (.int .u32 (one3 b : Nat)) ∧ w = w' := by
  unfold one3
  cases h : nan3 b
  all_goals
    go_enter Tryz.func53, Tryz.ntmps53
    go_wp2_with (go_at_call 91; refine (d_isnan _ hb _).mono ?_; rintro e w' ⟨rfl, rfl⟩)
    go_ret
    exact ⟨rfl, rfl⟩
theorem d_mode (m : Int) (w : World) : Calls Tryz.prog 107 #[.int .i64 m] w fun e w' => e = .returned (.bool (decide (1 ≤ m ∧ m ≤ 6))) ∧ w = w' := by
  by_cases h1 : 1 ≤ m
  · by_cases h2 : m ≤ 6
    · rw [decide_eq_true (show 1 ≤ m ∧ m ≤ 6 from ⟨h1, h2⟩)]
      go_enter Tryz.func107, Tryz.ntmps107
      go_wp2
      go_ret
      exact ⟨rfl, rfl⟩
    · rw [decide_eq_false (show ¬ (1 ≤ m ∧ m ≤ 6) by omega)]
      go_enter Tryz.func107, Tryz.ntmps107
      go_wp2
      go_ret
      exact ⟨rfl, rfl⟩
  · rw [decide_eq_false (show ¬ (1 ≤ m ∧ m ≤ 6) by omega)]
    go_enter Tryz.func107, Tryz.ntmps107
    go_wp2
    go_ret
    exact ⟨rfl, rfl⟩
theorem d_split (b : Nat) (hb : W32 b) (w : World) : Calls Tryz.prog 92 #[.int .u32 b] w fun e w' => e = .returned (.tuple #[.int .u64 (m3 b : Nat), .int .i64 (e3 b)]) ∧ w = w' := by
  have h1 := w3_exp b hb
  have h2 := w3_frac b hb
  have h3 := w3_or_first (abs3 b % 8388608) (Nat.mod_lt _ (by decide))
  have hab : abs3 b < 2147483648 := Nat.mod_lt _ (by decide)
  obtain ⟨x, hx⟩ : ∃ x, x = abs3 b / 8388608 := ⟨_, rfl⟩
  obtain ⟨f, hf⟩ : ∃ f, f = abs3 b % 8388608 := ⟨_, rfl⟩
  have hm : m3 b = if x = 0 then f else f + 8388608 := by
    unfold m3
    by_cases h : abs3 b < 8388608
    · rw [if_pos h, if_pos (by omega)]; omega
    · rw [if_neg h, if_neg (by omega), hf]
  have he : e3 b = if x = 0 then -149 else (x : Int) - 150 := by
    unfold e3
    by_cases h : abs3 b < 8388608
    · rw [if_pos h, if_pos (by omega)]
    · rw [if_neg h, if_neg (by omega), hx]
  have hx2 : x < 256 := by omega
  have hf2 : f < 8388608 := by omega
  rw [← hx] at h1
  rw [← hf] at h2 h3
  rw [hm, he]
  clear hx hf hab hm he
  by_cases h0 : x = 0
  · rw [if_pos h0, if_pos h0]
    subst h0
    go_enter Tryz.func92, Tryz.ntmps92
    go_wp2
    go_ret2
    exact ⟨rfl, rfl⟩
  · rw [if_neg h0, if_neg h0]
    have h9 : ((x : Int) == 0) = false := by rw [Bool.eq_false_iff, Ne, beq_iff_eq]; omega
    clear h0
    go_enter Tryz.func92, Tryz.ntmps92
    go_wp2
    go_ret2
    exact ⟨rfl, rfl⟩
set_option maxRecDepth 100000 in
theorem d_widen (b : Nat) (hb : W32 b) (w : World) : Calls Tryz.prog 54 #[.int .u32 b] w fun e w' => e = .returned (.int .u64 (widB b : Nat)) ∧ w = w' := by
  unfold widB
  have hz := sgS_zero (sgn3 b)
  have hI : (((abs3 b : Nat) : Int) == 2139095040) = inf3 b := by unfold inf3; rw [Bool.eq_iff_iff, beq_iff_eq, decide_eq_true_eq]; omega
  cases n : nan3 b
  · rw [if_neg (by decide)]
    cases i : inf3 b
    · rw [if_neg (by decide)]
      rw [i] at hI
      have hm := (show W64 (m3 b) by unfold W64 m3 abs3; split <;> omega)
      obtain ⟨M, hM⟩ : ∃ M, M = m3 b := ⟨_, rfl⟩
      obtain ⟨E, hE⟩ : ∃ E, E = e3 b := ⟨_, rfl⟩
      have HS : Hid (∀ W, Calls Tryz.prog 92 #[.int .u32 b] W fun e w' => e = .returned (.tuple #[.int .u64 (M : Nat), .int .i64 E]) ∧ W = w') := fun W => by rw [hM, hE]; exact d_split b hb W
      rw [← hM] at hm
      rw [← hM, ← hE]
      clear hM hE
      cases s : sgn3 b
      all_goals
        rw [s] at hz
        go_enter Tryz.func54, Tryz.ntmps54
        go_wp2_with (first | (go_at_call 91; refine (d_isnan _ hb _).mono ?_; rintro e w' ⟨rfl, rfl⟩) | (go_at_call 92; refine (HS.out _).mono ?_; rintro e w' ⟨rfl, rfl⟩) | (go_at_call 117; refine (rjoin_any _ _ _ _ hm).mono ?_; rintro e w' ⟨rfl, rfl⟩))
        go_ret
        exact ⟨rfl, rfl⟩
    · rw [if_pos rfl]
      rw [i] at hI
      have b1 : Go.bits .or .u64 9223372036854775808 9218868437227405312 = 18442240474082181120 := by decide
      have b2 : Go.bits .or .u64 0 9218868437227405312 = 9218868437227405312 := by decide
      cases s : sgn3 b
      all_goals
        rw [s] at hz
        go_enter Tryz.func54, Tryz.ntmps54
        go_wp2_with (go_at_call 91; refine (d_isnan _ hb _).mono ?_; rintro e w' ⟨rfl, rfl⟩)
        go_ret
        exact ⟨rfl, rfl⟩
  · rw [if_pos rfl]
    go_enter Tryz.func54, Tryz.ntmps54
    go_wp2_with (go_at_call 91; refine (d_isnan _ hb _).mono ?_; rintro e w' ⟨rfl, rfl⟩)
    go_ret
    exact ⟨rfl, rfl⟩
theorem d_next (b : Nat) (hb : W32 b) (w : World) : Calls Tryz.prog 56 #[.int .u32 b] w fun e w' => e = .returned (.int .u32 (nxt3 b : Nat)) ∧ w = w' := by
  unfold nxt3
  have ho : one3 b = if nan3 b = true then 2143289344 else b := rfl
  cases n : nan3 b
  · rw [if_neg (by decide)]
    rw [n, if_neg (by decide)] at ho
    by_cases c1 : b = 2139095040
    · rw [if_pos c1]
      have c3 : ((b : Int) == 2139095040) = true := by rw [c1]; rfl
      clear c1
      go_enter Tryz.func56, Tryz.ntmps56
      go_wp2_with (first | (go_at_call 91; refine (d_isnan _ hb _).mono ?_; rintro e w' ⟨rfl, rfl⟩) | (go_at_call 53; refine (d_one _ hb _).mono ?_; rintro e w' ⟨rfl, rfl⟩))
      go_ret
      exact ⟨rfl, rfl⟩
    · rw [if_neg c1]
      have c3 : ((b : Int) == 2139095040) = false := by rw [Bool.eq_false_iff, Ne, beq_iff_eq]; omega
      clear c1 ho
      by_cases c2 : b = 2147483648
      · rw [if_pos c2]
        have c4 : ((b : Int) == 2147483648) = true := by rw [c2]; rfl
        clear c2
        go_enter Tryz.func56, Tryz.ntmps56
        go_wp2_with (go_at_call 91; refine (d_isnan _ hb _).mono ?_; rintro e w' ⟨rfl, rfl⟩)
        go_ret
        exact ⟨rfl, rfl⟩
      · rw [if_neg c2]
        have c4 : ((b : Int) == 2147483648) = false := by rw [Bool.eq_false_iff, Ne, beq_iff_eq]; omega
        cases hg : sgn3 b
        · have hz : (((sgS (sgn3 b) : Nat) : Int) != 0) = false := by rw [sgS_zero, hg]
          have hw : ((b : Int) + 1) % 4294967296 = ((b + 1 : Nat) : Int) := by
            unfold sgn3 at hg; simp at hg
            omega
          clear c2 hg
          go_enter Tryz.func56, Tryz.ntmps56
          go_wp2_with (go_at_call 91; refine (d_isnan _ hb _).mono ?_; rintro e w' ⟨rfl, rfl⟩)
          go_ret
          refine ⟨?_, rfl⟩
          rfl
        · have hz : (((sgS (sgn3 b) : Nat) : Int) != 0) = true := by rw [sgS_zero, hg]
          have hw : Hid (((b : Int) - 1) % 4294967296 = ((b - 1 : Nat) : Int)) := by
            show _ = _
            unfold sgn3 at hg; simp at hg; unfold W32 at hb
            omega
          clear c2 hg
          go_enter Tryz.func56, Tryz.ntmps56
          go_wp2_with (go_at_call 91; refine (d_isnan _ hb _).mono ?_; rintro e w' ⟨rfl, rfl⟩)
          go_ret
          refine ⟨?_, rfl⟩
          show Ending.returned (.int .u32 (((b : Int) - 1) % 4294967296)) = _
          rw [hw.out]
  · rw [if_pos rfl]
    rw [n, if_pos rfl] at ho
    go_enter Tryz.func56, Tryz.ntmps56
    go_wp2_with (first | (go_at_call 91; refine (d_isnan _ hb _).mono ?_; rintro e w' ⟨rfl, rfl⟩) | (go_at_call 53; refine (d_one _ hb _).mono ?_; rintro e w' ⟨rfl, rfl⟩))
    go_ret
    exact ⟨rfl, rfl⟩
end Go.Proofs.YtgfbcncjboenbaaGreatDoor

/- Walks: single's away, Narrow; the document's away. -/
namespace Go.Proofs.YtgfbcncjboenbaaGreatDoor
open Go.RowKit
open Go.Lib hiding intOf

theorem num_rat (M : Nat) (E f : Int) : (numG M E).Q f = (ratMag M 1 E).Q f ∧ (numG M E).H f = (ratMag M 1 E).H f ∧ (numG M E).Z f = (ratMag M 1 E).Z f := by
  have hx : ∀ f, toN (M * 2 ^ E.toNat) 0 f * toD 1 E f = toN M E f * toD (2 ^ (-E).toNat) 0 f := by
    intro f
    unfold toN toD
    have e1 : 2 ^ E.toNat * 2 ^ (0 - f).toNat * 2 ^ (f - E).toNat = 2 ^ (E - f).toNat * 2 ^ (-E).toNat * 2 ^ (f - 0).toNat := by
      rw [← Nat.pow_add, ← Nat.pow_add, ← Nat.pow_add, ← Nat.pow_add]; congr 1; omega
    calc M * 2 ^ E.toNat * 2 ^ (0 - f).toNat * (1 * 2 ^ (f - E).toNat) = M * (2 ^ E.toNat * 2 ^ (0 - f).toNat * 2 ^ (f - E).toNat) := by rw [Nat.one_mul]; ac_rfl
      _ = M * 2 ^ (E - f).toNat * (2 ^ (-E).toNat * 2 ^ (f - 0).toNat) := by rw [e1]; ac_rfl
  have h1 : LeM (numG M E) (ratMag M 1 E) := fun e => by
    obtain ⟨a1, a2⟩ := cut_le (toD_pos (Nat.two_pow_pos (-E).toNat) 0 e) (toD_pos (by decide : 0 < 1) E e) (Nat.le_of_eq (hx e))
    refine ⟨a1, fun he => ?_⟩
    obtain ⟨a3, a4⟩ := a2 he
    exact ⟨a3, fun hz => decide_eq_true (a4 (of_decide_eq_true hz))⟩
  have h2 : LeM (ratMag M 1 E) (numG M E) := fun e => by
    obtain ⟨a1, a2⟩ := cut_le (toD_pos (by decide : 0 < 1) E e) (toD_pos (Nat.two_pow_pos (-E).toNat) 0 e) (Nat.le_of_eq (hx e).symm)
    refine ⟨a1, fun he => ?_⟩
    obtain ⟨a3, a4⟩ := a2 he
    exact ⟨a3, fun hz => decide_eq_true (a4 (of_decide_eq_true hz))⟩
  exact h1.antisymm h2 f
/-- What Narrow rounds to. -/
def narO (b : Nat) (m : Int) : Out := outG 24 (-149) 104 (sgnB b) m (numG (spM b) (spE b))
def narA (b : Nat) (m : Int) : RA :=
  if ¬ (1 ≤ m ∧ m ≤ 6) then RA.no 1 else if nanB b = true then ⟨2143289344, false, false, false, 0⟩ else if infB b = true then ⟨sgS (sgnB b) + 2139095040, false, false, false, 0⟩
  else if zeroB b = true then ⟨sgS (sgnB b), false, false, false, 0⟩ else ⟨bits32 (sgnB b) (narO b m), (narO b m).ine, (narO b m).ov, (narO b m).un, 0⟩
theorem kind_B (b : Nat) : (nanB b = true ∧ infB b = false ∧ zeroB b = false) ∨ (infB b = true ∧ nanB b = false ∧ zeroB b = false) ∨ (zeroB b = true ∧ nanB b = false ∧ infB b = false ∧ finB b = true ∧ absB b = 0) ∨ (nanB b = false ∧ infB b = false ∧ zeroB b = false ∧ finB b = true ∧ absB b ≠ 0) := by
  unfold nanB infB zeroB finB
  generalize absB b = r
  by_cases h1 : 9218868437227405312 < r
  · refine .inl ⟨?_, ?_, ?_⟩ <;> simp <;> omega
  · by_cases h2 : r = 9218868437227405312
    · refine .inr (.inl ⟨?_, ?_, ?_⟩) <;> simp <;> omega
    · by_cases h3 : r = 0
      · refine .inr (.inr (.inl ⟨?_, ?_, ?_, ?_, h3⟩)) <;> simp <;> omega
      · refine .inr (.inr (.inr ⟨?_, ?_, ?_, ?_, h3⟩)) <;> simp <;> omega
/-- A finite number as its magnitude. -/
theorem canon_of {b : Nat} (hb : W64 b) (fb : finB b = true) : ∃ m e, Canon m e ∧ b = sgW (sgnB b) + rungN m e ∧ absB b = rungN m e ∧ (∀ f, (numG m e).Q f = (numG (spM b) (spE b)).Q f ∧ (numG m e).H f = (numG (spM b) (spE b)).H f ∧ (numG m e).Z f = (numG (spM b) (spE b)).Z f) ∧ (absB b ≠ 0 → m ≠ 0) := by
  obtain ⟨m, e, hc, hr⟩ := fin_form (finA_lt fb)
  refine ⟨m, e, hc, ?_, hr, ?_, ?_⟩
  · rw [← hr]; exact split_B b hb
  · have h1 := sp_val b fb
    rw [hr, hc.rv] at h1
    exact num_same hc.2.1 (sp_bd b).1 h1
  · intro h h0
    apply h
    rw [hr]
    have := hc.2.2.2
    unfold rungN
    rw [h0] at this ⊢
    rcases this with h | h
    · rw [h]; rfl
    · omega
theorem nar_dec {b : Nat} (hb : W64 b) (fb : finB b = true) (h0 : absB b ≠ 0) {m : Int} (hm : 1 ≤ m ∧ m ≤ 6) : to32A (ofD b) m = narA b m := by
  obtain ⟨M, e, hc, hbe, -, hq, hM⟩ := canon_of hb fb
  obtain ⟨k1, k2, k3⟩ := of_some (sgnB b) hc (hM h0)
  have hmag := of_mag (sgnB b) hc
  rw [← hbe] at k1 k2 k3 hmag
  have n : nanB b = false ∧ infB b = false ∧ zeroB b = false := by
    rcases kind_B b with ⟨h1, h2, h3⟩ | ⟨h1, h2, h3⟩ | ⟨h1, h2, h3, h4, h5⟩ | ⟨h1, h2, h3, h4, h5⟩
    · rw [fin_nan fb] at h1; cases h1
    · have := finA_lt fb; have := of_decide_eq_true h1; omega
    · exact absurd h5 h0
    · exact ⟨h1, h2, h3⟩
  unfold to32A narA
  rw [if_neg (fun h => h ⟨k1, hm⟩), if_neg k2, if_neg (fun h => h hm), n.1, n.2.1, n.2.2, if_neg (by decide), if_neg (by decide), if_neg (by decide), k3]
  unfold narO
  rw [out_same hmag, out_same hq]
theorem nar_inf {b : Nat} (hb : W64 b) (h1 : infB b = true) : Go.floatToFloatBits .f64 b .f32 = some (sgS (sgnB b) + 2139095040) := by
  unfold Go.floatToFloatBits
  rw [if_neg (by decide)]
  show (match Ieee.double.read b with | .nan _ _ => none | .infinity s => some (Ieee.single.write (.infinity s)) | .number s m e => if (Ieee.single.read (Ieee.single.write (.number s m e))).isInfinity then none else some (Ieee.single.write (.number s m e))) = _
  rw [read_inf Ieee.double D_ok b (by rw [rg_D, D_inf]; exact of_decide_eq_true h1), sgn_D b hb]
  dsimp only
  rw [wr_inf]
theorem nar_zero {b : Nat} (hb : W64 b) (h1 : finB b = true) (h2 : absB b = 0) : Go.floatToFloatBits .f64 b .f32 = some (sgS (sgnB b)) :=
  conv_rung (r := 0) hb h1 (by decide) (by rw [h2, rv_zero, rv_zero, Nat.zero_mul])
theorem ofD_len {b : Nat} (h : finB b = true) : (ofD b).s.length ≤ 9223372036854775807 := by
  have := ok_len (of_rep (of_room h)).1.ok
  omega

set_option maxRecDepth 100000 in
theorem s_away (m : Int) (neg odd : Bool) (h : Int) (w : World) : Calls Tryz.prog 104 #[.int .i64 m, .bool neg, .bool odd, .int .i64 h] w fun e w' => e = .returned (.bool (upW m neg odd h)) ∧ w = w' := by
  have hu : upW m neg odd h = if m = 1 then (if h = 0 then odd else decide (0 ≤ h)) else if m = 2 then decide (0 ≤ h) else if m = 3 then !neg else if m = 4 then neg else if m = 6 then !odd else false := by
    unfold upW
    by_cases h1 : m = 1
    · rw [if_pos h1, if_pos h1]
      by_cases h2 : h = 0
      · rw [if_pos h2, decide_eq_true h2, decide_eq_false (by omega)]; cases odd <;> rfl
      · rw [if_neg h2, decide_eq_false h2]
        rw [Bool.false_and, Bool.or_false, decide_eq_decide]; omega
    · rw [if_neg h1, if_neg h1]
  rw [hu]
  clear hu
  by_cases h1 : m = 1
  · subst h1
    rw [if_pos rfl]
    by_cases h2 : h = 0
    · subst h2
      rw [if_pos rfl]
      go_enter Tryz.func104, Tryz.ntmps104
      go_wp2
      go_ret
      exact ⟨rfl, rfl⟩
    · rw [if_neg h2]
      have h3 : (h == 0) = false := by rw [Bool.eq_false_iff, Ne, beq_iff_eq]; exact h2
      clear h2
      go_enter Tryz.func104, Tryz.ntmps104
      go_wp2
      go_ret
      exact ⟨rfl, rfl⟩
  · rw [if_neg h1]
    have q1 : (m == 1) = false := by rw [Bool.eq_false_iff, Ne, beq_iff_eq]; exact h1
    clear h1
    by_cases h1 : m = 2
    · subst h1
      rw [if_pos rfl]
      go_enter Tryz.func104, Tryz.ntmps104
      go_wp2
      go_ret
      exact ⟨rfl, rfl⟩
    · rw [if_neg h1]
      have q2 : (m == 2) = false := by rw [Bool.eq_false_iff, Ne, beq_iff_eq]; exact h1
      clear h1
      by_cases h1 : m = 3
      · subst h1
        rw [if_pos rfl]
        go_enter Tryz.func104, Tryz.ntmps104
        go_wp2
        go_ret
        exact ⟨rfl, rfl⟩
      · rw [if_neg h1]
        have q3 : (m == 3) = false := by rw [Bool.eq_false_iff, Ne, beq_iff_eq]; exact h1
        clear h1
        by_cases h1 : m = 4
        · subst h1
          rw [if_pos rfl]
          go_enter Tryz.func104, Tryz.ntmps104
          go_wp2
          go_ret
          exact ⟨rfl, rfl⟩
        · rw [if_neg h1]
          have q4 : (m == 4) = false := by rw [Bool.eq_false_iff, Ne, beq_iff_eq]; exact h1
          clear h1
          by_cases h1 : m = 6
          · subst h1
            rw [if_pos rfl]
            go_enter Tryz.func104, Tryz.ntmps104
            go_wp2
            go_ret
            exact ⟨rfl, rfl⟩
          · rw [if_neg h1]
            have q6 : (m == 6) = false := by rw [Bool.eq_false_iff, Ne, beq_iff_eq]; exact h1
            clear h1
            go_enter Tryz.func104, Tryz.ntmps104
            go_wp2
            go_ret
            exact ⟨rfl, rfl⟩
set_option maxHeartbeats 4000000 in
set_option maxRecDepth 100000 in
theorem s_narrow {b : Nat} (hb : W64 b) (m : Int) (w : World) (htab : Tab w) : Calls Tryz.prog 18 #[.float .f64 b, .int .i64 m] w (Ratio32Q (narA b m) w) := by
  have HR0 : Hid (∀ W, Below w.heap.size w W → W.heap[w.heap.size]? = none → True) := fun _ _ _ => trivial
  obtain ⟨w1, hw1⟩ : ∃ W, W = w.alloc (.cells #[.bool false, .bool false, .bool false] 35) := ⟨_, rfl⟩
  have hb1 : Below w.heap.size w w1 := by rw [hw1]; exact (Below.refl _ _).alloc (Nat.le_refl _) _
  have q1 : w1.heap[w.heap.size]? = some (.cells #[.bool false, .bool false, .bool false] 35 (0, 0)) := by rw [hw1]; exact new_blk w _
  have HX : Hid (∀ W, Below w1.heap.size w1 W → W.heap[w.heap.size]? = some (.cells #[.bool false, .bool false, .bool false] 35 (0, 0)) ∧ Below w.heap.size w W) := fun W hW => ⟨hW.blk q1 (blk_lt q1), hb1.trans (hW.mono hb1.size)⟩
  have HSZ : Hid (w.heap.size < w1.heap.size) := blk_lt q1
  have HRI : Hid (∀ W, Calls Tryz.prog 73 #[.int .i64 m] W fun e w' => e = .returned (.bool (decide (1 ≤ m ∧ m ≤ 6))) ∧ W = w') := fun W => s_right m W
  obtain ⟨p, hp⟩ : ∃ p, p = decide (1 ≤ m ∧ m ≤ 6) := ⟨_, rfl⟩
  rw [← hp] at HRI
  obtain ⟨R, hR⟩ : ∃ R, R = narA b m := ⟨_, rfl⟩
  rw [← hR]
  obtain ⟨f0, c0, f1, c1, f2, c2, r3⟩ := rw3 (HX.out w1 (Below.refl _ _)).1
  have HR3 : Hid _ := r3
  have HBW : Hid (Below w.heap.size w w1) := hb1
  have HTB : Hid (Tab w) := htab
  clear hb1 q1 r3 htab HR0
  cases p
  · have HRN : Hid (R = ⟨0, false, false, false, 1⟩) := by
      show _ = _
      rw [hR]; unfold narA; rw [if_pos (by have := of_decide_eq_false hp.symm; exact this)]; rfl
    clear hR hp
    go_enter Tryz.func18, Tryz.ntmps18
    go_upto_region 1 with fail
    rw [← hw1]
    clear hw1
    go_wp2_with (refine (HRI.out _).mono ?_; rintro e w' ⟨rfl, rfl⟩)
    exact ratio32_end (p := 4) (u := 5) (q := 6) rfl rfl rfl rfl (HR3.out _ _ _) (below_row3 HBW.out (Nat.le_refl _) _ _ _) HRN.out
  · have hm : 1 ≤ m ∧ m ≤ 6 := of_decide_eq_true hp.symm
    have HCL : Hid (∀ W, Calls Tryz.prog 22 #[.float .f64 b] W fun e w' => e = .returned (.int .i64 (clsB b)) ∧ W = w') := fun W => class_any b W hb
    rcases kind_B b with ⟨h1, h2, h3⟩ | ⟨h1, h2, h3⟩ | ⟨h1, h2, h3, h4, h5⟩ | ⟨h1, h2, h3, h4, h5⟩
    · have HRN : Hid (R = ⟨2143289344, false, false, false, 0⟩) := by
        show _ = _
        rw [hR]; unfold narA; rw [if_neg (fun h => h hm), if_pos h1]
      have hc : clsB b = 1 := by unfold clsB; rw [if_pos h1]
      rw [hc] at HCL
      clear hR hp hc h1 h2 h3
      go_enter Tryz.func18, Tryz.ntmps18
      go_upto_region 1 with fail
      rw [← hw1]
      clear hw1
      go_wp2_with (first | (go_at_call 73; refine (HRI.out _).mono ?_; rintro e w' ⟨rfl, rfl⟩) | (go_at_call 22; refine (HCL.out _).mono ?_; rintro e w' ⟨rfl, rfl⟩) | (go_at_call 52; refine (s_nan _).mono ?_; rintro e w' ⟨rfl, rfl⟩))
      exact ratio32_end (p := 4) (u := 5) (q := 6) rfl rfl rfl rfl (HR3.out _ _ _) (below_row3 HBW.out (Nat.le_refl _) _ _ _) HRN.out
    · have HRN : Hid (R = ⟨sgS (sgnB b) + 2139095040, false, false, false, 0⟩) := by
        show _ = _
        rw [hR]; unfold narA; rw [if_neg (fun h => h hm), h2, if_neg (by decide), if_pos h1]
      have hc : clsB b = 2 := by unfold clsB; rw [h2, if_neg (by decide), if_pos h1]
      have k := run_nar (nar_inf hb h1) w1
      rw [hc] at HCL
      clear hR hp hc h1 h2 h3
      go_enter Tryz.func18, Tryz.ntmps18
      go_upto_region 1 with fail
      rw [← hw1]
      clear hw1
      go_wp2_with (first | (go_at_call 73; refine (HRI.out _).mono ?_; rintro e w' ⟨rfl, rfl⟩) | (go_at_call 22; refine (HCL.out _).mono ?_; rintro e w' ⟨rfl, rfl⟩))
      exact ratio32_end (p := 4) (u := 5) (q := 6) rfl rfl rfl rfl (HR3.out _ _ _) (below_row3 HBW.out (Nat.le_refl _) _ _ _) HRN.out
    · have HRN : Hid (R = ⟨sgS (sgnB b), false, false, false, 0⟩) := by
        show _ = _
        rw [hR]; unfold narA; rw [if_neg (fun h => h hm), h2, if_neg (by decide), h3, if_neg (by decide), if_pos h1]
      have hc : clsB b = 3 := by unfold clsB; rw [h2, if_neg (by decide), h3, if_neg (by decide), if_pos h1]
      have k := run_nar (nar_zero hb h4 h5) w1
      rw [hc] at HCL
      clear hR hp hc h1 h2 h3 h4 h5
      go_enter Tryz.func18, Tryz.ntmps18
      go_upto_region 1 with fail
      rw [← hw1]
      clear hw1
      go_wp2_with (first | (go_at_call 73; refine (HRI.out _).mono ?_; rintro e w' ⟨rfl, rfl⟩) | (go_at_call 22; refine (HCL.out _).mono ?_; rintro e w' ⟨rfl, rfl⟩))
      exact ratio32_end (p := 4) (u := 5) (q := 6) rfl rfl rfl rfl (HR3.out _ _ _) (below_row3 HBW.out (Nat.le_refl _) _ _ _) HRN.out
    · have HRN : Hid (R = to32A (ofD b) m) := by
        show _ = _
        rw [hR, nar_dec hb h4 h5 hm]
      have hc : clsB b = 4 ∨ clsB b = 5 := by
        unfold clsB; rw [h1, h2, h3]; cases lowB b <;> simp
      have hX := of_room h4
      have HOF : Hid (∀ W, Below w.heap.size w W → Calls Tryz.prog 62 #[.float .f64 b] W fun e w' => e = .returned (.tuple #[.agg #[.bool (ofD b).neg, .string (bs (ofD b).s), .int .i64 (ofD b).e], .int .i64 0]) ∧ Below W.heap.size W w') := fun W hW => by rw [← hX]; exact of_v b hb W (HTB.out.below hW)
      have HT3 : Hid (∀ W, Below w.heap.size w W → Calls Tryz.prog 27 #[.agg #[.bool (ofD b).neg, .string (bs (ofD b).s), .int .i64 (ofD b).e], .int .i64 m] W (Ratio32Q R W)) := fun W hW => by
        rw [HRN.out]; exact to32_v (ofD b) m W (HTB.out.below hW) (ofD_len h4)
      clear hR hp h1 h2 h3 h4 h5 hX hm
      rcases hc with hc | hc <;> rw [hc] at HCL <;> clear hc
      all_goals
       go_enter Tryz.func18, Tryz.ntmps18
       go_upto_region 1 with fail
       rw [← hw1]
       clear hw1
       go_wp2_with (first | (go_at_call 73; refine (HRI.out _).mono ?_; rintro e w' ⟨rfl, rfl⟩) | (go_at_call 22; refine (HCL.out _).mono ?_; rintro e w' ⟨rfl, rfl⟩))
       refine (HOF.out _ (HX.out _ (Below.refl _ _)).2).mono ?_
       rintro e w2 ⟨rfl, hb2⟩
       have HB2 : Hid (Below w1.heap.size w1 w2) := hb2
       clear hb2 HOF
       go_upto_region 12 with fail
       obtain ⟨w3, hw3⟩ : ∃ W, W = w2.alloc (.cells #[.bool (ofD b).neg, .string (bs (ofD b).s), .int .i64 (ofD b).e] 47) := ⟨_, rfl⟩
       have hb3 : Below w1.heap.size w1 w3 := by rw [hw3]; exact HB2.out.alloc HB2.out.size _
       have q3 : w3.heap[w2.heap.size]? = some (.cells #[.bool (ofD b).neg, .string (bs (ofD b).s), .int .i64 (ofD b).e] 47 (0, 0)) := by rw [hw3]; exact new_blk w2 _
       have ka0 := cell_of_row w3 w2.heap.size 0 _ _ _ q3
       have ka1 := cell_of_row w3 w2.heap.size 1 _ _ _ q3
       have ka2 := cell_of_row w3 w2.heap.size 2 _ _ _ q3
       have HB3 : Hid (Below w1.heap.size w1 w3) := hb3
       rw [← hw3]
       clear hw3 hb3 q3 HB2 HR3 HBW f0 c0 f1 c1 f2 c2
       go_wp2_with fail
       refine (HT3.out _ (HX.out _ HB3.out).2).mono ?_
       rintro e w4 ⟨rfl, hb4⟩
       have HB4 : Hid (Below w1.heap.size w1 w4) := HB3.out.thru hb4
       obtain ⟨f0, c0, f1, c1, f2, c2, r3⟩ := rw3 (HX.out w4 HB4.out).1
       have HR3 : Hid _ := r3
       clear ka0 ka1 ka2 hb4 HB3 r3
       go_wp2
       exact ratio32_end (p := 4) (u := 5) (q := 6) rfl rfl rfl rfl (HR3.out _ _ _) (below_row3 (HX.out _ HB4.out).2 (Nat.le_refl _) _ _ _) rfl
end Go.Proofs.YtgfbcncjboenbaaGreatDoor

/- Walks: the document's even, Add, Mul of singles. -/
namespace Go.Proofs.YtgfbcncjboenbaaGreatDoor
open Go.RowKit
open Go.Lib hiding intOf

set_option maxHeartbeats 2000000 in
set_option maxRecDepth 100000 in
theorem d_even (neg : Bool) (v : Value) (M : Nat) (E : Int) (w : World) (h : Num .u32 4294967296 w v M) {bb : Nat} (hM : M < 2 ^ bb) (hbb1 : 1 ≤ bb) (hbb : bb ≤ 200000) (hE1 : -200000 ≤ E) (hE2 : E ≤ 200000) (hM0 : 0 < M) :
    Calls Tryz.prog 96 #[.bool neg, v, .int .i64 E] w fun e w' => e = .returned (.int .u32 (evenS neg M E : Nat)) ∧ Below w.heap.size w w' := by
  obtain ⟨a, m, c, rfl⟩ := h.shape
  obtain ⟨o, ho⟩ : ∃ o, o = outG 24 (-149) 104 neg 1 (ratMag M 1 E) := ⟨_, rfl⟩
  have hes : evenS neg M E = bits32 neg o := by rw [ho]; rfl
  rw [hes]
  obtain ⟨BB, hBB⟩ : ∃ x, x = bits32 neg o := ⟨_, rfl⟩
  rw [← hBB]
  have HO1 : Hid (∀ W, Below w.heap.size w W → Calls Tryz.prog 94 #[.int .u64 1] W (NatQ 1 W)) := fun W _ => of_any 1 W (by decide)
  have HTO : Hid (∀ W s, Below w.heap.size w W → Num .u32 4294967296 W s 1 → Calls Tryz.prog 119 #[.agg #[.bool neg, .slice a m c, s, .int .i64 E, .bool false], .agg #[.int .i64 24, .int .i64 (-149), .int .i64 127], .int .i64 1] W (FlQ neg o W)) := fun W s hW hs => by
    rw [ho]
    exact to24_rat 1 (by decide) neg _ M 1 E W ⟨_, _, rfl, h.below (Nat.le_refl _) hW, hs⟩ hM (show 1 < 2 ^ bb by exact Nat.one_lt_two_pow (by omega)) hbb hE1 hE2 hM0 (by decide)
  have HBT : Hid (∀ W, Calls Tryz.prog 114 #[.agg #[.bool neg, .bool o.inf, .int .u64 (o.m : Nat), .int .i64 o.e]] W fun e w' => e = .returned (.int .u32 (BB : Nat)) ∧ Below W.heap.size W w') := fun W => by
    rw [hBB, ho]; exact bits32_out neg 1 _ (ratMag_ok (by decide)) W
  clear h hM hbb1 hbb hE1 hE2 hM0 ho hes hBB
  go_enter Tryz.func96, Tryz.ntmps96
  go_wp2_with fail
  refine (HO1.out _ (Below.refl _ _)).mono ?_
  rintro e w1 ⟨v1, rfl, hn1, hb1⟩
  obtain ⟨a1, m1, c1, rfl⟩ := Num.shape hn1
  have HB1 : Hid (Below w.heap.size w w1) := hb1
  have HN1 : Hid _ := hn1
  clear hb1 hn1
  go_wp2_with fail
  refine (thirty_any _).mono ?_
  rintro e w2 ⟨rfl, hb2⟩
  have HB2 : Hid (Below w.heap.size w w2) := HB1.out.thru hb2
  have HN2 : Hid _ := Num.below HN1.out (Nat.le_refl _) hb2
  clear hb2 HN1 HB1
  go_wp2_with fail
  refine (HTO.out _ _ HB2.out HN2.out).mono ?_
  rintro e w3 ⟨rfl, hb3⟩
  have HB3 : Hid (Below w.heap.size w w3) := HB2.out.thru hb3
  clear hb3 HN2 HB2
  go_upto_region 2 with fail
  obtain ⟨w4, hw4⟩ : ∃ W, W = (w3.alloc (.cells #[.bool neg, .bool o.inf, .int .u64 (o.m : Nat), .int .i64 o.e] 160)).alloc (.cells #[.bool o.ine, .bool o.ov, .bool o.un] 35) := ⟨_, rfl⟩
  have hb4 : Below w.heap.size w w4 := by rw [hw4]; exact (HB3.out.alloc HB3.out.size _).alloc (by have := HB3.out.size; simp; omega) _
  have q0 : w4.heap[w3.heap.size]? = some (.cells #[.bool neg, .bool o.inf, .int .u64 (o.m : Nat), .int .i64 o.e] 160 (0, 0)) := by rw [hw4]; exact heap_alloc2_old w3 _ _
  have k0 := cell_of_row w4 w3.heap.size 0 _ _ _ q0
  have k1 := cell_of_row w4 w3.heap.size 1 _ _ _ q0
  have k2 := cell_of_row w4 w3.heap.size 2 _ _ _ q0
  have k3 := cell_of_row w4 w3.heap.size 3 _ _ _ q0
  have HB4 : Hid (Below w.heap.size w w4) := hb4
  rw [← hw4]
  clear hw4 hb4 q0
  go_wp2_with fail
  refine (HBT.out _).mono ?_
  rintro e w5 ⟨rfl, hb5⟩
  clear k0 k1 k2 k3
  go_wp2
  go_ret
  exact ⟨rfl, HB4.out.thru hb5⟩
theorem m3_lt (b : Nat) : m3 b < 16777216 := by unfold m3 abs3; split <;> omega
theorem e3_bd {b : Nat} (_ : W32 b) : -149 ≤ e3 b ∧ e3 b ≤ 105 := by unfold e3 abs3; split <;> omega
theorem sgn3_bit {x : Nat} (h : W32 x) : sgn3 x = x.testBit 31 := by
  rw [Nat.testBit_eq_decide_div_mod_eq]
  unfold sgn3 W32 at *
  rw [decide_eq_decide]; omega
theorem w3_xor_sign {a b : Nat} (ha : W32 a) (hb : W32 b) : Go.bits .and .u32 (Go.bits .xor .u32 (a : Int) (b : Int)) 2147483648 = ((sgS (sgn3 a != sgn3 b) : Nat) : Int) := by
  have hx : W32 (a ^^^ b) := Nat.xor_lt_two_pow (n := 32) ha hb
  rw [Go.u32_xor_nat a b ha hb, w3_and_sign _ hx, sgn3_bit hx, sgn3_bit ha, sgn3_bit hb, Nat.testBit_xor]
theorem w3_or_inf (s : Bool) : Go.bits .or .u32 ((sgS s : Nat) : Int) 2139095040 = ((sgS s + 2139095040 : Nat) : Int) := by cases s <;> decide
theorem abs3_inf (a : Nat) : (((abs3 a : Nat) : Int) == 2139095040) = inf3 a := by unfold inf3; rw [Bool.eq_iff_iff, beq_iff_eq, decide_eq_true_eq]; omega
theorem abs3_zero (a : Nat) : (((abs3 a : Nat) : Int) == 0) = zer3 a := by unfold zer3; rw [Bool.eq_iff_iff, beq_iff_eq, decide_eq_true_eq]; omega
theorem kind4 (b : Nat) : (nan3 b = true ∧ inf3 b = false ∧ zer3 b = false) ∨ (inf3 b = true ∧ nan3 b = false ∧ zer3 b = false) ∨ (zer3 b = true ∧ nan3 b = false ∧ inf3 b = false) ∨ (nan3 b = false ∧ inf3 b = false ∧ zer3 b = false) := by
  unfold nan3 inf3 zer3
  generalize abs3 b = r
  by_cases h1 : 2139095040 < r
  · refine .inl ⟨?_, ?_, ?_⟩ <;> simp <;> omega
  · by_cases h2 : r = 2139095040
    · refine .inr (.inl ⟨?_, ?_, ?_⟩) <;> simp <;> omega
    · by_cases h3 : r = 0
      · refine .inr (.inr (.inl ⟨?_, ?_, ?_⟩)) <;> simp <;> omega
      · refine .inr (.inr (.inr ⟨?_, ?_, ?_⟩)) <;> simp <;> omega
theorem m3_pos {b : Nat} (h : zer3 b = false) : 0 < m3 b := by
  have := of_decide_eq_false h
  unfold m3; split <;> omega
set_option linter.unusedSimpArgs false in
set_option maxHeartbeats 4000000 in
set_option maxRecDepth 100000 in
theorem d_mul {a b : Nat} (ha : W32 a) (hb : W32 b) (w : World) : Calls Tryz.prog 34 #[.int .u32 a, .int .u32 b] w fun e w' => e = .returned (.int .u32 (mulF a b : Nat)) ∧ Below w.heap.size w w' := by
  have HN1 : Hid (∀ W, Calls Tryz.prog 91 #[.int .u32 a] W fun e w' => e = .returned (.bool (nan3 a)) ∧ W = w') := fun W => d_isnan a ha W
  have HN2 : Hid (∀ W, Calls Tryz.prog 91 #[.int .u32 b] W fun e w' => e = .returned (.bool (nan3 b)) ∧ W = w') := fun W => d_isnan b hb W
  have hF : mulF a b = if (nan3 a || nan3 b || (inf3 a && zer3 b) || (zer3 a && inf3 b)) = true then 2143289344 else if (inf3 a || inf3 b) = true then sgS (sgn3 a != sgn3 b) + 2139095040 else if (zer3 a || zer3 b) = true then sgS (sgn3 a != sgn3 b) else mulP a b := rfl
  have x1 := w3_xor_sign ha hb
  have ia := abs3_inf a
  have ib := abs3_inf b
  have za := abs3_zero a
  have zb := abs3_zero b
  obtain ⟨s, hs⟩ : ∃ s, s = (sgn3 a != sgn3 b) := ⟨_, rfl⟩
  have x2 := w3_or_inf s
  have x3 := sgS_zero s
  rw [← hs] at hF x1
  have hk1 := kind4 a
  have hk2 := kind4 b
  have hq : nan3 a = false → inf3 a = false → zer3 a = false → nan3 b = false → inf3 b = false → zer3 b = false → Calls Tryz.prog 34 #[.int .u32 a, .int .u32 b] w fun e w' => e = .returned (.int .u32 (mulP a b : Nat)) ∧ Below w.heap.size w w' := by
    intro n1 i1 z1 n2 i2 z2
    rw [n1] at HN1
    rw [n2] at HN2
    rw [i1] at ia
    rw [i2] at ib
    rw [z1] at za
    rw [z2] at zb
    have p1 := m3_pos z1
    have p2 := m3_pos z2
    have b1 := m3_lt a
    have b2 := m3_lt b
    have b3 := e3_bd ha
    have b4 := e3_bd hb
    obtain ⟨r, hr⟩ : ∃ r, r = mulP a b := ⟨_, rfl⟩
    have HR : Hid (r = evenS s (m3 a * m3 b) (e3 a + e3 b)) := by show _ = _; rw [hr, hs]; rfl
    have HS1 : Hid (∀ W, Calls Tryz.prog 92 #[.int .u32 a] W fun e w' => e = .returned (.tuple #[.int .u64 (m3 a : Nat), .int .i64 (e3 a)]) ∧ W = w') := fun W => d_split a ha W
    have HS2 : Hid (∀ W, Calls Tryz.prog 92 #[.int .u32 b] W fun e w' => e = .returned (.tuple #[.int .u64 (m3 b : Nat), .int .i64 (e3 b)]) ∧ W = w') := fun W => d_split b hb W
    rw [← hr]
    generalize m3 a = M at *
    generalize m3 b = N at *
    generalize e3 a = E at *
    generalize e3 b = F at *
    have HO1 : Hid (∀ W, Calls Tryz.prog 94 #[.int .u64 (M : Nat)] W (NatQ M W)) := fun W => of_any M W (by omega)
    have HO2 : Hid (∀ W, Calls Tryz.prog 94 #[.int .u64 (N : Nat)] W (NatQ N W)) := fun W => of_any N W (by omega)
    have hm : M * N < 2 ^ 48 := by
      have := Nat.mul_lt_mul'' b1 b2
      omega
    have hp : 0 < M * N := Nat.mul_pos p1 p2
    have HEV : Hid (∀ W v, Num .u32 4294967296 W v (M * N) → Calls Tryz.prog 96 #[.bool s, v, .int .i64 (E + F)] W fun e w' => e = .returned (.int .u32 (r : Nat)) ∧ Below W.heap.size W w') := fun W v hv => by
      rw [HR.out]; exact d_even s v _ _ W hv hm (by decide) (by decide) (by omega) (by omega) hp
    have HB12 : Hid (M < 2 ^ 24 ∧ N < 2 ^ 24) := ⟨by omega, by omega⟩
    have iw : IntKind.i64.wrap (E + F) = E + F := IntWalk.i64_in _ (by omega)
    clear hF n1 i1 z1 n2 i2 z2 x2 hk1 hk2 hs hr p1 p2 b1 b2 b3 b4 hm hp
    go_enter Tryz.func34, Tryz.ntmps34
    go_wp2_with (first | (go_at_call 91; first | (with_reducible refine (HN1.out _).mono ?_; rintro e w' ⟨rfl, rfl⟩) | (with_reducible refine (HN2.out _).mono ?_; rintro e w' ⟨rfl, rfl⟩)) | (go_at_call 92; first | (with_reducible refine (HS1.out _).mono ?_; rintro e w' ⟨rfl, rfl⟩) | (with_reducible refine (HS2.out _).mono ?_; rintro e w' ⟨rfl, rfl⟩)))
    refine (HO1.out _).mono ?_
    rintro e w1 ⟨v1, rfl, hn1, hb1⟩
    obtain ⟨a1, m1, c1, rfl⟩ := Num.shape hn1
    have HB1 : Hid (Below w.heap.size w w1) := hb1
    have HM1 : Hid _ := hn1
    clear hb1 hn1
    go_wp2_with fail
    refine (HO2.out _).mono ?_
    rintro e w2 ⟨v2, rfl, hn2, hb2⟩
    obtain ⟨a2, m2, c2, rfl⟩ := Num.shape hn2
    have HB2 : Hid (Below w.heap.size w w2) := HB1.out.thru hb2
    have HM1' : Hid _ := Num.below HM1.out (Nat.le_refl _) hb2
    have HM2 : Hid _ := hn2
    clear hb2 hn2 HM1 HB1
    go_wp2_with fail
    refine (nmul_any _ _ M N w2 HM1'.out HM2.out HB12.out.1 HB12.out.2 (by decide)).mono ?_
    rintro e w3 ⟨v3, rfl, hn3, hb3⟩
    obtain ⟨a3, m3', c3, rfl⟩ := Num.shape hn3
    have HB3 : Hid (Below w.heap.size w w3) := HB2.out.thru hb3
    have HM3 : Hid _ := hn3
    clear hb3 hn3 HM1' HM2 HB2
    go_wp2_with fail
    refine (HEV.out _ _ HM3.out).mono ?_
    rintro e w4 ⟨rfl, hb4⟩
    go_wp2
    go_ret
    exact ⟨rfl, HB3.out.thru hb4⟩
  rcases hk1 with ⟨n1, i1, z1⟩ | ⟨i1, n1, z1⟩ | ⟨z1, n1, i1⟩ | ⟨n1, i1, z1⟩ <;> rcases hk2 with ⟨n2, i2, z2⟩ | ⟨i2, n2, z2⟩ | ⟨z2, n2, i2⟩ | ⟨n2, i2, z2⟩
  case inr.inr.inr.inr.inr.inr =>
    have : mulF a b = mulP a b := by rw [hF, n1, n2, i1, i2, z1, z2]; rfl
    rw [this]; exact hq n1 i1 z1 n2 i2 z2
  all_goals
    clear hq
    rw [n1, n2, i1, i2, z1, z2] at hF
    rw [n1] at HN1
    rw [n2] at HN2
    rw [i1] at ia
    rw [i2] at ib
    rw [z1] at za
    rw [z2] at zb
    simp only [Bool.or_true, Bool.true_or, Bool.or_false, Bool.false_or, Bool.and_true, Bool.true_and, Bool.and_false, Bool.false_and, if_true, Bool.false_eq_true, if_false] at hF
    rw [hF]
    clear hF hs n1 n2 i1 i2 z1 z2
    go_enter Tryz.func34, Tryz.ntmps34
    go_wp2_with (go_at_call 91; first | (with_reducible refine (HN1.out _).mono ?_; rintro e w' ⟨rfl, rfl⟩) | (with_reducible refine (HN2.out _).mono ?_; rintro e w' ⟨rfl, rfl⟩))
    go_ret
    exact ⟨rfl, Below.refl _ _⟩
end Go.Proofs.YtgfbcncjboenbaaGreatDoor

/- Walks: the document's Add of singles. -/
namespace Go.Proofs.YtgfbcncjboenbaaGreatDoor
open Go.RowKit
open Go.Lib hiding intOf

theorem sumF_same {a b x y : Nat} {l : Int} (hl : l = min (e3 a) (e3 b)) (hx : x = m3 a * 2 ^ (e3 a - l).toNat) (hy : y = m3 b * 2 ^ (e3 b - l).toNat) (h : sgn3 a = sgn3 b) : sumF a b = if x + y = 0 then sgS (sgn3 a) else evenS (sgn3 a) (x + y) l := by
  have hz : sumZ a b = sg (sgn3 a) (x + y) := by
    unfold sumZ; rw [← hl, ← hx, ← hy, ← h]
    unfold sg; cases sgn3 a <;> simp <;> omega
  unfold sumF
  rw [hz, ← hl, ← h]
  by_cases h0 : x + y = 0
  · rw [if_pos h0, if_pos (by rw [h0]; unfold sg; cases sgn3 a <;> rfl), Bool.and_self]
  · have h1 : ¬ sg (sgn3 a) (x + y) = 0 := by unfold sg; cases sgn3 a <;> simp <;> omega
    have h2 : decide (sg (sgn3 a) (x + y) < 0) = sgn3 a := by unfold sg; cases sgn3 a <;> simp <;> omega
    rw [if_neg h0, if_neg h1, h2, sg_natAbs]
theorem sumF_diff {a b x y : Nat} {l : Int} (hl : l = min (e3 a) (e3 b)) (hx : x = m3 a * 2 ^ (e3 a - l).toNat) (hy : y = m3 b * 2 ^ (e3 b - l).toNat) (h : sgn3 b = !sgn3 a) : sumF a b = if x = y then 0 else if y < x then evenS (sgn3 a) (x - y) l else evenS (sgn3 b) (y - x) l := by
  have hz : sumZ a b = sg (sgn3 a) x - sg (sgn3 a) y := by
    unfold sumZ; rw [← hl, ← hx, ← hy, h, sg_not]; rfl
  unfold sumF
  rw [hz, ← hl, h]
  by_cases h0 : x = y
  · rw [if_pos h0, if_pos (by rw [h0]; omega)]
    cases sgn3 a <;> rfl
  · rw [if_neg h0]
    have h1 : ¬ sg (sgn3 a) x - sg (sgn3 a) y = 0 := by unfold sg; cases sgn3 a <;> simp <;> omega
    rw [if_neg h1]
    by_cases h2 : y < x
    · rw [if_pos h2]
      have h3 : decide (sg (sgn3 a) x - sg (sgn3 a) y < 0) = sgn3 a := by unfold sg; cases sgn3 a <;> simp <;> omega
      have h4 : (sg (sgn3 a) x - sg (sgn3 a) y).natAbs = x - y := by unfold sg; cases sgn3 a <;> simp <;> omega
      rw [h3, h4]
    · rw [if_neg h2]
      have h3 : decide (sg (sgn3 a) x - sg (sgn3 a) y < 0) = !sgn3 a := by unfold sg; cases sgn3 a <;> simp <;> omega
      have h4 : (sg (sgn3 a) x - sg (sgn3 a) y).natAbs = y - x := by unfold sg; cases sgn3 a <;> simp <;> omega
      rw [h3, h4]
theorem sum_nil {a x y : Nat} {l : Int} (ha : W32 a) (hx : x = m3 a * 2 ^ (e3 a - l).toNat) (h : x + y = 0) : sgS (sgn3 a) = a := by
  have h1 : m3 a * 2 ^ (e3 a - l).toNat = 0 := by omega
  have h2 : m3 a = 0 := by
    rcases Nat.mul_eq_zero.1 h1 with h | h
    · exact h
    · exact absurd h (Nat.pos_iff_ne_zero.1 (Nat.two_pow_pos _))
  have h3 : abs3 a = 0 := by
    unfold m3 at h2; split at h2 <;> omega
  have := b3_join ha
  rw [h3] at this; exact this.symm
theorem left_w (v : Value) (M : Nat) (n : Int) (w : World) (h : Num .u32 4294967296 w v M) {bb : Nat} (hM : M < 2 ^ bb) (hbb : bb ≤ 4294967296) (h0 : 0 ≤ n) (h1 : n ≤ 100000) : Calls Tryz.prog 93 #[v, .int .i64 n] w (NatQ (M * 2 ^ n.toNat) w) := by
  obtain ⟨k, hk⟩ : ∃ k : Nat, n = k := ⟨n.toNat, by omega⟩
  have hq : 32 * (k / 32) + k % 32 = k := by omega
  have := nleft_any v M (k / 32) (k % 32) n w h (by omega) (Nat.mod_lt _ (by decide)) (by omega) hM hbb
  rw [hq] at this
  rw [hk, Int.toNat_natCast]
  rw [hk] at this
  exact this
set_option maxHeartbeats 4000000 in
set_option maxRecDepth 100000 in
theorem d_add_fin {a b : Nat} (ha : W32 a) (hb : W32 b) (n1 : nan3 a = false) (n2 : nan3 b = false) (i1 : inf3 a = false) (i2 : inf3 b = false) (w : World) : Calls Tryz.prog 32 #[.int .u32 a, .int .u32 b] w fun e w' => e = .returned (.int .u32 (sumF a b : Nat)) ∧ Below w.heap.size w w' := by
  have HN1 : Hid (∀ W, Calls Tryz.prog 91 #[.int .u32 a] W fun e w' => e = .returned (.bool false) ∧ W = w') := fun W => by rw [← n1]; exact d_isnan a ha W
  have HN2 : Hid (∀ W, Calls Tryz.prog 91 #[.int .u32 b] W fun e w' => e = .returned (.bool false) ∧ W = w') := fun W => by rw [← n2]; exact d_isnan b hb W
  have ia := abs3_inf a
  have ib := abs3_inf b
  rw [i1] at ia
  rw [i2] at ib
  have b1 := m3_lt a
  have b2 := m3_lt b
  have b3 := e3_bd ha
  have b4 := e3_bd hb
  obtain ⟨r, hr⟩ : ∃ r, r = sumF a b := ⟨_, rfl⟩
  rw [← hr]
  have HS1 : Hid (∀ W, Calls Tryz.prog 92 #[.int .u32 a] W fun e w' => e = .returned (.tuple #[.int .u64 (m3 a : Nat), .int .i64 (e3 a)]) ∧ W = w') := fun W => d_split a ha W
  have HS2 : Hid (∀ W, Calls Tryz.prog 92 #[.int .u32 b] W fun e w' => e = .returned (.tuple #[.int .u64 (m3 b : Nat), .int .i64 (e3 b)]) ∧ W = w') := fun W => d_split b hb W
  obtain ⟨l, hl⟩ : ∃ l, l = min (e3 a) (e3 b) := ⟨_, rfl⟩
  obtain ⟨x, hx⟩ : ∃ x, x = m3 a * 2 ^ (e3 a - l).toNat := ⟨_, rfl⟩
  obtain ⟨y, hy⟩ : ∃ y, y = m3 b * 2 ^ (e3 b - l).toNat := ⟨_, rfl⟩
  have HSA : Hid (sgn3 a = sgn3 b → r = if x + y = 0 then sgS (sgn3 a) else evenS (sgn3 a) (x + y) l) := fun h => by rw [hr]; exact sumF_same hl hx hy h
  have HSD : Hid (sgn3 b = !sgn3 a → r = if x = y then 0 else if y < x then evenS (sgn3 a) (x - y) l else evenS (sgn3 b) (y - x) l) := fun h => by rw [hr]; exact sumF_diff hl hx hy h
  have HNI : Hid (x + y = 0 → sgS (sgn3 a) = a) := fun h => sum_nil ha hx h
  have s1 := sgS_zero (sgn3 a)
  have s2 := sgS_zero (sgn3 b)
  generalize hM : m3 a = M at *
  generalize hN : m3 b = N at *
  generalize hE : e3 a = E at *
  generalize hF : e3 b = F at *
  obtain ⟨B, hB⟩ : ∃ B, B = 300 := ⟨_, rfl⟩
  obtain ⟨u, hu⟩ : ∃ u, u = 254 := ⟨_, rfl⟩
  have hbx : x < 2 ^ B ∧ y < 2 ^ B := by
    have e0 : 2 ^ 24 * 2 ^ u ≤ 2 ^ B := by
      rw [← Nat.pow_add]; exact Nat.pow_le_pow_right (by decide) (by omega)
    have e1 : 2 ^ (E - l).toNat ≤ 2 ^ u := Nat.pow_le_pow_right (by decide) (by omega)
    have e2 : 2 ^ (F - l).toNat ≤ 2 ^ u := Nat.pow_le_pow_right (by decide) (by omega)
    constructor
    · rw [hx]; exact Nat.lt_of_lt_of_le (Nat.mul_lt_mul_of_lt_of_le (show M < 2 ^ 24 by omega) e1 (Nat.two_pow_pos _)) e0
    · rw [hy]; exact Nat.lt_of_lt_of_le (Nat.mul_lt_mul_of_lt_of_le (show N < 2 ^ 24 by omega) e2 (Nat.two_pow_pos _)) e0
  have HO1 : Hid (∀ W, Calls Tryz.prog 94 #[.int .u64 (M : Nat)] W (NatQ M W)) := fun W => of_any M W (by omega)
  have HO2 : Hid (∀ W, Calls Tryz.prog 94 #[.int .u64 (N : Nat)] W (NatQ N W)) := fun W => of_any N W (by omega)
  have HL1 : Hid (∀ W v, Num .u32 4294967296 W v M → Calls Tryz.prog 93 #[v, .int .i64 (E - l)] W (NatQ x W)) := fun W v hv => by
    rw [hx]; exact left_w v M _ W hv (bb := 24) (by omega) (by decide) (by omega) (by omega)
  have HL2 : Hid (∀ W v, Num .u32 4294967296 W v N → Calls Tryz.prog 93 #[v, .int .i64 (F - l)] W (NatQ y W)) := fun W v hv => by
    rw [hy]; exact left_w v N _ W hv (bb := 24) (by omega) (by decide) (by omega) (by omega)
  have HBX : Hid (x < 2 ^ B ∧ y < 2 ^ B) := hbx
  have HB9 : Hid (B = 300) := hB
  have iw1 : IntKind.i64.wrap (E - l) = E - l := IntWalk.i64_in _ (by omega)
  have iw2 : IntKind.i64.wrap (F - l) = F - l := IntWalk.i64_in _ (by omega)
  have hmin : min E F = l := hl.symm
  have HLB : Hid (-200000 ≤ l ∧ l ≤ 200000) := ⟨by omega, by omega⟩
  clear n1 n2 i1 i2 b1 b2 b3 b4 hr hx hy hM hN hE hF hbx hl hB hu
  go_enter Tryz.func32, Tryz.ntmps32
  go_wp2_with (first | (go_at_call 91; first | (with_reducible refine (HN1.out _).mono ?_; rintro e w' ⟨rfl, rfl⟩) | (with_reducible refine (HN2.out _).mono ?_; rintro e w' ⟨rfl, rfl⟩)) | (go_at_call 92; first | (with_reducible refine (HS1.out _).mono ?_; rintro e w' ⟨rfl, rfl⟩) | (with_reducible refine (HS2.out _).mono ?_; rintro e w' ⟨rfl, rfl⟩)))
  refine (HO1.out _).mono ?_
  rintro e w1 ⟨v1, rfl, hn1, hb1⟩
  obtain ⟨a1, m1, c1, rfl⟩ := Num.shape hn1
  have HB1 : Hid (Below w.heap.size w w1) := hb1
  have HM1 : Hid _ := hn1
  clear hb1 hn1 HO1
  go_wp2_with fail
  refine (HL1.out _ _ HM1.out).mono ?_
  rintro e w2 ⟨v2, rfl, hn2, hb2⟩
  obtain ⟨a2, m2, c2, rfl⟩ := Num.shape hn2
  have HB2 : Hid (Below w.heap.size w w2) := HB1.out.thru hb2
  have HM2 : Hid _ := hn2
  clear hb2 hn2 HM1 HB1 HL1
  go_wp2_with fail
  refine (HO2.out _).mono ?_
  rintro e w3 ⟨v3, rfl, hn3, hb3⟩
  obtain ⟨a3, m3', c3, rfl⟩ := Num.shape hn3
  have HB3 : Hid (Below w.heap.size w w3) := HB2.out.thru hb3
  have HM2' : Hid _ := Num.below HM2.out (Nat.le_refl _) hb3
  have HM3 : Hid _ := hn3
  clear hb3 hn3 HM2 HB2 HO2
  go_wp2_with fail
  refine (HL2.out _ _ HM3.out).mono ?_
  rintro e w4 ⟨v4, rfl, hn4, hb4⟩
  obtain ⟨a4, m4, c4, rfl⟩ := Num.shape hn4
  have HB4 : Hid (Below w.heap.size w w4) := HB3.out.thru hb4
  have HX4 : Hid _ := Num.below HM2'.out (Nat.le_refl _) hb4
  have HY4 : Hid _ := hn4
  clear hb4 hn4 HM2' HM3 HB3 HL2
  obtain ⟨sa, hsa⟩ : ∃ s, s = sgn3 a := ⟨_, rfl⟩
  obtain ⟨sb, hsb⟩ : ∃ s, s = sgn3 b := ⟨_, rfl⟩
  rw [← hsa] at HSA HSD HNI
  rw [← hsb] at HSA HSD
  have s1' : (((sgS (sgn3 a) : Nat) : Int) != 0) = sa := by rw [hsa]; exact s1
  have s2' : (((sgS (sgn3 b) : Nat) : Int) != 0) = sb := by rw [hsb]; exact s2
  clear hsa hsb s1 s2 iw1 iw2 hmin HN1 HN2 HS1 HS2
  by_cases hab : sa = sb
  · subst hab
    have HR := HSA.out rfl
    clear HSA HSD
    have HRR : Hid (r = if x + y = 0 then sgS sa else evenS sa (x + y) l) := HR
    clear HR
    go_wp2_with fail
    refine (nadd_any _ _ x y w4 HX4.out HY4.out HBX.out.1 HBX.out.2 (by have := HB9.out; omega)).mono ?_
    rintro e w5 ⟨v5, rfl, hn5, hb5⟩
    obtain ⟨a5, m5, c5, rfl⟩ := Num.shape hn5
    have HB5 : Hid (Below w.heap.size w w5) := HB4.out.thru hb5
    have HZ : Hid _ := hn5
    have hz := num_nil hn5
    clear hb5 hn5 HX4 HY4 HB4 s1' s2'
    by_cases h0 : x + y = 0
    · have h1 : m5 = 0 := hz.2 h0
      have HRA : Hid (r = a) := by show _ = _; rw [HRR.out, if_pos h0, HNI.out h0]
      subst h1
      clear hz h0
      go_wp2
      go_ret
      exact ⟨by rw [HRA.out]; rfl, HB5.out⟩
    · have h1 : ((m5 : Int) == 0) = false := by rw [Bool.eq_false_iff, Ne, beq_iff_eq]; intro h; exact h0 (hz.1 (by omega))
      have HEV : Hid (Calls Tryz.prog 96 #[.bool sa, .slice a5 m5 c5, .int .i64 l] w5 fun e w' => e = .returned (.int .u32 (r : Nat)) ∧ Below w5.heap.size w5 w') := by
        rw [HRR.out, if_neg h0]
        refine d_even sa _ _ _ w5 HZ.out (bb := B + 1) ?_ (by omega) (by have := HB9.out; omega) HLB.out.1 HLB.out.2 (by omega)
        have := HBX.out
        rw [Nat.pow_succ]
        omega
      clear hz h0 HRR
      go_wp2_with fail
      refine HEV.out.mono ?_
      rintro e w6 ⟨rfl, hb6⟩
      go_wp2
      go_ret
      exact ⟨rfl, HB5.out.thru hb6⟩
  · have hs : sb = !sa := by cases sa <;> cases sb <;> simp at hab ⊢
    have HRR : Hid (r = if x = y then 0 else if y < x then evenS sa (x - y) l else evenS sb (y - x) l) := HSD.out hs
    have hab2 : (sa == sb) = false := by rw [Bool.eq_false_iff, Ne, beq_iff_eq]; exact hab
    have HS : Hid (sb = !sa) := hs
    clear HSA HSD HNI hab hs
    go_wp2_with fail
    refine (ncmp_any _ _ x y w4 HX4.out HY4.out).mono ?_
    rintro e w5 ⟨rfl, hb5⟩
    have HB5 : Hid (Below w.heap.size w w5) := HB4.out.thru hb5
    have HX5 : Hid _ := Num.below HX4.out (Nat.le_refl _) hb5
    have HY5 : Hid _ := Num.below HY4.out (Nat.le_refl _) hb5
    clear hb5 HX4 HY4 HB4 s1' s2' hab2
    by_cases h0 : x = y
    · have hc : ncmp x y = 0 := by unfold ncmp; rw [if_neg (by omega), if_neg (by omega)]
      have HRA : Hid (r = 0) := by show _ = _; rw [HRR.out, if_pos h0]
      rw [hc]
      clear hc h0
      go_wp2
      go_ret
      exact ⟨by rw [HRA.out]; rfl, HB5.out⟩
    · by_cases h2 : y < x
      · have hc : ncmp x y = 1 := by unfold ncmp; rw [if_neg (by omega), if_pos h2]
        rw [hc]
        have HEV : Hid (∀ W v, Num .u32 4294967296 W v (x - y) → Calls Tryz.prog 96 #[.bool sa, v, .int .i64 l] W fun e w' => e = .returned (.int .u32 (r : Nat)) ∧ Below W.heap.size W w') := fun W v hv => by
          rw [HRR.out, if_neg h0, if_pos h2]
          exact d_even sa _ _ _ W hv (bb := B) (Nat.lt_of_le_of_lt (Nat.sub_le _ _) HBX.out.1) (by have := HB9.out; omega) (by have := HB9.out; omega) HLB.out.1 HLB.out.2 (by omega)
        have HLT : Hid (y < x) := h2
        clear hc h0 h2 HRR
        go_wp2_with fail
        refine (nsub_any _ _ x y w5 HX5.out HY5.out HBX.out.1 (Nat.le_of_lt HLT.out) (by have := HB9.out; omega)).mono ?_
        rintro e w6 ⟨v6, rfl, hn6, hb6⟩
        obtain ⟨a6, m6, c6, rfl⟩ := Num.shape hn6
        have HB6 : Hid (Below w.heap.size w w6) := HB5.out.thru hb6
        have HZ : Hid _ := hn6
        clear hb6 hn6 HX5 HY5 HB5
        go_wp2_with fail
        refine (HEV.out _ _ HZ.out).mono ?_
        rintro e w7 ⟨rfl, hb7⟩
        go_wp2
        go_ret
        exact ⟨rfl, HB6.out.thru hb7⟩
      · have hc : ncmp x y = -1 := by unfold ncmp; rw [if_pos (by omega)]
        rw [hc]
        have HEV : Hid (∀ W v, Num .u32 4294967296 W v (y - x) → Calls Tryz.prog 96 #[.bool sb, v, .int .i64 l] W fun e w' => e = .returned (.int .u32 (r : Nat)) ∧ Below W.heap.size W w') := fun W v hv => by
          rw [HRR.out, if_neg h0, if_neg h2]
          exact d_even sb _ _ _ W hv (bb := B) (Nat.lt_of_le_of_lt (Nat.sub_le _ _) HBX.out.2) (by have := HB9.out; omega) (by have := HB9.out; omega) HLB.out.1 HLB.out.2 (by omega)
        have HLT : Hid (x ≤ y) := by show _ ≤ _; omega
        clear hc h0 h2 HRR
        go_wp2_with fail
        refine (nsub_any _ _ y x w5 HY5.out HX5.out HBX.out.2 HLT.out (by have := HB9.out; omega)).mono ?_
        rintro e w6 ⟨v6, rfl, hn6, hb6⟩
        obtain ⟨a6, m6, c6, rfl⟩ := Num.shape hn6
        have HB6 : Hid (Below w.heap.size w w6) := HB5.out.thru hb6
        have HZ : Hid _ := hn6
        clear hb6 hn6 HX5 HY5 HB5
        go_wp2_with fail
        refine (HEV.out _ _ HZ.out).mono ?_
        rintro e w7 ⟨rfl, hb7⟩
        go_wp2
        go_ret
        exact ⟨rfl, HB6.out.thru hb7⟩
set_option linter.unusedSimpArgs false in
set_option maxHeartbeats 4000000 in
set_option maxRecDepth 100000 in
theorem d_add {a b : Nat} (ha : W32 a) (hb : W32 b) (w : World) : Calls Tryz.prog 32 #[.int .u32 a, .int .u32 b] w fun e w' => e = .returned (.int .u32 (addF a b : Nat)) ∧ Below w.heap.size w w' := by
  have HN1 : Hid (∀ W, Calls Tryz.prog 91 #[.int .u32 a] W fun e w' => e = .returned (.bool (nan3 a)) ∧ W = w') := fun W => d_isnan a ha W
  have HN2 : Hid (∀ W, Calls Tryz.prog 91 #[.int .u32 b] W fun e w' => e = .returned (.bool (nan3 b)) ∧ W = w') := fun W => d_isnan b hb W
  obtain ⟨q, hq⟩ : ∃ q, q = decide (a = b) := ⟨_, rfl⟩
  have ab : ((a : Int) != (b : Int)) = !q := by
    rw [hq]; simp only [bne]; congr 1; rw [Bool.eq_iff_iff, beq_iff_eq, decide_eq_true_eq]; omega
  have hF : addF a b = if (nan3 a || nan3 b || (inf3 a && inf3 b && !q)) = true then 2143289344 else if inf3 a = true then a else if inf3 b = true then b else sumF a b := by rw [hq]; rfl
  have ia := abs3_inf a
  have ib := abs3_inf b
  have hk := fun (n1 : nan3 a = false) (i1 : inf3 a = false) (n2 : nan3 b = false) (i2 : inf3 b = false) => d_add_fin ha hb n1 n2 i1 i2 w
  rcases kind3 a with ⟨n1, i1⟩ | ⟨i1, n1⟩ | ⟨n1, i1, -⟩ <;> rcases kind3 b with ⟨n2, i2⟩ | ⟨i2, n2⟩ | ⟨n2, i2, -⟩
  case inr.inr.inr.inr =>
    have : addF a b = sumF a b := by rw [hF, n1, n2, i1, i2]; rfl
    rw [this]; exact hk n1 i1 n2 i2
  all_goals
    clear hk hq
    rw [n1, n2, i1, i2] at hF
    rw [n1] at HN1
    rw [n2] at HN2
    rw [i1] at ia
    rw [i2] at ib
    clear n1 n2 i1 i2
    cases q
    all_goals
      simp only [Bool.or_true, Bool.true_or, Bool.or_false, Bool.false_or, Bool.and_true, Bool.true_and, Bool.and_false, Bool.false_and, if_true, Bool.false_eq_true, if_false, Bool.not_true, Bool.not_false] at hF ab
      rw [hF]
      clear hF
      go_enter Tryz.func32, Tryz.ntmps32
      go_wp2_with (go_at_call 91; first | (with_reducible refine (HN1.out _).mono ?_; rintro e w' ⟨rfl, rfl⟩) | (with_reducible refine (HN2.out _).mono ?_; rintro e w' ⟨rfl, rfl⟩))
      go_ret
      exact ⟨rfl, Below.refl _ _⟩
end Go.Proofs.YtgfbcncjboenbaaGreatDoor
