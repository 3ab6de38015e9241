/- Parts Cl, Cm, Cn of the proof, in one text. -/
import Derived.Test.YtgfbcncjboenbaaGreatDoorUBU
import Derived.Test.YtgfbcncjboenbaaGreatDoorUBM
import Derived.Test.YtgfbcncjboenbaaGreatDoorUBG
import Derived.Test.YtgfbcncjboenbaaGreatDoorURR
import Derived.Test.YtgfbcncjboenbaaGreatDoorUQC
import Derived.Laws.FloatArith
import Derived.Test.YtgfbcncjboenbaaGreatDoorUAW
import Derived.Test.YtgfbcncjboenbaaGreatDoorUQD
import Derived.Test.YtgfbcncjboenbaaGreatDoorURH

/- Walks: a single's bits; single's Nan, One, right, Widen, Next; the document's IsNaN, One, split, Widen, Next, mode. -/
namespace Go.Proofs.YtgfbcncjboenbaaGreatDoor
open Go.RowKit
open Go.Lib hiding intOf

theorem nan3_order {b : Nat} (h : nan3 b = true) (c : Nat) : Ieee.single.order b c = none :=
  order_nan_left Ieee.single S_ok b c (by rw [rg_S, S_inf]; exact of_decide_eq_true h)
@[go_sem] theorem w3_eq_self (b : Nat) : (Go.FloatKind.f32.format.order b b == some Ordering.eq) = !nan3 b := by
  show (Ieee.single.order b b == some Ordering.eq) = !nan3 b
  cases n : nan3 b
  · exact ord32_self b (by have := of_decide_eq_false n; unfold abs3 at this; omega)
  · rw [nan3_order n]; rfl
@[go_sem] theorem w3_ne_self (b : Nat) : (Go.FloatKind.f32.format.order b b != some Ordering.eq) = nan3 b := by
  have := w3_eq_self b
  simp only [bne]
  rw [this]; simp
@[go_sem] theorem w3_andNot (b : Nat) (h : W32 b) : Go.bits .andNot .u32 (b : Int) 2147483648 = ((abs3 b : Nat) : Int) := by
  rw [show (2147483648 : Int) = ((2147483648 : Nat) : Int) from rfl, Go.u32_andNot_nat b _ h (by decide)]
  rw [show 4294967295 - 2147483648 = 2^31 - 1 from by decide, Nat.and_two_pow_sub_one_eq_mod]; rfl
@[go_sem] theorem w3_and_sign (b : Nat) (h : W32 b) : Go.bits .and .u32 (b : Int) 2147483648 = ((sgS (sgn3 b) : Nat) : Int) := by
  rw [show (2147483648 : Int) = ((2^31 : Nat) : Int) from rfl, Go.u32_and_nat b _ h (by decide), Go.nat_bit]
  unfold W32 at h
  congr 1; unfold sgS sgn3; split <;> simp_all <;> omega
theorem s_nan (w : World) : Calls Tryz.prog 52 #[] w fun e w' => e = .returned (.float .f32 2143289344) ∧ w = w' := by
  go_enter Tryz.func52, Tryz.ntmps52
  go_wp2
  go_ret
  exact ⟨rfl, rfl⟩
def one3 (b : Nat) : Nat := if nan3 b = true then 2143289344 else b
theorem s_one (b : Nat) (w : World) : Calls Tryz.prog 37 #[.float .f32 b] w fun e w' => e = .returned (.float .f32 (one3 b)) ∧ w = w' := by
  unfold one3
  cases h : nan3 b
  all_goals
    go_enter Tryz.func37, Tryz.ntmps37
    go_wp2_with (go_at_call 52; refine (s_nan _).mono ?_; rintro e w' ⟨rfl, rfl⟩)
    go_ret
    exact ⟨rfl, rfl⟩
theorem s_right (m : Int) (w : World) : Calls Tryz.prog 73 #[.int .i64 m] w fun e w' => e = .returned (.bool (decide (1 ≤ m ∧ m ≤ 6))) ∧ w = w' := by
  by_cases h1 : 1 ≤ m
  · by_cases h2 : m ≤ 6
    · rw [decide_eq_true (show 1 ≤ m ∧ m ≤ 6 from ⟨h1, h2⟩)]
      go_enter Tryz.func73, Tryz.ntmps73
      go_wp2
      go_ret
      exact ⟨rfl, rfl⟩
    · rw [decide_eq_false (show ¬ (1 ≤ m ∧ m ≤ 6) by omega)]
      go_enter Tryz.func73, Tryz.ntmps73
      go_wp2
      go_ret
      exact ⟨rfl, rfl⟩
  · rw [decide_eq_false (show ¬ (1 ≤ m ∧ m ≤ 6) by omega)]
    go_enter Tryz.func73, Tryz.ntmps73
    go_wp2
    go_ret
    exact ⟨rfl, rfl⟩
/-- The number of a single. -/
def widB (b : Nat) : Nat := if nan3 b = true then theNaN else if inf3 b = true then sgW (sgn3 b) + 9218868437227405312 else joinB (sgn3 b) (m3 b) (e3 b)
theorem join_exact (neg : Bool) {q r : Nat} {e : Int} (hq : q ≤ 9007199254740992) (h1 : -1074 ≤ e) (h2 : e ≤ 900) (hr : r < 9218868437227405312) (h : rv 52 r = q * 2 ^ (e + 1074).toNat) : joinB neg q e = sgW neg + r ∧ joinX q e = 0 := by
  unfold joinB joinX
  by_cases h0 : q = 0
  · rw [if_pos h0, if_pos h0]
    rw [h0, Nat.zero_mul, ← rv_zero 52] at h
    rw [rv_inj h]; exact ⟨rfl, rfl⟩
  · rw [if_neg h0, if_neg h0]
    obtain ⟨g1, g2, g3⟩ := joO_bd h0 hq
    have hb : ¬ joBad q e := by unfold joBad; omega
    rw [if_neg hb, if_neg hb]
    refine ⟨?_, rfl⟩
    rw [near_exact (s := false) (r := r) (by omega) hr ?_]
    · show _ + (0 + r) = _
      rw [Nat.zero_add]
    · rw [h, show (e + (joZ q : Int) + 1074).toNat = joZ q + (e + 1074).toNat by omega, Nat.pow_add, ← Nat.mul_assoc, g3]
theorem wid_fin {b : Nat} (hb : W32 b) (fb : abs3 b < 2139095040) : Go.floatToFloatBits .f32 b .f64 = some (widB b) ∧ W64 (widB b) ∧ finB (widB b) = true ∧ sgnB (widB b) = sgn3 b ∧ rv 52 (absB (widB b)) = m3 b * 2 ^ (e3 b + 1074).toNat := by
  obtain ⟨p1, p2, p3, p4, p5, p6⟩ := sp3 fb
  obtain ⟨c, w1, w2, w3, w4, w5⟩ := widen_conv (sgn3 b) (abs3 b) fb
  rw [word_S, ← b3_join hb] at w1
  rw [p1, scale32 p3] at w5
  have n1 : nan3 b = false := by unfold nan3; simp; omega
  have i1 : inf3 b = false := by unfold inf3; simp; omega
  have hw : widB b = c := by
    unfold widB
    rw [n1, i1, if_neg (by decide), if_neg (by decide), (join_exact (sgn3 b) (r := absB c) (by omega) (by omega) (by omega) (finA_lt w3) w5).1]
    rw [← w4]; exact (split_B c w2).symm
  rw [hw]
  exact ⟨w1, w2, w3, w4, w5⟩
theorem wid_inf {b : Nat} (hb : W32 b) (h : inf3 b = true) : Go.floatToFloatBits .f32 b .f64 = some (widB b) ∧ nan3 b = false := by
  have n1 : nan3 b = false := by unfold nan3; rw [of_decide_eq_true h]; rfl
  refine ⟨?_, n1⟩
  unfold widB
  rw [n1, if_neg (by decide), if_pos h]
  unfold Go.floatToFloatBits
  rw [if_neg (by decide)]
  show (match Ieee.single.read b with | .nan _ _ => none | .infinity s => some (Ieee.double.write (.infinity s)) | .number s m e => if (Ieee.double.read (Ieee.double.write (.number s m e))).isInfinity then none else some (Ieee.double.write (.number s m e))) = _
  rw [read_inf3 hb h]
  dsimp only
  rw [show Ieee.double.write (.infinity (sgn3 b)) = Ieee.double.word (sgn3 b) Ieee.double.infRung from rfl, D_inf, word_sg]
theorem run_wid {b r : Nat} (h : Go.floatToFloatBits .f32 b .f64 = some r) (w : World) : (convert 33 23 (.float .f32 b)).run Tryz.prog w = .ok (.float .f64 r) w :=
  run_convert_float_float (P := Tryz.prog) w 33 23 .f32 .f64 b r (by kernel_rfl) (by kernel_rfl) h
theorem run_nar {b r : Nat} (h : Go.floatToFloatBits .f64 b .f32 = some r) (w : World) : (convert 23 33 (.float .f64 b)).run Tryz.prog w = .ok (.float .f32 r) w :=
  run_convert_float_float (P := Tryz.prog) w 23 33 .f64 .f32 b r (by kernel_rfl) (by kernel_rfl) h
theorem run_wid_nan {b : Nat} (h : nan3 b = true) (w : World) : ∃ v, (convert 33 23 (.float .f32 b)).run Tryz.prog w = .ok (.float .f64 v) w.drew ∧ nanB v = true := by
  obtain ⟨s, t, hr⟩ := read_nan3 h
  refine ⟨(Question.nanConv .f64 b).cut (w.tape w.drawn (.nanConv .f64 b)), ?_, ?_⟩
  · have e2 : Conv.floatToFloat .f32 b .f64 = (do pure (.float .f64 (← choose (.nanConv .f64 b)))) := by
      unfold Conv.floatToFloat
      rw [if_neg (by decide)]
      show (match Ieee.single.read b with | .nan _ _ => _ | .infinity _ => _ | .number _ _ _ => _) = _
      rw [hr]
    have e3 : (convert 33 23 (.float .f32 b)).run Tryz.prog w = (Conv.floatToFloat .f32 b .f64).run Tryz.prog w := by
      simp [convert]
    rw [e3, e2]
    simp [Question.forced]
  · unfold nanB absB
    simp only [Question.cut]
    generalize w.tape w.drawn (.nanConv .f64 b) = t
    refine decide_eq_true ?_
    rcases Nat.mod_two_eq_zero_or_one t with h | h <;> rw [h] <;> omega
theorem run_sum_nan {op : BinOp} {a b : Nat} (h : Go.floatBits op .f32 a b = none) (ho : op = .add ∨ op = .mul) (t : TypeId) (w : World) : ∃ v, (binOp op t (.float .f32 a) (.float .f32 b)).run Tryz.prog w = .ok (.float .f32 v) w.drew ∧ nan3 v = true := by
  refine ⟨(Question.nanBits .f32 a b).cut (w.tape w.drawn (.nanBits .f32 a b)), ?_, ?_⟩
  · unfold Go.floatBits at h
    rcases ho with rfl | rfl <;> simp only at h <;> simp [binOp, Op.floatArith, h, Question.forced]
  · unfold nan3 abs3
    simp only [Question.cut]
    generalize w.tape w.drawn (.nanBits .f32 a b) = t
    refine decide_eq_true ?_
    rcases Nat.mod_two_eq_zero_or_one t with h | h <;> rw [h] <;> omega
end Go.Proofs.YtgfbcncjboenbaaGreatDoor

/- Walks: single's Widen, Next, Add, Mul; the document's IsNaN, One, split, Widen, Next, mode. -/
namespace Go.Proofs.YtgfbcncjboenbaaGreatDoor
open Go.RowKit
open Go.Lib hiding intOf

theorem fin_nan {b : Nat} (h : finB b = true) : nanB b = false := by have := finA_lt h; unfold nanB; exact decide_eq_false (by omega)
theorem one_wid {b : Nat} (hb : W32 b) : oneB (widB b) = widB b := by
  unfold oneB
  rcases kind3 b with ⟨n1, i1⟩ | ⟨i1, n1⟩ | ⟨n1, i1, f1⟩
  · have : widB b = theNaN := by unfold widB; rw [if_pos n1]
    rw [this]; split <;> rfl
  · have : widB b = sgW (sgn3 b) + 9218868437227405312 := by unfold widB; rw [n1, i1, if_neg (by decide), if_pos rfl]
    rw [this, if_neg]
    cases sgn3 b <;> decide
  · obtain ⟨-, h2, h3, -⟩ := wid_fin hb f1
    rw [fin_nan h3, if_neg (by decide)]
set_option maxRecDepth 100000 in
theorem s_widen (b : Nat) (hb : W32 b) (w : World) : Calls Tryz.prog 19 #[.float .f32 b] w fun e w' => e = .returned (.float .f64 (widB b)) ∧ Below w.heap.size w w' := by
  cases n : nan3 b
  · have hc : Go.floatToFloatBits .f32 b .f64 = some (widB b) := by
      rcases kind3 b with ⟨n1, i1⟩ | ⟨i1, n1⟩ | ⟨n1, i1, f1⟩
      · rw [n] at n1; cases n1
      · exact (wid_inf hb i1).1
      · exact (wid_fin hb f1).1
    have k := run_wid hc w
    have ho := one_wid hb
    clear hc
    go_enter Tryz.func19, Tryz.ntmps19
    go_wp2_with (go_at_call 74; refine (one_any _ _).mono ?_; rintro e w' ⟨rfl, rfl⟩)
    go_ret
    exact ⟨rfl, Below.refl _ _⟩
  · obtain ⟨v, k, hv⟩ := run_wid_nan n w
    have ho : oneB v = widB b := by unfold oneB widB; rw [hv, n, if_pos rfl, if_pos rfl]
    clear hv n
    go_enter Tryz.func19, Tryz.ntmps19
    go_wp2_with (go_at_call 74; refine (one_any _ _).mono ?_; rintro e w' ⟨rfl, rfl⟩)
    go_ret
    exact ⟨rfl, (Below.refl _ _).drew⟩
set_option maxRecDepth 100000 in
theorem s_add {a b : Nat} (ha : W32 a) (hb : W32 b) (w : World) : Calls Tryz.prog 31 #[.float .f32 a, .float .f32 b] w fun e w' => e = .returned (.float .f32 (addF a b)) ∧ Below w.heap.size w w' := by
  have hS := add_S ha hb
  cases hbad : badS a b
  · rw [hbad, if_neg (by decide)] at hS
    have k := run_float_arith (P := Tryz.prog) w .add 33 .f32 a b _ hS
    have ho : one3 (addF a b) = addF a b := by unfold one3; rw [(addF_num ha hb).2 hbad, if_neg (by decide)]
    clear hS
    go_enter Tryz.func31, Tryz.ntmps31
    go_wp2_with (go_at_call 37; refine (s_one _ _).mono ?_; rintro e w' ⟨rfl, rfl⟩)
    go_ret
    exact ⟨rfl, Below.refl _ _⟩
  · rw [hbad, if_pos rfl] at hS
    obtain ⟨v, k, hv⟩ := run_sum_nan hS (.inl rfl) 33 w
    have ho : one3 v = addF a b := by unfold one3 addF; rw [hv, hbad, if_pos rfl, if_pos rfl]
    clear hv hbad hS
    go_enter Tryz.func31, Tryz.ntmps31
    go_wp2_with (go_at_call 37; refine (s_one _ _).mono ?_; rintro e w' ⟨rfl, rfl⟩)
    go_ret
    exact ⟨rfl, (Below.refl _ _).drew⟩
/-! The document's. -/
theorem d_mode (m : Int) (w : World) : Calls Tryz.prog 107 #[.int .i64 m] w fun e w' => e = .returned (.bool (decide (1 ≤ m ∧ m ≤ 6))) ∧ w = w' := by
  by_cases h1 : 1 ≤ m
  · by_cases h2 : m ≤ 6
    · rw [decide_eq_true (show 1 ≤ m ∧ m ≤ 6 from ⟨h1, h2⟩)]
      go_enter Tryz.func107, Tryz.ntmps107
      go_wp2
      go_ret
      exact ⟨rfl, rfl⟩
    · rw [decide_eq_false (show ¬ (1 ≤ m ∧ m ≤ 6) by omega)]
      go_enter Tryz.func107, Tryz.ntmps107
      go_wp2
      go_ret
      exact ⟨rfl, rfl⟩
  · rw [decide_eq_false (show ¬ (1 ≤ m ∧ m ≤ 6) by omega)]
    go_enter Tryz.func107, Tryz.ntmps107
    go_wp2
    go_ret
    exact ⟨rfl, rfl⟩
end Go.Proofs.YtgfbcncjboenbaaGreatDoor

/- Walks: single's away, Narrow; the document's away. -/
namespace Go.Proofs.YtgfbcncjboenbaaGreatDoor
open Go.RowKit
open Go.Lib hiding intOf

/-- What Narrow rounds to. -/
def narO (b : Nat) (m : Int) : Out := outG 24 (-149) 104 (sgnB b) m (numG (spM b) (spE b))
def narA (b : Nat) (m : Int) : RA :=
  if ¬ (1 ≤ m ∧ m ≤ 6) then RA.no 1 else if nanB b = true then ⟨2143289344, false, false, false, 0⟩ else if infB b = true then ⟨sgS (sgnB b) + 2139095040, false, false, false, 0⟩
  else if zeroB b = true then ⟨sgS (sgnB b), false, false, false, 0⟩ else ⟨bits32 (sgnB b) (narO b m), (narO b m).ine, (narO b m).ov, (narO b m).un, 0⟩
theorem kind_B (b : Nat) : (nanB b = true ∧ infB b = false ∧ zeroB b = false) ∨ (infB b = true ∧ nanB b = false ∧ zeroB b = false) ∨ (zeroB b = true ∧ nanB b = false ∧ infB b = false ∧ finB b = true ∧ absB b = 0) ∨ (nanB b = false ∧ infB b = false ∧ zeroB b = false ∧ finB b = true ∧ absB b ≠ 0) := by
  unfold nanB infB zeroB finB
  generalize absB b = r
  by_cases h1 : 9218868437227405312 < r
  · refine .inl ⟨?_, ?_, ?_⟩ <;> simp <;> omega
  · by_cases h2 : r = 9218868437227405312
    · refine .inr (.inl ⟨?_, ?_, ?_⟩) <;> simp <;> omega
    · by_cases h3 : r = 0
      · refine .inr (.inr (.inl ⟨?_, ?_, ?_, ?_, h3⟩)) <;> simp <;> omega
      · refine .inr (.inr (.inr ⟨?_, ?_, ?_, ?_, h3⟩)) <;> simp <;> omega
/-- A finite number as its magnitude. -/
theorem canon_of {b : Nat} (hb : W64 b) (fb : finB b = true) : ∃ m e, Canon m e ∧ b = sgW (sgnB b) + rungN m e ∧ absB b = rungN m e ∧ (∀ f, (numG m e).Q f = (numG (spM b) (spE b)).Q f ∧ (numG m e).H f = (numG (spM b) (spE b)).H f ∧ (numG m e).Z f = (numG (spM b) (spE b)).Z f) ∧ (absB b ≠ 0 → m ≠ 0) := by
  obtain ⟨m, e, hc, hr⟩ := fin_form (finA_lt fb)
  refine ⟨m, e, hc, ?_, hr, ?_, ?_⟩
  · rw [← hr]; exact split_B b hb
  · have h1 := sp_val b fb
    rw [hr, hc.rv] at h1
    exact num_same hc.2.1 (sp_bd b).1 h1
  · intro h h0
    apply h
    rw [hr]
    have := hc.2.2.2
    unfold rungN
    rw [h0] at this ⊢
    rcases this with h | h
    · rw [h]; rfl
    · omega
theorem nar_dec {b : Nat} (hb : W64 b) (fb : finB b = true) (h0 : absB b ≠ 0) {m : Int} (hm : 1 ≤ m ∧ m ≤ 6) : to32A (ofD b) m = narA b m := by
  obtain ⟨M, e, hc, hbe, -, hq, hM⟩ := canon_of hb fb
  obtain ⟨k1, k2, k3⟩ := of_some (sgnB b) hc (hM h0)
  have hmag := of_mag (sgnB b) hc
  rw [← hbe] at k1 k2 k3 hmag
  have n : nanB b = false ∧ infB b = false ∧ zeroB b = false := by
    rcases kind_B b with ⟨h1, h2, h3⟩ | ⟨h1, h2, h3⟩ | ⟨h1, h2, h3, h4, h5⟩ | ⟨h1, h2, h3, h4, h5⟩
    · rw [fin_nan fb] at h1; cases h1
    · have := finA_lt fb; have := of_decide_eq_true h1; omega
    · exact absurd h5 h0
    · exact ⟨h1, h2, h3⟩
  unfold to32A narA
  rw [if_neg (fun h => h ⟨k1, hm⟩), if_neg k2, if_neg (fun h => h hm), n.1, n.2.1, n.2.2, if_neg (by decide), if_neg (by decide), if_neg (by decide), k3]
  unfold narO
  rw [out_same hmag, out_same hq]
theorem nar_inf {b : Nat} (hb : W64 b) (h1 : infB b = true) : Go.floatToFloatBits .f64 b .f32 = some (sgS (sgnB b) + 2139095040) := by
  unfold Go.floatToFloatBits
  rw [if_neg (by decide)]
  show (match Ieee.double.read b with | .nan _ _ => none | .infinity s => some (Ieee.single.write (.infinity s)) | .number s m e => if (Ieee.single.read (Ieee.single.write (.number s m e))).isInfinity then none else some (Ieee.single.write (.number s m e))) = _
  rw [read_inf Ieee.double D_ok b (by rw [rg_D, D_inf]; exact of_decide_eq_true h1), sgn_D b hb]
  dsimp only
  rw [wr_inf]
theorem nar_zero {b : Nat} (hb : W64 b) (h1 : finB b = true) (h2 : absB b = 0) : Go.floatToFloatBits .f64 b .f32 = some (sgS (sgnB b)) :=
  conv_rung (r := 0) hb h1 (by decide) (by rw [h2, rv_zero, rv_zero, Nat.zero_mul])
theorem ofD_len {b : Nat} (h : finB b = true) : (ofD b).s.length ≤ 9223372036854775807 := by
  have := ok_len (of_rep (of_room h)).1.ok
  omega

set_option maxRecDepth 100000 in
theorem s_away (m : Int) (neg odd : Bool) (h : Int) (w : World) : Calls Tryz.prog 104 #[.int .i64 m, .bool neg, .bool odd, .int .i64 h] w fun e w' => e = .returned (.bool (upW m neg odd h)) ∧ w = w' := by
  have hu : upW m neg odd h = if m = 1 then (if h = 0 then odd else decide (0 ≤ h)) else if m = 2 then decide (0 ≤ h) else if m = 3 then !neg else if m = 4 then neg else if m = 6 then !odd else false := by
    unfold upW
    by_cases h1 : m = 1
    · rw [if_pos h1, if_pos h1]
      by_cases h2 : h = 0
      · rw [if_pos h2, decide_eq_true h2, decide_eq_false (by omega)]; cases odd <;> rfl
      · rw [if_neg h2, decide_eq_false h2]
        rw [Bool.false_and, Bool.or_false, decide_eq_decide]; omega
    · rw [if_neg h1, if_neg h1]
  rw [hu]
  clear hu
  by_cases h1 : m = 1
  · subst h1
    rw [if_pos rfl]
    by_cases h2 : h = 0
    · subst h2
      rw [if_pos rfl]
      go_enter Tryz.func104, Tryz.ntmps104
      go_wp2
      go_ret
      exact ⟨rfl, rfl⟩
    · rw [if_neg h2]
      have h3 : (h == 0) = false := by rw [Bool.eq_false_iff, Ne, beq_iff_eq]; exact h2
      clear h2
      go_enter Tryz.func104, Tryz.ntmps104
      go_wp2
      go_ret
      exact ⟨rfl, rfl⟩
  · rw [if_neg h1]
    have q1 : (m == 1) = false := by rw [Bool.eq_false_iff, Ne, beq_iff_eq]; exact h1
    clear h1
    by_cases h1 : m = 2
    · subst h1
      rw [if_pos rfl]
      go_enter Tryz.func104, Tryz.ntmps104
      go_wp2
      go_ret
      exact ⟨rfl, rfl⟩
    · rw [if_neg h1]
      have q2 : (m == 2) = false := by rw [Bool.eq_false_iff, Ne, beq_iff_eq]; exact h1
      clear h1
      by_cases h1 : m = 3
      · subst h1
        rw [if_pos rfl]
        go_enter Tryz.func104, Tryz.ntmps104
        go_wp2
        go_ret
        exact ⟨rfl, rfl⟩
      · rw [if_neg h1]
        have q3 : (m == 3) = false := by rw [Bool.eq_false_iff, Ne, beq_iff_eq]; exact h1
        clear h1
        by_cases h1 : m = 4
        · subst h1
          rw [if_pos rfl]
          go_enter Tryz.func104, Tryz.ntmps104
          go_wp2
          go_ret
          exact ⟨rfl, rfl⟩
        · rw [if_neg h1]
          have q4 : (m == 4) = false := by rw [Bool.eq_false_iff, Ne, beq_iff_eq]; exact h1
          clear h1
          by_cases h1 : m = 6
          · subst h1
            rw [if_pos rfl]
            go_enter Tryz.func104, Tryz.ntmps104
            go_wp2
            go_ret
            exact ⟨rfl, rfl⟩
          · rw [if_neg h1]
            have q6 : (m == 6) = false := by rw [Bool.eq_false_iff, Ne, beq_iff_eq]; exact h1
            clear h1
            go_enter Tryz.func104, Tryz.ntmps104
            go_wp2
            go_ret
            exact ⟨rfl, rfl⟩
set_option maxHeartbeats 4000000 in
set_option maxRecDepth 100000 in
theorem s_narrow {b : Nat} (hb : W64 b) (m : Int) (w : World) (htab : Tab w) : Calls Tryz.prog 18 #[.float .f64 b, .int .i64 m] w (Ratio32Q (narA b m) w) := by
  have HR0 : Hid (∀ W, Below w.heap.size w W → W.heap[w.heap.size]? = none → True) := fun _ _ _ => trivial
  obtain ⟨w1, hw1⟩ : ∃ W, W = w.alloc (.cells #[.bool false, .bool false, .bool false] 35) := ⟨_, rfl⟩
  have hb1 : Below w.heap.size w w1 := by rw [hw1]; exact (Below.refl _ _).alloc (Nat.le_refl _) _
  have q1 : w1.heap[w.heap.size]? = some (.cells #[.bool false, .bool false, .bool false] 35 (0, 0)) := by rw [hw1]; exact new_blk w _
  have HX : Hid (∀ W, Below w1.heap.size w1 W → W.heap[w.heap.size]? = some (.cells #[.bool false, .bool false, .bool false] 35 (0, 0)) ∧ Below w.heap.size w W) := fun W hW => ⟨hW.blk q1 (blk_lt q1), hb1.trans (hW.mono hb1.size)⟩
  have HSZ : Hid (w.heap.size < w1.heap.size) := blk_lt q1
  have HRI : Hid (∀ W, Calls Tryz.prog 73 #[.int .i64 m] W fun e w' => e = .returned (.bool (decide (1 ≤ m ∧ m ≤ 6))) ∧ W = w') := fun W => s_right m W
  obtain ⟨p, hp⟩ : ∃ p, p = decide (1 ≤ m ∧ m ≤ 6) := ⟨_, rfl⟩
  rw [← hp] at HRI
  obtain ⟨R, hR⟩ : ∃ R, R = narA b m := ⟨_, rfl⟩
  rw [← hR]
  obtain ⟨f0, c0, f1, c1, f2, c2, r3⟩ := rw3 (HX.out w1 (Below.refl _ _)).1
  have HR3 : Hid _ := r3
  have HBW : Hid (Below w.heap.size w w1) := hb1
  have HTB : Hid (Tab w) := htab
  clear hb1 q1 r3 htab HR0
  cases p
  · have HRN : Hid (R = ⟨0, false, false, false, 1⟩) := by
      show _ = _
      rw [hR]; unfold narA; rw [if_pos (by have := of_decide_eq_false hp.symm; exact this)]; rfl
    clear hR hp
    go_enter Tryz.func18, Tryz.ntmps18
    go_upto_region 1 with fail
    rw [← hw1]
    clear hw1
    go_wp2_with (refine (HRI.out _).mono ?_; rintro e w' ⟨rfl, rfl⟩)
    exact ratio32_end (p := 4) (u := 5) (q := 6) rfl rfl rfl rfl (HR3.out _ _ _) (below_row3 HBW.out (Nat.le_refl _) _ _ _) HRN.out
  · have hm : 1 ≤ m ∧ m ≤ 6 := of_decide_eq_true hp.symm
    have HCL : Hid (∀ W, Calls Tryz.prog 22 #[.float .f64 b] W fun e w' => e = .returned (.int .i64 (clsB b)) ∧ W = w') := fun W => class_any b W hb
    rcases kind_B b with ⟨h1, h2, h3⟩ | ⟨h1, h2, h3⟩ | ⟨h1, h2, h3, h4, h5⟩ | ⟨h1, h2, h3, h4, h5⟩
    · have HRN : Hid (R = ⟨2143289344, false, false, false, 0⟩) := by
        show _ = _
        rw [hR]; unfold narA; rw [if_neg (fun h => h hm), if_pos h1]
      have hc : clsB b = 1 := by unfold clsB; rw [if_pos h1]
      rw [hc] at HCL
      clear hR hp hc h1 h2 h3
      go_enter Tryz.func18, Tryz.ntmps18
      go_upto_region 1 with fail
      rw [← hw1]
      clear hw1
      go_wp2_with (first | (go_at_call 73; refine (HRI.out _).mono ?_; rintro e w' ⟨rfl, rfl⟩) | (go_at_call 22; refine (HCL.out _).mono ?_; rintro e w' ⟨rfl, rfl⟩) | (go_at_call 52; refine (s_nan _).mono ?_; rintro e w' ⟨rfl, rfl⟩))
      exact ratio32_end (p := 4) (u := 5) (q := 6) rfl rfl rfl rfl (HR3.out _ _ _) (below_row3 HBW.out (Nat.le_refl _) _ _ _) HRN.out
    · have HRN : Hid (R = ⟨sgS (sgnB b) + 2139095040, false, false, false, 0⟩) := by
        show _ = _
        rw [hR]; unfold narA; rw [if_neg (fun h => h hm), h2, if_neg (by decide), if_pos h1]
      have hc : clsB b = 2 := by unfold clsB; rw [h2, if_neg (by decide), if_pos h1]
      have k := run_nar (nar_inf hb h1) w1
      rw [hc] at HCL
      clear hR hp hc h1 h2 h3
      go_enter Tryz.func18, Tryz.ntmps18
      go_upto_region 1 with fail
      rw [← hw1]
      clear hw1
      go_wp2_with (first | (go_at_call 73; refine (HRI.out _).mono ?_; rintro e w' ⟨rfl, rfl⟩) | (go_at_call 22; refine (HCL.out _).mono ?_; rintro e w' ⟨rfl, rfl⟩))
      exact ratio32_end (p := 4) (u := 5) (q := 6) rfl rfl rfl rfl (HR3.out _ _ _) (below_row3 HBW.out (Nat.le_refl _) _ _ _) HRN.out
    · have HRN : Hid (R = ⟨sgS (sgnB b), false, false, false, 0⟩) := by
        show _ = _
        rw [hR]; unfold narA; rw [if_neg (fun h => h hm), h2, if_neg (by decide), h3, if_neg (by decide), if_pos h1]
      have hc : clsB b = 3 := by unfold clsB; rw [h2, if_neg (by decide), h3, if_neg (by decide), if_pos h1]
      have k := run_nar (nar_zero hb h4 h5) w1
      rw [hc] at HCL
      clear hR hp hc h1 h2 h3 h4 h5
      go_enter Tryz.func18, Tryz.ntmps18
      go_upto_region 1 with fail
      rw [← hw1]
      clear hw1
      go_wp2_with (first | (go_at_call 73; refine (HRI.out _).mono ?_; rintro e w' ⟨rfl, rfl⟩) | (go_at_call 22; refine (HCL.out _).mono ?_; rintro e w' ⟨rfl, rfl⟩))
      exact ratio32_end (p := 4) (u := 5) (q := 6) rfl rfl rfl rfl (HR3.out _ _ _) (below_row3 HBW.out (Nat.le_refl _) _ _ _) HRN.out
    · have HRN : Hid (R = to32A (ofD b) m) := by
        show _ = _
        rw [hR, nar_dec hb h4 h5 hm]
      have hc : clsB b = 4 ∨ clsB b = 5 := by
        unfold clsB; rw [h1, h2, h3]; cases lowB b <;> simp
      have hX := of_room h4
      have HOF : Hid (∀ W, Below w.heap.size w W → Calls Tryz.prog 62 #[.float .f64 b] W fun e w' => e = .returned (.tuple #[.agg #[.bool (ofD b).neg, .string (bs (ofD b).s), .int .i64 (ofD b).e], .int .i64 0]) ∧ Below W.heap.size W w') := fun W hW => by rw [← hX]; exact of_v b hb W (HTB.out.below hW)
      have HT3 : Hid (∀ W, Below w.heap.size w W → Calls Tryz.prog 27 #[.agg #[.bool (ofD b).neg, .string (bs (ofD b).s), .int .i64 (ofD b).e], .int .i64 m] W (Ratio32Q R W)) := fun W hW => by
        rw [HRN.out]; exact to32_v (ofD b) m W (HTB.out.below hW) (ofD_len h4)
      clear hR hp h1 h2 h3 h4 h5 hX hm
      rcases hc with hc | hc <;> rw [hc] at HCL <;> clear hc
      all_goals
       go_enter Tryz.func18, Tryz.ntmps18
       go_upto_region 1 with fail
       rw [← hw1]
       clear hw1
       go_wp2_with (first | (go_at_call 73; refine (HRI.out _).mono ?_; rintro e w' ⟨rfl, rfl⟩) | (go_at_call 22; refine (HCL.out _).mono ?_; rintro e w' ⟨rfl, rfl⟩))
       refine (HOF.out _ (HX.out _ (Below.refl _ _)).2).mono ?_
       rintro e w2 ⟨rfl, hb2⟩
       have HB2 : Hid (Below w1.heap.size w1 w2) := hb2
       clear hb2 HOF
       go_upto_region 12 with fail
       obtain ⟨w3, hw3⟩ : ∃ W, W = w2.alloc (.cells #[.bool (ofD b).neg, .string (bs (ofD b).s), .int .i64 (ofD b).e] 47) := ⟨_, rfl⟩
       have hb3 : Below w1.heap.size w1 w3 := by rw [hw3]; exact HB2.out.alloc HB2.out.size _
       have q3 : w3.heap[w2.heap.size]? = some (.cells #[.bool (ofD b).neg, .string (bs (ofD b).s), .int .i64 (ofD b).e] 47 (0, 0)) := by rw [hw3]; exact new_blk w2 _
       have ka0 := cell_of_row w3 w2.heap.size 0 _ _ _ q3
       have ka1 := cell_of_row w3 w2.heap.size 1 _ _ _ q3
       have ka2 := cell_of_row w3 w2.heap.size 2 _ _ _ q3
       have HB3 : Hid (Below w1.heap.size w1 w3) := hb3
       rw [← hw3]
       clear hw3 hb3 q3 HB2 HR3 HBW f0 c0 f1 c1 f2 c2
       go_wp2_with fail
       refine (HT3.out _ (HX.out _ HB3.out).2).mono ?_
       rintro e w4 ⟨rfl, hb4⟩
       have HB4 : Hid (Below w1.heap.size w1 w4) := HB3.out.thru hb4
       obtain ⟨f0, c0, f1, c1, f2, c2, r3⟩ := rw3 (HX.out w4 HB4.out).1
       have HR3 : Hid _ := r3
       clear ka0 ka1 ka2 hb4 HB3 r3
       go_wp2
       exact ratio32_end (p := 4) (u := 5) (q := 6) rfl rfl rfl rfl (HR3.out _ _ _) (below_row3 (HX.out _ HB4.out).2 (Nat.le_refl _) _ _ _) rfl
end Go.Proofs.YtgfbcncjboenbaaGreatDoor
