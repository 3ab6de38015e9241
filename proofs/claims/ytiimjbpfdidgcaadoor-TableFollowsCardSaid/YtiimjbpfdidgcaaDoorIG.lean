/- Parts Ua, Ub, Uc of the proof, in one text. -/
import Derived.Test.YtiimjbpfdidgcaaDoorIC
import Derived.Test.YtiimjbpfdidgcaaDoorIF
import Derived.Laws.Externs

/- Walks: math.FMA, table's Fused, Less, Equal. -/
namespace Go.Proofs.YtiimjbpfdidgcaaDoor
open Go.RowKit

/-- Three numbers of which a product and a sum is no number. -/
def fusBad (a b c : Nat) : Bool := nanB a || nanB b || nanB c || (infB a && zeroB b || zeroB a && infB b) || ((infB a || infB b) && infB c && ((sgnB a != sgnB b) != sgnB c))
def fusFin (a b c : Nat) : Bool := finB a && finB b && finB c
def fusT (a b c : Nat) : Int := valB a * valB b + valB c * ((2^LP : Nat) : Int)
def fusB (a b c R : Nat) : Nat := if fusBad a b c then theNaN else if infB a || infB b then sgW (sgnB a != sgnB b) + 9218868437227405312 else if infB c then c else if (zeroB a || zeroB b) && (sgnB a != sgnB b) && decide (c = 9223372036854775808) then 9223372036854775808 else if fusT a b c = 0 then 0 else resB (decide (fusT a b c < 0)) R
def fusX (a b c R : Nat) : Int := if !fusFin a b c then 0 else if fusT a b c = 0 then 0 else resX R

theorem read_cases (b : Nat) (hb : W64 b) : (nanB b = true ∧ infB b = false ∧ zeroB b = false ∧ finB b = false ∧ ∃ s k, Ieee.double.read b = .nan s k) ∨ (nanB b = false ∧ infB b = true ∧ zeroB b = false ∧ finB b = false ∧ Ieee.double.read b = .infinity (sgnB b)) ∨
    (nanB b = false ∧ infB b = false ∧ finB b = true ∧ ∃ m e, Ieee.double.read b = .number (sgnB b) m e ∧ (m = 0 ↔ zeroB b = true)) := by
  rcases Nat.lt_trichotomy (absB b) 9218868437227405312 with h | h | h
  · right; right
    have hf : fin Ieee.double b := by unfold fin; rw [rg_D, D_inf]; exact h
    obtain ⟨m, k, h1, h2, h3⟩ := read_num Ieee.double b hf
    rw [sgn_D b hb] at h1
    refine ⟨by unfold nanB; simp; omega, by unfold infB; simp; omega, by unfold finB; simp; omega, m, _, h1, ?_⟩
    rw [h3, rg_D]; unfold zeroB; simp
  · right; left
    have h1 := read_inf Ieee.double D_ok b (by rw [rg_D, D_inf]; exact h)
    rw [sgn_D b hb] at h1
    exact ⟨by unfold nanB; simp; omega, by unfold infB; simp; omega, by unfold zeroB; simp; omega, by unfold finB; simp; omega, h1⟩
  · left
    have h1 := read_nan Ieee.double D_ok b (by rw [rg_D, D_inf]; exact h)
    exact ⟨by unfold nanB; simp; omega, by unfold infB; simp; omega, by unfold zeroB; simp; omega, by unfold finB; simp; omega, _, _, h1⟩

theorem write_inf (s : Bool) : Ieee.double.write (.infinity s) = sgW s + 9218868437227405312 := by
  show Ieee.double.word s Ieee.double.infRung = _
  rw [word_sg, D_inf]
theorem inf_bits (c : Nat) (hc : W64 c) (h : infB c = true) : sgW (sgnB c) + 9218868437227405312 = c := by
  have h1 := split_B c hc
  unfold infB at h
  have h2 : absB c = 9218868437227405312 := by simpa using h
  unfold sgnW at h1
  unfold sgW
  omega

/-- The model's fused product and sum, where not all are finite. -/
theorem fma_inf (a b c : Nat) (ha : W64 a) (hb : W64 b) (hc : W64 c) (hf : fusFin a b c = false) :
    Go.FloatKind.f64.format.fma a b c = if fusBad a b c then none else some (if infB a || infB b then sgW (sgnB a != sgnB b) + 9218868437227405312 else c) := by
  show Ieee.double.fma a b c = _
  have hic := inf_bits c hc
  unfold fusFin at hf
  unfold Ieee.Format.fma fusBad
  rcases read_cases a ha with ⟨a1, a2, a3, a4, s, k, a5⟩ | ⟨a1, a2, a3, a4, a5⟩ | ⟨a1, a2, a4, m, e, a5, a6⟩ <;>
  rcases read_cases b hb with ⟨b1, b2, b3, b4, s', k', b5⟩ | ⟨b1, b2, b3, b4, b5⟩ | ⟨b1, b2, b4, m', e', b5, b6⟩ <;>
  rcases read_cases c hc with ⟨c1, c2, c3, c4, s'', k'', c5⟩ | ⟨c1, c2, c3, c4, c5⟩ | ⟨c1, c2, c4, m'', e'', c5, c6⟩ <;>
  rw [a1, a2, b1, b2, c1, c2, a5, b5, c5]
  all_goals try rw [a4, b4, c4] at hf
  all_goals first
    | (exfalso; revert hf; decide)
    | rfl
    | skip
  all_goals
    generalize sgnB a = sa at *
    generalize sgnB b = sb at *
    generalize sgnB c = sc at *
    generalize zeroB a = za at *
    generalize zeroB b = zb at *
    clear ha hb hc hf a1 a2 a4 a5 b1 b2 b4 b5 c1 c4 c5
    cases sa <;> cases sb <;> cases sc <;> cases za <;> cases zb <;> simp_all [Ieee.Datum.product, Ieee.Datum.sum, write_inf]
end Go.Proofs.YtiimjbpfdidgcaaDoor

/- Walks: math.FMA, table's Fused, Less, Equal. -/
namespace Go.Proofs.YtiimjbpfdidgcaaDoor
open Go.RowKit

theorem fma_eq (x y z : Nat) : Extern.MathFMA.fma #[.float .f64 x, .float .f64 y, .float .f64 z] = (match FloatKind.f64.format.fma x y z with
    | some r => pure (.float .f64 r)
    | none => do
      let (a, b) := if Extern.MathFMA.isNaN x then (x, y) else if Extern.MathFMA.isNaN y then (y, z) else (z, z)
      pure (.float .f64 (← choose (.nanBits .f64 a b)))) := rfl
theorem fma_open (x y z : Nat) (w : World) : (callFunc 58 #[.float .f64 x, .float .f64 y, .float .f64 z]).run Tryd.prog w = ((Extern.MathFMA.fma #[.float .f64 x, .float .f64 y, .float .f64 z]).run Tryd.prog w).andThen fun v w' => .ok (.value v) w' :=
  run_callFunc_extern Tryd.func58 (by kernel_rfl) (by kernel_rfl) (by kernel_rfl) (by kernel_rfl) _ w
theorem run_fma (x y z r : Nat) (w : World) (h : FloatKind.f64.format.fma x y z = some r) : (callFunc 58 #[.float .f64 x, .float .f64 y, .float .f64 z]).run Tryd.prog w = .ok (.value (.float .f64 r)) w := by
  rw [fma_open, fma_eq, h]
  simp
theorem nan_choice (t : Nat) : nanB ((t % 2) * 2 ^ 63 + 0x7ff0000000000000 + 1 + (t / 2) % (2 ^ 52 - 1)) = true ∧ W64 ((t % 2) * 2 ^ 63 + 0x7ff0000000000000 + 1 + (t / 2) % (2 ^ 52 - 1)) := by
  have h1 : (t / 2) % (2 ^ 52 - 1) < 2 ^ 52 - 1 := Nat.mod_lt _ (by decide)
  have h2 : t % 2 < 2 := Nat.mod_lt _ (by decide)
  generalize (t / 2) % (2 ^ 52 - 1) = q at *
  generalize t % 2 = p at *
  unfold nanB absB W64
  rw [decide_eq_true_eq]
  omega
theorem run_fma_nan (x y z : Nat) (w : World) (h : FloatKind.f64.format.fma x y z = none) : ∃ r, nanB r = true ∧ W64 r ∧ (callFunc 58 #[.float .f64 x, .float .f64 y, .float .f64 z]).run Tryd.prog w = .ok (.value (.float .f64 r)) w.drew := by
  rw [fma_open, fma_eq, h]
  obtain ⟨p, hp⟩ : ∃ p : Nat × Nat, p = (if Extern.MathFMA.isNaN x then (x, y) else if Extern.MathFMA.isNaN y then (y, z) else (z, z)) := ⟨_, rfl⟩
  refine ⟨(Question.nanBits .f64 p.1 p.2).cut (w.tape w.drawn (.nanBits .f64 p.1 p.2)), (nan_choice _).1, (nan_choice _).2, ?_⟩
  simp [← hp, Question.forced]

/-- What told makes of the program's own fused product and sum of finite numbers. -/
theorem fus_told (a b c R : Nat) (ha : W64 a) (hb : W64 b) (hc : W64 c) (hf : fusFin a b c = true) (hR : Near 52 (fusT a b c).natAbs (2^LP) R) :
    ∃ s, Go.FloatKind.f64.format.fma a b c = some s ∧ W64 s ∧ (if infB s then 0 else s) = fusB a b c R ∧ (if infB s then 15 else 0) = fusX a b c R := by
  have hf2 : (finB a = true ∧ finB b = true) ∧ finB c = true := by unfold fusFin at hf; simpa using hf
  obtain ⟨⟨fa, fb⟩, fc⟩ := hf2
  obtain ⟨R', h1, h2⟩ := fma_D a b c ha hb hc fa fb fc (T := fusT a b c) rfl
  obtain rfl := Near.uniq (Nat.two_pow_pos _) hR h1
  have na : nanB a = false ∧ infB a = false := by rw [finB_eq] at fa; simpa using fa
  have nb : nanB b = false ∧ infB b = false := by rw [finB_eq] at fb; simpa using fb
  have nc : nanB c = false ∧ infB c = false := by rw [finB_eq] at fc; simpa using fc
  have hbad : fusBad a b c = false := by unfold fusBad; simp [na, nb, nc]
  refine ⟨_, h2, ?_, ?_, ?_⟩
  · have := sgW_le (if fusT a b c = 0 then (sgnB a != sgnB b) && sgnB c else decide (fusT a b c < 0)); unfold W64; omega
  · rw [sgW_add_inf]
    unfold fusB
    simp only [hbad, na.2, nb.2, nc.2, Bool.false_eq_true, if_false, Bool.or_self]
    by_cases h0 : fusT a b c = 0
    · have hR0 : R = 0 := by
        rw [h0] at hR
        exact Near.uniq (Nat.two_pow_pos _) hR (near_zero 52 _ (Nat.two_pow_pos _))
      subst hR0
      simp only [h0, if_true, Nat.zero_min, Nat.add_zero]
      rw [if_neg (by decide)]
      by_cases hz : ((zeroB a || zeroB b) && (sgnB a != sgnB b) && decide (c = 9223372036854775808)) = true
      · rw [if_pos hz]
        have hz2 : ((zeroB a || zeroB b) = true ∧ (sgnB a != sgnB b) = true) ∧ c = 9223372036854775808 := by simpa [Bool.and_eq_true] using hz
        rw [hz2.1.2, hz2.2]; rfl
      · rw [if_neg hz]
        have : ((sgnB a != sgnB b) && sgnB c) = false := by
          cases es : (sgnB a != sgnB b)
          · rfl
          · cases ec : sgnB c
            · rfl
            · exfalso
              have ev : valB a * valB b = -((rv 52 (absB a) * rv 52 (absB b) : Nat) : Int) := by
                unfold valB
                cases ea : sgnB a <;> cases eb : sgnB b <;> rw [ea, eb] at es <;> first | exact absurd es (by decide) | (simp [Int.neg_mul, Int.mul_neg])
              have ev2 : valB c = -(rv 52 (absB c) : Int) := by unfold valB; rw [ec]; rfl
              unfold fusT at h0
              rw [ev, ev2, Int.neg_mul] at h0
              have hp := Nat.two_pow_pos LP
              have e1 : rv 52 (absB a) * rv 52 (absB b) = 0 := by
                have h9 : (0 : Int) ≤ (rv 52 (absB c) : Int) * ((2^LP : Nat) : Int) := Int.mul_nonneg (by omega) (by omega)
                omega
              have e2 : rv 52 (absB c) = 0 := by
                rw [e1] at h0
                have h9 : (rv 52 (absB c) : Int) * ((2^LP : Nat) : Int) = 0 := by omega
                rcases Int.mul_eq_zero.1 h9 with h | h <;> omega
              have zc : absB c = 0 := rv_inj (p := 52) (by rw [e2, rv_zero])
              have z : ∀ x, rv 52 (absB x) = 0 → zeroB x = true := fun x h => by
                unfold zeroB
                have : absB x = 0 := rv_inj (p := 52) (by rw [h, rv_zero])
                simp [this]
              have zab : (zeroB a || zeroB b) = true := by
                rcases Nat.mul_eq_zero.1 e1 with h | h
                · rw [z a h]; rfl
                · rw [z b h]; cases zeroB a <;> rfl
              have s1 := split_B c hc
              unfold sgnW at s1
              rw [ec, zc] at s1
              apply hz
              rw [zab, es, show c = 9223372036854775808 from s1]; rfl
        rw [this]; rfl
    · have hz : ¬ ((zeroB a || zeroB b) && (sgnB a != sgnB b) && decide (c = 9223372036854775808)) = true := by
        intro hz
        have hz2 : ((zeroB a || zeroB b) = true ∧ (sgnB a != sgnB b) = true) ∧ c = 9223372036854775808 := by simpa [Bool.and_eq_true] using hz
        apply h0
        unfold fusT
        have v0 : ∀ x, zeroB x = true → valB x = 0 := fun x h => by
          unfold zeroB at h
          have : absB x = 0 := by simpa using h
          unfold valB; rw [this, rv_zero]; simp
        rw [hz2.2, v0 9223372036854775808 (by decide), Int.zero_mul, Int.add_zero, Int.mul_eq_zero]
        rw [Bool.or_eq_true] at hz2
        rcases hz2.1.1 with h | h
        · exact .inl (v0 a h)
        · exact .inr (v0 b h)
      rw [if_neg hz, if_neg h0, if_neg h0]
      unfold resB
      by_cases hc : R < 9218868437227405312
      · rw [if_pos hc, if_neg (by simp; omega), Nat.min_eq_left (by omega)]
      · rw [if_neg hc, if_pos (by simp; omega)]
  · rw [sgW_add_inf]
    unfold fusX
    rw [hf]
    simp only [Bool.not_true, Bool.false_eq_true, if_false]
    by_cases h0 : fusT a b c = 0
    · have hR0 : R = 0 := by
        rw [h0] at hR
        exact Near.uniq (Nat.two_pow_pos _) hR (near_zero 52 _ (Nat.two_pow_pos _))
      rw [hR0, if_pos h0]; rfl
    · rw [if_neg h0]
      unfold resX
      by_cases hc : R < 9218868437227405312
      · rw [if_pos hc, if_neg (by simp; omega)]
      · rw [if_neg hc, if_pos (by simp; omega)]
end Go.Proofs.YtiimjbpfdidgcaaDoor

/- Walks: table's Fused, Less, Equal. -/
namespace Go.Proofs.YtiimjbpfdidgcaaDoor
open Go.RowKit

theorem cls_fin (x : Nat) (h : finB x = true) : 2 < clsB x := by
  rw [finB_eq] at h
  have h2 : nanB x = false ∧ infB x = false := by simpa using h
  unfold clsB
  rw [h2.1, h2.2]
  simp only [Bool.false_eq_true, if_false]
  split; omega; split <;> omega
theorem cls_not (x : Nat) (h : finB x = false) : ¬ 2 < clsB x := by
  rw [finB_eq] at h
  unfold clsB
  cases hn : nanB x
  · cases hi : infB x
    · rw [hn, hi] at h; exact absurd h (by decide)
    · simp
  · simp
theorem fus_not_nan (a b c : Nat) (hbad : fusBad a b c = false) : nanB (if infB a || infB b then sgW (sgnB a != sgnB b) + 9218868437227405312 else c) = false := by
  have hn : (nanB a = false ∧ nanB b = false) ∧ nanB c = false := by unfold fusBad at hbad; simp at hbad; exact hbad.1.1
  split
  · unfold nanB absB sgW; split <;> decide
  · exact hn.2
theorem fus_val (a b c R : Nat) (hf : fusFin a b c = false) (hbad : fusBad a b c = false) : fusB a b c R = (if infB a || infB b then sgW (sgnB a != sgnB b) + 9218868437227405312 else c) ∧ fusX a b c R = 0 := by
  have hn : (nanB a = false ∧ nanB b = false) ∧ nanB c = false := by unfold fusBad at hbad; simp at hbad; exact hbad.1.1
  constructor
  · unfold fusB
    rw [hbad]
    simp only [Bool.false_eq_true, if_false]
    cases hi : (infB a || infB b)
    · have h2 : infB a = false ∧ infB b = false := by simpa using hi
      have : infB c = true := by
        unfold fusFin at hf
        rw [finB_eq, finB_eq, finB_eq, hn.1.1, hn.1.2, hn.2, h2.1, h2.2] at hf
        simpa using hf
      rw [this]; rfl
    · rfl
  · unfold fusX
    rw [hf]; rfl

set_option maxHeartbeats 1000000 in
set_option maxRecDepth 100000 in
theorem tfused_any (a b c R : Nat) (w : World) (ha : W64 a) (hb : W64 b) (hc : W64 c) (hR : fusFin a b c = true → Near 52 (fusT a b c).natAbs (2^LP) R) :
    Calls Tryd.prog 13 #[.float .f64 a, .float .f64 b, .float .f64 c] w fun e w' => e = .returned (.tuple #[.float .f64 (fusB a b c R), .int .i64 (fusX a b c R)]) ∧ Below w.heap.size w w' := by
  have HCA : Hid (∀ W, Calls Tryd.prog 59 #[.float .f64 a] W fun e w' => e = .returned (.int .i64 (clsB a)) ∧ W = w') := fun W => class_any a W ha
  have HCB : Hid (∀ W, Calls Tryd.prog 59 #[.float .f64 b] W fun e w' => e = .returned (.int .i64 (clsB b)) ∧ W = w') := fun W => class_any b W hb
  have HCC : Hid (∀ W, Calls Tryd.prog 59 #[.float .f64 c] W fun e w' => e = .returned (.int .i64 (clsB c)) ∧ W = w') := fun W => class_any c W hc
  cases hf : fusFin a b c
  · have hinf := fma_inf a b c ha hb hc hf
    have hcl : ¬ 2 < clsB a ∨ (2 < clsB a ∧ ¬ 2 < clsB b) ∨ (2 < clsB a ∧ 2 < clsB b ∧ ¬ 2 < clsB c) := by
      unfold fusFin at hf
      cases fa : finB a
      · exact .inl (cls_not a fa)
      · cases fb : finB b
        · exact .inr (.inl ⟨cls_fin a fa, cls_not b fb⟩)
        · rw [fa, fb] at hf
          exact .inr (.inr ⟨cls_fin a fa, cls_fin b fb, cls_not c (by simpa using hf)⟩)
    generalize clsB a = ca at *
    generalize clsB b = cb at *
    generalize clsB c = cc at *
    cases hbad : fusBad a b c
    · rw [hbad] at hinf
      obtain ⟨v, hv⟩ : ∃ v, v = (if infB a || infB b then sgW (sgnB a != sgnB b) + 9218868437227405312 else c) := ⟨_, rfl⟩
      have hnan := fus_not_nan a b c hbad
      obtain ⟨e1, e2⟩ := fus_val a b c R hf hbad
      rw [← hv] at hinf hnan e1
      have hq := fun (w : World) => run_fma a b c v w hinf
      have HO : Hid (∀ W, Calls Tryd.prog 60 #[.float .f64 v] W fun e w' => e = .returned (.float .f64 v) ∧ W = w') := fun W => by
        have h := one_any v W
        have e : oneB v = v := by unfold oneB; rw [hnan]; rfl
        rwa [e] at h
      have HE1 : Hid _ := e1
      have HE2 : Hid _ := e2
      clear hinf hnan e1 e2 hv hf hbad hR ha hb hc
      rcases hcl with h | ⟨h, h'⟩ | ⟨h, h', h''⟩
      all_goals
        go_enter Tryd.func13, Tryd.ntmps13
        go_wp2_with (first | (go_at_call 59; with_reducible refine (HCA.out _).mono ?_; rintro e w' ⟨rfl, rfl⟩) | (go_at_call 59; with_reducible refine (HCB.out _).mono ?_; rintro e w' ⟨rfl, rfl⟩) | (go_at_call 59; with_reducible refine (HCC.out _).mono ?_; rintro e w' ⟨rfl, rfl⟩) | (go_at_call 60; with_reducible refine (HO.out _).mono ?_; rintro e w' ⟨rfl, rfl⟩))
        go_ret2
        exact ⟨by rw [HE1.out, HE2.out]; rfl, Below.refl _ _⟩
    · rw [hbad] at hinf
      have hex := fun (w : World) => run_fma_nan a b c w hinf
      obtain ⟨r, hr⟩ : ∃ r : World → Nat, ∀ w, nanB (r w) = true ∧ W64 (r w) ∧ (callFunc 58 #[.float .f64 a, .float .f64 b, .float .f64 c]).run Tryd.prog w = .ok (.value (.float .f64 (r w))) w.drew := ⟨fun w => (hex w).choose, fun w => (hex w).choose_spec⟩
      have hq := fun w => (hr w).2.2
      have HO : Hid (∀ W V, Calls Tryd.prog 60 #[.float .f64 (r V)] W fun e w' => e = .returned (.float .f64 theNaN) ∧ W = w') := fun W V => by
        have h := one_any (r V) W
        have e : oneB (r V) = theNaN := by unfold oneB; rw [(hr V).1]; rfl
        rwa [e] at h
      have HE1 : Hid (fusB a b c R = theNaN) := by show _ = _; unfold fusB; rw [hbad]; rfl
      have HE2 : Hid (fusX a b c R = 0) := by show _ = _; unfold fusX; rw [hf]; rfl
      clear hinf hf hbad hR ha hb hc hex hr
      rcases hcl with h | ⟨h, h'⟩ | ⟨h, h', h''⟩
      all_goals
        go_enter Tryd.func13, Tryd.ntmps13
        go_wp2_with (first | (go_at_call 59; with_reducible refine (HCA.out _).mono ?_; rintro e w' ⟨rfl, rfl⟩) | (go_at_call 59; with_reducible refine (HCB.out _).mono ?_; rintro e w' ⟨rfl, rfl⟩) | (go_at_call 59; with_reducible refine (HCC.out _).mono ?_; rintro e w' ⟨rfl, rfl⟩) | (go_at_call 60; with_reducible refine (HO.out _ _).mono ?_; rintro e w' ⟨rfl, rfl⟩))
        go_ret2
        exact ⟨by rw [HE1.out, HE2.out]; rfl, (Below.refl _ _).drew⟩
  · obtain ⟨s, g1, g2, g3, g4⟩ := fus_told a b c R ha hb hc hf (hR hf)
    have hq := fun (w : World) => run_fma a b c s w g1
    have HTO : Hid (∀ W, Calls Tryd.prog 47 #[.float .f64 s] W fun e w' => e = .returned (.tuple #[.float .f64 (fusB a b c R), .int .i64 (fusX a b c R)]) ∧ W = w') := fun W => by
      have := ttold_any s W g2
      rwa [g3, g4] at this
    have hf2 : (finB a = true ∧ finB b = true) ∧ finB c = true := by unfold fusFin at hf; simpa using hf
    have h1 := cls_fin a hf2.1.1
    have h2 := cls_fin b hf2.1.2
    have h3 := cls_fin c hf2.2
    generalize clsB a = ca at *
    generalize clsB b = cb at *
    generalize clsB c = cc at *
    clear hf hR ha hb hc g1 g2 g3 g4 hf2
    go_enter Tryd.func13, Tryd.ntmps13
    go_wp2_with (first | (go_at_call 59; with_reducible refine (HCA.out _).mono ?_; rintro e w' ⟨rfl, rfl⟩) | (go_at_call 59; with_reducible refine (HCB.out _).mono ?_; rintro e w' ⟨rfl, rfl⟩) | (go_at_call 59; with_reducible refine (HCC.out _).mono ?_; rintro e w' ⟨rfl, rfl⟩) | (go_at_call 47; with_reducible refine (HTO.out _).mono ?_; rintro e w' ⟨rfl, rfl⟩))
    go_ret2
    exact ⟨rfl, Below.refl _ _⟩

theorem tless_any (a b : Nat) (w : World) (ha : W64 a) (hb : W64 b) : Calls Tryd.prog 15 #[.float .f64 a, .float .f64 b] w fun e w' => e = .returned (.bool (lessB a b)) ∧ w = w' := by
  have hl := less_D a b ha hb
  go_enter Tryd.func15, Tryd.ntmps15
  go_wp2
  go_ret
  exact ⟨rfl, rfl⟩
theorem tequal_any (a b : Nat) (w : World) (ha : W64 a) (hb : W64 b) : Calls Tryd.prog 17 #[.float .f64 a, .float .f64 b] w fun e w' => e = .returned (.bool (equalB a b)) ∧ w = w' := by
  have hl := equal_D a b ha hb
  go_enter Tryd.func17, Tryd.ntmps17
  go_wp2
  go_ret
  exact ⟨rfl, rfl⟩
end Go.Proofs.YtiimjbpfdidgcaaDoor
