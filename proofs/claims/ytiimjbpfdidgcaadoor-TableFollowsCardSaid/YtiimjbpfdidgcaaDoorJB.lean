/- Parts Zt, Zu of the proof, in one text. -/
import Derived.Test.YtiimjbpfdidgcaaDoorJA
import Derived.Test.YtiimjbpfdidgcaaDoorIC

/- Walks: table's Mod. -/
namespace Go.Proofs.YtiimjbpfdidgcaaDoor
open Go.RowKit

/-- What is left of a by b, and what that comes to with b. -/
def ModR (a b r R : Nat) : Prop := r < 9218868437227405312 ∧ rv 52 r = rv 52 (absB a) % rv 52 (absB b) ∧ Near 52 (rv 52 (absB b) - rv 52 r) 1 R
def mdB (a b r R : Nat) : Nat := if nanB a || nanB b then theNaN else if zeroB b then 0 else if infB a then theNaN else if infB b then (if zeroB a || (sgnB a == sgnB b) then a else b)
  else if r = 0 then sgW (sgnB b) else if sgnB a == sgnB b then sgW (sgnB b) + r else sgW (sgnB b) + R
def mdX (a b : Nat) : Int := if nanB a || nanB b then 0 else if zeroB b then 13 else 0

theorem mod_exc (a b r R : Nat) :
    (exK (restZ (3 * tcls a + tcls b)) a b = true → exB (restZ (3 * tcls a + tcls b)) a b = mdB a b r R ∧ exX (restZ (3 * tcls a + tcls b)) a b = mdX a b) ∧
    (exK (restZ (3 * tcls a + tcls b)) a b = false → (finB a = true ∧ nanB b = false ∧ zeroB b = false ∧ (infB b = true → zeroB a = false))) := by
  cases na : nanB a
  · cases nb : nanB b
    · rw [tcls_eq a na, tcls_eq b nb]
      have fa := finB_eq a
      rw [na] at fa
      have za : infB a = true → zeroB a = false := fun h => by cases hz : zeroB a; rfl; rw [(zero_not_inf hz).1] at h; cases h
      have zb : infB b = true → zeroB b = false := fun h => by cases hz : zeroB b; rfl; rw [(zero_not_inf hz).1] at h; cases h
      unfold exB exX exK mdB mdX
      rw [na, nb]
      cases ia : infB a <;> cases ib : infB b <;> rw [ia] at fa za <;> rw [ib] at zb <;> cases hza : zeroB a <;> cases hzb : zeroB b
      all_goals first
        | exact Bool.noConfusion ((za rfl).symm.trans hza)
        | exact Bool.noConfusion ((zb rfl).symm.trans hzb)
        | simp [restZ, fa]
    · refine ⟨fun _ => ⟨?_, ?_⟩, fun h => ?_⟩
      · unfold exB mdB; rw [na, nb]; rfl
      · unfold exX mdX; rw [na, nb]; rfl
      · unfold exK at h; rw [na, nb] at h; cases h
  · refine ⟨fun _ => ⟨?_, ?_⟩, fun h => ?_⟩
    · unfold exB mdB; rw [na]; rfl
    · unfold exX mdX; rw [na]; rfl
    · unfold exK at h; rw [na] at h; cases h

theorem mod_ex2 (a b : Nat) (fa : finB a = true) (fb : finB b = true) (zb : zeroB b = false) : ∃ r R, ModR a b r R := by
  have hy0 : 0 < absB b := by unfold zeroB at zb; simp at zb; omega
  obtain ⟨r, h1, h2⟩ := mod_ex (absB b) hy0 (finB_lt' b fb) (absB a) (absB a) (Nat.le_refl _) (finB_lt' a fa)
  have := finB_lt' a fa
  have hb0 : rv 52 r ≤ rv 52 (absB b) := by
    rw [h2]
    exact Nat.le_of_lt (Nat.mod_lt _ (by have := rv_lt (p := 52) hy0; omega))
  obtain ⟨R, hR, -⟩ := add_D (absB b) (sgW true + r) (absB_W b) (by unfold W64 sgW; simp; omega) (by unfold finB; rw [absB_abs]; simpa using finB_lt' b fb) (by unfold finB absB sgW; simp; omega)
  refine ⟨r, R, by omega, h2, ?_⟩
  rw [valB_abs, (valB_word true r (by omega)).2.2] at hR
  have e : ((rv 52 (absB b) : Int) + sg true (rv 52 r)).natAbs = rv 52 (absB b) - rv 52 r := by unfold sg; simp; omega
  rw [e] at hR
  exact hR

theorem ModR.le {a b r R : Nat} (h : ModR a b r R) (hb : 0 < absB b) : r < absB b ∧ R ≤ absB b := by
  obtain ⟨h1, h2, h3⟩ := h
  have hp : 0 < rv 52 (absB b) := by have := rv_lt (p := 52) hb; omega
  have hlt : rv 52 r < rv 52 (absB b) := by rw [h2]; exact Nat.mod_lt _ hp
  refine ⟨rv_lt_iff.1 hlt, ?_⟩
  exact rv_le_iff.1 ((near_best (C := absB b) h3).1 (Nat.sub_le _ _)).1

/-- The sum, where the signs are unlike. -/
theorem mod_add (a b r R : Nat) (hb : W64 b) (fb : finB b = true) (zb : zeroB b = false) (h : ModR a b r R) (hne : (sgnB a == sgnB b) = false) :
    Go.floatBits .add .f64 (sgW (sgnB a) + r) b = some (sgW (sgnB b) + R) := by
  have hy0 : 0 < absB b := by unfold zeroB at zb; simp at zb; omega
  obtain ⟨l1, l2⟩ := h.le hy0
  have hy1 := finB_lt' b fb
  obtain ⟨h1, h2, h3⟩ := h
  obtain ⟨v1, v2, v3⟩ := valB_word (sgnB a) r (by omega)
  obtain ⟨R', g1, g2⟩ := add_D (sgW (sgnB a) + r) b v1 hb (by unfold finB; rw [v2]; simpa using h1) fb
  have hlt : rv 52 r < rv 52 (absB b) := rv_lt l1
  have hv : valB b = sg (sgnB b) (rv 52 (absB b)) := by unfold valB sg; rfl
  rw [v3, hv] at g1 g2
  have e1 : (sg (sgnB a) (rv 52 r) + sg (sgnB b) (rv 52 (absB b))).natAbs = rv 52 (absB b) - rv 52 r := by
    unfold sg
    cases ha : sgnB a <;> cases hb : sgnB b <;> rw [ha, hb] at hne <;> simp at hne ⊢ <;> omega
  have e2 : ¬ sg (sgnB a) (rv 52 r) + sg (sgnB b) (rv 52 (absB b)) = 0 := by omega
  have e3 : decide (sg (sgnB a) (rv 52 r) + sg (sgnB b) (rv 52 (absB b)) < 0) = sgnB b := by
    unfold sg
    cases ha : sgnB a <;> cases hb : sgnB b <;> rw [ha, hb] at hne <;> simp at hne ⊢ <;> omega
  rw [e1] at g1
  have hRR := Near.uniq (by decide) g1 h3
  subst hRR
  rw [g2, if_neg e2, e3, Nat.min_eq_left (by omega)]

set_option maxHeartbeats 1000000 in
set_option maxRecDepth 100000 in
theorem tmod_any (a b r R : Nat) (w : World) (ha : W64 a) (hb : W64 b) (hT : Tab9 w 3 restZ) (hR : finB a = true → finB b = true → zeroB b = false → ModR a b r R) :
    Calls Tryd.prog 37 #[.float .f64 a, .float .f64 b] w fun e w' => e = .returned (.tuple #[.float .f64 (mdB a b r R), .int .i64 (mdX a b)]) ∧ Below w.heap.size w w' := by
  have HSA : Hid (∀ W, Calls Tryd.prog 35 #[.float .f64 a] W fun e w' => e = .returned (.bool (sgnB a)) ∧ W = w') := fun W => signbit_any a W ha
  have HSB : Hid (∀ W, Calls Tryd.prog 35 #[.float .f64 b] W fun e w' => e = .returned (.bool (sgnB b)) ∧ W = w') := fun W => signbit_any b W hb
  have HIB : Hid (∀ W, Calls Tryd.prog 43 #[.float .f64 b, .int .i64 0] W fun e w' => e = .returned (.bool (infB b)) ∧ W = w') := fun W => isinf_any b W hb
  obtain ⟨x1, x2⟩ := mod_exc a b r R
  obtain ⟨z, hz⟩ : ∃ z, z = restZ := ⟨_, rfl⟩
  rw [← hz] at hT x1 x2
  have HX : Hid (∀ W, Calls Tryd.prog 66 #[.agg #[.int .i64 (z 0), .int .i64 (z 1), .int .i64 (z 2), .int .i64 (z 3), .int .i64 (z 4), .int .i64 (z 5), .int .i64 (z 6), .int .i64 (z 7), .int .i64 (z 8)], .float .f64 a, .float .f64 b] W
    fun e w' => e = .returned (.tuple #[.float .f64 (exB (z (3 * tcls a + tcls b)) a b), .int .i64 (exX (z (3 * tcls a + tcls b)) a b), .bool (exK (z (3 * tcls a + tcls b)) a b)]) ∧ Below W.heap.size W w') := fun W => exception_any z a b W ha hb (by rw [hz]; exact restZ_range)
  obtain ⟨xb, hxb⟩ : ∃ xb, xb = exB (z (3 * tcls a + tcls b)) a b := ⟨_, rfl⟩
  obtain ⟨xx, hxx⟩ : ∃ xx, xx = exX (z (3 * tcls a + tcls b)) a b := ⟨_, rfl⟩
  obtain ⟨xk, hxk⟩ : ∃ xk, xk = exK (z (3 * tcls a + tcls b)) a b := ⟨_, rfl⟩
  rw [← hxb, ← hxx, ← hxk] at HX
  rw [← hxk, ← hxb, ← hxx] at x1
  rw [← hxk] at x2
  have c0 := hT 0 (by decide)
  have c1 := hT 1 (by decide)
  have c2 := hT 2 (by decide)
  have c3 := hT 3 (by decide)
  have c4 := hT 4 (by decide)
  have c5 := hT 5 (by decide)
  have c6 := hT 6 (by decide)
  have c7 := hT 7 (by decide)
  have c8 := hT 8 (by decide)
  clear hxb hxx hxk hz hT
  obtain ⟨s, hs⟩ : ∃ s, s = (sgnB a == sgnB b) := ⟨_, rfl⟩
  have hs2 : (sgnB a == sgnB b) = s := hs.symm
  cases xk
  · obtain ⟨fa, nb, zb, hi⟩ := x2 rfl
    have na : nanB a = false ∧ infB a = false := by rw [finB_eq] at fa; simpa using fa
    obtain ⟨m1, hm1⟩ : ∃ x, x = mdB a b r R := ⟨_, rfl⟩
    have hm2 : mdX a b = 0 := by unfold mdX; rw [na.1, nb, zb]; rfl
    rw [← hm1, hm2]
    clear hm2
    unfold mdB at hm1
    simp only [na.1, na.2, nb, zb, ← hs, Bool.or_self, Bool.false_eq_true, if_false] at hm1
    cases ib : infB b
    · have fb : finB b = true := by rw [finB_eq, nb, ib]; rfl
      rw [ib] at hm1 HIB
      simp only [Bool.false_eq_true, if_false] at hm1
      have hmr := hR fa fb zb
      obtain ⟨r', g1, g2, g3⟩ := mmod_any a b ha hb fa fb zb
      have e : r' = r := rv_inj (p := 52) (by rw [g2, hmr.2.1])
      subst e
      obtain ⟨v1, v2, v3⟩ := valB_word (sgnB a) r' (by omega)
      have hrz : zeroB (sgW (sgnB a) + r') = decide (r' = 0) := by unfold zeroB; rw [v2]
      have hez := w_eq_zero _ v1
      rw [hrz] at hez
      have hma := mod_add a b r' R hb fb zb hmr
      rw [← hs] at hma
      have HMD : Hid (∀ W, Calls Tryd.prog 69 #[.float .f64 a, .float .f64 b] W fun e w' => e = .returned (.float .f64 (sgW (sgnB a) + r')) ∧ W = w') := g3
      have HCP : Hid (∀ W, Calls Tryd.prog 31 #[.float .f64 0, .float .f64 b] W fun e w' => e = .returned (.float .f64 (sgW (sgnB b))) ∧ W = w') := fun W => copysign_any 0 b W (by unfold W64; decide) hb
      have hsl : s = true → sgW (sgnB a) + r' = sgW (sgnB b) + r' := fun h => by
        rw [h] at hs
        rw [eq_of_beq hs.symm]
      generalize sgW (sgnB a) + r' = rr at *
      clear x1 x2 hR fa fb nb zb na hi hmr g1 g2 g3 v1 v2 v3 hrz ha hb hs
      by_cases h0 : r' = 0
      · rw [if_pos h0] at hm1
        rw [decide_eq_true h0] at hez
        subst hm1
        clear hma hsl
        go_enter Tryd.func37, Tryd.ntmps37
        go_wp2_with (first | (go_at_call 66; with_reducible refine (HX.out _).mono ?_; rintro e w' ⟨rfl, hb'⟩; clear c0 c1 c2 c3 c4 c5 c6 c7 c8) | (go_at_call 35; with_reducible refine (HSA.out _).mono ?_; rintro e w' ⟨rfl, rfl⟩) | (go_at_call 35; with_reducible refine (HSB.out _).mono ?_; rintro e w' ⟨rfl, rfl⟩) | (go_at_call 43; with_reducible refine (HIB.out _).mono ?_; rintro e w' ⟨rfl, rfl⟩) | (go_at_call 69; with_reducible refine (HMD.out _).mono ?_; rintro e w' ⟨rfl, rfl⟩) | (go_at_call 31; with_reducible refine (HCP.out _).mono ?_; rintro e w' ⟨rfl, rfl⟩))
        go_ret2
        exact ⟨rfl, by assumption⟩
      · rw [if_neg h0] at hm1
        rw [decide_eq_false h0] at hez
        cases s
        · rw [if_neg (by decide)] at hm1
          have hq := fun (w : World) => run_float_arith (P := Tryd.prog) w .add 24 .f64 _ _ _ (hma rfl)
          rw [← hm1] at hq
          clear hma hsl hm1
          go_enter Tryd.func37, Tryd.ntmps37
          go_wp2_with (first | (go_at_call 66; with_reducible refine (HX.out _).mono ?_; rintro e w' ⟨rfl, hb'⟩; clear c0 c1 c2 c3 c4 c5 c6 c7 c8) | (go_at_call 35; with_reducible refine (HSA.out _).mono ?_; rintro e w' ⟨rfl, rfl⟩) | (go_at_call 35; with_reducible refine (HSB.out _).mono ?_; rintro e w' ⟨rfl, rfl⟩) | (go_at_call 43; with_reducible refine (HIB.out _).mono ?_; rintro e w' ⟨rfl, rfl⟩) | (go_at_call 69; with_reducible refine (HMD.out _).mono ?_; rintro e w' ⟨rfl, rfl⟩))
          go_ret2
          exact ⟨rfl, by assumption⟩
        · rw [if_pos rfl, ← hsl rfl] at hm1
          subst hm1
          clear hma hsl
          go_enter Tryd.func37, Tryd.ntmps37
          go_wp2_with (first | (go_at_call 66; with_reducible refine (HX.out _).mono ?_; rintro e w' ⟨rfl, hb'⟩; clear c0 c1 c2 c3 c4 c5 c6 c7 c8) | (go_at_call 35; with_reducible refine (HSA.out _).mono ?_; rintro e w' ⟨rfl, rfl⟩) | (go_at_call 35; with_reducible refine (HSB.out _).mono ?_; rintro e w' ⟨rfl, rfl⟩) | (go_at_call 43; with_reducible refine (HIB.out _).mono ?_; rintro e w' ⟨rfl, rfl⟩) | (go_at_call 69; with_reducible refine (HMD.out _).mono ?_; rintro e w' ⟨rfl, rfl⟩))
          go_ret2
          exact ⟨rfl, by assumption⟩
    · have za := hi ib
      rw [ib] at hm1 HIB
      rw [za] at hm1
      simp only [if_true, Bool.false_or] at hm1
      clear x1 x2 hR fa nb zb na hi ha hb hs
      cases s
      all_goals
        simp only [Bool.false_eq_true, if_false, if_true] at hm1
        subst hm1
        go_enter Tryd.func37, Tryd.ntmps37
        go_wp2_with (first | (go_at_call 66; with_reducible refine (HX.out _).mono ?_; rintro e w' ⟨rfl, hb'⟩; clear c0 c1 c2 c3 c4 c5 c6 c7 c8) | (go_at_call 35; with_reducible refine (HSA.out _).mono ?_; rintro e w' ⟨rfl, rfl⟩) | (go_at_call 35; with_reducible refine (HSB.out _).mono ?_; rintro e w' ⟨rfl, rfl⟩) | (go_at_call 43; with_reducible refine (HIB.out _).mono ?_; rintro e w' ⟨rfl, rfl⟩))
        go_ret2
        exact ⟨rfl, by assumption⟩
  · obtain ⟨h2, h3⟩ := x1 rfl
    have HE1 : Hid _ := h2
    have HE2 : Hid _ := h3
    clear x1 x2 hR ha hb h2 h3 hs hs2
    go_enter Tryd.func37, Tryd.ntmps37
    go_wp2_with (first | (go_at_call 66; with_reducible refine (HX.out _).mono ?_; rintro e w' ⟨rfl, hb'⟩; clear c0 c1 c2 c3 c4 c5 c6 c7 c8))
    go_ret2
    exact ⟨by rw [← HE1.out, ← HE2.out]; rfl, by assumption⟩
end Go.Proofs.YtiimjbpfdidgcaaDoor

/- Walks: table's Div. -/
namespace Go.Proofs.YtiimjbpfdidgcaaDoor
open Go.RowKit

def divB (a b R : Nat) : Nat := if nanB a || nanB b then theNaN else if zeroB b then 0 else if infB a && infB b then theNaN else if infB a then sgW (sgnB a != sgnB b) + 9218868437227405312 else if zeroB a || infB b then sgW (sgnB a != sgnB b) else resB (sgnB a != sgnB b) R
def divX (a b R : Nat) : Int := if nanB a || nanB b then 0 else if zeroB b then 13 else if infB a || infB b || zeroB a then 0 else resX R

/-- What the program's own quotient of two finite numbers comes to. -/
theorem div_D (x y : Nat) (hx : W64 x) (hy : W64 y) (fx : finB x = true) (fy : finB y = true) (zy : zeroB y = false) : ∃ R, Near 52 (rv 52 (absB x) * 2^LP) (rv 52 (absB y)) R ∧
    Go.floatBits .quo .f64 x y = some (sgW (sgnB x != sgnB y) + min R 9218868437227405312) := by
  have h0 : rg Ieee.double y ≠ 0 := by rw [rg_D]; unfold zeroB at zy; simpa using zy
  obtain ⟨R, g1, g2⟩ := div_fin Ieee.double (by decide) (by rw [D_lp]; decide) x y ((fin_D x).2 fx) ((fin_D y).2 fy) h0
  rw [sgn_D x hx, sgn_D y hy, D_inf] at g1
  rw [rg_D, rg_D, D_lp'] at g2
  refine ⟨R, by have := LP_eq; rwa [show (-(-(LP : Int))).toNat = LP by omega] at g2, ?_⟩
  show Ieee.double.div x y = _
  rw [g1, word_sg]

theorem div_told (a b R : Nat) (ha : W64 a) (hb : W64 b) (fa : finB a = true) (fb : finB b = true) (zb : zeroB b = false) (hR : Near 52 (rv 52 (absB a) * 2^LP) (rv 52 (absB b)) R) :
    ∃ s, Go.floatBits .quo .f64 a b = some s ∧ W64 s ∧ (if infB s then 0 else s) = divB a b R ∧ (if infB s then 15 else 0) = divX a b R := by
  obtain ⟨R', h1, h2⟩ := div_D a b ha hb fa fb zb
  have hp : 0 < rv 52 (absB b) := by
    have h0 : 0 < absB b := by unfold zeroB at zb; simp at zb; omega
    have := rv_lt (p := 52) h0
    omega
  obtain rfl := Near.uniq hp hR h1
  have na : nanB a = false ∧ infB a = false := by rw [finB_eq] at fa; simpa using fa
  have nb : nanB b = false ∧ infB b = false := by rw [finB_eq] at fb; simpa using fb
  have hR0 : zeroB a = true → R = 0 := fun h => by
    have e : rv 52 (absB a) * 2^LP = 0 := by unfold zeroB at h; rw [show absB a = 0 by simpa using h, rv_zero, Nat.zero_mul]
    rw [e] at hR
    exact Near.uniq hp hR (near_zero 52 _ hp)
  refine ⟨_, h2, ?_, ?_, ?_⟩
  · have := sgW_le (sgnB a != sgnB b); unfold W64; omega
  · rw [sgW_add_inf]
    unfold divB
    simp only [na.1, na.2, nb.1, nb.2, zb, Bool.or_self, Bool.and_self, Bool.or_false, Bool.false_eq_true, if_false]
    by_cases hz : zeroB a = true
    · rw [hR0 hz, if_pos hz]; rfl
    · rw [if_neg hz]
      unfold resB
      by_cases hc : R < 9218868437227405312
      · rw [if_pos hc, if_neg (by simp; omega), Nat.min_eq_left (by omega)]
      · rw [if_neg hc, if_pos (by simp; omega)]
  · rw [sgW_add_inf]
    unfold divX
    simp only [na.1, na.2, nb.1, nb.2, zb, Bool.or_self, Bool.false_or, Bool.false_eq_true, if_false]
    by_cases hz : zeroB a = true
    · rw [hR0 hz, if_pos hz]; rfl
    · rw [if_neg hz]
      unfold resX
      by_cases hc : R < 9218868437227405312
      · rw [if_pos hc, if_neg (by simp; omega)]
      · rw [if_neg hc, if_pos (by simp; omega)]

theorem div_exc (a b R : Nat) :
    (exK (quoZ (3 * tcls a + tcls b)) a b = true → exB (quoZ (3 * tcls a + tcls b)) a b = divB a b R ∧ exX (quoZ (3 * tcls a + tcls b)) a b = divX a b R) ∧
    (exK (quoZ (3 * tcls a + tcls b)) a b = false → (finB a = true ∧ finB b = true ∧ zeroB b = false)) := by
  cases na : nanB a
  · cases nb : nanB b
    · rw [tcls_eq a na, tcls_eq b nb]
      have fa := finB_eq a
      have fb := finB_eq b
      rw [na] at fa
      rw [nb] at fb
      have za : infB a = true → zeroB a = false := fun h => by cases hz : zeroB a; rfl; rw [(zero_not_inf hz).1] at h; cases h
      have zb : infB b = true → zeroB b = false := fun h => by cases hz : zeroB b; rfl; rw [(zero_not_inf hz).1] at h; cases h
      unfold exB exX exK divB divX
      rw [na, nb]
      cases ia : infB a <;> cases ib : infB b <;> rw [ia] at fa za <;> rw [ib] at fb zb <;> cases hza : zeroB a <;> cases hzb : zeroB b
      all_goals first
        | exact Bool.noConfusion ((za rfl).symm.trans hza)
        | exact Bool.noConfusion ((zb rfl).symm.trans hzb)
        | simp [quoZ, fa, fb]
    · refine ⟨fun _ => ⟨?_, ?_⟩, fun h => ?_⟩
      · unfold exB divB; rw [na, nb]; rfl
      · unfold exX divX; rw [na, nb]; rfl
      · unfold exK at h; rw [na, nb] at h; cases h
  · refine ⟨fun _ => ⟨?_, ?_⟩, fun h => ?_⟩
    · unfold exB divB; rw [na]; rfl
    · unfold exX divX; rw [na]; rfl
    · unfold exK at h; rw [na] at h; cases h

set_option maxHeartbeats 1000000 in
set_option maxRecDepth 100000 in
theorem tdiv_any (a b R : Nat) (w : World) (ha : W64 a) (hb : W64 b) (hT : Tab9 w 4 quoZ) (hR : finB a = true → finB b = true → zeroB b = false → Near 52 (rv 52 (absB a) * 2^LP) (rv 52 (absB b)) R) :
    Calls Tryd.prog 39 #[.float .f64 a, .float .f64 b] w fun e w' => e = .returned (.tuple #[.float .f64 (divB a b R), .int .i64 (divX a b R)]) ∧ Below w.heap.size w w' := by
  obtain ⟨x1, x2⟩ := div_exc a b R
  obtain ⟨z, hz⟩ : ∃ z, z = quoZ := ⟨_, rfl⟩
  rw [← hz] at hT x1 x2
  have HX : Hid (∀ W, Calls Tryd.prog 66 #[.agg #[.int .i64 (z 0), .int .i64 (z 1), .int .i64 (z 2), .int .i64 (z 3), .int .i64 (z 4), .int .i64 (z 5), .int .i64 (z 6), .int .i64 (z 7), .int .i64 (z 8)], .float .f64 a, .float .f64 b] W
    fun e w' => e = .returned (.tuple #[.float .f64 (exB (z (3 * tcls a + tcls b)) a b), .int .i64 (exX (z (3 * tcls a + tcls b)) a b), .bool (exK (z (3 * tcls a + tcls b)) a b)]) ∧ Below W.heap.size W w') := fun W => exception_any z a b W ha hb (by rw [hz]; exact quoZ_range)
  obtain ⟨xb, hxb⟩ : ∃ xb, xb = exB (z (3 * tcls a + tcls b)) a b := ⟨_, rfl⟩
  obtain ⟨xx, hxx⟩ : ∃ xx, xx = exX (z (3 * tcls a + tcls b)) a b := ⟨_, rfl⟩
  obtain ⟨xk, hxk⟩ : ∃ xk, xk = exK (z (3 * tcls a + tcls b)) a b := ⟨_, rfl⟩
  rw [← hxb, ← hxx, ← hxk] at HX
  rw [← hxk, ← hxb, ← hxx] at x1
  rw [← hxk] at x2
  have c0 := hT 0 (by decide)
  have c1 := hT 1 (by decide)
  have c2 := hT 2 (by decide)
  have c3 := hT 3 (by decide)
  have c4 := hT 4 (by decide)
  have c5 := hT 5 (by decide)
  have c6 := hT 6 (by decide)
  have c7 := hT 7 (by decide)
  have c8 := hT 8 (by decide)
  clear hxb hxx hxk hz hT
  cases xk
  · obtain ⟨fa, fb, zb⟩ := x2 rfl
    obtain ⟨s, g1, g2, g3, g4⟩ := div_told a b R ha hb fa fb zb (hR fa fb zb)
    have hq := fun (w : World) => run_float_arith (P := Tryd.prog) w .quo 24 .f64 _ _ _ g1
    have HTO : Hid (∀ W, Calls Tryd.prog 47 #[.float .f64 s] W fun e w' => e = .returned (.tuple #[.float .f64 (divB a b R), .int .i64 (divX a b R)]) ∧ W = w') := fun W => by
      have := ttold_any s W g2
      rwa [g3, g4] at this
    clear x1 x2 hR ha hb fa fb zb g1 g2 g3 g4
    go_enter Tryd.func39, Tryd.ntmps39
    go_wp2_with (first | (go_at_call 66; with_reducible refine (HX.out _).mono ?_; rintro e w' ⟨rfl, hb'⟩; clear c0 c1 c2 c3 c4 c5 c6 c7 c8) | (go_at_call 47; with_reducible refine (HTO.out _).mono ?_; rintro e w' ⟨rfl, rfl⟩))
    go_ret2
    exact ⟨rfl, by assumption⟩
  · obtain ⟨h2, h3⟩ := x1 rfl
    have HE1 : Hid _ := h2
    have HE2 : Hid _ := h3
    clear x1 x2 hR ha hb h2 h3
    go_enter Tryd.func39, Tryd.ntmps39
    go_wp2_with (first | (go_at_call 66; with_reducible refine (HX.out _).mono ?_; rintro e w' ⟨rfl, hb'⟩; clear c0 c1 c2 c3 c4 c5 c6 c7 c8))
    go_ret2
    exact ⟨by rw [← HE1.out, ← HE2.out]; rfl, by assumption⟩
end Go.Proofs.YtiimjbpfdidgcaaDoor
