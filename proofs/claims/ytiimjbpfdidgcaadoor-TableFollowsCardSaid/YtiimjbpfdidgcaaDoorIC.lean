/- Parts Tc, Td, Cd of the proof, in one text. -/
import Derived.Test.YtiimjbpfdidgcaaDoorIB
import Derived.Test.YtiimjbpfdidgcaaDoorIA
import Derived.Lib.LaidTab

/- Walks: table's Add, Sub, Mul. -/
namespace Go.Proofs.YtiimjbpfdidgcaaDoor
open Go.RowKit

/-- The nine words of a table that is a package's variable. -/
def Tab9 (w : World) (g : Nat) (z : Nat → Int) : Prop := ∀ k, k < 9 → w.cell? ⟨g, k, none⟩ = some (.int .i64 (z k))
def totZ (k : Nat) : Int := [0, 0, 3, 0, 0, 3, 2, 2, 0].getD k 0
def prodZ (k : Nat) : Int := [0, 5, 4, 5, 5, 1, 4, 1, 4].getD k 0
def quoZ (k : Nat) : Int := [0, 6, 5, 5, 6, 5, 4, 6, 1].getD k 0
def restZ (k : Nat) : Int := [0, 6, 0, 0, 6, 2, 1, 6, 1].getD k 0
theorem Tab9.below {w w' : World} {g : Nat} {z : Nat → Int} (h : Tab9 w g z) {B : Nat} (hB : w.heap.size ≤ B) (hb : Below B w w') : Tab9 w' g z := fun k hk => by
  have h1 := h k hk
  have hg : g < w.heap.size := by
    refine Decidable.byContradiction fun hc => ?_
    unfold World.cell? at h1
    rw [Array.getElem?_eq_none (by simpa using hc)] at h1
    simp at h1
  rw [hb.cell (by show g < B; omega)]
  exact h1
theorem tab_range (l : List Int) (h : ∀ x ∈ l, 0 ≤ x ∧ x ≤ 6) (k : Nat) : 0 ≤ l.getD k 0 ∧ l.getD k 0 ≤ 6 := by
  rw [List.getD_eq_getElem?_getD]
  rcases Nat.lt_or_ge k l.length with g | g
  · rw [List.getElem?_eq_getElem g]; exact h _ (List.getElem_mem _)
  · rw [List.getElem?_eq_none g]; simp
theorem totZ_range (k : Nat) : 0 ≤ totZ k ∧ totZ k ≤ 6 := tab_range _ (by decide) k
theorem prodZ_range (k : Nat) : 0 ≤ prodZ k ∧ prodZ k ≤ 6 := tab_range _ (by decide) k
theorem quoZ_range (k : Nat) : 0 ≤ quoZ k ∧ quoZ k ≤ 6 := tab_range _ (by decide) k
theorem restZ_range (k : Nat) : 0 ≤ restZ k ∧ restZ k ≤ 6 := tab_range _ (by decide) k

theorem zero_not_inf {b : Nat} (h : zeroB b = true) : infB b = false ∧ nanB b = false := by unfold zeroB infB nanB at *; simp at h ⊢; omega
theorem tcls_eq (b : Nat) (n : nanB b = false) : tcls b = if infB b then 2 else if zeroB b then 1 else 0 := by
  unfold tcls clsB
  rw [n]
  cases hi : infB b
  · cases hz : zeroB b
    · cases lowB b <;> rfl
    · rfl
  · rfl

theorem valB_flip (b : Nat) : valB (flipB b) = -valB b := by
  unfold valB
  rw [flip_sgn, flip_abs]
  cases sgnB b <;> simp
theorem finB_flip (b : Nat) : finB (flipB b) = finB b := by unfold finB; rw [flip_abs]

theorem cmpI_eq (x y : Int) : (some (compare x y) == some Ordering.eq) = decide (x = y) := by
  rcases Int.lt_trichotomy x y with h | h | h
  · have : compare x y = .lt := by show compareOfLessAndEq x y = _; unfold compareOfLessAndEq; rw [if_pos h]
    rw [this]; simp; omega
  · have : compare x y = .eq := by show compareOfLessAndEq x y = _; unfold compareOfLessAndEq; rw [if_neg (by omega), if_pos h]
    rw [this]; simp [h]
  · have : compare x y = .gt := by show compareOfLessAndEq x y = _; unfold compareOfLessAndEq; rw [if_neg (by omega), if_neg (by omega)]
    rw [this]; simp; omega
theorem sgW_le (s : Bool) : sgW s ≤ 9223372036854775808 := by unfold sgW; split <;> simp

/-- Is b the other infinity? -/
theorem eq_neg_inf (a b : Nat) (ha : W64 a) (hb : W64 b) (hi : infB a = true) : (Go.FloatKind.f64.format.order b (flipB a) == some Ordering.eq) = (infB b && (sgnB a != sgnB b)) := by
  have hfa : absB (flipB a) = 9218868437227405312 := by rw [flip_abs]; unfold infB at hi; simpa using hi
  have nf : nanB (flipB a) = false := by unfold nanB; rw [hfa]; decide
  cases nb : nanB b
  · rw [show Go.FloatKind.f64.format = Ieee.double from rfl, ord_D b (flipB a) hb (flip_W a ha) nb nf, cmpI_eq]
    have hb2 : absB b ≤ 9218868437227405312 := by unfold nanB at nb; simpa using nb
    have hpos : 0 < rv 52 9218868437227405312 := by rw [← rv_zero 52]; exact rv_lt (by decide)
    have hiff : rv 52 (absB b) = rv 52 9218868437227405312 ↔ absB b = 9218868437227405312 := ⟨rv_inj, fun h => by rw [h]⟩
    have hi2 : infB b = decide (absB b = 9218868437227405312) := rfl
    unfold valB
    rw [flip_sgn, hfa, hi2]
    generalize hr : rv 52 9218868437227405312 = I at *
    generalize rv 52 (absB b) = v at *
    cases sgnB b <;> cases sgnB a <;> simp <;> omega
  · rw [show Go.FloatKind.f64.format = Ieee.double from rfl, ord_D_nan_left b _ nb]
    have : infB b = false := by unfold nanB at nb; unfold infB; simp at nb ⊢; omega
    rw [this]; rfl

theorem sgW_add_inf {s : Bool} {R : Nat} : (infB (sgW s + min R 9218868437227405312) = decide (9218868437227405312 ≤ R)) := by
  unfold infB absB sgW
  rw [decide_eq_decide]
  cases s <;> simp <;> omega

/-- What told makes of the program's own sum of finite numbers. -/
theorem add_told (a b R : Nat) (ha : W64 a) (hb : W64 b) (fa : finB a = true) (fb : finB b = true) (hR : Near 52 (valB a + valB b).natAbs 1 R) :
    ∃ s, Go.floatBits .add .f64 a b = some s ∧ W64 s ∧ (if infB s then 0 else s) = addB a b R ∧ (if infB s then 15 else 0) = addX a b R := by
  obtain ⟨R', h1, h2⟩ := add_D a b ha hb fa fb
  obtain rfl := Near.uniq (by decide) hR h1
  have na : nanB a = false ∧ infB a = false := by rw [finB_eq] at fa; simpa using fa
  have nb : nanB b = false ∧ infB b = false := by rw [finB_eq] at fb; simpa using fb
  have hbad : addBad a b = false := by unfold addBad; rw [na.1, nb.1, na.2]; rfl
  refine ⟨_, h2, ?_, ?_, ?_⟩
  · have := sgW_le (if valB a + valB b = 0 then sgnB a && sgnB b else decide (valB a + valB b < 0)); unfold W64; omega
  · rw [sgW_add_inf]
    unfold addB
    simp only [hbad, na.2, nb.2, Bool.false_eq_true, if_false]
    by_cases h0 : valB a + valB b = 0
    · have hR0 : R = 0 := by
        rw [h0] at hR
        exact Near.uniq (by decide) hR (near_zero 52 1 (by decide))
      subst hR0
      simp only [h0, if_true, Nat.zero_min, Nat.add_zero]
      rw [if_neg (by decide)]
      by_cases hz : a = 9223372036854775808 ∧ b = 9223372036854775808
      · rw [if_pos hz, hz.1, hz.2]; rfl
      · rw [if_neg hz]
        have : (sgnB a && sgnB b) = false := by
          cases ea : sgnB a
          · rfl
          · cases eb : sgnB b
            · rfl
            · exfalso
              unfold valB at h0
              rw [ea, eb] at h0
              simp only [if_true] at h0
              have e1 : rv 52 (absB a) = 0 := by omega
              have e2 : rv 52 (absB b) = 0 := by omega
              have z1 : absB a = 0 := rv_inj (p := 52) (by rw [e1, rv_zero])
              have z2 : absB b = 0 := rv_inj (p := 52) (by rw [e2, rv_zero])
              apply hz
              have s1 := split_B a ha
              have s2 := split_B b hb
              unfold sgnW at s1 s2
              rw [ea, z1] at s1
              rw [eb, z2] at s2
              exact ⟨s1, s2⟩
        rw [this]; rfl
    · have hz : ¬ (a = 9223372036854775808 ∧ b = 9223372036854775808) := by
        rintro ⟨rfl, rfl⟩
        exact h0 (by unfold valB; decide)
      rw [if_neg hz, if_neg h0, if_neg h0]
      unfold resB
      by_cases hc : R < 9218868437227405312
      · rw [if_pos hc, if_neg (by simp; omega), Nat.min_eq_left (by omega)]
      · rw [if_neg hc, if_pos (by simp; omega)]
  · rw [sgW_add_inf]
    unfold addX
    simp only [hbad, na.2, nb.2, Bool.or_self, Bool.false_eq_true, if_false]
    by_cases h0 : valB a + valB b = 0
    · have hR0 : R = 0 := by
        rw [h0] at hR
        exact Near.uniq (by decide) hR (near_zero 52 1 (by decide))
      rw [hR0, if_pos h0]; rfl
    · rw [if_neg h0]
      unfold resX
      by_cases hc : R < 9218868437227405312
      · rw [if_pos hc, if_neg (by simp; omega)]
      · rw [if_neg hc, if_pos (by simp; omega)]
end Go.Proofs.YtiimjbpfdidgcaaDoor

/- Walks: table's Add, Sub, Mul. -/
namespace Go.Proofs.YtiimjbpfdidgcaaDoor
open Go.RowKit

theorem mul_told (a b R : Nat) (ha : W64 a) (hb : W64 b) (fa : finB a = true) (fb : finB b = true) (hR : Near 52 (rv 52 (absB a) * rv 52 (absB b)) (2^LP) R) :
    ∃ s, Go.floatBits .mul .f64 a b = some s ∧ W64 s ∧ (if infB s then 0 else s) = mulB a b R ∧ (if infB s then 15 else 0) = mulX a b R := by
  obtain ⟨R', h1, h2⟩ := mul_D a b ha hb fa fb
  obtain rfl := Near.uniq (Nat.two_pow_pos _) hR h1
  have na : nanB a = false ∧ infB a = false := by rw [finB_eq] at fa; simpa using fa
  have nb : nanB b = false ∧ infB b = false := by rw [finB_eq] at fb; simpa using fb
  have hR0 : (zeroB a || zeroB b) = true → R = 0 := fun h => by
    have e : rv 52 (absB a) * rv 52 (absB b) = 0 := by
      rw [Nat.mul_eq_zero]
      rw [Bool.or_eq_true] at h
      rcases h with h | h
      · left; unfold zeroB at h; rw [show absB a = 0 by simpa using h, rv_zero]
      · right; unfold zeroB at h; rw [show absB b = 0 by simpa using h, rv_zero]
    rw [e] at hR
    exact Near.uniq (Nat.two_pow_pos _) hR (near_zero 52 _ (Nat.two_pow_pos _))
  refine ⟨_, h2, ?_, ?_, ?_⟩
  · have := sgW_le (sgnB a != sgnB b); unfold W64; omega
  · rw [sgW_add_inf]
    unfold mulB
    simp only [na.1, na.2, nb.1, nb.2, Bool.or_self, Bool.false_eq_true, if_false]
    by_cases hz : (zeroB a || zeroB b) = true
    · rw [hR0 hz, if_pos hz]; rfl
    · rw [if_neg hz]
      unfold resB
      by_cases hc : R < 9218868437227405312
      · rw [if_pos hc, if_neg (by simp; omega), Nat.min_eq_left (by omega)]
      · rw [if_neg hc, if_pos (by simp; omega)]
  · rw [sgW_add_inf]
    unfold mulX
    simp only [na.1, na.2, nb.1, nb.2, Bool.or_self, Bool.false_eq_true, if_false]
    by_cases hz : (zeroB a || zeroB b) = true
    · rw [hR0 hz, if_pos hz]; rfl
    · rw [if_neg hz]
      unfold resX
      by_cases hc : R < 9218868437227405312
      · rw [if_pos hc, if_neg (by simp; omega)]
      · rw [if_neg hc, if_pos (by simp; omega)]

/-- What the table says of a sum's operands, where it says anything; and where it says nothing. -/
theorem add_exc (a b R : Nat) (hbad : ¬ (infB a = true ∧ infB b = true ∧ sgnB a ≠ sgnB b)) :
    (exK (totZ (3 * tcls a + tcls b)) a b = true → exB (totZ (3 * tcls a + tcls b)) a b = addB a b R ∧ exX (totZ (3 * tcls a + tcls b)) a b = addX a b R) ∧
    (exK (totZ (3 * tcls a + tcls b)) a b = false → (finB a = true ∧ finB b = true) ∨ (infB a = true ∧ addB a b R = a ∧ addX a b R = 0)) := by
  cases na : nanB a
  · cases nb : nanB b
    · rw [tcls_eq a na, tcls_eq b nb]
      have fa := finB_eq a
      have fb := finB_eq b
      rw [na] at fa
      rw [nb] at fb
      cases ia : infB a <;> cases ib : infB b <;> rw [ia] at fa <;> rw [ib] at fb
      · have e : totZ (3 * (if zeroB a = true then 1 else 0) + (if zeroB b = true then 1 else 0)) = 0 := by cases zeroB a <;> cases zeroB b <;> rfl
        simp only [Bool.false_eq_true, if_false]
        rw [e]
        refine ⟨fun h => ?_, fun _ => .inl ⟨fa, fb⟩⟩
        unfold exK at h; rw [na, nb] at h; cases h
      · have e : totZ (3 * (if zeroB a = true then 1 else 0) + 2) = 3 := by cases zeroB a <;> rfl
        simp only [Bool.false_eq_true, if_false, if_true]
        rw [e]
        refine ⟨fun _ => ⟨?_, ?_⟩, fun h => ?_⟩
        · unfold exB addB addBad; rw [na, nb, ia, ib]; rfl
        · unfold exX addX addBad; rw [na, nb, ia, ib]; rfl
        · unfold exK at h; rw [na, nb] at h; cases h
      · have e : totZ (3 * 2 + (if zeroB b = true then 1 else 0)) = 2 := by cases zeroB b <;> rfl
        simp only [Bool.false_eq_true, if_false, if_true]
        rw [e]
        refine ⟨fun _ => ⟨?_, ?_⟩, fun h => ?_⟩
        · unfold exB addB addBad; rw [na, nb, ia, ib]; rfl
        · unfold exX addX addBad; rw [na, nb, ia, ib]; rfl
        · unfold exK at h; rw [na, nb] at h; cases h
      · have hs : (sgnB a != sgnB b) = false := by
          cases h1 : sgnB a <;> cases h2 : sgnB b <;> first | rfl | exact absurd ⟨ia, ib, by rw [h1, h2]; simp⟩ hbad
        simp only [if_true]
        rw [show totZ (3 * 2 + 2) = 0 from rfl]
        refine ⟨fun h => ?_, fun _ => .inr ⟨trivial, ?_, ?_⟩⟩
        · unfold exK at h; rw [na, nb] at h; cases h
        · unfold addB addBad; rw [na, nb, ia, ib, hs]; rfl
        · unfold addX addBad; rw [na, nb, ia, ib, hs]; rfl
    · refine ⟨fun _ => ⟨?_, ?_⟩, fun h => ?_⟩
      · unfold exB addB addBad; rw [na, nb]; rfl
      · unfold exX addX addBad; rw [na, nb]; rfl
      · unfold exK at h; rw [na, nb] at h; cases h
  · refine ⟨fun _ => ⟨?_, ?_⟩, fun h => ?_⟩
    · unfold exB addB addBad; rw [na]; rfl
    · unfold exX addX addBad; rw [na]; rfl
    · unfold exK at h; rw [na] at h; cases h

theorem mul_exc (a b R : Nat) :
    (exK (prodZ (3 * tcls a + tcls b)) a b = true → exB (prodZ (3 * tcls a + tcls b)) a b = mulB a b R ∧ exX (prodZ (3 * tcls a + tcls b)) a b = mulX a b R) ∧
    (exK (prodZ (3 * tcls a + tcls b)) a b = false → (finB a = true ∧ finB b = true)) := by
  cases na : nanB a
  · cases nb : nanB b
    · rw [tcls_eq a na, tcls_eq b nb]
      have fa := finB_eq a
      have fb := finB_eq b
      rw [na] at fa
      rw [nb] at fb
      have za : infB a = true → zeroB a = false := fun h => by cases hz : zeroB a; rfl; rw [(zero_not_inf hz).1] at h; cases h
      have zb : infB b = true → zeroB b = false := fun h => by cases hz : zeroB b; rfl; rw [(zero_not_inf hz).1] at h; cases h
      unfold exB exX exK mulB mulX
      rw [na, nb]
      cases ia : infB a <;> cases ib : infB b <;> rw [ia] at fa za <;> rw [ib] at fb zb <;> cases hza : zeroB a <;> cases hzb : zeroB b
      all_goals first
        | exact Bool.noConfusion ((za rfl).symm.trans hza)
        | exact Bool.noConfusion ((zb rfl).symm.trans hzb)
        | simp [prodZ, fa, fb]
    · refine ⟨fun _ => ⟨?_, ?_⟩, fun h => ?_⟩
      · unfold exB mulB; rw [na, nb]; rfl
      · unfold exX mulX; rw [na, nb]; rfl
      · unfold exK at h; rw [na, nb] at h; cases h
  · refine ⟨fun _ => ⟨?_, ?_⟩, fun h => ?_⟩
    · unfold exB mulB; rw [na]; rfl
    · unfold exX mulX; rw [na]; rfl
    · unfold exK at h; rw [na] at h; cases h

set_option maxHeartbeats 1000000 in
set_option maxRecDepth 100000 in
theorem tadd_any (a b R : Nat) (w : World) (ha : W64 a) (hb : W64 b) (hT : Tab9 w 1 totZ) (hR : finB a = true → finB b = true → Near 52 (valB a + valB b).natAbs 1 R) :
    Calls Tryd.prog 19 #[.float .f64 a, .float .f64 b] w fun e w' => e = .returned (.tuple #[.float .f64 (addB a b R), .int .i64 (addX a b R)]) ∧ Below w.heap.size w w' := by
  have HIA : Hid (∀ W, Calls Tryd.prog 43 #[.float .f64 a, .int .i64 0] W fun e w' => e = .returned (.bool (infB a)) ∧ W = w') := fun W => isinf_any a W ha
  have hf := flip_D a ha
  by_cases hbad : infB a = true ∧ infB b = true ∧ sgnB a ≠ sgnB b
  · have he := eq_neg_inf a b ha hb hbad.1
    have hs : (sgnB a != sgnB b) = true := by simpa using hbad.2.2
    rw [hbad.2.1, hs] at he
    rw [hbad.1] at HIA
    have hb1 : addBad a b = true := by unfold addBad; rw [hbad.1, hbad.2.1, hs]; simp
    have HE1 : Hid (addB a b R = theNaN) := by show _ = _; unfold addB; simp only [hb1, if_true]
    have HE2 : Hid (addX a b R = 0) := by show _ = _; unfold addX; simp only [hb1, Bool.true_or, if_true]
    clear hbad hs hb1 hR ha hb hT
    go_enter Tryd.func19, Tryd.ntmps19
    go_wp2_with (first | (go_at_call 43; with_reducible refine (HIA.out _).mono ?_; rintro e w' ⟨rfl, rfl⟩) | (go_at_call 42; refine (nan_any _).mono ?_; rintro e w' ⟨rfl, rfl⟩))
    go_ret2
    exact ⟨by rw [HE1.out, HE2.out]; rfl, Below.refl _ _⟩
  · obtain ⟨x1, x2⟩ := add_exc a b R hbad
    obtain ⟨z, hz⟩ : ∃ z, z = totZ := ⟨_, rfl⟩
    rw [← hz] at hT x1 x2
    have HX : Hid (∀ W, Calls Tryd.prog 66 #[.agg #[.int .i64 (z 0), .int .i64 (z 1), .int .i64 (z 2), .int .i64 (z 3), .int .i64 (z 4), .int .i64 (z 5), .int .i64 (z 6), .int .i64 (z 7), .int .i64 (z 8)], .float .f64 a, .float .f64 b] W
      fun e w' => e = .returned (.tuple #[.float .f64 (exB (z (3 * tcls a + tcls b)) a b), .int .i64 (exX (z (3 * tcls a + tcls b)) a b), .bool (exK (z (3 * tcls a + tcls b)) a b)]) ∧ Below W.heap.size W w') := fun W => exception_any z a b W ha hb (by rw [hz]; exact totZ_range)
    obtain ⟨xb, hxb⟩ : ∃ xb, xb = exB (z (3 * tcls a + tcls b)) a b := ⟨_, rfl⟩
    obtain ⟨xx, hxx⟩ : ∃ xx, xx = exX (z (3 * tcls a + tcls b)) a b := ⟨_, rfl⟩
    obtain ⟨xk, hxk⟩ : ∃ xk, xk = exK (z (3 * tcls a + tcls b)) a b := ⟨_, rfl⟩
    rw [← hxb, ← hxx, ← hxk] at HX
    rw [← hxk, ← hxb, ← hxx] at x1
    rw [← hxk] at x2
    have c0 := hT 0 (by decide)
    have c1 := hT 1 (by decide)
    have c2 := hT 2 (by decide)
    have c3 := hT 3 (by decide)
    have c4 := hT 4 (by decide)
    have c5 := hT 5 (by decide)
    have c6 := hT 6 (by decide)
    have c7 := hT 7 (by decide)
    have c8 := hT 8 (by decide)
    obtain ⟨ia, hia⟩ : ∃ ia, ia = infB a := ⟨_, rfl⟩
    obtain ⟨ev, hev⟩ : ∃ ev, (Go.FloatKind.f64.format.order b (flipB a) == some Ordering.eq) = ev := ⟨_, rfl⟩
    have hie : ia = true → ev = false := fun h => by
      rw [← hev, eq_neg_inf a b ha hb (by rw [← hia]; exact h)]
      cases hib : infB b
      · rfl
      · cases h1 : sgnB a <;> cases h2 : sgnB b <;> first | rfl | exact absurd ⟨hia ▸ h, hib, by rw [h1, h2]; simp⟩ hbad
    rw [← hia] at HIA
    clear hxb hxx hxk hz hT hbad
    cases xk
    · rcases x2 rfl with ⟨fa, fb⟩ | ⟨h1, h2, h3⟩
      · obtain ⟨s, g1, g2, g3, g4⟩ := add_told a b R ha hb fa fb (hR fa fb)
        have hq := fun (w : World) => run_float_arith (P := Tryd.prog) w .add 24 .f64 _ _ _ g1
        have HTO : Hid (∀ W, Calls Tryd.prog 47 #[.float .f64 s] W fun e w' => e = .returned (.tuple #[.float .f64 (addB a b R), .int .i64 (addX a b R)]) ∧ W = w') := fun W => by
          have := ttold_any s W g2
          rwa [g3, g4] at this
        have h0 : ia = false := by rw [hia]; rw [finB_eq] at fa; revert fa; cases infB a <;> simp
        subst h0
        clear hia hie hev x1 x2 hR ha hb fa fb g1 g2 g3 g4
        go_enter Tryd.func19, Tryd.ntmps19
        go_wp2_with (first | (go_at_call 43; with_reducible refine (HIA.out _).mono ?_; rintro e w' ⟨rfl, rfl⟩) | (go_at_call 66; with_reducible refine (HX.out _).mono ?_; rintro e w' ⟨rfl, hb'⟩; clear c0 c1 c2 c3 c4 c5 c6 c7 c8) | (go_at_call 47; with_reducible refine (HTO.out _).mono ?_; rintro e w' ⟨rfl, rfl⟩))
        go_ret2
        exact ⟨rfl, by assumption⟩
      · have h0 : ia = true := by rw [hia]; exact h1
        subst h0
        obtain rfl := hie rfl
        have HE1 : Hid _ := h2
        have HE2 : Hid _ := h3
        clear hia hie x1 x2 hR ha hb h1 h2 h3
        go_enter Tryd.func19, Tryd.ntmps19
        go_wp2_with (first | (go_at_call 43; with_reducible refine (HIA.out _).mono ?_; rintro e w' ⟨rfl, rfl⟩) | (go_at_call 66; with_reducible refine (HX.out _).mono ?_; rintro e w' ⟨rfl, hb'⟩; clear c0 c1 c2 c3 c4 c5 c6 c7 c8))
        go_ret2
        exact ⟨by rw [HE1.out, HE2.out]; rfl, by assumption⟩
    · obtain ⟨h2, h3⟩ := x1 rfl
      have HE1 : Hid _ := h2
      have HE2 : Hid _ := h3
      clear x1 x2 hR ha hb h2 h3 hia
      cases ia
      · clear hie hev
        go_enter Tryd.func19, Tryd.ntmps19
        go_wp2_with (first | (go_at_call 43; with_reducible refine (HIA.out _).mono ?_; rintro e w' ⟨rfl, rfl⟩) | (go_at_call 66; with_reducible refine (HX.out _).mono ?_; rintro e w' ⟨rfl, hb'⟩; clear c0 c1 c2 c3 c4 c5 c6 c7 c8))
        go_ret2
        exact ⟨by rw [← HE1.out, ← HE2.out]; rfl, by assumption⟩
      · obtain rfl := hie rfl
        clear hie
        go_enter Tryd.func19, Tryd.ntmps19
        go_wp2_with (first | (go_at_call 43; with_reducible refine (HIA.out _).mono ?_; rintro e w' ⟨rfl, rfl⟩) | (go_at_call 66; with_reducible refine (HX.out _).mono ?_; rintro e w' ⟨rfl, hb'⟩; clear c0 c1 c2 c3 c4 c5 c6 c7 c8))
        go_ret2
        exact ⟨by rw [← HE1.out, ← HE2.out]; rfl, by assumption⟩

theorem tsub_any (a b R : Nat) (w : World) (ha : W64 a) (hb : W64 b) (hT : Tab9 w 1 totZ) (hR : finB a = true → finB (negR b) = true → Near 52 (valB a + valB (negR b)).natAbs 1 R) :
    Calls Tryd.prog 21 #[.float .f64 a, .float .f64 b] w fun e w' => e = .returned (.tuple #[.float .f64 (addB a (negR b) R), .int .i64 (addX a (negR b) R)]) ∧ Below w.heap.size w w' := by
  have HADD : Hid (Calls Tryd.prog 19 #[.float .f64 a, .float .f64 (negR b)] w fun e w' => e = .returned (.tuple #[.float .f64 (addB a (negR b) R), .int .i64 (addX a (negR b) R)]) ∧ Below w.heap.size w w') := tadd_any a (negR b) R w ha (negR_W b hb) hT hR
  clear hT hR
  go_enter Tryd.func21, Tryd.ntmps21
  go_wp2_with (go_at_call 25; refine (tneg_any b _ hb).mono ?_; rintro e w' ⟨rfl, rfl⟩)
  refine HADD.out.mono ?_
  rintro e w' ⟨rfl, hb'⟩
  go_wp2
  go_ret2
  exact ⟨rfl, hb'⟩

set_option maxHeartbeats 1000000 in
set_option maxRecDepth 100000 in
theorem tmul_any (a b R : Nat) (w : World) (ha : W64 a) (hb : W64 b) (hT : Tab9 w 2 prodZ) (hR : finB a = true → finB b = true → Near 52 (rv 52 (absB a) * rv 52 (absB b)) (2^LP) R) :
    Calls Tryd.prog 23 #[.float .f64 a, .float .f64 b] w fun e w' => e = .returned (.tuple #[.float .f64 (mulB a b R), .int .i64 (mulX a b R)]) ∧ Below w.heap.size w w' := by
  obtain ⟨x1, x2⟩ := mul_exc a b R
  obtain ⟨z, hz⟩ : ∃ z, z = prodZ := ⟨_, rfl⟩
  rw [← hz] at hT x1 x2
  have HX : Hid (∀ W, Calls Tryd.prog 66 #[.agg #[.int .i64 (z 0), .int .i64 (z 1), .int .i64 (z 2), .int .i64 (z 3), .int .i64 (z 4), .int .i64 (z 5), .int .i64 (z 6), .int .i64 (z 7), .int .i64 (z 8)], .float .f64 a, .float .f64 b] W
    fun e w' => e = .returned (.tuple #[.float .f64 (exB (z (3 * tcls a + tcls b)) a b), .int .i64 (exX (z (3 * tcls a + tcls b)) a b), .bool (exK (z (3 * tcls a + tcls b)) a b)]) ∧ Below W.heap.size W w') := fun W => exception_any z a b W ha hb (by rw [hz]; exact prodZ_range)
  obtain ⟨xb, hxb⟩ : ∃ xb, xb = exB (z (3 * tcls a + tcls b)) a b := ⟨_, rfl⟩
  obtain ⟨xx, hxx⟩ : ∃ xx, xx = exX (z (3 * tcls a + tcls b)) a b := ⟨_, rfl⟩
  obtain ⟨xk, hxk⟩ : ∃ xk, xk = exK (z (3 * tcls a + tcls b)) a b := ⟨_, rfl⟩
  rw [← hxb, ← hxx, ← hxk] at HX
  rw [← hxk, ← hxb, ← hxx] at x1
  rw [← hxk] at x2
  have c0 := hT 0 (by decide)
  have c1 := hT 1 (by decide)
  have c2 := hT 2 (by decide)
  have c3 := hT 3 (by decide)
  have c4 := hT 4 (by decide)
  have c5 := hT 5 (by decide)
  have c6 := hT 6 (by decide)
  have c7 := hT 7 (by decide)
  have c8 := hT 8 (by decide)
  clear hxb hxx hxk hz hT
  cases xk
  · obtain ⟨fa, fb⟩ := x2 rfl
    obtain ⟨s, g1, g2, g3, g4⟩ := mul_told a b R ha hb fa fb (hR fa fb)
    have hq := fun (w : World) => run_float_arith (P := Tryd.prog) w .mul 24 .f64 _ _ _ g1
    have HTO : Hid (∀ W, Calls Tryd.prog 47 #[.float .f64 s] W fun e w' => e = .returned (.tuple #[.float .f64 (mulB a b R), .int .i64 (mulX a b R)]) ∧ W = w') := fun W => by
      have := ttold_any s W g2
      rwa [g3, g4] at this
    clear x1 x2 hR ha hb fa fb g1 g2 g3 g4
    go_enter Tryd.func23, Tryd.ntmps23
    go_wp2_with (first | (go_at_call 66; with_reducible refine (HX.out _).mono ?_; rintro e w' ⟨rfl, hb'⟩; clear c0 c1 c2 c3 c4 c5 c6 c7 c8) | (go_at_call 47; with_reducible refine (HTO.out _).mono ?_; rintro e w' ⟨rfl, rfl⟩))
    go_ret2
    exact ⟨rfl, by assumption⟩
  · obtain ⟨h2, h3⟩ := x1 rfl
    have HE1 : Hid _ := h2
    have HE2 : Hid _ := h3
    clear x1 x2 hR ha hb h2 h3
    go_enter Tryd.func23, Tryd.ntmps23
    go_wp2_with (first | (go_at_call 66; with_reducible refine (HX.out _).mono ?_; rintro e w' ⟨rfl, hb'⟩; clear c0 c1 c2 c3 c4 c5 c6 c7 c8))
    go_ret2
    exact ⟨by rw [← HE1.out, ← HE2.out]; rfl, by assumption⟩
end Go.Proofs.YtiimjbpfdidgcaaDoor

/- A package's variable of three rows of three whole numbers: what a row's condition on it gives to a walk. Of no program. -/
namespace Go.Proofs.YtiimjbpfdidgcaaDoor
open Go.RowKit

theorem wf_u64_bd {n : Int} (h : (Lit.int .u64 n).wf = true) : 0 ≤ n ∧ n ≤ 18446744073709551615 := by
  simp [Lit.wf, IntKind.min, IntKind.max, IntKind.signed, IntKind.bits] at h; omega
theorem wf_i64_bd {n : Int} (h : (Lit.int .i64 n).wf = true) : -9223372036854775808 ≤ n ∧ n ≤ 9223372036854775807 := by
  simp [Lit.wf, IntKind.min, IntKind.max, IntKind.signed, IntKind.bits] at h; omega

theorem laid_at {P : Program} {W : World} : ∀ {l : List (String × DataW Unit)} {ps : List MemPlace}, DataW.LaidVars P W l ps → ∀ {n : String} {d : DataW Unit}, (n, d) ∈ l →
    ∃ g t cs fuel p, P.globalNamed n = some g ∧ (P.globals[g]?).map (·.type) = some t ∧ W.var? P n = some cs ∧ DataW.trod (fun _ => ()) P W 0 (fun _ => true) false fuel t cs.toList = some (d, p)
  | [], _, _, _, _, hm => by cases hm
  | (n', d') :: r, ps, h, n, d, hm => by
    obtain ⟨g, t, cs, fuel, p, q, h1, h2, h3, h4, h5, -⟩ := h
    rcases List.mem_cons.1 hm with e | hm
    · cases e
      exact ⟨g, t, cs, fuel, p, h1, h2, h3, h4⟩
    · exact laid_at h5 hm

theorem rows9 {P : Program} {w : World} {fuel : Nat} {t e1 e : TypeId} {cs : List Value} {r0 r1 r2 : List Int} {p : List MemPlace}
    (ht : P.underlying t = some (.array 3 e1)) (ht1 : P.underlying e1 = some (.array 3 e)) (he : P.underlying e = some (.int .i64)) (hce : P.cellsOf e = 1) (hc1 : P.cellsOf e1 = 3) (hct : P.cellsOf t = 9)
    (h : DataW.trod (fun _ => ()) P w 0 (fun _ => true) false fuel t cs = some (.agg [Lib.tabData .i64 r0, Lib.tabData .i64 r1, Lib.tabData .i64 r2], p)) : cs = (r0 ++ r1 ++ r2).map fun z => Value.int .i64 z := by
  cases fuel with
  | zero => simp [DataW.trod] at h
  | succ fuel =>
    simp only [DataW.trod, ht, hc1, hct] at h
    split at h
    · rename_i hl
      obtain ⟨xs, hm, hx⟩ := Option.map_eq_some_iff.1 h
      have hxs : xs.map (·.1) = [Lib.tabData .i64 r0, Lib.tabData .i64 r1, Lib.tabData .i64 r2] := by
        have := congrArg Prod.fst hx
        simpa using this
      have row : ∀ (i : Nat) (r : List Int), i < 3 → [Lib.tabData .i64 r0, Lib.tabData .i64 r1, Lib.tabData .i64 r2][i]? = some (Lib.tabData (H := Unit) .i64 r) → (cs.drop (i * 3)).take 3 = r.map fun z => Value.int .i64 z := by
        intro i r hi hr
        obtain ⟨b, hb, hf⟩ := Lib.mapM_at hm i i (by simp [hi])
        have h2 : (xs.map (·.1))[i]? = some b.1 := by simp [hb]
        rw [hxs, hr] at h2
        have e : b = (Lib.tabData .i64 r, b.2) := by rw [Option.some.inj h2]
        rw [e] at hf
        exact Lib.cells_of_tab ht1 he hce hc1 hf
      have a0 := row 0 r0 (by decide) rfl
      have a1 := row 1 r1 (by decide) rfl
      have a2 := row 2 r2 (by decide) rfl
      rw [List.map_append, List.map_append, ← a0, ← a1, ← a2]
      simp only [Nat.zero_mul, Nat.one_mul, List.drop_zero, show 2 * 3 = 6 from rfl]
      have e1 : cs = cs.take 3 ++ cs.drop 3 := (List.take_append_drop 3 cs).symm
      have e2 : cs.drop 3 = (cs.drop 3).take 3 ++ cs.drop 6 := by
        have := (List.take_append_drop 3 (cs.drop 3)).symm
        rwa [List.drop_drop] at this
      have e3 : (cs.drop 6).take 3 = cs.drop 6 := List.take_of_length_le (by simp; omega)
      rw [e3]
      conv => lhs; rw [e1, e2]
      rw [List.append_assoc]
    · cases h

theorem tab9_of {P : Program} {W : World} {l : List (String × DataW Unit)} {name : String} {g : Nat} {t e1 e : TypeId} {r0 r1 r2 : List Int}
    (hg : P.globalNamed name = some g) (hty : (P.globals[g]?).map (·.type) = some t) (ht : P.underlying t = some (.array 3 e1)) (ht1 : P.underlying e1 = some (.array 3 e)) (he : P.underlying e = some (.int .i64)) (hce : P.cellsOf e = 1) (hc1 : P.cellsOf e1 = 3) (hct : P.cellsOf t = 9)
    (h : laidMet P l W) (hm : (name, .agg [Lib.tabData .i64 r0, Lib.tabData .i64 r1, Lib.tabData .i64 r2]) ∈ l) (hlen : (r0 ++ r1 ++ r2).length = 9) : Tab9 W g fun k => (r0 ++ r1 ++ r2).getD k 0 := by
  obtain ⟨ps, hl, -⟩ := h
  obtain ⟨g', t', cs, fuel, p, h1, h2, h3, h4⟩ := laid_at hl hm
  obtain rfl := Option.some.inj (hg.symm.trans h1)
  obtain rfl := Option.some.inj (hty.symm.trans h2)
  have hcs := rows9 ht ht1 he hce hc1 hct h4
  intro k hk
  have h5 := World.var?_cell hg h3 k
  rw [h5]
  have e : cs = (((r0 ++ r1 ++ r2).map fun z => Value.int .i64 z).toArray) := by rw [← hcs]
  obtain ⟨q, hq⟩ : ∃ q, q = r0 ++ r1 ++ r2 := ⟨_, rfl⟩
  rw [← hq] at e hlen ⊢
  rw [e]
  show ((q.map fun z => Value.int .i64 z).toArray)[k]? = some (.int .i64 (q.getD k 0))
  rw [List.getElem?_toArray, List.getElem?_map, List.getD_eq_getElem?_getD, List.getElem?_eq_getElem (by omega)]
  rfl
end Go.Proofs.YtiimjbpfdidgcaaDoor
