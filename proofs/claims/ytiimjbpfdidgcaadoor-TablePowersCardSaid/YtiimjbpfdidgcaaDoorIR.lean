/- Parts Tj, Tk, Tl of the proof, in one text. -/
import Derived.Test.YtiimjbpfdidgcaaDoorIC
import Derived.Test.YtiimjbpfdidgcaaDoorIQ
import Derived.Test.YtiimjbpfdidgcaaDoorID
import Derived.Test.YtiimjbpfdidgcaaDoorHK

/- Walks: math.Trunc, table's whole exponents. -/
namespace Go.Proofs.YtiimjbpfdidgcaaDoor
open Go.RowKit

theorem trunc_open (x : Nat) (w : World) : (callFunc 94 #[.float .f64 x]).run Tryd.prog w = ((Extern.MathFloor.toIntegral "math.archTrunc" .zero #[.float .f64 x]).run Tryd.prog w).andThen fun v w' => .ok (.value v) w' :=
  run_callFunc_extern Tryd.func94 (by kernel_rfl) (by kernel_rfl) (by kernel_rfl) (by kernel_rfl) _ w
theorem trunc_eq (x : Nat) : Extern.MathFloor.toIntegral "math.archTrunc" .zero #[.float .f64 x] = (match FloatKind.f64.decode x with
    | .nan b t => (if FloatKind.f64.format.quiet t = t then pure (.float .f64 x) else do
        let c ← choose (.extern "math.Floor,Ceil,Trunc,RoundToEven.signallingNaN kept" 2)
        pure (.float .f64 (if c == 1 then x else FloatKind.f64.encode (.nan b (FloatKind.f64.format.quiet t)))))
    | d => pure (.float .f64 (FloatKind.f64.encode (d.integral .zero)))) := rfl
theorem trunc_num (x : Nat) (d : Ieee.Datum) (h : FloatKind.f64.decode x = d) (hd : ∀ s t, d ≠ .nan s t) : Extern.MathFloor.toIntegral "math.archTrunc" .zero #[.float .f64 x] = pure (.float .f64 (FloatKind.f64.encode (d.integral .zero))) := by
  rw [trunc_eq, h]
  cases d with
  | nan s t => exact absurd rfl (hd s t)
  | number s m e => rfl
  | infinity s => rfl
theorem run_trunc_num (x : Nat) (d : Ieee.Datum) (w : World) (h : FloatKind.f64.decode x = d) (hd : ∀ s t, d ≠ .nan s t) : (callFunc 94 #[.float .f64 x]).run Tryd.prog w = .ok (.value (.float .f64 (FloatKind.f64.encode (d.integral .zero)))) w := by
  rw [trunc_open, trunc_num x d h hd]
  simp
theorem run_trunc_nan (x t : Nat) (b : Bool) (w : World) (h : FloatKind.f64.decode x = .nan b t) : ∃ v w', (callFunc 94 #[.float .f64 x]).run Tryd.prog w = .ok (.value (.float .f64 v)) w' ∧ (w' = w ∨ w' = w.drew) := by
  rw [trunc_open, trunc_eq, h]
  dsimp only
  by_cases hq : FloatKind.f64.format.quiet t = t
  · refine ⟨x, w, ?_, .inl rfl⟩
    rw [if_pos hq]
    simp
  · refine ⟨if ((Question.extern "math.Floor,Ceil,Trunc,RoundToEven.signallingNaN kept" 2).cut (w.tape w.drawn (Question.extern "math.Floor,Ceil,Trunc,RoundToEven.signallingNaN kept" 2)) == 1) = true then x else FloatKind.f64.encode (.nan b (FloatKind.f64.format.quiet t)), w.drew, ?_, .inr rfl⟩
    rw [if_neg hq]
    simp [Question.forced]

set_option maxRecDepth 100000 in
theorem mtrunc_run (a v : Nat) (w w1 : World) (h : (callFunc 94 #[.float .f64 a]).run Tryd.prog w = .ok (.value (.float .f64 v)) w1) : Calls Tryd.prog 71 #[.float .f64 a] w fun e w' => e = .returned (.float .f64 v) ∧ w' = w1 := by
  go_enter Tryd.func71, Tryd.ntmps71
  go_wp2
  go_ret
  exact ⟨rfl, rfl⟩

/-- Trunc of anything ends. -/
theorem mtrunc_any (a : Nat) (w : World) (ha : W64 a) : Calls Tryd.prog 71 #[.float .f64 a] w fun e w' => ∃ v, e = .returned (.float .f64 v) ∧ Below w.heap.size w w' := by
  rcases read_cases a ha with ⟨-, -, -, -, s, t, h⟩ | ⟨-, -, -, -, h⟩ | ⟨-, -, -, m, e, h, -⟩
  · obtain ⟨v, w', h1, h2⟩ := run_trunc_nan a t s w h
    refine (mtrunc_run a v w w' h1).mono ?_
    rintro e w2 ⟨rfl, rfl⟩
    refine ⟨v, rfl, ?_⟩
    rcases h2 with rfl | rfl
    · exact Below.refl _ _
    · exact (Below.refl _ _).drew
  · refine (mtrunc_run a _ w w (run_trunc_num a _ w h (fun _ _ h => by cases h))).mono ?_
    rintro e w2 ⟨rfl, rfl⟩
    exact ⟨_, rfl, Below.refl _ _⟩
  · refine (mtrunc_run a _ w w (run_trunc_num a _ w h (fun _ _ h => by cases h))).mono ?_
    rintro e w2 ⟨rfl, rfl⟩
    exact ⟨_, rfl, Below.refl _ _⟩
theorem mtrunc_fin (a : Nat) (w : World) (ha : W64 a) (fa : finB a = true) : Calls Tryd.prog 71 #[.float .f64 a] w fun e w' => e = .returned (.float .f64 (Ieee.double.write (.number (sgnB a) (whV a) 0))) ∧ w' = w := by
  rcases read_cases a ha with ⟨-, -, -, h0, -⟩ | ⟨-, -, -, h0, -⟩ | ⟨-, -, -, m, e, h, -⟩
  · rw [fa] at h0; cases h0
  · rw [fa] at h0; cases h0
  · have h1 := run_trunc_num a _ w h (fun _ _ h => by cases h)
    have h2 := cut_read a ha fa
    rw [h] at h2
    rw [h2] at h1
    exact mtrunc_run a _ w w h1

/-- As a whole number. -/
theorem run_conv (a : Nat) (w : World) (ha : W64 a) (h : whB a = true) : (convert 24 3 (.float .f64 a)).run Tryd.prog w = .ok (.int .i64 (whK a)) w := by
  have hr := whK_range a
  have h' := h
  unfold whB at h
  simp only [Bool.and_eq_true, decide_eq_true_eq] at h
  have fa : finB a = true := by unfold finB; simp; omega
  have h2 := cut_read a ha fa
  have e1 : (FloatKind.f64.decode a).toInt .zero = some (whK a) := by
    show (match (Ieee.double.read a).integral .zero with | .number s m _ => some (Ieee.signed s m 0) | _ => none) = _
    rw [h2]
    dsimp only
    congr 1
    unfold whK
    rw [if_pos h']
    cases sgnB a
    · rfl
    · rfl
  have e2 : Conv.floatToInt .f64 a .i64 = pure (.int .i64 (whK a)) := by
    unfold Conv.floatToInt
    simp only [e1]
    rw [if_pos (by
      have c1 : IntKind.i64.min = -9223372036854775808 := by decide
      have c2 : IntKind.i64.max = 9223372036854775807 := by decide
      rw [c1, c2]; omega)]
  have e3 : (convert 24 3 (.float .f64 a)).run Tryd.prog w = (Conv.floatToInt .f64 a .i64).run Tryd.prog w := by
    simp [convert]
  rw [e3, e2]
  simp

theorem abs_gt_64 (b : Nat) (nb : nanB b = false) : (Go.FloatKind.f64.format.order (absB b) 4634204016564240384 == some Ordering.gt) = decide (4634204016564240384 < absB b) := by
  show (Ieee.double.order (absB b) 4634204016564240384 == some Ordering.gt) = _
  rw [ord_abs b _ (by decide) nb, cmp_gt]

set_option maxRecDepth 100000 in
theorem twhole_any (b : Nat) (w : World) (hb : W64 b) :
    Calls Tryd.prog 40 #[.float .f64 b] w fun e w' => e = .returned (.tuple #[.int .i64 (whK b), .bool (whB b)]) ∧ Below w.heap.size w w' := by
  have HAB : Hid (∀ W, Calls Tryd.prog 36 #[.float .f64 b] W fun e w' => e = .returned (.float .f64 (absB b)) ∧ W = w') := fun W => abs_any b W hb
  have HTR : Hid (∀ W, Calls Tryd.prog 71 #[.float .f64 b] W fun e w' => ∃ v, e = .returned (.float .f64 v) ∧ Below W.heap.size W w') := fun W => mtrunc_any b W hb
  obtain ⟨k, hk⟩ : ∃ k, k = whK b := ⟨_, rfl⟩
  obtain ⟨t, ht⟩ : ∃ t, t = whB b := ⟨_, rfl⟩
  have hout : ¬ absB b ≤ 4634204016564240384 → t = false ∧ k = 0 := fun h => by
    have h0 : whB b = false := by unfold whB; rw [decide_eq_false h, Bool.false_and]
    exact ⟨by rw [ht, h0], by rw [hk]; unfold whK; rw [h0]; rfl⟩
  cases nb : nanB b
  · by_cases hle : absB b ≤ 4634204016564240384
    · have fb : finB b = true := by unfold finB; simp; omega
      have HTF : Hid (∀ W, Calls Tryd.prog 71 #[.float .f64 b] W fun e w' => e = .returned (.float .f64 (Ieee.double.write (.number (sgnB b) (whV b) 0))) ∧ w' = W) := fun W => mtrunc_fin b W hb fb
      have hs := cut_same b hb hle
      have ha : (Go.FloatKind.f64.format.order (absB b) 4634204016564240384 == some Ordering.gt) = false := by rw [abs_gt_64 b nb, decide_eq_false (by omega)]
      have hcv := fun w => run_conv b w hb
      rw [← ht] at hs
      rw [← hk, ← ht] at hcv
      have hk0 : t = false → k = 0 := fun h => by rw [hk]; unfold whK; rw [← ht, h]; rfl
      rw [← hk, ← ht]
      generalize Ieee.double.write (.number (sgnB b) (whV b) 0) = v at *
      clear hk ht hout nb hle fb HTR
      cases t
      · obtain rfl := hk0 rfl
        clear hcv hk0
        rw [Bool.not_false] at hs
        go_enter Tryd.func40, Tryd.ntmps40
        go_wp2_with (first | (go_at_call 71; with_reducible refine (HTF.out _).mono ?_; rintro e w' ⟨rfl, rfl⟩) | (go_at_call 36; with_reducible refine (HAB.out _).mono ?_; rintro e w' ⟨rfl, rfl⟩))
        go_ret2
        exact ⟨rfl, Below.refl _ _⟩
      · have hcv := fun w => hcv w rfl
        rw [Bool.not_true] at hs
        clear hk0
        go_enter Tryd.func40, Tryd.ntmps40
        go_wp2_with (first | (go_at_call 71; with_reducible refine (HTF.out _).mono ?_; rintro e w' ⟨rfl, rfl⟩) | (go_at_call 36; with_reducible refine (HAB.out _).mono ?_; rintro e w' ⟨rfl, rfl⟩))
        go_ret2
        exact ⟨rfl, Below.refl _ _⟩
    · obtain ⟨rfl, rfl⟩ := hout hle
      have ha : (Go.FloatKind.f64.format.order (absB b) 4634204016564240384 == some Ordering.gt) = true := by rw [abs_gt_64 b nb, decide_eq_true (by omega)]
      rw [← hk, ← ht]
      clear hk ht hout nb hle
      go_enter Tryd.func40, Tryd.ntmps40
      go_wp2_with fail
      refine (HTR.out _).mono ?_
      rintro e w2 ⟨v, rfl, hb2⟩
      cases hx : (Go.FloatKind.f64.format.order b v != some Ordering.eq)
      all_goals
        go_wp2_with (go_at_call 36; with_reducible refine (HAB.out _).mono ?_; rintro e w' ⟨rfl, rfl⟩)
        go_ret2
        exact ⟨rfl, hb2⟩
  · obtain ⟨rfl, rfl⟩ := hout (by unfold nanB at nb; simp at nb; omega)
    have ho : ∀ v, (Go.FloatKind.f64.format.order b v != some Ordering.eq) = true := fun v => by
      show (Ieee.double.order b v != some Ordering.eq) = true
      rw [ord_D_nan_left b v nb]; rfl
    rw [← hk, ← ht]
    clear hk ht hout nb
    go_enter Tryd.func40, Tryd.ntmps40
    go_wp2_with fail
    refine (HTR.out _).mono ?_
    rintro e w2 ⟨v, rfl, hb2⟩
    have hx := ho v
    clear ho
    go_wp2
    go_ret2
    exact ⟨rfl, hb2⟩
end Go.Proofs.YtiimjbpfdidgcaaDoor

/- Walks: table's Power. -/
namespace Go.Proofs.YtiimjbpfdidgcaaDoor
open Go.RowKit

theorem told_res (q : Bool) (R : Nat) (W : World) : Calls Tryd.prog 47 #[.float .f64 (sgW q + min R 9218868437227405312)] W fun e w' => e = .returned (.tuple #[.float .f64 (resB q R), .int .i64 (resX R)]) ∧ W = w' := by
  have h := ttold_any (sgW q + min R 9218868437227405312) W (by have := sgW_le q; unfold W64; omega)
  rw [sgW_add_inf] at h
  unfold resB resX
  by_cases hR : R < 9218868437227405312
  · rw [decide_eq_false (by omega), Nat.min_eq_left (by omega)] at h
    rw [if_pos hR, if_pos hR]
    rw [Nat.min_eq_left (by omega)]
    exact h
  · rw [decide_eq_true (by omega)] at h
    rw [if_neg hR, if_neg hR]
    exact h
theorem side_any (a : Nat) (q : Bool) (W : World) (ha : W64 a) : Calls Tryd.prog 31 #[.float .f64 a, .float .f64 (if q then 13830554455654793216 else 4607182418800017408)] W fun e w' => e = .returned (.float .f64 (sgW q + absB a)) ∧ W = w' := by
  have h := copysign_any a (if q then 13830554455654793216 else 4607182418800017408) W ha (by unfold W64; cases q <;> decide)
  have e : sgnW (if q = true then 13830554455654793216 else 4607182418800017408) = sgW q := by cases q <;> decide
  rw [e] at h
  exact h
theorem eq_half (b : Nat) (hb : W64 b) (nb : nanB b = false) : (Go.FloatKind.f64.format.order b 4602678819172646912 == some Ordering.eq) = decide (b = 4602678819172646912) := by
  show (Ieee.double.order b _ == some Ordering.eq) = _
  rw [ord_D b _ hb (by unfold W64; decide) nb (by decide), valB_small 4602678819172646912 (by decide)]
  have hp : 0 < rv 52 4602678819172646912 := by have := rv_lt (p := 52) (r := 0) (s := 4602678819172646912) (by decide); omega
  rw [Bool.eq_iff_iff, beq_iff_eq, decide_eq_true_eq, Option.some.injEq, Int.compare_eq_eq]
  unfold valB sgnB
  unfold W64 at hb
  by_cases c : 9223372036854775808 ≤ b
  · rw [if_pos (by simpa using c)]
    constructor
    · intro h; omega
    · intro h; omega
  · rw [if_neg (by simpa using c), Int.ofNat_inj]
    have e : absB b = b := by unfold absB; omega
    rw [e]
    exact ⟨fun h => rv_inj h, fun h => by rw [h]⟩

set_option maxHeartbeats 2000000 in
set_option maxRecDepth 100000 in
theorem tpower_any (a b R S : Nat) (w : World) (ha : W64 a) (hb : W64 b) (hR : finB a = true → zeroB a = false → sgnB a = false → RootR a S) (hP : finB a = true → zeroB a = false → whB b = true → PowR a (whK b) R) :
    Calls Tryd.prog 9 #[.float .f64 a, .float .f64 b] w fun e w' => e = .returned (.tuple #[.float .f64 (powB a b R S), .int .i64 (powX a b R S)]) ∧ Below w.heap.size w w' := by
  have HNN : Hid (∀ W g, W.cell? ⟨g, 0, none⟩ = some (.float .f64 a) → W.cell? ⟨g, 1, none⟩ = some (.float .f64 b) → Calls Tryd.prog 41 #[.slice (some ⟨g, 0, none⟩) 2 2] W fun e w' => e = .returned (.bool (nanB a || nanB b)) ∧ W = w') := fun W g h0 h1 => tnan2 a b W g h0 h1
  have HNA : Hid (∀ W, Calls Tryd.prog 42 #[] W fun e w' => e = .returned (.float .f64 theNaN) ∧ W = w') := fun W => nan_any W
  have HWH : Hid (∀ W, Calls Tryd.prog 40 #[.float .f64 b] W fun e w' => e = .returned (.tuple #[.int .i64 (whK b), .bool (whB b)]) ∧ Below W.heap.size W w') := fun W => twhole_any b W hb
  have HBF : Hid (∀ F W, Below w.heap.size w W → Below w.heap.size w (W.alloc F)) := fun F W hW => hW.alloc hW.size _
  have hzb := w_eq_zero b hb
  obtain ⟨n, hn⟩ : ∃ n, n = (nanB a || nanB b) := ⟨_, rfl⟩
  rw [← hn] at HNN
  cases n
  case true =>
    have HE1 : Hid (powB a b R S = theNaN) := by show _ = _; unfold powB; simp only [← hn, if_true]
    have HE2 : Hid (powX a b R S = 0) := by show _ = _; unfold powX; simp only [← hn, if_true]
    clear hn hR hP hb hzb
    go_enter Tryd.func9, Tryd.ntmps9
    go_wp2_with fail
    refine (HWH.out _).mono ?_
    rintro e w1 ⟨rfl, hb1⟩
    go_wp2_with (first | (go_at_call 41; refine (HNN.out _ _ (by go_simp) (by go_simp)).mono ?_; rintro e w' ⟨rfl, rfl⟩) | (go_at_call 42; with_reducible refine (HNA.out _).mono ?_; rintro e w' ⟨rfl, rfl⟩))
    go_ret2
    exact ⟨by rw [HE1.out, HE2.out]; rfl, HBF.out _ _ hb1⟩
  case false =>
  have HN2 : Hid (nanB a = false ∧ nanB b = false) := by show _ ∧ _; rw [← Bool.or_eq_false_iff]; exact hn.symm
  cases hz : zeroB b
  case true =>
    have HE1 : Hid (powB a b R S = 4607182418800017408) := by show _ = _; unfold powB; simp only [← hn, hz, if_true, Bool.false_eq_true, if_false]
    have HE2 : Hid (powX a b R S = 0) := by show _ = _; unfold powX; simp only [← hn, hz, if_true, Bool.false_eq_true, if_false]
    rw [hz] at hzb
    clear hn hR hP hb hz
    go_enter Tryd.func9, Tryd.ntmps9
    go_wp2_with fail
    refine (HWH.out _).mono ?_
    rintro e w1 ⟨rfl, hb1⟩
    go_wp2_with (first | (go_at_call 41; refine (HNN.out _ _ (by go_simp) (by go_simp)).mono ?_; rintro e w' ⟨rfl, rfl⟩))
    go_ret2
    exact ⟨by rw [HE1.out, HE2.out]; rfl, HBF.out _ _ hb1⟩
  case false =>
  have hhb := eq_half b hb HN2.out.2
  rw [hz] at hzb
  by_cases hh : b = 4602678819172646912
  · have HE1 : Hid (powB a b R S = rootB a S) := by show _ = _; unfold powB; simp only [← hn, hz, Bool.false_eq_true, if_false]; exact if_pos hh
    have HE2 : Hid (powX a b R S = rootX a S) := by show _ = _; unfold powX; simp only [← hn, hz, Bool.false_eq_true, if_false]; exact if_pos hh
    have HRT : Hid (∀ W, Calls Tryd.prog 38 #[.float .f64 a] W fun e w' => e = .returned (.tuple #[.float .f64 (rootB a S), .int .i64 (rootX a S)]) ∧ Below W.heap.size W w') := fun W => troot_any a S W ha hR
    rw [decide_eq_true hh] at hhb
    clear hn hR hP hb hz hh
    go_enter Tryd.func9, Tryd.ntmps9
    go_wp2_with fail
    refine (HWH.out _).mono ?_
    rintro e w1 ⟨rfl, hb1⟩
    go_wp2_with (first | (go_at_call 41; refine (HNN.out _ _ (by go_simp) (by go_simp)).mono ?_; rintro e w' ⟨rfl, rfl⟩))
    refine (HRT.out _).mono ?_
    rintro e w2 ⟨rfl, hb2⟩
    go_wp2
    go_ret2
    exact ⟨by rw [HE1.out, HE2.out]; rfl, (HBF.out _ _ hb1).thru hb2⟩
  rw [decide_eq_false hh] at hhb
  obtain ⟨t, ht⟩ : ∃ t, t = whB b := ⟨_, rfl⟩
  rw [← ht] at HWH
  cases t
  case false =>
    have HE1 : Hid (powB a b R S = 0) := by show _ = _; unfold powB; simp only [← hn, hz, ← ht, Bool.false_eq_true, if_false, if_true]; exact if_neg hh
    have HE2 : Hid (powX a b R S = 11) := by show _ = _; unfold powX; simp only [← hn, hz, ← ht, Bool.false_eq_true, if_false, if_true]; exact if_neg hh
    clear hn hR hP hb hz hh ht
    go_enter Tryd.func9, Tryd.ntmps9
    go_wp2_with fail
    refine (HWH.out _).mono ?_
    rintro e w1 ⟨rfl, hb1⟩
    go_wp2_with (first | (go_at_call 41; refine (HNN.out _ _ (by go_simp) (by go_simp)).mono ?_; rintro e w' ⟨rfl, rfl⟩))
    go_ret2
    exact ⟨by rw [HE1.out, HE2.out]; rfl, HBF.out _ _ hb1⟩
  case true =>
  obtain ⟨k, hk⟩ : ∃ k, k = whK b := ⟨_, rfl⟩
  obtain ⟨p, hp⟩ : ∃ p, p = (whK b % 2 != 0) := ⟨_, rfl⟩
  have hk0 : k ≠ 0 := by rw [hk]; exact whK_zero b ht.symm hz
  have hkr : -64 ≤ k ∧ k ≤ 64 := by rw [hk]; exact whK_range b
  have hpar2 : (k % 2 != 0) = p := by rw [hk]; exact hp.symm
  have hpar : (k.tmod 2 != 0) = p := by
    rw [hp, ← hk, Bool.eq_iff_iff]
    simp only [bne_iff_ne, ne_eq]
    rw [Int.tmod_eq_emod]
    constructor
    · intro h1 h2
      apply h1
      rw [h2]
      split <;> omega
    · intro h1
      split <;> omega
  have HSG : Hid (∀ W, Calls Tryd.prog 35 #[.float .f64 a] W fun e w' => e = .returned (.bool (sgnB a)) ∧ W = w') := fun W => signbit_any a W ha
  have HIA : Hid (∀ W, Calls Tryd.prog 43 #[.float .f64 a, .int .i64 0] W fun e w' => e = .returned (.bool (infB a)) ∧ W = w') := fun W => isinf_any a W ha
  have hza := w_eq_zero a ha
  rw [← hk] at HWH
  have hN : ∀ s, sgnB a = s → powN a b = (s && p) := fun s hs => powN_eq' a b s p hs hp.symm
  have HB : Hid (powB a b R S = if zeroB a && decide (k < 0) then 0 else if zeroB a || infB a && decide (0 < k) then sgW (powN a b) + absB a else if infB a then sgW (powN a b) else resB (powN a b) R) := by
    show _ = _
    unfold powB
    simp only [← hn, hz, ← ht, Bool.false_eq_true, if_false]
    rw [if_neg hh, if_neg (by decide), hk]
  have HX : Hid (powX a b R S = if zeroB a && decide (k < 0) then 13 else if zeroB a || infB a then 0 else resX R) := by
    show _ = _
    unfold powX
    simp only [← hn, hz, ← ht, Bool.false_eq_true, if_false]
    rw [if_neg hh, if_neg (by decide), hk]
  have hP1 : finB a = true → zeroB a = false → PowR a k R := fun f1 f2 => by rw [hk]; exact hP f1 f2 ht.symm
  obtain ⟨q, hq⟩ : ∃ q, q = powN a b := ⟨_, rfl⟩
  rw [← hq] at HB
  rw [← hq] at hN
  obtain ⟨s, hs⟩ : ∃ s, s = sgnB a := ⟨_, rfl⟩
  have hqs := hN s hs.symm
  rw [← hs] at HSG
  clear hq hp hk hh hz ht hN hR hP hn
  obtain ⟨v1, hv1⟩ : ∃ v, v = sgW q + absB a := ⟨_, rfl⟩
  obtain ⟨v0, hv0⟩ : ∃ v, v = sgW q := ⟨_, rfl⟩
  have HSA : Hid (∀ W, Calls Tryd.prog 31 #[.float .f64 a, .float .f64 (if q then 13830554455654793216 else 4607182418800017408)] W fun e w' => e = .returned (.float .f64 v1) ∧ W = w') := fun W => by rw [hv1]; exact side_any a q W ha
  have HSZ : Hid (∀ W, Calls Tryd.prog 31 #[.float .f64 0, .float .f64 (if q then 13830554455654793216 else 4607182418800017408)] W fun e w' => e = .returned (.float .f64 v0) ∧ W = w') := fun W => by rw [hv0]; exact side_any 0 q W (by unfold W64; decide)
  rw [← hv1, ← hv0] at HB
  clear hv1 hv0
  cases hzz : zeroB a
  case true =>
    rw [hzz] at hza HB HX
    rcases Int.lt_or_gt_of_ne hk0 with hkn | hkp
    · rw [decide_eq_true hkn] at HB HX
      clear hP1 hs hqs hzz
      cases s <;> cases p
      all_goals
        go_enter Tryd.func9, Tryd.ntmps9
        go_wp2_with fail
        refine (HWH.out _).mono ?_
        rintro e w1 ⟨rfl, hb1⟩
        go_wp2_with (first | (go_at_call 41; refine (HNN.out _ _ (by go_simp) (by go_simp)).mono ?_; rintro e w' ⟨rfl, rfl⟩) | (go_at_call 35; with_reducible refine (HSG.out _).mono ?_; rintro e w' ⟨rfl, rfl⟩))
        go_ret2
        exact ⟨by rw [HB.out, HX.out]; rfl, HBF.out _ _ hb1⟩
    · rw [decide_eq_false (by omega)] at HB HX
      have HE1 : Hid (powB a b R S = v1) := by show _ = _; rw [HB.out]; rfl
      have HE2 : Hid (powX a b R S = 0) := by show _ = _; rw [HX.out]; rfl
      clear hP1 hs HB HX hzz
      cases s <;> cases p
      all_goals
        simp only [Bool.and_true, Bool.and_false] at hqs
        subst hqs
        simp only [Bool.false_eq_true, if_false, if_true] at HSA
        go_enter Tryd.func9, Tryd.ntmps9
        go_wp2_with fail
        refine (HWH.out _).mono ?_
        rintro e w1 ⟨rfl, hb1⟩
        go_wp2_with (first | (go_at_call 41; refine (HNN.out _ _ (by go_simp) (by go_simp)).mono ?_; rintro e w' ⟨rfl, rfl⟩) | (go_at_call 35; with_reducible refine (HSG.out _).mono ?_; rintro e w' ⟨rfl, rfl⟩) | (go_at_call 31; with_reducible refine (HSA.out _).mono ?_; rintro e w' ⟨rfl, rfl⟩))
        go_ret2
        exact ⟨by rw [HE1.out, HE2.out]; rfl, HBF.out _ _ hb1⟩
  case false =>
  rw [hzz] at hza HB HX
  cases hia : infB a
  case true =>
    rw [hia] at HIA HB HX
    have HE2 : Hid (powX a b R S = 0) := by show _ = _; rw [HX.out]; rfl
    rcases Int.lt_or_gt_of_ne hk0 with hkn | hkp
    · have HE1 : Hid (powB a b R S = v0) := by show _ = _; rw [HB.out, show decide (0 < k) = false from decide_eq_false (by omega)]; rfl
      clear hP1 hs HB HX hzz
      cases s <;> cases p
      all_goals
        simp only [Bool.and_true, Bool.and_false] at hqs
        subst hqs
        simp only [Bool.false_eq_true, if_false, if_true] at HSZ
        go_enter Tryd.func9, Tryd.ntmps9
        go_wp2_with fail
        refine (HWH.out _).mono ?_
        rintro e w1 ⟨rfl, hb1⟩
        go_wp2_with (first | (go_at_call 41; refine (HNN.out _ _ (by go_simp) (by go_simp)).mono ?_; rintro e w' ⟨rfl, rfl⟩) | (go_at_call 35; with_reducible refine (HSG.out _).mono ?_; rintro e w' ⟨rfl, rfl⟩) | (go_at_call 43; with_reducible refine (HIA.out _).mono ?_; rintro e w' ⟨rfl, rfl⟩) | (go_at_call 31; with_reducible refine (HSZ.out _).mono ?_; rintro e w' ⟨rfl, rfl⟩))
        go_ret2
        exact ⟨by rw [HE1.out, HE2.out]; rfl, HBF.out _ _ hb1⟩
    · have HE1 : Hid (powB a b R S = v1) := by show _ = _; rw [HB.out, show decide (0 < k) = true from decide_eq_true (by omega)]; rfl
      clear hP1 hs HB HX hzz
      cases s <;> cases p
      all_goals
        simp only [Bool.and_true, Bool.and_false] at hqs
        subst hqs
        simp only [Bool.false_eq_true, if_false, if_true] at HSA
        go_enter Tryd.func9, Tryd.ntmps9
        go_wp2_with fail
        refine (HWH.out _).mono ?_
        rintro e w1 ⟨rfl, hb1⟩
        go_wp2_with (first | (go_at_call 41; refine (HNN.out _ _ (by go_simp) (by go_simp)).mono ?_; rintro e w' ⟨rfl, rfl⟩) | (go_at_call 35; with_reducible refine (HSG.out _).mono ?_; rintro e w' ⟨rfl, rfl⟩) | (go_at_call 43; with_reducible refine (HIA.out _).mono ?_; rintro e w' ⟨rfl, rfl⟩) | (go_at_call 31; with_reducible refine (HSA.out _).mono ?_; rintro e w' ⟨rfl, rfl⟩))
        go_ret2
        exact ⟨by rw [HE1.out, HE2.out]; rfl, HBF.out _ _ hb1⟩
  case false =>
  rw [hia] at HIA HB HX
  have fa : finB a = true := by rw [finB_eq, HN2.out.1, hia]; rfl
  have hpr := hP1 fa hzz
  have HE1 : Hid (powB a b R S = resB q R) := by show _ = _; rw [HB.out]; rfl
  have HE2 : Hid (powX a b R S = resX R) := by show _ = _; rw [HX.out]; rfl
  have hM : 0 < spM a := by
    rcases Nat.eq_zero_or_pos (spM a) with h | h
    · rw [(spM_nought a fa).1 h] at hzz; cases hzz
    · exact h
  obtain ⟨B, hB⟩ : ∃ B, B = 3393 := ⟨_, rfl⟩
  have hsm : ∀ i, i ≤ 64 → spM a ^ i < 2 ^ B := fun i hi => pow_small a i B hi hB
  have hkE := pow_range k (spE a) hkr (spE_range a)
  have hm1 : IntKind.i64.wrap (k * spE a) = k * spE a := IntWalk.i64_in _ (by omega)
  have HSP : Hid (∀ W, Calls Tryd.prog 44 #[.float .f64 a] W fun e w' => e = .returned (.tuple #[.bool (spS a), .int .u64 (spM a), .int .i64 (spE a), .int .i64 (spX a)]) ∧ W = w') := fun W => split_any a W ha
  have HPW : Hid (∀ W, Calls Tryd.prog 45 #[.int .u64 (spM a), .int .i64 (k.natAbs : Nat)] W (WideQ false (spM a ^ k.natAbs) W)) := fun W =>
    wpower_any (spM a) k.natAbs W (Nat.lt_trans (spM_lt a) (by decide)) (bb := B) (fun i hi => hsm i (by omega)) (by omega) (by omega)
  have hmx : max k (-k) = (k.natAbs : Int) := by omega
  obtain ⟨u, hu⟩ : ∃ u, u = decide (k < 0) := ⟨_, rfl⟩
  obtain ⟨x1, hx1⟩ : ∃ x, x = min R 9218868437227405312 := ⟨_, rfl⟩
  obtain ⟨x2, hx2⟩ : ∃ x, x = sgW q + x1 := ⟨_, rfl⟩
  obtain ⟨r1, hr1⟩ : ∃ x, x = resB q R := ⟨_, rfl⟩
  obtain ⟨r2, hr2⟩ : ∃ x, x = resX R := ⟨_, rfl⟩
  have HNR : Hid (∀ W s, Num .u64 18446744073709551616 W s (spM a ^ k.natAbs) → Calls Tryd.prog 46 #[.agg #[.bool false, s], .int .i64 (k * spE a), .bool u] W fun e w' => e = .returned (.float .f64 x1) ∧ Below W.heap.size W w') := fun W s h => by
    rw [hx1]
    refine tnearest_any s _ (k * spE a) u W h (Nat.pow_pos hM) (bb := B) (hsm _ (by omega)) (by omega) (by omega) (by omega) (by omega) ?_
    rw [hu]
    exact hpr
  have HCP : Hid (∀ W, Calls Tryd.prog 31 #[.float .f64 x1, .float .f64 (if q then 13830554455654793216 else 4607182418800017408)] W fun e w' => e = .returned (.float .f64 x2) ∧ W = w') := fun W => by
    have h := side_any x1 q W (by unfold W64; omega)
    have e : absB x1 = x1 := by unfold absB; omega
    rw [e, ← hx2] at h
    exact h
  have HTO : Hid (∀ W, Calls Tryd.prog 47 #[.float .f64 x2] W fun e w' => e = .returned (.tuple #[.float .f64 r1, .int .i64 r2]) ∧ W = w') := fun W => by
    rw [hx2, hx1, hr1, hr2]; exact told_res q R W
  rw [← hr1] at HE1
  rw [← hr2] at HE2
  clear hP1 hs HB HX fa hpr hsm hB hM hx1 hx2 hr1 hr2 hzz
  generalize k.natAbs = n at *
  generalize spM a ^ n = Z at *
  rcases Int.lt_or_gt_of_ne hk0 with hkn | hkp
  all_goals
    first | (rw [decide_eq_true hkn] at hu) | (rw [decide_eq_false (by omega)] at hu)
    subst hu
    cases s <;> cases p
    all_goals
      simp only [Bool.and_true, Bool.and_false] at hqs
      subst hqs
      simp only [Bool.false_eq_true, if_false, if_true] at HCP
      go_enter Tryd.func9, Tryd.ntmps9
      go_wp2_with fail
      refine (HWH.out _).mono ?_
      rintro e w1 ⟨rfl, hb1⟩
      go_wp2_with (first | (go_at_call 41; refine (HNN.out _ _ (by go_simp) (by go_simp)).mono ?_; rintro e w' ⟨rfl, rfl⟩) | (go_at_call 35; with_reducible refine (HSG.out _).mono ?_; rintro e w' ⟨rfl, rfl⟩) | (go_at_call 43; with_reducible refine (HIA.out _).mono ?_; rintro e w' ⟨rfl, rfl⟩) | (go_at_call 44; with_reducible refine (HSP.out _).mono ?_; rintro e w' ⟨rfl, rfl⟩))
      refine (HPW.out _).mono ?_
      rintro e w2 ⟨v, rfl, ⟨sl, rfl, hx, -⟩, hb⟩
      obtain ⟨x, y, z, rfl⟩ := hx.shape
      go_wp2_with fail
      have hx2 := hx.below (Nat.le_refl _) ((Below.refl _ _).alloc (Nat.le_refl _) (.cells #[.bool false, .slice x y z] 64))
      (try rw [show decide (k < 0) = false from decide_eq_false (by omega)])
      with_reducible refine (HNR.out _ _ hx2).mono ?_
      rintro e w3 ⟨rfl, hb2⟩
      go_wp2_with (first | (go_at_call 31; with_reducible refine (HCP.out _).mono ?_; rintro e w' ⟨rfl, rfl⟩) | (go_at_call 47; with_reducible refine (HTO.out _).mono ?_; rintro e w' ⟨rfl, rfl⟩))
      go_ret2
      exact ⟨by rw [HE1.out, HE2.out]; rfl, (HBF.out _ _ ((HBF.out _ _ hb1).thru hb)).thru hb2⟩
end Go.Proofs.YtiimjbpfdidgcaaDoor

/- Walks: the law TablePowers. -/
namespace Go.Proofs.YtiimjbpfdidgcaaDoor
open Go.RowKit

theorem root_ex (a : Nat) (ha : W64 a) : ∃ S, finB a = true → zeroB a = false → sgnB a = false → RootR a S := by
  by_cases h : finB a = true ∧ zeroB a = false ∧ sgnB a = false
  · obtain ⟨n, w, H, R, h1⟩ := sqrt_D a ha h.1 h.2.2 h.2.1
    exact ⟨R, fun _ _ _ => ⟨n, w, H, h1⟩⟩
  · exact ⟨0, fun h1 h2 h3 => absurd ⟨h1, h2, h3⟩ h⟩
theorem pow_ex2 (a b : Nat) : ∃ R, finB a = true → zeroB a = false → whB b = true → PowR a (whK b) R := by
  by_cases h : finB a = true ∧ zeroB a = false
  · have hM : 0 < spM a := by
      rcases Nat.eq_zero_or_pos (spM a) with g | g
      · have := (spM_nought a h.1).1 g
        rw [h.2] at this; cases this
      · exact g
    obtain ⟨R, hR⟩ := pow_ex a (whK b) hM
    exact ⟨R, fun _ _ _ => hR⟩
  · exact ⟨0, fun h1 h2 _ => absurd ⟨h1, h2⟩ h⟩

set_option maxHeartbeats 1000000 in
set_option maxRecDepth 100000 in
theorem law_powers (a b : Nat) (w : World) (ha : W64 a) (hb : W64 b) (hT : Tab9 w 1 totZ) (hQ : Tab9 w 4 quoZ) :
    Calls Tryd.prog 3 #[.int .u64 (a : Nat), .int .u64 (b : Nat)] w fun e w' => e = .returned (.bool true) ∧ Below w.heap.size w w' := by
  have HAW : Hid (Calls Tryd.prog 8 #[] w fun e w' => e = .returned (.bool true) ∧ Below w.heap.size w w') := awake7_any w hT hQ
  obtain ⟨S, hS⟩ := root_ex a ha
  obtain ⟨R, hR⟩ := pow_ex2 a b
  obtain ⟨s, hs⟩ : ∃ s, s = powB a b R S := ⟨_, rfl⟩
  obtain ⟨x, hx⟩ : ∃ x, x = powX a b R S := ⟨_, rfl⟩
  have H1 : Hid (∀ W, Calls Tryd.prog 9 #[.float .f64 a, .float .f64 b] W fun e w' => e = .returned (.tuple #[.float .f64 s, .int .i64 x]) ∧ Below W.heap.size W w') := fun W => by rw [hs, hx]; exact tpower_any a b R S W ha hb hS hR
  have H2 : Hid (∀ W, Calls Tryd.prog 11 #[.int .u64 a, .int .u64 b] W fun e w' => e = .returned (.tuple #[.int .u64 (s : Nat), .int .i64 x]) ∧ Below W.heap.size W w') := fun W => by rw [hs, hx]; exact r7_power a b R S W ha hb hS hR
  have HIS : Hid (∀ c W, Calls Tryd.prog 12 #[.float .f64 c, .int .u64 (c : Nat)] W fun e w' => e = .returned (.bool true) ∧ W = w') := fun c W => by have := is7_any c c W; simpa using this
  clear hS hR hs hx hT hQ ha hb
  go_enter Tryd.func3, Tryd.ntmps3
  go_wp2_with fail
  refine HAW.out.mono ?_
  rintro e w1 ⟨rfl, hb1⟩
  go_wp2_with fail
  refine (H1.out _).mono ?_
  rintro e w2 ⟨rfl, hb2⟩
  go_wp2_with fail
  refine (H2.out _).mono ?_
  rintro e w3 ⟨rfl, hb3⟩
  go_wp2_with (go_at_call 12; with_reducible refine (HIS.out _ _).mono ?_; rintro e w' ⟨rfl, rfl⟩)
  go_ret
  exact ⟨rfl, (hb1.thru hb2).thru hb3⟩
end Go.Proofs.YtiimjbpfdidgcaaDoor
