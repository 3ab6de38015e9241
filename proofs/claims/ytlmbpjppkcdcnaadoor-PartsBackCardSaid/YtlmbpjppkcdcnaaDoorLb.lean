/- Walk: the law PartsBack. -/
import Derived.Test.YtlmbpjppkcdcnaaDoorLa
import Derived.Test.YtlmbpjppkcdcnaaDoorFb
import Derived.Deep.DeepCutAuto
namespace Go.Proofs.YtlmbpjppkcdcnaaDoor
open Go.RowKit

theorem is_any (n m : Nat) (w : World) :
    Calls Tryd.prog 11 #[.float .f64 n, .int .u64 m] w fun e w' => e = .returned (.bool ((n : Int) == (m : Int))) ∧ w = w' := by
  go_enter Tryd.func11, Tryd.ntmps11
  go_wp2
  go_ret
  exact ⟨rfl, rfl⟩
theorem lt53 (m : Nat) (h : m < 9007199254740992) : decide ((9007199254740992 : Int) ≤ m) = false := by simp; omega

set_option maxRecDepth 100000 in
set_option maxHeartbeats 4000000 in
theorem law_back_core (a b c X Y Z : Nat) (w : World) (hT : TabW w) (hX : X = oneB a) (hY : Y = oneB b) (hZ : Z = oneB c) (ha : W64 a) (hb : W64 b) (hc : W64 c) :
    Calls Tryd.prog 6 #[.int .u64 a, .int .u64 b, .int .u64 c] w fun e w' => e = .returned (.bool true) ∧ w = w' := by
  have wX : W64 X := by rw [hX]; exact oneB_W a ha
  have wY : W64 Y := by rw [hY]; exact oneB_W b hb
  have wZ : W64 Z := by rw [hZ]; exact oneB_W c hc
  have oX : nanB X = true → X = theNaN := by rw [hX]; exact oneB_nan a
  have oY : nanB Y = true → Y = theNaN := by rw [hY]; exact oneB_nan b
  have cX := fun w => one_any a w; rw [← hX] at cX
  have cY := fun w => one_any b w; rw [← hY] at cY
  have cZ := fun w => one_any c w; rw [← hZ] at cZ
  have CX := Lib.hid cX; clear cX
  have CY := Lib.hid cY; clear cY
  have CZ := Lib.hid cZ; clear cZ
  have f1 := cls_finB X
  have f2 := spX_finB X
  have f3 := cls_nan X
  have f4 := next_last X oX
  have wN := next_W X wX
  have g0 := Lib.hid (fun h => next_not X wX h)
  have j0 := Lib.hid (fun h => join_split X wX h)
  have s1 : (stepsX X Y == 0) = true → (stepsX Y Z == 0) = true → (stepsX X Z == 0) = true → (wrap64 (stepsN X Y + stepsN Y Z) != stepsN X Z) = false := by
    intro h1 h2 h3; rw [steps_add X Y Z (by simpa using h1) (by simpa using h2) (by simpa using h3)]; simp
  have s2 : (stepsX X Y == 0) = true → (!(decide (0 < stepsN X Y) == decide (orderB X Y < 0))) = false := fun h => by
    have := steps_order X Y (by simpa using h)
    revert this; cases decide (0 < stepsN X Y) <;> cases decide (orderB X Y < 0) <;> simp
  have r1 := (order_range Y X).1
  have r2 := (order_range Y X).2
  have t1 : (orderB X Y != -orderB Y X) = false := by rw [order_opp X Y]; simp
  have t2 : orderB X Y ≤ 0 → orderB Y Z ≤ 0 → decide (0 < orderB X Z) = false := fun h1 h2 => by have := order_trans X Y Z h1 h2; simp; omega
  have t3 : (orderB X Y == 0) = true → ((X : Int) == (Y : Int)) = true := fun h => by
    rw [key_inj X Y wX wY oX oY (order_eq X Y (by simpa using h))]; simp
  have t4 : (FloatKind.f64.format.order X Y == some Ordering.lt) = true → decide (orderB X Y < 0) = true := fun h => by have := lt_order X Y wX wY h; simpa using this
  obtain ⟨q1, q2⟩ := spE_lo X
  have mX := spM_W X
  have B1 := Lib.hid s1; clear s1
  have B2 := Lib.hid s2; clear s2
  have B3 := Lib.hid t1; clear t1
  have B4 := Lib.hid t2; clear t2
  have B5 := Lib.hid t3; clear t3
  have B6 := Lib.hid t4; clear t4
  clear oX oY hX hY hZ
  go_enter Tryd.func6, Tryd.ntmps6
  go_wp2_with fail
  refine (awake_any _ hT).mono ?_; rintro e w' ⟨rfl, rfl⟩
  go_wp2_with fail
  refine (CX.out _).mono ?_; rintro e w' ⟨rfl, rfl⟩
  go_wp2_with fail
  refine (CY.out _).mono ?_; rintro e w' ⟨rfl, rfl⟩
  go_wp2_with fail
  refine (CZ.out _).mono ?_; rintro e w' ⟨rfl, rfl⟩
  clear CX CY CZ
  go_upto_if 62 with (first | (go_at_call 20; refine (split_any _ _ wX).mono ?_; rintro e w' ⟨rfl, rfl⟩) | (go_at_call 16; refine (class_any _ _ wX).mono ?_; rintro e w' ⟨rfl, rfl⟩))
  go_cut [15, 16, 17, 18] (fun _ _ _ _ wx => w = wx)
  case first => as_aux_lemma =>
    cases hf : finB X
    · go_wp2_with fail
      all_goals (go_meet; exact rfl)
    · obtain ⟨j1, j2, j3⟩ := j0.out hf
      have j4 := lt53 _ j3
      clear j3
      go_wp2_with (first | (go_at_call 9; refine (join_any _ _ _ _ mX hT (by omega) (by omega)).mono ?_; rintro e w' ⟨rfl, rfl⟩) | (go_at_call 11; refine (is_any _ _ _).mono ?_; rintro e w' ⟨rfl, rfl⟩))
      all_goals (go_meet; exact rfl)
  case rest =>
  obtain rfl := hcut
  clear f1 f2 j0 q1 q2
  go_upto_region 18 with (first | (go_at_call 16; refine (class_any _ _ wX).mono ?_; rintro e w' ⟨rfl, rfl⟩) | (go_at_call 22; refine (next_any _ _ wX).mono ?_; rintro e w' ⟨rfl, rfl⟩) | (go_at_call 26; refine (same_any _ _ _ wN wX).mono ?_; rintro e w' ⟨rfl, rfl⟩) | (go_at_call 27; refine (prev_any _ _ wN).mono ?_; rintro e w' ⟨rfl, rfl⟩))
  go_cut [19, 21, 22, 111] (fun _ l _ s wx => l = .bool (nanB X || pinfB X) ∧ s = .bool false ∧ w = wx)
  case first => as_aux_lemma =>
    cases hn : nanB X <;> cases hp : pinfB X
    · obtain ⟨g1, g2, g3, g4, g5⟩ := g0.out (by rw [hn, hp]; rfl)
      clear g2 g3 g4 g5
      go_wp2_with (go_at_call 11; refine (is_any _ _ _).mono ?_; rintro e w' ⟨rfl, rfl⟩)
      all_goals (go_meet; exact ⟨by first | (rw [hn, hp]; done) | (rw [hn, hp]; rfl), rfl, rfl⟩)
    all_goals
      go_wp2_with fail
      all_goals (go_meet; exact ⟨by first | (rw [hn, hp]; done) | (rw [hn, hp]; rfl), rfl, rfl⟩)
  case rest =>
  obtain ⟨rfl, rfl, rfl⟩ := hcut
  clear f3 f4
  go_wp2_with fail
  refine (steps_any _ _ _ wX wN).mono ?_; rintro e w' ⟨rfl, rfl⟩
  go_upto_region 21 with fail
  go_cut [21, 23, 24, 127] (fun _ _ _ s wx => s = .bool false ∧ w = wx)
  case first => as_aux_lemma =>
    cases hl : (nanB X || pinfB X)
    · obtain ⟨g1, g2, g3, g4, g5⟩ := g0.out hl
      clear g1 g4 g5
      go_wp2_with fail
      all_goals (go_meet; exact ⟨rfl, rfl⟩)
    · go_wp2_with fail
      all_goals (go_meet; exact ⟨rfl, rfl⟩)
  case rest =>
  obtain ⟨rfl, rfl⟩ := hcut
  clear g0
  go_wp2_with fail
  refine (steps_any _ _ _ wX wY).mono ?_; rintro e w' ⟨rfl, rfl⟩
  go_wp2_with fail
  refine (steps_any _ _ _ wY wZ).mono ?_; rintro e w' ⟨rfl, rfl⟩
  clear wN mX
  have s1 := B1.out; clear B1
  have s2 := B2.out; clear B2
  go_wp2_with fail
  refine (steps_any _ _ _ wX wZ).mono ?_; rintro e w' ⟨rfl, rfl⟩
  go_upto_region 26 with fail
  go_cut [26, 28, 30, 162] (fun s _ _ t wx => s = .int .i64 (stepsX X Y) ∧ t = .bool false ∧ w = wx)
  case first => as_aux_lemma =>
    go_wp2_with fail
    all_goals (go_meet; exact ⟨by first | rfl | rw [‹stepsX X Y = 0›], rfl, rfl⟩)
  case rest =>
  obtain ⟨rfl, rfl, rfl⟩ := hcut
  clear s1
  go_upto_region 28 with fail
  go_cut [26, 173] (fun _ s wx => s = .bool false ∧ w = wx)
  case first => as_aux_lemma =>
    go_wp2_with (go_at_call 29; refine (order_any X Y _ wX wY).mono ?_; rintro e w' ⟨rfl, rfl⟩)
    all_goals (go_meet; exact ⟨rfl, rfl⟩)
  case rest =>
  obtain ⟨rfl, rfl⟩ := hcut
  clear s2
  go_wp2_with fail
  refine (order_any X Y _ wX wY).mono ?_; rintro e w' ⟨rfl, rfl⟩
  go_wp2_with fail
  refine (order_any Y Z _ wY wZ).mono ?_; rintro e w' ⟨rfl, rfl⟩
  go_wp2_with fail
  refine (order_any X Z _ wX wZ).mono ?_; rintro e w' ⟨rfl, rfl⟩
  have t1 := B3.out; clear B3
  have t2 := B4.out; clear B4
  have t3 := B5.out; clear B5
  have t4 := B6.out; clear B6
  go_upto_region 33 with fail
  go_cut [31, 211] (fun p s wx => p = .int .i64 (orderB X Y) ∧ s = .bool false ∧ w = wx)
  case first => as_aux_lemma =>
    go_wp2_with fail
    refine (order_any Y X _ wY wX).mono ?_; rintro e w' ⟨rfl, rfl⟩
    go_wp2_with (go_at_call 11; refine (is_any _ _ _).mono ?_; rintro e w' ⟨rfl, rfl⟩)
    all_goals (go_meet; exact ⟨by first | rfl | rw [‹orderB X Y = 0›], rfl, rfl⟩)
  case rest =>
  obtain ⟨rfl, rfl, rfl⟩ := hcut
  clear t1 t2 t3
  go_wp2_with fail
  all_goals (go_ret; exact ⟨rfl, rfl⟩)
theorem law_back (a b c : Nat) (w : World) (ha : W64 a) (hb : W64 b) (hc : W64 c) (hT : TabW w) :
    Calls Tryd.prog 6 #[.int .u64 a, .int .u64 b, .int .u64 c] w fun e w' => e = .returned (.bool true) ∧ w = w' :=
  law_back_core a b c _ _ _ w hT rfl rfl rfl ha hb hc
end Go.Proofs.YtlmbpjppkcdcnaaDoor
