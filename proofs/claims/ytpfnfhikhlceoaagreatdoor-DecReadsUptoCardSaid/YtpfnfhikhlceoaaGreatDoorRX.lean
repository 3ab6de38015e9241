/- Parts Gw, Gx, Gy of the proof, in one text. -/
import Derived.Test.YtpfnfhikhlceoaaGreatDoorRW

/- Walks: the document's answer: Valid, Neg, Text. -/
namespace Go.Proofs.YtpfnfhikhlceoaaGreatDoor
open Go.RowKit

theorem byte_eq48 (c : UInt8) : (((c.toNat : Nat) : Int) == 48) = (c == 48) := by
  have := byte_ne c
  simp only [bne] at this
  cases h : (((c.toNat : Nat) : Int) == 48) <;> cases g : (c == 48) <;> simp [h, g] at this ⊢

set_option maxHeartbeats 4000000 in
set_option maxRecDepth 100000 in
theorem rvalid_any (ng : Bool) (s : ByteArray) (e : Int) (w : World) (hs : s.size ≤ 9223372036854775807) :
    Calls Tryz.prog 66 #[.agg #[.bool ng, .string s, .int .i64 e]] w fun en w' => en = .returned (.bool (⟨ng, bl s, e⟩ : Dc).okB) ∧ Below w.heap.size w w' := by
  obtain ⟨r, hr⟩ : ∃ r, r = (⟨ng, bl s, e⟩ : Dc).okB := ⟨_, rfl⟩
  rw [← hr]
  have hb0 : Below w.heap.size w (w.alloc (.cells #[.bool ng, .string s, .int .i64 e] 25)) := (Below.refl _ _).alloc (Nat.le_refl _) _
  have q0 := new_blk w (.cells #[.bool ng, .string s, .int .i64 e] 25)
  have HB0 : Hid _ := hb0
  have HQ0 : Hid _ := q0
  have c0 := cell_of_row _ _ 0 _ _ _ q0
  have c1 := cell_of_row _ _ 1 _ _ _ q0
  have c2 := cell_of_row _ _ 2 _ _ _ q0
  clear hb0 q0
  by_cases h0 : s.size = 0
  · have hl : bl s = [] := List.eq_nil_of_length_eq_zero (by rw [bl_len]; exact h0)
    rw [hl, okB_nil] at hr
    have he : s = ⟨#[]⟩ := bl_inj hl
    subst he
    have HR : Hid _ := hr
    clear hr hl h0 hs
    cases ng
    · by_cases he : e = 0
      · subst he
        go_enter Tryz.func66, Tryz.ntmps66
        go_wp2
        go_ret
        exact ⟨by rw [HR.out]; rfl, HB0.out⟩
      · have HE : Hid (¬ e = 0) := he
        go_enter Tryz.func66, Tryz.ntmps66
        go_wp2
        go_ret
        exact ⟨by rw [HR.out, decide_eq_false HE.out]; rfl, HB0.out⟩
    · by_cases he : e = 0
      · subst he
        go_enter Tryz.func66, Tryz.ntmps66
        go_wp2
        go_ret
        exact ⟨by rw [HR.out]; rfl, HB0.out⟩
      · have heb : (e == 0) = false := by simpa using he
        clear he
        go_enter Tryz.func66, Tryz.ntmps66
        go_wp2
        go_ret
        exact ⟨by rw [HR.out]; rfl, HB0.out⟩
  · have hl : bl s ≠ [] := fun e => h0 (by rw [← bl_len, e]; rfl)
    have hp : 0 < s.size := by omega
    have hs0 : ((s.size : Int) == 0) = false := by rw [beq_eq_false_iff_ne]; omega
    have he : s.toList.isEmpty = false := by
      obtain ⟨x, y, hxy⟩ : ∃ x y, bl s = x :: y := by
        cases g : bl s with
        | nil => exact absurd g hl
        | cons x y => exact ⟨x, y, rfl⟩
      have : s = ⟨(x :: y).toArray⟩ := bl_inj hxy
      rw [this, ByteArray.toList_mk]; rfl
    rw [okB_cons _ _ _ hl, bl_len] at hr
    have HNB : Hid (∀ W, Calls Tryz.prog 54 #[.string s] W fun e' w' => e' = .returned (.bool ((bl s).all isDig)) ∧ Below W.heap.size W w') := fun W => rdigits_v s W hs
    have hh : (bl s).headD 0 = s[0]'hp := by
      rw [bl_get s 0 hp]; exact head_get _ _
    have hla : (bl s).getLastD 0 = s[s.size - 1]'(by omega) := by
      rw [bl_get s _ (by omega), List.getLastD_eq_getLast?, List.getLast?_eq_getElem?]
      have : (bl s).length - 1 < (bl s).length := by rw [bl_len]; omega
      rw [List.getElem?_eq_getElem this]; rfl
    rw [hh, hla] at hr
    have hw : IntKind.i64.wrap ((s.size : Int) - 1) = ((s.size - 1 : Nat) : Int) := by rw [IntWalk.i64_in _ (by omega)]; omega
    have hq1 : s.size - 1 < s.size := by omega
    obtain ⟨q0, hq0⟩ : ∃ q, q = (s[0]'hp == 48) := ⟨_, rfl⟩
    obtain ⟨q1, hq1e⟩ : ∃ q, q = (s[s.size - 1]'hq1 == 48) := ⟨_, rfl⟩
    obtain ⟨al, hal⟩ : ∃ q, q = (bl s).all isDig := ⟨_, rfl⟩
    rw [← hq0, ← hq1e, ← hal] at hr
    rw [← hal] at HNB
    have hi0 : ((((s[0]'hp).toNat : Nat) : Int) == 48) = q0 := by
      rw [hq0]; exact byte_eq48 _
    have hi1 : ((((s[s.size - 1]'hq1).toNat : Nat) : Int) == 48) = q1 := by
      rw [hq1e]; exact byte_eq48 _
    have HR : Hid _ := hr
    clear hr hh hla hl hq0 hq1e hal h0
    by_cases k1 : s.size ≤ 8192
    case neg =>
      have k1' : ¬ (s.size : Int) ≤ 8192 := by omega
      have K1 : Hid (¬ s.size ≤ 8192) := k1
      clear k1
      go_enter Tryz.func66, Tryz.ntmps66
      go_wp2
      go_ret
      exact ⟨by rw [HR.out, decide_eq_false K1.out]; simp, HB0.out⟩
    case pos =>
      have k1' : (s.size : Int) ≤ 8192 := by omega
      have K1 : Hid (s.size ≤ 8192) := k1
      clear k1
      cases al
      case false =>
        go_enter Tryz.func66, Tryz.ntmps66
        go_wp2_with (go_at_call 54; refine (HNB.out _).mono ?_; rintro e' w' ⟨rfl, hb'⟩; have hr' := hb'.blk HQ0.out (by simp); have d1 : w'.cell? ⟨w.heap.size, 1, none⟩ = some (.string s) := cell_of_row _ _ 1 _ _ _ hr'; have d2 : w'.cell? ⟨w.heap.size, 2, none⟩ = some (.int .i64 e) := cell_of_row _ _ 2 _ _ _ hr'; have HB' : Hid (Below w.heap.size w w') := HB0.out.thru hb'; clear hb' hr')
        go_ret
        exact ⟨by rw [HR.out]; simp, HB'.out⟩
      case true =>
        cases q0
        case true =>
          go_enter Tryz.func66, Tryz.ntmps66
          go_wp2_with (go_at_call 54; refine (HNB.out _).mono ?_; rintro e' w' ⟨rfl, hb'⟩; have hr' := hb'.blk HQ0.out (by simp); have d1 : w'.cell? ⟨w.heap.size, 1, none⟩ = some (.string s) := cell_of_row _ _ 1 _ _ _ hr'; have d2 : w'.cell? ⟨w.heap.size, 2, none⟩ = some (.int .i64 e) := cell_of_row _ _ 2 _ _ _ hr'; have HB' : Hid (Below w.heap.size w w') := HB0.out.thru hb'; clear hb' hr')
          go_ret
          exact ⟨by rw [HR.out]; simp, HB'.out⟩
        case false =>
          cases q1
          case true =>
            go_enter Tryz.func66, Tryz.ntmps66
            go_wp2_with (go_at_call 54; refine (HNB.out _).mono ?_; rintro e' w' ⟨rfl, hb'⟩; have hr' := hb'.blk HQ0.out (by simp); have d1 : w'.cell? ⟨w.heap.size, 1, none⟩ = some (.string s) := cell_of_row _ _ 1 _ _ _ hr'; have d2 : w'.cell? ⟨w.heap.size, 2, none⟩ = some (.int .i64 e) := cell_of_row _ _ 2 _ _ _ hr'; have HB' : Hid (Below w.heap.size w w') := HB0.out.thru hb'; clear hb' hr')
            go_ret
            exact ⟨by rw [HR.out]; simp, HB'.out⟩
          case false =>
            by_cases k2 : -20000 ≤ e
            case neg =>
              have K2 : Hid (decide (-20000 ≤ e) = false) := decide_eq_false k2
              go_enter Tryz.func66, Tryz.ntmps66
              go_wp2_with (go_at_call 54; refine (HNB.out _).mono ?_; rintro e' w' ⟨rfl, hb'⟩; have hr' := hb'.blk HQ0.out (by simp); have d1 : w'.cell? ⟨w.heap.size, 1, none⟩ = some (.string s) := cell_of_row _ _ 1 _ _ _ hr'; have d2 : w'.cell? ⟨w.heap.size, 2, none⟩ = some (.int .i64 e) := cell_of_row _ _ 2 _ _ _ hr'; have HB' : Hid (Below w.heap.size w w') := HB0.out.thru hb'; clear hb' hr')
              go_ret
              exact ⟨by rw [HR.out, K2.out]; simp, HB'.out⟩
            case pos =>
              have K2 : Hid (decide (-20000 ≤ e) = true) := decide_eq_true k2
              by_cases k3 : e ≤ 20000
              case neg =>
                have K3 : Hid (decide (e ≤ 20000) = false) := decide_eq_false k3
                go_enter Tryz.func66, Tryz.ntmps66
                go_wp2_with (go_at_call 54; refine (HNB.out _).mono ?_; rintro e' w' ⟨rfl, hb'⟩; have hr' := hb'.blk HQ0.out (by simp); have d1 : w'.cell? ⟨w.heap.size, 1, none⟩ = some (.string s) := cell_of_row _ _ 1 _ _ _ hr'; have d2 : w'.cell? ⟨w.heap.size, 2, none⟩ = some (.int .i64 e) := cell_of_row _ _ 2 _ _ _ hr'; have HB' : Hid (Below w.heap.size w w') := HB0.out.thru hb'; clear hb' hr')
                go_ret
                exact ⟨by rw [HR.out, K3.out]; simp, HB'.out⟩
              case pos =>
                have K3 : Hid (decide (e ≤ 20000) = true) := decide_eq_true k3
                go_enter Tryz.func66, Tryz.ntmps66
                go_wp2_with (go_at_call 54; refine (HNB.out _).mono ?_; rintro e' w' ⟨rfl, hb'⟩; have hr' := hb'.blk HQ0.out (by simp); have d1 : w'.cell? ⟨w.heap.size, 1, none⟩ = some (.string s) := cell_of_row _ _ 1 _ _ _ hr'; have d2 : w'.cell? ⟨w.heap.size, 2, none⟩ = some (.int .i64 e) := cell_of_row _ _ 2 _ _ _ hr'; have HB' : Hid (Below w.heap.size w w') := HB0.out.thru hb'; clear hb' hr')
                go_ret
                exact ⟨by rw [HR.out, decide_eq_true K1.out, K2.out, K3.out]; simp, HB'.out⟩
theorem rvalid_v (d : Dc) (w : World) (hs : d.s.length ≤ 9223372036854775807) : Calls Tryz.prog 66 #[.agg #[.bool d.neg, .string (bs d.s), .int .i64 d.e]] w fun en w' => en = .returned (.bool d.okB) ∧ Below w.heap.size w w' :=
  rvalid_any d.neg (bs d.s) d.e w hs
end Go.Proofs.YtpfnfhikhlceoaaGreatDoor

/- Walks: the document's answer: Neg, Text. -/
namespace Go.Proofs.YtpfnfhikhlceoaaGreatDoor
open Go.RowKit

set_option maxRecDepth 100000 in
theorem rneg_bad (d : Dc) (w : World) (hs : d.s.length ≤ 9223372036854775807) (hbo : d.okB = false) : Calls Tryz.prog 64 #[.agg #[.bool d.neg, .string (bs d.s), .int .i64 d.e]] w (DcQ Dc.none 1 w) := by
  have HV : Hid (∀ W, Calls Tryz.prog 66 #[.agg #[.bool d.neg, .string (bs d.s), .int .i64 d.e]] W fun en w' => en = .returned (.bool false) ∧ Below W.heap.size W w') := fun W => by
    have := rvalid_v d W hs
    rw [hbo] at this; exact this
  have HB0 : Hid (Below w.heap.size w ((w.alloc (.cells #[.bool d.neg, .string (bs d.s), .int .i64 d.e] 25)).alloc (.cells #[.bool false, .string ⟨#[]⟩, .int .i64 0] 25))) := ((Below.refl _ _).alloc (Nat.le_refl _) _).alloc (by simp) _
  have HQ0 : Hid _ := heap_alloc2_old w (.cells #[.bool d.neg, .string (bs d.s), .int .i64 d.e] 25) (.cells #[.bool false, .string ⟨#[]⟩, .int .i64 0] 25)
  have HZ0 : Hid _ := heap_alloc2_new w (.cells #[.bool d.neg, .string (bs d.s), .int .i64 d.e] 25) (.cells #[.bool false, .string ⟨#[]⟩, .int .i64 0] 25)
  clear hbo
  go_enter Tryz.func64, Tryz.ntmps64
  go_wp2_with fail
  refine (HV.out _).mono ?_
  rintro e w1 ⟨rfl, hb⟩
  have HB1 : Hid (Below w.heap.size w w1) := HB0.out.thru hb
  have HQ1 : Hid _ := hb.blk HQ0.out (by simp; omega)
  have HZ1 : Hid _ := hb.blk HZ0.out (by simp)
  clear hb
  obtain ⟨f0, c0, f1, c1, f2, c2, r3⟩ := rw3 HZ1.out
  have HR : Hid _ := r3
  have b0 := cell_of_row _ _ 0 _ _ _ HQ1.out
  clear r3
  go_wp2
  exact dc_end rfl rfl rfl (HR.out _ _ _) rfl rfl (below_row3 HB1.out (Nat.le_add_right _ 1) _ _ _)
set_option maxRecDepth 100000 in
theorem rneg_ok (d : Dc) (w : World) (hok : d.ok) : Calls Tryz.prog 64 #[.agg #[.bool d.neg, .string (bs d.s), .int .i64 d.e]] w (DcQ (negD d) 0 w) := by
  have hl := ok_len hok
  obtain ⟨N, hN⟩ : ∃ N, N = negD d := ⟨_, rfl⟩
  rw [← hN]
  have HN : Hid (N = negD d) := hN
  have HV : Hid (∀ W, Calls Tryz.prog 66 #[.agg #[.bool d.neg, .string (bs d.s), .int .i64 d.e]] W fun en w' => en = .returned (.bool true) ∧ Below W.heap.size W w') := fun W => by
    have := rvalid_v d W (by omega)
    rw [okB_ok hok] at this; exact this
  have HB0 : Hid (Below w.heap.size w ((w.alloc (.cells #[.bool d.neg, .string (bs d.s), .int .i64 d.e] 25)).alloc (.cells #[.bool false, .string ⟨#[]⟩, .int .i64 0] 25))) := ((Below.refl _ _).alloc (Nat.le_refl _) _).alloc (by simp) _
  have HQ0 : Hid _ := heap_alloc2_old w (.cells #[.bool d.neg, .string (bs d.s), .int .i64 d.e] 25) (.cells #[.bool false, .string ⟨#[]⟩, .int .i64 0] 25)
  have HZ0 : Hid _ := heap_alloc2_new w (.cells #[.bool d.neg, .string (bs d.s), .int .i64 d.e] 25) (.cells #[.bool false, .string ⟨#[]⟩, .int .i64 0] 25)
  clear hok hN
  go_enter Tryz.func64, Tryz.ntmps64
  go_wp2_with fail
  refine (HV.out _).mono ?_
  rintro e w1 ⟨rfl, hb⟩
  have HB1 : Hid (Below w.heap.size w w1) := HB0.out.thru hb
  have HQ1 : Hid _ := hb.blk HQ0.out (by simp; omega)
  have HZ1 : Hid _ := hb.blk HZ0.out (by simp)
  clear hb
  have b0 := cell_of_row _ _ 0 _ _ _ HQ1.out
  have b1 := cell_of_row _ _ 1 _ _ _ HQ1.out
  have b2 := cell_of_row _ _ 2 _ _ _ HQ1.out
  by_cases h0 : d.s = []
  · have hz : ¬ (0 : Int) < ((bs d.s).size : Int) := by rw [h0]; decide
    have HD : Hid (N = d) := by show _ = _; rw [HN.out]; unfold negD; rw [if_pos h0]
    obtain ⟨f0, c0, f1, c1, f2, c2, r3⟩ := rw3 HZ1.out
    have HR : Hid _ := r3
    clear r3 h0
    go_wp2
    exact dc_end rfl rfl rfl (HR.out _ _ _) (by rw [HD.out]; rfl) rfl (below_row3 HB1.out (Nat.le_add_right _ 1) _ _ _)
  · have hz : (0 : Int) < ((bs d.s).size : Int) := by
      have : 0 < d.s.length := List.length_pos_iff.2 h0
      have e : (bs d.s).size = d.s.length := rfl
      omega
    have HD : Hid (N = ⟨!d.neg, d.s, d.e⟩) := by show _ = _; rw [HN.out]; unfold negD; rw [if_neg h0]
    have q1 := heap_setCell_same w1 w.heap.size 0 _ _ (.bool !d.neg) HQ1.out
    have g0 := frozen_of_row w1 w.heap.size 0 _ _ HQ1.out
    have e0 := cell_of_row _ _ 0 _ _ _ q1
    have e1 := cell_of_row _ _ 1 _ _ _ q1
    have e2 := cell_of_row _ _ 2 _ _ _ q1
    have z1 := (heap_setCell_other w1 ⟨w.heap.size, 0, none⟩ (w.heap.size + 1) (.bool !d.neg) (by simp)).trans HZ1.out
    obtain ⟨f0, c0, f1, c1, f2, c2, r3⟩ := rw3 z1
    have HR : Hid _ := r3
    have HB2 : Hid (Below w.heap.size w (w1.setCell ⟨w.heap.size, 0, none⟩ (.bool !d.neg))) := HB1.out.setCell (Nat.le_refl _) _
    clear r3 h0 q1 z1
    go_wp2
    exact dc_end rfl rfl rfl (HR.out _ _ _) (by rw [HD.out]; rfl) rfl (below_row3 HB2.out (Nat.le_add_right _ 1) _ _ _)
end Go.Proofs.YtpfnfhikhlceoaaGreatDoor

/- Walks: the document's answer: Text. -/
namespace Go.Proofs.YtpfnfhikhlceoaaGreatDoor
open Go.RowKit

set_option maxRecDepth 100000 in
theorem rtext_bad (d : Dc) (w : World) (hs : d.s.length ≤ 9223372036854775807) (hbo : d.okB = false) : Calls Tryz.prog 65 #[.agg #[.bool d.neg, .string (bs d.s), .int .i64 d.e]] w fun en w' => en = .returned (.tuple #[.string ⟨#[]⟩, .int .i64 1]) ∧ Below w.heap.size w w' := by
  have HV : Hid (∀ W, Calls Tryz.prog 66 #[.agg #[.bool d.neg, .string (bs d.s), .int .i64 d.e]] W fun en w' => en = .returned (.bool false) ∧ Below W.heap.size W w') := fun W => by
    have := rvalid_v d W hs
    rw [hbo] at this; exact this
  have HB0 : Hid (Below w.heap.size w (w.alloc (.cells #[.bool d.neg, .string (bs d.s), .int .i64 d.e] 25))) := (Below.refl _ _).alloc (Nat.le_refl _) _
  clear hbo
  go_enter Tryz.func65, Tryz.ntmps65
  go_wp2_with fail
  refine (HV.out _).mono ?_
  rintro e w1 ⟨rfl, hb⟩
  have HB1 : Hid (Below w.heap.size w w1) := HB0.out.thru hb
  clear hb
  go_wp2
  go_ret2
  exact ⟨rfl, HB1.out⟩
set_option maxRecDepth 100000 in
theorem rtext_ok (d : Dc) (w : World) (hok : d.ok) : Calls Tryz.prog 65 #[.agg #[.bool d.neg, .string (bs d.s), .int .i64 d.e]] w fun en w' => en = .returned (.tuple #[.string (bs (textL d)), .int .i64 0]) ∧ Below w.heap.size w w' := by
  have hl := ok_len hok
  have hx := ok_exp hok
  have HV : Hid (∀ W, Calls Tryz.prog 66 #[.agg #[.bool d.neg, .string (bs d.s), .int .i64 d.e]] W fun en w' => en = .returned (.bool true) ∧ Below W.heap.size W w') := fun W => by
    have := rvalid_v d W (by omega)
    rw [okB_ok hok] at this; exact this
  have HB0 : Hid (Below w.heap.size w (w.alloc (.cells #[.bool d.neg, .string (bs d.s), .int .i64 d.e] 25))) := (Below.refl _ _).alloc (Nat.le_refl _) _
  have HQ0 : Hid _ := new_blk w (.cells #[.bool d.neg, .string (bs d.s), .int .i64 d.e] 25)
  obtain ⟨T, hT⟩ : ∃ T, T = textL d := ⟨_, rfl⟩
  rw [← hT]
  have HTT : Hid (T = textL d) := hT
  obtain ⟨xx, hxb⟩ : ∃ b, b = bs (itoaL d.e) := ⟨_, rfl⟩
  have hxz : xx.size ≤ 40000 := by
    rw [hxb]
    have := itoa_len2 d.e
    show (itoaL d.e).length ≤ _
    omega
  have HXD : Hid (∀ W, Calls Tryz.prog 97 #[.int .i64 d.e] W fun e w' => e = .returned (.string xx) ∧ Below W.heap.size W w') := fun W => by rw [hxb]; exact rdec_v d.e W (by omega) (by omega)
  have HXX : Hid (xx = bs (itoaL d.e)) := hxb
  clear hok hT hxb
  go_enter Tryz.func65, Tryz.ntmps65
  go_wp2_with fail
  refine (HV.out _).mono ?_
  rintro e w1 ⟨rfl, hb⟩
  have HB1 : Hid (Below w.heap.size w w1) := HB0.out.thru hb
  have q1 := hb.blk HQ0.out (blk_lt HQ0.out)
  have c00 : w1.cell? ⟨w.heap.size, 0, none⟩ = some (.bool d.neg) := cell_of_row _ _ 0 _ _ _ q1
  have c10 : w1.cell? ⟨w.heap.size, 1, none⟩ = some (.string (bs d.s)) := cell_of_row _ _ 1 _ _ _ q1
  have c2 : w1.cell? ⟨w.heap.size, 2, none⟩ = some (.int .i64 d.e) := cell_of_row _ _ 2 _ _ _ q1
  clear hb q1
  by_cases h0 : d.s = []
  · have hz : (((bs d.s).size : Int) == 0) = true := by rw [h0]; rfl
    have HT : Hid (ByteArray.mk #[48] = bs T) := by show _ = _; rw [HTT.out]; unfold textL; rw [if_pos h0]; rfl
    clear h0
    go_wp2
    go_ret2
    refine ⟨?_, HB1.out⟩
    rw [← HT.out]; rfl
  · have HTX : Hid (T = (if d.neg then [45] else []) ++ d.s ++ (if d.e = 0 then [] else 101 :: itoaL d.e)) := by show _ = _; rw [HTT.out]; unfold textL; rw [if_neg h0]
    have hz : (((bs d.s).size : Int) == 0) = false := by
      have : 0 < d.s.length := List.length_pos_iff.2 h0
      have e : (bs d.s).size = d.s.length := rfl
      rw [beq_eq_false_iff_ne]; omega
    obtain ⟨s, hse⟩ : ∃ s, s = bs d.s := ⟨_, rfl⟩
    have HS : Hid (s = bs d.s) := hse
    have c1 := c10.trans (show some (Value.string (bs d.s)) = some (Value.string s) by rw [hse])
    have hss : s.size ≤ 8192 := by rw [hse]; exact hl
    rw [← hse] at hz
    clear h0 hse c10
    cases hng : d.neg
    · by_cases he0 : d.e = 0
      · skip
        have HNG : Hid (d.neg = false) := hng
        have c0 := c00.trans (show some (Value.bool d.neg) = some (Value.bool false) by rw [hng])
        have heb : (d.e == 0) = true := by simpa using he0
        have HT : Hid (s = bs T) := by
          show _ = _
          rw [HTX.out, HNG.out, if_pos he0, HS.out]; apply bl_inj; simp [bl_bs]
        clear he0 hng c00
        go_wp2
        go_ret2
        refine ⟨?_, HB1.out⟩
        rw [← HT.out]; rfl
      · skip
        have HNG : Hid (d.neg = false) := hng
        have c0 := c00.trans (show some (Value.bool d.neg) = some (Value.bool false) by rw [hng])
        have heb : (d.e == 0) = false := by simpa using he0
        have HT : Hid (s ++ ByteArray.mk #[101] ++ xx = bs T) := by
          show _ = _
          rw [HTX.out, HNG.out, if_neg he0, HS.out, HXX.out]; apply bl_inj; simp [bl_append, bl_bs]; rfl
        clear he0 hng c00
        go_wp2_with fail
        refine (HXD.out _).mono ?_
        rintro e w2 ⟨rfl, hb⟩
        have HB2 : Hid (Below w.heap.size w w2) := HB1.out.thru hb
        clear hb c0 c1 c2
        go_wp2
        go_ret2
        refine ⟨?_, HB2.out⟩
        rw [← HT.out]; rfl
    · by_cases he0 : d.e = 0
      · skip
        have HNG : Hid (d.neg = true) := hng
        have c0 := c00.trans (show some (Value.bool d.neg) = some (Value.bool true) by rw [hng])
        have heb : (d.e == 0) = true := by simpa using he0
        have HT : Hid (ByteArray.mk #[45] ++ s = bs T) := by
          show _ = _
          rw [HTX.out, HNG.out, if_pos he0, HS.out]; apply bl_inj; rw [bl_append]; simp [bl]; rfl
        clear he0 hng c00
        go_wp2
        go_ret2
        refine ⟨?_, HB1.out⟩
        rw [← HT.out]; rfl
      · skip
        have HNG : Hid (d.neg = true) := hng
        have c0 := c00.trans (show some (Value.bool d.neg) = some (Value.bool true) by rw [hng])
        have heb : (d.e == 0) = false := by simpa using he0
        have HT : Hid (ByteArray.mk #[45] ++ s ++ ByteArray.mk #[101] ++ xx = bs T) := by
          show _ = _
          rw [HTX.out, HNG.out, if_neg he0, HS.out, HXX.out]; apply bl_inj; simp [bl_append, bl_bs]; rfl
        clear he0 hng c00
        go_wp2_with fail
        refine (HXD.out _).mono ?_
        rintro e w2 ⟨rfl, hb⟩
        have HB2 : Hid (Below w.heap.size w w2) := HB1.out.thru hb
        clear hb c0 c1 c2
        go_wp2
        go_ret2
        refine ⟨?_, HB2.out⟩
        rw [← HT.out]; rfl
end Go.Proofs.YtpfnfhikhlceoaaGreatDoor
