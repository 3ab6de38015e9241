/- Parts Ei, Ej of the proof, in one text. -/
import Derived.Test.YtpfnfhikhlceoaaGreatDoorQW

/- Walks: dec's signed, Valid, Neg, Int. -/
namespace Go.Proofs.YtpfnfhikhlceoaaGreatDoor
open Go.RowKit

theorem alloc2_1 (w : World) (A B : Obj) : ((w.alloc A).alloc B).heap[w.heap.size]? = some A := heap_alloc2_old w A B
set_option maxRecDepth 100000 in
theorem signed_v (d : Dc) (w : World) (hd : allDig d.s) (hs : d.s.length ≤ 100000) : Calls Tryz.prog 63 #[dcV d] w (WideR d.v w) := by
  obtain ⟨ng, l, e⟩ := d
  obtain ⟨s, hse⟩ : ∃ s, s = bs l := ⟨_, rfl⟩
  show Calls Tryz.prog 63 #[.agg #[.bool ng, .string (bs l), .int .i64 e]] w (WideR (sg ng (dval l)) w)
  have HP : Hid (∀ W, Calls Tryz.prog 95 #[.string s] W (WideR (dval l) W)) := fun W => by rw [hse]; exact iparse_v (bs l) W hd hs
  rw [← hse]
  obtain ⟨V, hV⟩ : ∃ V, V = sg ng (dval l) := ⟨_, rfl⟩
  rw [← hV]
  have HV : Hid (V = sg ng (dval l)) := hV
  have hb0 : Below w.heap.size w ((w.alloc (.cells #[.bool ng, .string s, .int .i64 e] 25)).alloc (.cells #[.bool false, .slice none 0 0] 63)) := ((Below.refl _ _).alloc (Nat.le_refl _) _).alloc (by simp) _
  have q0 := heap_alloc2_old w (.cells #[.bool ng, .string s, .int .i64 e] 25) (.cells #[.bool false, .slice none 0 0] 63)
  have q1 := heap_alloc2_new w (.cells #[.bool ng, .string s, .int .i64 e] 25) (.cells #[.bool false, .slice none 0 0] 63)
  have HB0 : Hid _ := hb0
  have HQ0 : Hid _ := q0
  have HQ1 : Hid _ := q1
  have c1 := cell_of_row _ _ 1 _ _ _ q0
  clear hd hs hse hV hb0 q0 q1
  go_enter Tryz.func63, Tryz.ntmps63
  go_wp2_with fail
  refine (HP.out _).mono ?_
  rintro e' w1 ⟨v, rfl, hi, hb⟩
  have hi2 := hi
  obtain ⟨a, m, c, rfl, -⟩ := hi2
  have r0 := hb.blk HQ0.out (by simp; omega)
  have r1 := hb.blk HQ1.out (by simp)
  have HI : Hid (WideI w1 (.agg #[.bool (decide ((dval l : Int) < 0)), .slice a m c]) (dval l)) := hi
  have HB1 : Hid (Below w.heap.size w w1) := HB0.out.thru hb
  have HR0 : Hid _ := r0
  have HR1 : Hid _ := r1
  have a0 := ((Below.refl w1.heap.size w1).alloc (Nat.le_refl _) (.cells #[.bool (decide ((dval l : Int) < 0)), .slice a m c] 63)).blk HR0.out (blk_lt HR0.out)
  have a1 := ((Below.refl w1.heap.size w1).alloc (Nat.le_refl _) (.cells #[.bool (decide ((dval l : Int) < 0)), .slice a m c] 63)).blk HR1.out (blk_lt HR1.out)
  have d0 := cell_of_row _ _ 0 _ _ _ a0
  obtain ⟨y0, y1, y2, y3, y4, y5⟩ := row2 a1
  have HA1 : Hid _ := a1
  clear hi r0 r1 a0 a1 hb c1
  cases ng
  · go_wp2
    refine wide_endV (p := 2) rfl rfl HA1.out ?_ (HB1.out.alloc HB1.out.size _) (Nat.le_succ _) (by rw [HV.out]; rfl)
    obtain ⟨_, _, _, e, h⟩ := HI.out
    cases e
    have := h.below (Nat.le_refl _) ((Below.refl w1.heap.size w1).alloc (Nat.le_refl _) (.cells #[.bool (decide ((dval l : Int) < 0)), .slice a m c] 63))
    rw [HV.out]; exact this
  · have HNG : Hid (∀ W, Below w1.heap.size w1 W → Calls Tryz.prog 96 #[.agg #[.bool (decide ((dval l : Int) < 0)), .slice a m c]] W (WideR (-(dval l : Int)) W)) := fun W hW => ineg_v _ _ W (HI.out.below hW)
    go_wp2_with fail
    refine (HNG.out _ ((Below.refl _ _).alloc (Nat.le_refl _) _)).mono ?_
    rintro e' w2 hq
    obtain ⟨a', m', c', rfl, hn, hb⟩ := hq.shape
    have r1 := hb.blk HA1.out (blk_lt HA1.out)
    obtain ⟨z0, z1, z2, z3, z4, z5⟩ := row2 r1
    have HN : Hid (Num .u64 18446744073709551616 w2 (.slice a' m' c') (-(dval l : Int)).natAbs) := hn
    have HR2 : Hid _ := r1
    have HB2 : Hid (Below w.heap.size w w2) := (HB1.out.alloc HB1.out.size _).thru hb
    clear hn r1 hb y0 y1 y2 y3 y4 y5
    go_wp2
    refine wide_endV (p := 2) rfl rfl HR2.out ?_ HB2.out (Nat.le_succ _) ?_
    · rw [HV.out]; exact HN.out
    · rw [HV.out]; unfold sg; rw [if_pos rfl, Bool.eq_iff_iff]; simp

theorem byte_ne (c : UInt8) : (((c.toNat : Nat) : Int) != 48) = !(c == 48) := by
  rw [Bool.eq_iff_iff]
  simp only [bne_iff_ne, Bool.not_eq_true', beq_eq_false_iff_ne, ne_eq]
  constructor
  · intro h e; subst e; exact h rfl
  · intro h e
    exact h (UInt8.toNat_inj.1 (by have : (48 : UInt8).toNat = 48 := rfl; omega))
theorem head_get : ∀ (l : List UInt8) (h : 0 < l.length), l.headD 0 = l[0]'h
  | _ :: _, _ => rfl
theorem okB_nil (ng : Bool) (e : Int) : (⟨ng, [], e⟩ : Dc).okB = (!ng && decide (e = 0)) := rfl
theorem okB_cons (ng : Bool) (l : List UInt8) (e : Int) (h : l ≠ []) : (⟨ng, l, e⟩ : Dc).okB = (decide (l.length ≤ 8192) && (l.all isDig && (!(l.headD 0 == 48) && (!(l.getLastD 0 == 48) && (decide (-20000 ≤ e) && decide (e ≤ 20000)))))) := by
  unfold Dc.okB; rw [if_neg h]

set_option maxRecDepth 100000 in
theorem valid_any (ng : Bool) (s : ByteArray) (e : Int) (w : World) (hs : s.size ≤ 9223372036854775807) :
    Calls Tryz.prog 25 #[.agg #[.bool ng, .string s, .int .i64 e]] w fun en w' => en = .returned (.bool (⟨ng, bl s, e⟩ : Dc).okB) ∧ Below w.heap.size w w' := by
  obtain ⟨r, hr⟩ : ∃ r, r = (⟨ng, bl s, e⟩ : Dc).okB := ⟨_, rfl⟩
  rw [← hr]
  have hb0 : Below w.heap.size w (w.alloc (.cells #[.bool ng, .string s, .int .i64 e] 25)) := (Below.refl _ _).alloc (Nat.le_refl _) _
  have q0 := new_blk w (.cells #[.bool ng, .string s, .int .i64 e] 25)
  have HB0 : Hid _ := hb0
  have HQ0 : Hid _ := q0
  have c0 := cell_of_row _ _ 0 _ _ _ q0
  have c1 := cell_of_row _ _ 1 _ _ _ q0
  have c2 := cell_of_row _ _ 2 _ _ _ q0
  clear hb0 q0
  by_cases h0 : s.size = 0
  · have hl : bl s = [] := List.eq_nil_of_length_eq_zero (by rw [bl_len]; exact h0)
    rw [hl, okB_nil] at hr
    have he : s = ⟨#[]⟩ := bl_inj hl
    subst he
    have HR : Hid _ := hr
    clear hr hl h0 hs
    cases ng
    · by_cases he : e = 0
      · subst he
        go_enter Tryz.func25, Tryz.ntmps25
        go_wp2
        go_ret
        exact ⟨by rw [HR.out]; rfl, HB0.out⟩
      · have HE : Hid (¬ e = 0) := he
        go_enter Tryz.func25, Tryz.ntmps25
        go_wp2
        go_ret
        exact ⟨by rw [HR.out, decide_eq_false HE.out]; rfl, HB0.out⟩
    · go_enter Tryz.func25, Tryz.ntmps25
      go_wp2
      go_ret
      exact ⟨by rw [HR.out]; rfl, HB0.out⟩
  · have hl : bl s ≠ [] := fun e => h0 (by rw [← bl_len, e]; rfl)
    have hp : 0 < s.size := by omega
    have he : s.toList.isEmpty = false := by
      obtain ⟨x, y, hxy⟩ : ∃ x y, bl s = x :: y := by
        cases g : bl s with
        | nil => exact absurd g hl
        | cons x y => exact ⟨x, y, rfl⟩
      have : s = ⟨(x :: y).toArray⟩ := bl_inj hxy
      rw [this, ByteArray.toList_mk]; rfl
    rw [okB_cons _ _ _ hl, bl_len] at hr
    have HNB : Hid (∀ W, Calls Tryz.prog 56 #[.string s] W fun e' w' => e' = .returned (.bool ((bl s).all isDig)) ∧ Below W.heap.size W w') := fun W => number_any s W hs
    have hh : (bl s).headD 0 = s[0]'hp := by
      rw [bl_get s 0 hp]; exact head_get _ _
    have hla : (bl s).getLastD 0 = s[s.size - 1]'(by omega) := by
      rw [bl_get s _ (by omega), List.getLastD_eq_getLast?, List.getLast?_eq_getElem?]
      have : (bl s).length - 1 < (bl s).length := by rw [bl_len]; omega
      rw [List.getElem?_eq_getElem this]; rfl
    rw [hh, hla] at hr
    have hw : IntKind.i64.wrap ((s.size : Int) - 1) = ((s.size - 1 : Nat) : Int) := by rw [IntWalk.i64_in _ (by omega)]; omega
    have hq1 : s.size - 1 < s.size := by omega
    obtain ⟨q0, hq0⟩ : ∃ q, q = (s[0]'hp == 48) := ⟨_, rfl⟩
    obtain ⟨q1, hq1e⟩ : ∃ q, q = (s[s.size - 1]'hq1 == 48) := ⟨_, rfl⟩
    obtain ⟨al, hal⟩ : ∃ q, q = (bl s).all isDig := ⟨_, rfl⟩
    rw [← hq0, ← hq1e, ← hal] at hr
    rw [← hal] at HNB
    have hi0 : ((((s[0]'hp).toNat : Nat) : Int) != 48) = !q0 := by
      rw [hq0]; exact byte_ne _
    have hi1 : ((((s[s.size - 1]'hq1).toNat : Nat) : Int) != 48) = !q1 := by
      rw [hq1e]; exact byte_ne _
    have HR : Hid _ := hr
    clear hr hh hla hl hq0 hq1e hal h0
    by_cases k1 : s.size ≤ 8192
    case neg =>
      have k1' : ¬ (s.size : Int) ≤ 8192 := by omega
      have K1 : Hid (¬ s.size ≤ 8192) := k1
      clear k1
      go_enter Tryz.func25, Tryz.ntmps25
      go_wp2
      go_ret
      exact ⟨by rw [HR.out, decide_eq_false K1.out]; simp, HB0.out⟩
    case pos =>
      have k1' : (s.size : Int) ≤ 8192 := by omega
      have K1 : Hid (s.size ≤ 8192) := k1
      clear k1
      cases al
      case false =>
        go_enter Tryz.func25, Tryz.ntmps25
        go_wp2_with (go_at_call 56; refine (HNB.out _).mono ?_; rintro e' w' ⟨rfl, hb'⟩; have hr' := hb'.blk HQ0.out (by simp); have d1 : w'.cell? ⟨w.heap.size, 1, none⟩ = some (.string s) := cell_of_row _ _ 1 _ _ _ hr'; have d2 : w'.cell? ⟨w.heap.size, 2, none⟩ = some (.int .i64 e) := cell_of_row _ _ 2 _ _ _ hr'; have HB' : Hid (Below w.heap.size w w') := HB0.out.thru hb'; clear hb' hr')
        go_ret
        exact ⟨by rw [HR.out]; simp, HB'.out⟩
      case true =>
        cases q0
        case true =>
          go_enter Tryz.func25, Tryz.ntmps25
          go_wp2_with (go_at_call 56; refine (HNB.out _).mono ?_; rintro e' w' ⟨rfl, hb'⟩; have hr' := hb'.blk HQ0.out (by simp); have d1 : w'.cell? ⟨w.heap.size, 1, none⟩ = some (.string s) := cell_of_row _ _ 1 _ _ _ hr'; have d2 : w'.cell? ⟨w.heap.size, 2, none⟩ = some (.int .i64 e) := cell_of_row _ _ 2 _ _ _ hr'; have HB' : Hid (Below w.heap.size w w') := HB0.out.thru hb'; clear hb' hr')
          go_ret
          exact ⟨by rw [HR.out]; simp, HB'.out⟩
        case false =>
          cases q1
          case true =>
            go_enter Tryz.func25, Tryz.ntmps25
            go_wp2_with (go_at_call 56; refine (HNB.out _).mono ?_; rintro e' w' ⟨rfl, hb'⟩; have hr' := hb'.blk HQ0.out (by simp); have d1 : w'.cell? ⟨w.heap.size, 1, none⟩ = some (.string s) := cell_of_row _ _ 1 _ _ _ hr'; have d2 : w'.cell? ⟨w.heap.size, 2, none⟩ = some (.int .i64 e) := cell_of_row _ _ 2 _ _ _ hr'; have HB' : Hid (Below w.heap.size w w') := HB0.out.thru hb'; clear hb' hr')
            go_ret
            exact ⟨by rw [HR.out]; simp, HB'.out⟩
          case false =>
            by_cases k2 : -20000 ≤ e
            case neg =>
              have K2 : Hid (decide (-20000 ≤ e) = false) := decide_eq_false k2
              go_enter Tryz.func25, Tryz.ntmps25
              go_wp2_with (go_at_call 56; refine (HNB.out _).mono ?_; rintro e' w' ⟨rfl, hb'⟩; have hr' := hb'.blk HQ0.out (by simp); have d1 : w'.cell? ⟨w.heap.size, 1, none⟩ = some (.string s) := cell_of_row _ _ 1 _ _ _ hr'; have d2 : w'.cell? ⟨w.heap.size, 2, none⟩ = some (.int .i64 e) := cell_of_row _ _ 2 _ _ _ hr'; have HB' : Hid (Below w.heap.size w w') := HB0.out.thru hb'; clear hb' hr')
              go_ret
              exact ⟨by rw [HR.out, K2.out]; simp, HB'.out⟩
            case pos =>
              have K2 : Hid (decide (-20000 ≤ e) = true) := decide_eq_true k2
              by_cases k3 : e ≤ 20000
              case neg =>
                have K3 : Hid (decide (e ≤ 20000) = false) := decide_eq_false k3
                go_enter Tryz.func25, Tryz.ntmps25
                go_wp2_with (go_at_call 56; refine (HNB.out _).mono ?_; rintro e' w' ⟨rfl, hb'⟩; have hr' := hb'.blk HQ0.out (by simp); have d1 : w'.cell? ⟨w.heap.size, 1, none⟩ = some (.string s) := cell_of_row _ _ 1 _ _ _ hr'; have d2 : w'.cell? ⟨w.heap.size, 2, none⟩ = some (.int .i64 e) := cell_of_row _ _ 2 _ _ _ hr'; have HB' : Hid (Below w.heap.size w w') := HB0.out.thru hb'; clear hb' hr')
                go_ret
                exact ⟨by rw [HR.out, K3.out]; simp, HB'.out⟩
              case pos =>
                have K3 : Hid (decide (e ≤ 20000) = true) := decide_eq_true k3
                go_enter Tryz.func25, Tryz.ntmps25
                go_wp2_with (go_at_call 56; refine (HNB.out _).mono ?_; rintro e' w' ⟨rfl, hb'⟩; have hr' := hb'.blk HQ0.out (by simp); have d1 : w'.cell? ⟨w.heap.size, 1, none⟩ = some (.string s) := cell_of_row _ _ 1 _ _ _ hr'; have d2 : w'.cell? ⟨w.heap.size, 2, none⟩ = some (.int .i64 e) := cell_of_row _ _ 2 _ _ _ hr'; have HB' : Hid (Below w.heap.size w w') := HB0.out.thru hb'; clear hb' hr')
                go_ret
                exact ⟨by rw [HR.out, decide_eq_true K1.out, K2.out, K3.out]; simp, HB'.out⟩
end Go.Proofs.YtpfnfhikhlceoaaGreatDoor

/- Walks: dec's Neg, Int. -/
namespace Go.Proofs.YtpfnfhikhlceoaaGreatDoor
open Go.RowKit

theorem valid_v (d : Dc) (w : World) (hs : d.s.length ≤ 9223372036854775807) : Calls Tryz.prog 25 #[dcV d] w fun en w' => en = .returned (.bool d.okB) ∧ Below w.heap.size w w' :=
  valid_any d.neg (bs d.s) d.e w hs
theorem dcV_none : dcV Dc.none = .agg #[.bool false, .string ⟨#[]⟩, .int .i64 0] := rfl

set_option maxRecDepth 100000 in
theorem neg_bad (d : Dc) (w : World) (hs : d.s.length ≤ 9223372036854775807) (hb : d.okB = false) : Calls Tryz.prog 27 #[dcV d] w (DcQ Dc.none 1 w) := by
  obtain ⟨ng, l, e⟩ := d
  obtain ⟨s, hse⟩ : ∃ s, s = bs l := ⟨_, rfl⟩
  show Calls Tryz.prog 27 #[.agg #[.bool ng, .string (bs l), .int .i64 e]] w _
  have HV : Hid (∀ W, Calls Tryz.prog 25 #[.agg #[.bool ng, .string s, .int .i64 e]] W fun en w' => en = .returned (.bool false) ∧ Below W.heap.size W w') := fun W => by
    rw [← hb, hse]; exact valid_v ⟨ng, l, e⟩ W hs
  rw [← hse]
  have HB0 : Hid (Below w.heap.size w ((w.alloc (.cells #[.bool ng, .string s, .int .i64 e] 25)).alloc (.cells #[.bool false, .string ⟨#[]⟩, .int .i64 0] 25))) := ((Below.refl _ _).alloc (Nat.le_refl _) _).alloc (by simp) _
  have HQ1 : Hid _ := heap_alloc2_new w (.cells #[.bool ng, .string s, .int .i64 e] 25) (.cells #[.bool false, .string ⟨#[]⟩, .int .i64 0] 25)
  clear hs hb hse
  go_enter Tryz.func27, Tryz.ntmps27
  go_wp2_with fail
  refine (HV.out _).mono ?_
  rintro e' w1 ⟨rfl, hb⟩
  have r1 := hb.blk HQ1.out (blk_lt HQ1.out)
  obtain ⟨f0, c0, f1, c1, f2, c2, r3⟩ := rw3 r1
  have HR : Hid _ := r3
  have HBB : Hid (Below w.heap.size w w1) := HB0.out.thru hb
  clear r1 r3 hb
  go_wp2
  exact dc_end rfl rfl rfl (HR.out _ _ _) rfl rfl (below_row3 HBB.out (Nat.le_add_right _ 1) _ _ _)

set_option maxRecDepth 100000 in
theorem neg_ok (d : Dc) (w : World) (hok : d.ok) : Calls Tryz.prog 27 #[dcV d] w (DcQ (negD d) 0 w) := by
  have HVV : Hid (∀ W, Calls Tryz.prog 25 #[dcV d] W fun en w' => en = .returned (.bool true) ∧ Below W.heap.size W w') := fun W => by
    rw [← okB_ok hok]; exact valid_v d W (by have := ok_len hok; omega)
  by_cases h0 : d.s = []
  · have := ok_nil hok h0
    subst this
    have HV : Hid (∀ W, Calls Tryz.prog 25 #[.agg #[.bool false, .string ⟨#[]⟩, .int .i64 0]] W fun en w' => en = .returned (.bool true) ∧ Below W.heap.size W w') := HVV.out
    show Calls Tryz.prog 27 #[.agg #[.bool false, .string ⟨#[]⟩, .int .i64 0]] w (DcQ Dc.none 0 w)
    clear hok h0 HVV
    have HB0 : Hid (Below w.heap.size w ((w.alloc (.cells #[.bool false, .string ⟨#[]⟩, .int .i64 0] 25)).alloc (.cells #[.bool false, .string ⟨#[]⟩, .int .i64 0] 25))) := ((Below.refl _ _).alloc (Nat.le_refl _) _).alloc (by simp) _
    have HQ0 : Hid _ := heap_alloc2_old w (.cells #[.bool false, .string ⟨#[]⟩, .int .i64 0] 25) (.cells #[.bool false, .string ⟨#[]⟩, .int .i64 0] 25)
    have HQ1 : Hid _ := heap_alloc2_new w (.cells #[.bool false, .string ⟨#[]⟩, .int .i64 0] 25) (.cells #[.bool false, .string ⟨#[]⟩, .int .i64 0] 25)
    go_enter Tryz.func27, Tryz.ntmps27
    go_wp2_with fail
    refine (HV.out _).mono ?_
    rintro e' w1 ⟨rfl, hb⟩
    have r0 := hb.blk HQ0.out (blk_lt HQ0.out)
    have r1 := hb.blk HQ1.out (blk_lt HQ1.out)
    obtain ⟨g0, d0, g1, d1, g2, d2, -⟩ := rw3 r0
    obtain ⟨f0, c0, f1, c1, f2, c2, r3⟩ := rw3 r1
    have k1 := cell_of_row _ _ 1 _ _ _ r0
    have k2 := cell_of_row _ _ 2 _ _ _ r0
    have HR : Hid _ := r3
    have HBB : Hid (Below w.heap.size w w1) := HB0.out.thru hb
    clear r1 r3 hb
    go_wp2
    exact dc_end rfl rfl rfl (HR.out _ _ _) rfl rfl (below_row3 HBB.out (Nat.le_add_right _ 1) _ _ _)
  · obtain ⟨ng, l, e⟩ := d
    obtain ⟨s, hse⟩ : ∃ s, s = bs l := ⟨_, rfl⟩
    have hne : negD ⟨ng, l, e⟩ = ⟨!ng, l, e⟩ := by unfold negD; rw [if_neg h0]
    rw [hne]
    have hl : l ≠ [] := h0
    obtain ⟨x, y, hxy⟩ : ∃ x y, l = x :: y := by
      cases g : l with
      | nil => exact absurd g hl
      | cons x y => exact ⟨x, y, rfl⟩
    have he : s.toList.isEmpty = false := by rw [hse, hxy]; show (ByteArray.mk _).toList.isEmpty = false; rw [ByteArray.toList_mk]; rfl
    have HV : Hid (∀ W, Calls Tryz.prog 25 #[.agg #[.bool ng, .string s, .int .i64 e]] W fun en w' => en = .returned (.bool true) ∧ Below W.heap.size W w') := by rw [hse]; exact HVV.out
    show Calls Tryz.prog 27 #[.agg #[.bool ng, .string (bs l), .int .i64 e]] w _
    rw [← hse]
    obtain ⟨k, hk⟩ : ∃ k, (!ng) = k := ⟨_, rfl⟩
    rw [hk]
    have HS : Hid (s = bs l) := hse
    clear hok h0 HVV hxy hl hse hne
    have HB0 : Hid (Below w.heap.size w ((w.alloc (.cells #[.bool ng, .string s, .int .i64 e] 25)).alloc (.cells #[.bool false, .string ⟨#[]⟩, .int .i64 0] 25))) := ((Below.refl _ _).alloc (Nat.le_refl _) _).alloc (by simp) _
    have HQ0 : Hid _ := heap_alloc2_old w (.cells #[.bool ng, .string s, .int .i64 e] 25) (.cells #[.bool false, .string ⟨#[]⟩, .int .i64 0] 25)
    have HQ1 : Hid _ := heap_alloc2_new w (.cells #[.bool ng, .string s, .int .i64 e] 25) (.cells #[.bool false, .string ⟨#[]⟩, .int .i64 0] 25)
    go_enter Tryz.func27, Tryz.ntmps27
    go_wp2_with fail
    refine (HV.out _).mono ?_
    rintro e' w1 ⟨rfl, hb⟩
    have r0 := hb.blk HQ0.out (blk_lt HQ0.out)
    have r1 := hb.blk HQ1.out (blk_lt HQ1.out)
    obtain ⟨g0, d0, g1, d1, g2, d2, -⟩ := rw3 r0
    have k1 := cell_of_row _ _ 1 _ _ _ r0
    have k2 := cell_of_row _ _ 2 _ _ _ r0
    have s0 := heap_setCell_same w1 w.heap.size 0 _ _ (.bool k) r0
    have s1 : (w1.setCell ⟨w.heap.size, 0, none⟩ (.bool k)).heap[w.heap.size + 1]? = some (.cells #[.bool false, .string ⟨#[]⟩, .int .i64 0] 25 (0, 0)) := (heap_setCell_other w1 _ _ _ (show w.heap.size + 1 ≠ w.heap.size by omega)).trans r1
    have m0 := cell_of_row _ _ 0 _ _ _ s0
    have m1 := cell_of_row _ _ 1 _ _ _ s0
    have m2 := cell_of_row _ _ 2 _ _ _ s0
    obtain ⟨f0, c0, f1, c1, f2, c2, r3⟩ := rw3 s1
    have HR : Hid _ := r3
    have HBB : Hid (Below w.heap.size w w1) := HB0.out.thru hb
    clear r0 r1 r3 hb s0 s1
    go_wp2
    exact dc_end rfl rfl rfl (HR.out _ _ _) (by rw [HS.out]; rfl) rfl (below_row3 (HBB.out.setCell (Nat.le_refl _) _) (Nat.le_add_right _ 1) _ _ _)

theorem dec_one {fn : Func} {p : Tmp} (h : fn.results = #[.cell p 25]) (tmps : Array Value) (w : World) (g : Nat) (a b c : Value)
    (hp : tmps.getD p undef = .pointer (some ⟨g, 0, none⟩)) (hg : w.heap[g]? = some (.cells #[a, b, c] 25 (0, 0))) : (results fn tmps).run Tryz.prog w = .ok (.agg #[a, b, c]) w :=
  results_cell_row h tmps w g _ _ _ _ hp hg Tryz.underlying25 rfl (by kernel_rfl)
set_option maxRecDepth 100000 in
theorem int_v (n : Int) (w : World) (h0 : -9223372036854775808 ≤ n) (h1 : n ≤ 9223372036854775807) (htab : Tab w) :
    Calls Tryz.prog 29 #[.int .i64 n] w fun e w' => e = .returned (dcV (mkD n 0)) ∧ Below w.heap.size w w' := by
  have HO : Hid (∀ W, Calls Tryz.prog 59 #[.int .i64 n] W (WideR n W)) := fun W => iof_v n W h0 h1
  have HW : Hid (∀ W v, Below w.heap.size w W → WideI W v n → Calls Tryz.prog 58 #[v, .int .i64 0] W (DcQ (mkD n 0) (mkX n 0) W)) := fun W v hW hv => whole_any v n 0 W hv (bb := 64) (by omega) (by decide) (htab.below hW)
  have HB0 : Hid (Below w.heap.size w (w.alloc (.cells #[.bool false, .string ⟨#[]⟩, .int .i64 0] 25))) := (Below.refl _ _).alloc (Nat.le_refl _) _
  have HQ : Hid _ := new_blk w (.cells #[.bool false, .string ⟨#[]⟩, .int .i64 0] 25)
  obtain ⟨D, hD⟩ : ∃ D, D = mkD n 0 := ⟨_, rfl⟩
  rw [← hD] at HW ⊢
  generalize mkX n 0 = X at *
  clear h0 h1 htab hD
  go_enter Tryz.func29, Tryz.ntmps29
  go_wp2_with fail
  refine (HO.out _).mono ?_
  rintro e w1 hq
  obtain ⟨v, rfl, hi, hb⟩ := hq
  have HB1 : Hid (Below w.heap.size w w1) := HB0.out.thru hb
  have HQ1 : Hid _ := hb.blk HQ.out (blk_lt HQ.out)
  have HI : Hid (WideI w1 v n) := hi
  clear hb hi
  go_wp2_with fail
  refine (HW.out _ v HB1.out HI.out).mono ?_
  rintro e w2 ⟨rfl, hb⟩
  have HB2 : Hid (Below w.heap.size w w2) := HB1.out.thru hb
  have HQ2 : Hid _ := hb.blk HQ1.out (blk_lt HQ1.out)
  have a1 := ((Below.refl w2.heap.size w2).alloc (Nat.le_refl _) (.cells #[.bool D.neg, .string (bs D.s), .int .i64 D.e] 25)).blk HQ2.out (blk_lt HQ2.out)
  obtain ⟨f0, c0, f1, c1, f2, c2, r3⟩ := rw3 a1
  have HR : Hid _ := r3
  clear hb a1 r3
  simp only [dcV]
  go_wp2
  exact bodyPost_ret (dec_one rfl _ _ w.heap.size _ _ _ rfl (HR.out _ _ _)) rfl ⟨rfl, below_row3 (HB2.out.alloc HB2.out.size _) (Nat.le_refl _) _ _ _⟩
end Go.Proofs.YtpfnfhikhlceoaaGreatDoor
