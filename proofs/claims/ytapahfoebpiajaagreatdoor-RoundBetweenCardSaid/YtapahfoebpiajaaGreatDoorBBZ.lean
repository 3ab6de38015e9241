/- Parts Bz of the proof, in one text. -/
import Derived.Test.YtapahfoebpiajaaGreatDoorBBY
import Derived.Test.YtapahfoebpiajaaGreatDoorBBS

/- Walks: the law RoundBetween. -/
namespace Go.Proofs.YtapahfoebpiajaaGreatDoor
open Go.RowKit

set_option maxHeartbeats 4000000 in
set_option maxRecDepth 100000 in
theorem roundBetween_core (a : Dc) (w : World) (ha : a.s.length ≤ 9223372036854775807) (htab : Tab w) :
    Calls Tryz.prog 5 #[.agg #[.bool a.neg, .string (bs a.s), .int .i64 a.e]] w fun e w' => e = .returned (.bool true) ∧ Below w.heap.size w w' := by
  have HW : Hid (∀ W, Below w.heap.size w W → Calls Tryz.prog 10 #[] W fun e w' => e = .returned (.bool true) ∧ Below W.heap.size W w') := fun W hW => awake_v W (htab.below hW)
  obtain ⟨R, hR⟩ : ∃ R, R = to64A a 4 := ⟨_, rfl⟩
  obtain ⟨S, hS⟩ : ∃ S, S = to64A a 3 := ⟨_, rfl⟩
  obtain ⟨ok, hok⟩ : ∃ b, b = a.okB := ⟨_, rfl⟩
  have HF : Hid _ := between_cases a
  rw [← hR, ← hS, ← hok] at HF
  have H1 : Hid (∀ W, Below w.heap.size w W → Calls Tryz.prog 11 #[.agg #[.bool a.neg, .string (bs a.s), .int .i64 a.e], .int .i64 4] W (RatioQ R W)) := fun W hW => by rw [hR]; exact to64_v a 4 W (htab.below hW) ha
  have H2 : Hid (∀ W, Below w.heap.size w W → Calls Tryz.prog 11 #[.agg #[.bool a.neg, .string (bs a.s), .int .i64 a.e], .int .i64 3] W (RatioQ S W)) := fun W hW => by rw [hS]; exact to64_v a 3 W (htab.below hW) ha
  have H3 : Hid (∀ W (m : Int) (R : RA), Below w.heap.size w W → to64A a m = R → Calls Tryz.prog 11 #[.agg #[.bool a.neg, .string (bs a.s), .int .i64 a.e], .int .i64 m] W (RatioQ R W)) := fun W m R hW hR => by rw [← hR]; exact to64_v a m W (htab.below hW) ha
  have H4 : Hid (∀ W (m : Int) (R : RA), Below w.heap.size w W → to64A ⟨!a.neg, a.s, a.e⟩ m = R → Calls Tryz.prog 11 #[.agg #[.bool (!a.neg), .string (bs a.s), .int .i64 a.e], .int .i64 m] W (RatioQ R W)) := fun W m R hW hR => by rw [← hR]; exact to64_v ⟨!a.neg, a.s, a.e⟩ m W (htab.below hW) ha
  have H5 : Hid (∀ W, Calls Tryz.prog 21 #[.agg #[.bool a.neg, .string (bs a.s), .int .i64 a.e]] W fun e w' => e = .returned (.bool ok) ∧ Below W.heap.size W w') := fun W => by rw [hok]; exact rvalid3_v a W ha
  have HB0 : Hid (Below w.heap.size w (w.alloc (.cells #[.bool a.neg, .string (bs a.s), .int .i64 a.e] 23))) := (Below.refl _ _).alloc (Nat.le_refl _) _
  have HK0 : Hid (Kept _ (w.alloc (.cells #[.bool a.neg, .string (bs a.s), .int .i64 a.e] 23))) := (Kept.nil w).dec a
  clear htab hR hS ha hok
  go_enter Tryz.func5, Tryz.ntmps5
  go_wp2_with fail
  refine (HW.out _ HB0.out).mono ?_
  rintro e w0 ⟨rfl, hb⟩
  have HK : Hid (Kept _ w0) := HK0.out.below hb
  have HB : Hid (Below w.heap.size w w0) := HB0.out.thru hb
  clear hb HB0 HK0
  obtain ⟨a0, a1, a2⟩ := HK.out.decs (.head _)
  go_wp2_with fail
  refine (H5.out _).mono ?_
  rintro e w1 ⟨rfl, hb⟩
  have HK1 : Hid (Kept _ w1) := HK.out.below hb
  have HB1 : Hid (Below w.heap.size w w1) := HB.out.thru hb
  clear hb HB HK a0 a1 a2
  obtain ⟨a0, a1, a2⟩ := HK1.out.decs (.head _)
  go_wp2_with fail
  refine (H1.out _ HB1.out).mono ?_
  rintro e v1 ⟨rfl, hb⟩
  have HK : Hid (Kept _ (v1.alloc (.cells #[.bool R.ine, .bool R.ov, .bool R.un] 27))) := (HK1.out.below hb).push (.cells #[.bool R.ine, .bool R.ov, .bool R.un] 27 (0, 0))
  have HB : Hid (Below w.heap.size w (v1.alloc (.cells #[.bool R.ine, .bool R.ov, .bool R.un] 27))) := (HB1.out.thru hb).alloc (HB1.out.thru hb).size _
  clear hb HB1 HK1 a0 a1 a2
  obtain ⟨a0, a1, a2⟩ := HK.out.decs (.tail _ (.head _))
  go_wp2_with fail
  refine (H2.out _ HB.out).mono ?_
  rintro e v2 ⟨rfl, hb⟩
  have HK2 : Hid (Kept _ (v2.alloc (.cells #[.bool S.ine, .bool S.ov, .bool S.un] 27))) := (HK.out.below hb).push (.cells #[.bool S.ine, .bool S.ov, .bool S.un] 27 (0, 0))
  have HB2 : Hid (Below w.heap.size w (v2.alloc (.cells #[.bool S.ine, .bool S.ov, .bool S.un] 27))) := (HB.out.thru hb).alloc (HB.out.thru hb).size _
  clear hb HB HK a0 a1 a2
  obtain ⟨p0, p1, p2⟩ := flag_cells (HK2.out _ (.head _))
  obtain ⟨q0, q1, q2⟩ := flag_cells (HK2.out _ (.tail _ (.head _)))
  obtain ⟨a0, a1, a2⟩ := HK2.out.decs (.tail _ (.tail _ (.head _)))
  obtain ⟨V, hV⟩ : ∃ W, W = v2.alloc (.cells #[.bool S.ine, .bool S.ov, .bool S.un] 27) := ⟨_, rfl⟩
  go_upto_region 5 with fail
  rw [← hV] at HK2 HB2 p0 p1 p2 q0 q1 q2 a0 a1 a2 ⊢
  clear hV H1 H2 H5 HW
  have hF := HF.out
  clear HF
  rcases hF with ⟨rfl, rfl, rfl⟩ | ⟨rfl, l, o, u, o', u', hl, hn, rfl, rfl⟩ | ⟨rfl, hem, l, h, o, u, o', u', hbw, rfl, rfl, hall⟩
  · go_wp2
    go_ret
    exact ⟨rfl, HB2.out⟩
  · obtain ⟨o1, o2⟩ := ord_self hl hn
    clear hl hn
    go_wp2
    go_ret
    exact ⟨rfl, HB2.out⟩
  · have HBW : Hid (Betw l h) := hbw
    have HALL : Hid _ := hall
    have o1 := hbw.lt
    have HE : Hid _ := hem
    clear hbw hall hem
    go_upto_region 11 with fail
    clear o1
    have hwl := HBW.out.wl
    go_wp2_with fail
    refine (next_any l _ HBW.out.wl).mono ?_
    rintro e w' ⟨rfl, rfl⟩
    rw [HBW.out.next]
    clear hwl
    go_upto_region 12 with fail
    go_cut [12] (fun zv wx => (∃ z, zv = .bool z) ∧ V = wx)
    case first =>
      obtain ⟨z1, hz1⟩ : ∃ z, (Go.FloatKind.f64.format.order l 0 == some Ordering.lt) = z := ⟨_, rfl⟩
      obtain ⟨z2, hz2⟩ : ∃ z, (Go.FloatKind.f64.format.order l 0 == some Ordering.eq) = z := ⟨_, rfl⟩
      obtain ⟨z3, hz3⟩ : ∃ z, (Go.FloatKind.f64.format.order h 0 == some Ordering.eq) = z := ⟨_, rfl⟩
      obtain ⟨z4, hz4⟩ : ∃ z, (Go.FloatKind.f64.format.order h 0 == some Ordering.gt) = z := ⟨_, rfl⟩
      cases z1 <;> cases z2 <;> cases z3 <;> cases z4
      all_goals
        go_wp2
        go_meet
        exact ⟨⟨_, rfl⟩, rfl⟩
    case rest =>
    obtain ⟨⟨z, rfl⟩, rfl⟩ := hcut
    go_upto_region 13 with fail
    go_cut [109] (fun v wx => v = .bool false ∧ V = wx)
    case first =>
      have o2 := (ord_self HBW.out.wh HBW.out.nh).1
      have hnh := HBW.out.nh
      cases z
      · go_upto_region 13 with fail
        go_wp2_with (go_at_call 23; first | (refine (negative_any l _ HBW.out.wl).mono ?_; rintro e w' ⟨rfl, rfl⟩; rw [HBW.out.neg]) | (refine (negative_any h _ HBW.out.wh).mono ?_; rintro e w' ⟨rfl, rfl⟩))
        all_goals
          go_meet
          exact ⟨rfl, rfl⟩
      · go_wp2
        all_goals
          go_meet
          exact ⟨rfl, rfl⟩
    case rest =>
    obtain ⟨rfl, rfl⟩ := hcut
    have hwl := HBW.out.wl
    obtain ⟨c0, -⟩ := HK2.out.decs (.tail _ (.tail _ (.head _)))
    have HROW : Hid _ := HK2.out _ (.tail _ (.tail _ (.head _)))
    clear hwl c0 p0 p1 p2 q0 q1 q2 a0 a1 a2
    go_wp2_with fail
    go_loopw [13] (fun i wr => ∃ j : Nat, 1 ≤ j ∧ j ≤ 7 ∧ i = .int .i64 (j : Nat) ∧ Below V.heap.size V wr) (fun i _ => 7 - (intOf i).toNat)
    case atStart => exact ⟨1, by decide, by decide, by first | rfl | go_num, Below.refl _ _⟩
    case round =>
      obtain ⟨j, hj1, hj7, rfl, hb⟩ := hrel
      have HBR : Hid (Below V.heap.size V wr) := hb
      have HBW3 : Hid (Below w.heap.size w wr) := HB2.out.thru hb
      have HKR : Hid (Kept _ wr) := HK2.out.below hb
      clear hb
      by_cases hj : j ≤ 6
      · obtain ⟨x, o1, u1, z, hx, hx1, hx2, hx3⟩ := HALL.out (j : Int) ⟨by omega, by omega⟩
        have HC : Hid (∀ W, Below w.heap.size w W → Calls Tryz.prog 11 #[.agg #[.bool a.neg, .string (bs a.s), .int .i64 a.e], .int .i64 (j : Nat)] W (RatioQ ⟨x, true, o1, u1, 0⟩ W)) := fun W hW => H3.out W _ _ hW hx1
        have HX : Hid (x = l ∨ x = h) := hx
        clear hx hx1 hx2 hx3
        obtain ⟨a0, a1, a2⟩ := HKR.out.decs (.tail _ (.tail _ (.head _)))
        go_wp2_with fail
        refine (HC.out _ HBW3.out).mono ?_
        rintro e v3 ⟨rfl, hb⟩
        have HB4 : Hid (Below V.heap.size V (v3.alloc (.cells #[.bool true, .bool o1, .bool u1] 27))) := (HBR.out.thru hb).alloc (HBR.out.thru hb).size _
        have hk4 := ((HKR.out.below hb).push (.cells #[.bool true, .bool o1, .bool u1] 27 (0, 0)))
        obtain ⟨p0, p1, p2⟩ := flag_cells (hk4 _ (.head _))
        clear hb hk4 a0 a1 a2 HC HBR HBW3 HKR
        rcases HX.out with rfl | rfl
        · have hnl := HBW.out.nl
          go_wp2
          go_roundw
          case rel => exact ⟨j + 1, by omega, by omega, by go_num, HB4.out⟩
          case measure => simp [intOf]; omega
        · have hnh := HBW.out.nh
          go_wp2
          all_goals
            go_roundw
            case rel => exact ⟨j + 1, by omega, by omega, by go_num, HB4.out⟩
            case measure => simp [intOf]; omega
      · have hj' : j = 7 := by omega
        subst hj'
        obtain ⟨a0, a1, a2⟩ := HKR.out.decs (.tail _ (.tail _ (.head _)))
        have hem := HE.out
        go_upto_region 21 with fail
        go_wp2
        have HKV : Hid (Kept _ (wr.alloc (.cells #[.bool (!a.neg), .string (bs a.s), .int .i64 a.e] 23))) := HKR.out.dec ⟨!a.neg, a.s, a.e⟩
        have HBV : Hid (Below w.heap.size w (wr.alloc (.cells #[.bool (!a.neg), .string (bs a.s), .int .i64 a.e] 23))) := HBW3.out.alloc HBW3.out.size _
        obtain ⟨V2, hV2⟩ : ∃ W, W = wr.alloc (.cells #[.bool (!a.neg), .string (bs a.s), .int .i64 a.e] 23) := ⟨_, rfl⟩
        rw [← hV2] at HKV HBV ⊢
        clear hV2 hem a0 a1 a2 HBR HBW3 HKR
        go_loopw [18] (fun i wr => ∃ j : Nat, 1 ≤ j ∧ j ≤ 7 ∧ i = .int .i64 (j : Nat) ∧ Below V2.heap.size V2 wr) (fun i _ => 7 - (intOf i).toNat)
        case atStart => exact ⟨1, by decide, by decide, by first | rfl | go_num, Below.refl _ _⟩
        case round =>
          obtain ⟨j, hj1, hj7, rfl, hb⟩ := hrel
          have HBR : Hid (Below V2.heap.size V2 wr) := hb
          have HBW3 : Hid (Below w.heap.size w wr) := HBV.out.thru hb
          have HKR : Hid (Kept _ wr) := HKV.out.below hb
          clear hb
          by_cases hj : j ≤ 6
          · obtain ⟨x, o1, u1, z, hx, hx1, hx2, hx3⟩ := HALL.out (j : Int) ⟨by omega, by omega⟩
            have HC : Hid (∀ W, Below w.heap.size w W → Calls Tryz.prog 11 #[.agg #[.bool a.neg, .string (bs a.s), .int .i64 a.e], .int .i64 (j : Nat)] W (RatioQ ⟨x, true, o1, u1, 0⟩ W)) := fun W hW => H3.out W _ _ hW hx1
            have HNZ : Hid (Go.Op.negFloat .f64 z = x) := hx2
            have HI : Hid (∀ W, Calls Tryz.prog 15 #[.float .f64 x, .int .u64 (x : Nat)] W fun e w' => e = .returned (.bool true) ∧ Below W.heap.size W w') := fun W => is_self x W
            clear hx hx1 hx2
            have hc : j = 3 ∨ j = 4 ∨ (j ≠ 3 ∧ j ≠ 4) := by omega
            rcases hc with rfl | rfl | ⟨h3, h4⟩
            · have hx3 : to64A ⟨!a.neg, a.s, a.e⟩ 4 = ⟨z, true, o1, u1, 0⟩ := hx3
              have HC2 : Hid (∀ W, Below w.heap.size w W → Calls Tryz.prog 11 #[.agg #[.bool (!a.neg), .string (bs a.s), .int .i64 a.e], .int .i64 4] W (RatioQ ⟨z, true, o1, u1, 0⟩ W)) := fun W hW => H4.out W _ _ hW hx3
              clear hx3
              obtain ⟨a0, a1, a2⟩ := HKR.out.decs (.tail _ (.tail _ (.tail _ (.head _))))
              go_wp2_with fail
              refine (HC.out _ HBW3.out).mono ?_
              rintro e v3 ⟨rfl, hb⟩
              have HB4 : Hid (Below V2.heap.size V2 (v3.alloc (.cells #[.bool true, .bool o1, .bool u1] 27))) := (HBR.out.thru hb).alloc (HBR.out.thru hb).size _
              have HW4 : Hid (Below w.heap.size w (v3.alloc (.cells #[.bool true, .bool o1, .bool u1] 27))) := (HBW3.out.thru hb).alloc (HBW3.out.thru hb).size _
              have HK4 : Hid (Kept _ (v3.alloc (.cells #[.bool true, .bool o1, .bool u1] 27))) := ((HKR.out.below hb).push (.cells #[.bool true, .bool o1, .bool u1] 27 (0, 0)))
              clear hb a0 a1 a2 HC HBR HBW3 HKR
              obtain ⟨a0, a1, a2⟩ := HK4.out.decs (d := ⟨!a.neg, a.s, a.e⟩) (.tail _ (.head _))
              go_wp2_with fail
              refine (HC2.out _ HW4.out).mono ?_
              rintro e v5 ⟨rfl, hb⟩
              have HB6 : Hid (Below V2.heap.size V2 (v5.alloc (.cells #[.bool true, .bool o1, .bool u1] 27))) := (HB4.out.thru hb).alloc (HB4.out.thru hb).size _
              have hk6 := ((HK4.out.below hb).push (.cells #[.bool true, .bool o1, .bool u1] 27 (0, 0)))
              obtain ⟨p0, p1, p2⟩ := flag_cells (hk6 _ (.head _))
              obtain ⟨q0, q1, q2⟩ := flag_cells (hk6 _ (.tail _ (.head _)))
              have hnz := HNZ.out
              clear hb hk6 a0 a1 a2 HC2 HB4 HW4 HK4
              go_wp2_with fail
              refine (HI.out _).mono ?_
              rintro e v7 ⟨rfl, hb⟩
              have HB7 : Hid (Below V2.heap.size V2 v7) := HB6.out.thru hb
              clear hb p0 p1 p2 q0 q1 q2 hnz HB6
              go_wp2
              go_roundw
              case rel =>
                repeat apply Exists.intro
                exact ⟨⟨4, by omega, by omega, by go_num, HB7.out⟩, rfl⟩
              case measure => simp [intOf] <;> omega
            · have hx3 : to64A ⟨!a.neg, a.s, a.e⟩ 3 = ⟨z, true, o1, u1, 0⟩ := hx3
              have HC2 : Hid (∀ W, Below w.heap.size w W → Calls Tryz.prog 11 #[.agg #[.bool (!a.neg), .string (bs a.s), .int .i64 a.e], .int .i64 3] W (RatioQ ⟨z, true, o1, u1, 0⟩ W)) := fun W hW => H4.out W _ _ hW hx3
              clear hx3
              obtain ⟨a0, a1, a2⟩ := HKR.out.decs (.tail _ (.tail _ (.tail _ (.head _))))
              go_wp2_with fail
              refine (HC.out _ HBW3.out).mono ?_
              rintro e v3 ⟨rfl, hb⟩
              have HB4 : Hid (Below V2.heap.size V2 (v3.alloc (.cells #[.bool true, .bool o1, .bool u1] 27))) := (HBR.out.thru hb).alloc (HBR.out.thru hb).size _
              have HW4 : Hid (Below w.heap.size w (v3.alloc (.cells #[.bool true, .bool o1, .bool u1] 27))) := (HBW3.out.thru hb).alloc (HBW3.out.thru hb).size _
              have HK4 : Hid (Kept _ (v3.alloc (.cells #[.bool true, .bool o1, .bool u1] 27))) := ((HKR.out.below hb).push (.cells #[.bool true, .bool o1, .bool u1] 27 (0, 0)))
              clear hb a0 a1 a2 HC HBR HBW3 HKR
              obtain ⟨a0, a1, a2⟩ := HK4.out.decs (d := ⟨!a.neg, a.s, a.e⟩) (.tail _ (.head _))
              go_wp2_with fail
              refine (HC2.out _ HW4.out).mono ?_
              rintro e v5 ⟨rfl, hb⟩
              have HB6 : Hid (Below V2.heap.size V2 (v5.alloc (.cells #[.bool true, .bool o1, .bool u1] 27))) := (HB4.out.thru hb).alloc (HB4.out.thru hb).size _
              have hk6 := ((HK4.out.below hb).push (.cells #[.bool true, .bool o1, .bool u1] 27 (0, 0)))
              obtain ⟨p0, p1, p2⟩ := flag_cells (hk6 _ (.head _))
              obtain ⟨q0, q1, q2⟩ := flag_cells (hk6 _ (.tail _ (.head _)))
              have hnz := HNZ.out
              clear hb hk6 a0 a1 a2 HC2 HB4 HW4 HK4
              go_wp2_with fail
              refine (HI.out _).mono ?_
              rintro e v7 ⟨rfl, hb⟩
              have HB7 : Hid (Below V2.heap.size V2 v7) := HB6.out.thru hb
              clear hb p0 p1 p2 q0 q1 q2 hnz HB6
              go_wp2
              go_roundw
              case rel =>
                repeat apply Exists.intro
                exact ⟨⟨5, by omega, by omega, by go_num, HB7.out⟩, rfl⟩
              case measure => simp [intOf] <;> omega
            · have hop : oppM (j : Int) = (j : Int) := by unfold oppM; rw [if_neg (by omega), if_neg (by omega)]
              rw [hop] at hx3
              clear hop
              have hi3 : ¬ (j : Int) = 3 := by omega
              have hi4 : ¬ (j : Int) = 4 := by omega
              have HC2 : Hid (∀ W, Below w.heap.size w W → Calls Tryz.prog 11 #[.agg #[.bool (!a.neg), .string (bs a.s), .int .i64 a.e], .int .i64 (j : Nat)] W (RatioQ ⟨z, true, o1, u1, 0⟩ W)) := fun W hW => H4.out W _ _ hW hx3
              clear hx3
              obtain ⟨a0, a1, a2⟩ := HKR.out.decs (.tail _ (.tail _ (.tail _ (.head _))))
              go_wp2_with fail
              refine (HC.out _ HBW3.out).mono ?_
              rintro e v3 ⟨rfl, hb⟩
              have HB4 : Hid (Below V2.heap.size V2 (v3.alloc (.cells #[.bool true, .bool o1, .bool u1] 27))) := (HBR.out.thru hb).alloc (HBR.out.thru hb).size _
              have HW4 : Hid (Below w.heap.size w (v3.alloc (.cells #[.bool true, .bool o1, .bool u1] 27))) := (HBW3.out.thru hb).alloc (HBW3.out.thru hb).size _
              have HK4 : Hid (Kept _ (v3.alloc (.cells #[.bool true, .bool o1, .bool u1] 27))) := ((HKR.out.below hb).push (.cells #[.bool true, .bool o1, .bool u1] 27 (0, 0)))
              clear hb a0 a1 a2 HC HBR HBW3 HKR
              obtain ⟨a0, a1, a2⟩ := HK4.out.decs (d := ⟨!a.neg, a.s, a.e⟩) (.tail _ (.head _))
              go_wp2_with fail
              refine (HC2.out _ HW4.out).mono ?_
              rintro e v5 ⟨rfl, hb⟩
              have HB6 : Hid (Below V2.heap.size V2 (v5.alloc (.cells #[.bool true, .bool o1, .bool u1] 27))) := (HB4.out.thru hb).alloc (HB4.out.thru hb).size _
              have hk6 := ((HK4.out.below hb).push (.cells #[.bool true, .bool o1, .bool u1] 27 (0, 0)))
              obtain ⟨p0, p1, p2⟩ := flag_cells (hk6 _ (.head _))
              obtain ⟨q0, q1, q2⟩ := flag_cells (hk6 _ (.tail _ (.head _)))
              have hnz := HNZ.out
              clear hb hk6 a0 a1 a2 HC2 HB4 HW4 HK4
              go_wp2_with fail
              refine (HI.out _).mono ?_
              rintro e v7 ⟨rfl, hb⟩
              have HB7 : Hid (Below V2.heap.size V2 v7) := HB6.out.thru hb
              clear hb p0 p1 p2 q0 q1 q2 hnz HB6
              go_wp2
              go_roundw
              case rel =>
                repeat apply Exists.intro
                exact ⟨⟨j + 1, by omega, by omega, by go_num, HB7.out⟩, rfl⟩
              case measure => simp [intOf] <;> omega
          · have hj' : j = 7 := by omega
            subst hj'
            go_wp2
            go_ret
            exact ⟨rfl, HBW3.out⟩
theorem roundBetween_walk (ga : Bool) (sa : ByteArray) (xa : Int) (w : World) (za : sa.size ≤ 9223372036854775807) (_ : -9223372036854775808 ≤ xa) (_ : xa ≤ 9223372036854775807) (htab : Tab w) :
    Calls Tryz.prog 5 #[.agg #[.bool ga, .string sa, .int .i64 xa]] w fun e w' => e = .returned (.bool true) ∧ Below w.heap.size w w' :=
  roundBetween_core ⟨ga, bl sa, xa⟩ w za htab
end Go.Proofs.YtapahfoebpiajaaGreatDoor
