/- Parts Gh of the proof, in one text. -/
import Derived.Test.YtpfnfhikhlceoaaGreatDoorRK

/- Walks: the law DecPoint. -/
namespace Go.Proofs.YtpfnfhikhlceoaaGreatDoor
open Go.RowKit
set_option maxHeartbeats 8000000 in
set_option maxRecDepth 100000 in
theorem decPoint_walk (g0 : Bool) (s0 : ByteArray) (x0 : Int) (p0 q0 : Int) (w : World) (z0 : s0.size ≤ 9223372036854775807) (l0 : -9223372036854775808 ≤ x0) (u0 : x0 ≤ 9223372036854775807) (lp0 : -9223372036854775808 ≤ p0) (up0 : p0 ≤ 9223372036854775807) (lq0 : -9223372036854775808 ≤ q0) (uq0 : q0 ≤ 9223372036854775807) (htab : Tab w) : Calls Tryz.prog 6 #[.agg #[.bool g0, .string s0, .int .i64 x0], .int .i64 p0, .int .i64 q0] w fun e w' => e = .returned (.bool true) ∧ Below w.heap.size w w' := by
  have T0 : Hid _ := tame_c g0 s0 x0 300 9000 z0 (by decide) l0 u0 (by decide) (by decide)
  have HTAB : Hid (Tab w) := htab
  have HK0 : Hid (Kept _ (w.alloc (.cells #[.bool g0, .string s0, .int .i64 x0] 38))) := (Kept.nil w).push (rowO g0 s0 x0)
  have HB0 : Hid (Below w.heap.size w (w.alloc (.cells #[.bool g0, .string s0, .int .i64 x0] 38))) := (Below.refl _ _).alloc (Nat.le_refl _) _
  obtain ⟨i2, -, PK2⟩ : ∃ p : Nat, p < 2 ∧ Hid (∀ W, Calls Tryz.prog 22 #[.int .i64 q0, .int .i64 2] W fun e w' => e = .returned (.int .i64 (p : Nat)) ∧ w' = W) := pick_nat q0 2 lq0 uq0 (by decide) (by decide)
  obtain ⟨i3, -, PK3⟩ : ∃ p : Nat, p < 3 ∧ Hid (∀ W, Calls Tryz.prog 22 #[.int .i64 q0, .int .i64 3] W fun e w' => e = .returned (.int .i64 (p : Nat)) ∧ w' = W) := pick_nat q0 3 lq0 uq0 (by decide) (by decide)
  obtain ⟨i5, -, PK5⟩ : ∃ p : Nat, p < 5 ∧ Hid (∀ W, Calls Tryz.prog 22 #[.int .i64 q0, .int .i64 5] W fun e w' => e = .returned (.int .i64 (p : Nat)) ∧ w' = W) := pick_nat q0 5 lq0 uq0 (by decide) (by decide)
  have HPN : Hid (∀ n : Nat, n ≤ 8192 → ∃ k : Nat, k ≤ n ∧ Hid (∀ W, Calls Tryz.prog 22 #[.int .i64 p0, .int .i64 ((n : Int) + 1)] W fun e w' => e = .returned (.int .i64 (k : Nat)) ∧ w' = W)) := fun n hn => by
    obtain ⟨p, hp, H⟩ := pick_nat p0 ((n : Int) + 1) lp0 up0 (by omega) (by omega)
    exact ⟨p, by omega, H⟩
  have KN : Hid (∀ W, Below w.heap.size w W → Calls Tryz.prog 14 #[] W fun e w' => e = .returned (.bool true) ∧ Below W.heap.size W w') := fun W hW => known_any W (HTAB.out.below hW)
  clear htab z0 l0 u0 lp0 up0 lq0 uq0
  go_enter Tryz.func6, Tryz.ntmps6
  obtain ⟨a0, a1, a2⟩ := HK0.out.rows (.head _)
  go_wp2_with fail
  refine (T0.out _).mono ?_
  rintro e v1 ⟨da, V0, e0, rfl, ta0, hb⟩
  have HK1 : Hid (Kept _ (v1.alloc (.cells #[.bool da.neg, .string (bs da.s), .int .i64 da.e] 25))) := (HK0.out.below hb).dec da
  have HB1 : Hid (Below w.heap.size w (v1.alloc (.cells #[.bool da.neg, .string (bs da.s), .int .i64 da.e] 25))) := (HB0.out.thru hb).alloc (HB0.out.thru hb).size _
  clear hb HK0 HB0 a0 a1 a2
  have OK : Hid da.ok := ta0.rep.ok
  clear ta0 T0 HTAB
  obtain ⟨a0, a1, a2⟩ := HK1.out.decs (.head _)
  by_cases h0 : da.s = []
  · have hn := ok_nil OK.out h0
    replace a0 := a0.trans (show some (Value.bool da.neg) = some (Value.bool false) by rw [hn]; rfl)
    replace a1 := a1.trans (show some (Value.string (bs da.s)) = some (Value.string ⟨#[]⟩) by rw [hn]; rfl)
    replace a2 := a2.trans (show some (Value.int .i64 da.e) = some (Value.int .i64 0) by rw [hn]; rfl)
    clear hn h0
    go_wp2_with fail
    refine (KN.out _ HB1.out).mono ?_
    rintro e v2 ⟨rfl, hb⟩
    have HBZ : Hid (Below w.heap.size w v2) := HB1.out.thru hb
    clear hb
    go_wp2
    go_ret
    exact ⟨rfl, HBZ.out⟩
  · have HZ : Hid (¬ da.s = []) := h0
    have hs0 : ¬ (bs da.s).toList = [] := fun h => h0 (bs_inj.1 (h.trans (show [] = (ByteArray.mk _).toList by rw [ByteArray.toList_mk])))
    have hlen := ok_len OK.out
    obtain ⟨k, hk, PKL⟩ := HPN.out (bs da.s).size hlen
    have kl : IntKind.i64.wrap (((bs da.s).size : Int) + 1) = ((bs da.s).size : Int) + 1 := IntWalk.i64_in _ (by have : (bs da.s).size = da.s.length := rfl; omega)
    clear h0 HPN
    go_wp2_with fail
    refine (PKL.out _).mono ?_
    rintro e w' ⟨rfl, hw⟩
    subst hw
    clear PKL kl hs0 a0 a1 a2
    go_upto_region 5 with fail
    obtain ⟨w9, hw⟩ : ∃ X, X = v1.alloc (.cells #[.bool da.neg, .string (bs da.s), .int .i64 da.e] 25) := ⟨_, rfl⟩
    rw [← hw] at HK1 HB1 ⊢
    clear hw
    have HA : Hid _ := HK1.out.drow (.head _)
    have hk2 : k ≤ da.s.length := hk
    obtain ⟨t, ht⟩ : ∃ t, t = bs da.s := ⟨_, rfl⟩
    obtain ⟨u1, hu1⟩ : ∃ u, u = bs (da.s.take k) := ⟨_, rfl⟩
    obtain ⟨u2, hu2⟩ : ∃ u, u = bs (da.s.drop k) := ⟨_, rfl⟩
    have hsz1 : u1.size = k := by rw [hu1]; show (da.s.take k).length = _; rw [List.length_take]; omega
    have hsz2 : u2.size ≤ 8192 := by rw [hu2]; show (da.s.drop k).length ≤ _; rw [List.length_drop]; omega
    have htz : t.size = da.s.length := by rw [ht]; rfl
    have FX1 : Hid (t.extract 0 k = u1) := by
      show _ = _
      rw [ht, hu1]; apply bl_inj; rw [bl_extract]; rfl
    have FX2 : Hid (t.extract k da.s.length = u2) := by
      show _ = _
      rw [ht, hu2]; apply bl_inj; rw [bl_extract, List.take_of_length_le (by rw [bl_bs]; exact Nat.le_refl _)]; rfl
    have HTT : Hid (t = bs da.s) := ht
    have HU1 : Hid (u1 = bs (da.s.take k)) := hu1
    have HU2 : Hid (u2 = bs (da.s.drop k)) := hu2
    have hkt : k ≤ t.size := by omega
    rw [← ht] at HA
    clear ht hu1 hu2 hk
    have h1 : once [(27, 0), (28, 1), (29, 2), (30, 3), (31, 4), (32, 5), (33, 6), (34, 7), (35, 8), (36, 9)] = true := by kernel_rfl
    have h2 : within [(27, 0), (28, 1), (29, 2), (30, 3), (31, 4), (32, 5), (33, 6), (34, 7), (35, 8), (36, 9)] 81 = true := by kernel_rfl
    refine wp_region_flow 10 11 [(27, 0), (28, 1), (29, 2), (30, 3), (31, 4), (32, 5), (33, 6), (34, 7), (35, 8), (36, 9)] [] (fun i v W => match i with
      | 0 => v = .pointer (some ⟨v1.heap.size, 1, none⟩)
      | 1 => v = .string t
      | 2 => v = .int .i64 (k : Nat)
      | 3 => v = .string u1
      | 4 => v = .string (u1 ++ ⟨#[46]⟩)
      | 5 => v = .pointer (some ⟨v1.heap.size, 1, none⟩)
      | 6 => v = .string t
      | 7 => v = .int .i64 (k : Nat)
      | 8 => v = .string u2
      | _ => v = .string (u1 ++ ⟨#[46]⟩ ++ u2)) w9.heap.size (Nat.le_refl _) (by kernel_rfl) (by kernel_rfl) (by kernel_rfl) (by decide) (by kernel_rfl) h1 (by kernel_rfl) ?_ ?_ ?_ ?_
    · intro j v W W' h hb
      match j, h with
      | 0, h => exact h
      | 1, h => exact h
      | 2, h => exact h
      | 3, h => exact h
      | 4, h => exact h
      | 5, h => exact h
      | 6, h => exact h
      | 7, h => exact h
      | 8, h => exact h
      | _ + 9, h => exact h
    · exact fun j hj => by cases hj
    · refine ⟨⟨⟨⟨⟨⟨⟨⟨⟨⟨trivial, ?_⟩, ?_⟩, ?_⟩, ?_⟩, ?_⟩, ?_⟩, ?_⟩, ?_⟩, ?_⟩, ?_⟩
      · refine flow_step _ 27 rfl rfl (fun d h => by simpa using h) h1 h2 fun ac xs W he hb hS K hK => ?_
        have e0 : ac.eval (.tmp 7) = .pointer (some ⟨v1.heap.size, 0, none⟩) := he 7
        refine op_any (.fieldAddr 25 (.tmp 7) 1) rfl (.pointer (some ⟨v1.heap.size, 1, none⟩)) (fun o' ho' => ?_) (hK _ _ rfl (Below.refl _ _) (fun h => absurd h (by decide)))
        simp only [execOp, ho', e0]
        go_simp
      · refine flow_step _ 28 rfl rfl (fun d h => by simpa using h) h1 h2 fun ac xs W he hb hS K hK => ?_
        have e0 : ac.eval (.tmp 27) = _ := (he 27).trans (hS 0 (by kernel_rfl))
        refine op_any (.load 9 (.tmp 27)) rfl (.string t) (fun o' ho' => ?_) (hK _ _ rfl (Below.refl _ _) (fun h => absurd h (by decide)))
        simp only [execOp, ho', e0]
        have hc := cell_of_row W _ 1 _ _ _ (hb.blk HA.out (blk_lt HA.out))
        go_simp
      · refine flow_step _ 29 rfl rfl (fun d h => by simpa using h) h1 h2 fun ac xs W he hb hS K hK => ?_
        exact op_move (.tmp 8) (.inl rfl) (hK _ _ (he 8) (Below.refl _ _) (fun h => absurd h (by decide)))
      · refine flow_step _ 30 rfl rfl (fun d h => by simpa using h) h1 h2 fun ac xs W he hb hS K hK => ?_
        have x1 := FX1.out
        have e0 : ac.eval (.tmp 28) = _ := (he 28).trans (hS 1 (by kernel_rfl))
        have e1 : ac.eval (.tmp 29) = _ := (he 29).trans (hS 2 (by kernel_rfl))
        refine op_any (.slice 9 (.tmp 28) none (some (.tmp 29)) none) rfl (.string u1) (fun o' ho' => ?_) (hK _ _ rfl (Below.refl _ _) (fun h => absurd h (by decide)))
        simp only [execOp, ho', e0]
        have f1 : ac.tmps[29]?.getD undef = .int .i64 (k : Nat) := by rw [← Array.getD_eq_getD_getElem?]; exact e1
        clear e1
        go_simp
      · refine flow_step _ 31 rfl rfl (fun d h => by simpa using h) h1 h2 fun ac xs W he hb hS K hK => ?_
        have e0 : ac.eval (.tmp 30) = _ := (he 30).trans (hS 3 (by kernel_rfl))
        refine op_any (.binOp .add 9 (.tmp 30) (.const (.string ⟨#[46]⟩)) 9) rfl (.string (u1 ++ ⟨#[46]⟩)) (fun o' ho' => ?_) (hK _ _ rfl (Below.refl _ _) (fun h => absurd h (by decide)))
        simp only [execOp, ho', e0]
        go_simp
        omega
      · refine flow_step _ 32 rfl rfl (fun d h => by simpa using h) h1 h2 fun ac xs W he hb hS K hK => ?_
        have e0 : ac.eval (.tmp 7) = .pointer (some ⟨v1.heap.size, 0, none⟩) := he 7
        refine op_any (.fieldAddr 25 (.tmp 7) 1) rfl (.pointer (some ⟨v1.heap.size, 1, none⟩)) (fun o' ho' => ?_) (hK _ _ rfl (Below.refl _ _) (fun h => absurd h (by decide)))
        simp only [execOp, ho', e0]
        go_simp
      · refine flow_step _ 33 rfl rfl (fun d h => by simpa using h) h1 h2 fun ac xs W he hb hS K hK => ?_
        have e0 : ac.eval (.tmp 32) = _ := (he 32).trans (hS 5 (by kernel_rfl))
        refine op_any (.load 9 (.tmp 32)) rfl (.string t) (fun o' ho' => ?_) (hK _ _ rfl (Below.refl _ _) (fun h => absurd h (by decide)))
        simp only [execOp, ho', e0]
        have hc := cell_of_row W _ 1 _ _ _ (hb.blk HA.out (blk_lt HA.out))
        go_simp
      · refine flow_step _ 34 rfl rfl (fun d h => by simpa using h) h1 h2 fun ac xs W he hb hS K hK => ?_
        exact op_move (.tmp 8) (.inl rfl) (hK _ _ (he 8) (Below.refl _ _) (fun h => absurd h (by decide)))
      · refine flow_step _ 35 rfl rfl (fun d h => by simpa using h) h1 h2 fun ac xs W he hb hS K hK => ?_
        have x1 := FX2.out
        have e0 : ac.eval (.tmp 33) = _ := (he 33).trans (hS 6 (by kernel_rfl))
        have e1 : ac.eval (.tmp 34) = _ := (he 34).trans (hS 7 (by kernel_rfl))
        refine op_any (.slice 9 (.tmp 33) (some (.tmp 34)) none none) rfl (.string u2) (fun o' ho' => ?_) (hK _ _ rfl (Below.refl _ _) (fun h => absurd h (by decide)))
        simp only [execOp, ho', e0]
        have f1 : ac.tmps[34]?.getD undef = .int .i64 (k : Nat) := by rw [← Array.getD_eq_getD_getElem?]; exact e1
        clear e1
        go_simp
      · refine flow_step _ 36 rfl rfl (fun d h => by simpa using h) h1 h2 fun ac xs W he hb hS K hK => ?_
        have e0 : ac.eval (.tmp 31) = _ := (he 31).trans (hS 4 (by kernel_rfl))
        have e1 : ac.eval (.tmp 35) = _ := (he 35).trans (hS 8 (by kernel_rfl))
        refine op_any (.binOp .add 9 (.tmp 31) (.tmp 35) 9) rfl (.string (u1 ++ ⟨#[46]⟩ ++ u2)) (fun o' ho' => ?_) (hK _ _ rfl (Below.refl _ _) (fun h => absurd h (by decide)))
        simp only [execOp, ho', e0, e1]
        go_simp
        omega
    · intro xs W hb hS hD
      have s9 : xs 9 = _ := hS 9 (by decide)
      generalize xs 0 = x0 at *
      generalize xs 1 = x1 at *
      generalize xs 2 = x2 at *
      generalize xs 3 = x3 at *
      generalize xs 4 = x4 at *
      generalize xs 5 = x5 at *
      generalize xs 6 = x6 at *
      generalize xs 7 = x7 at *
      generalize xs 8 = x8 at *
      have HK2 : Hid (Kept _ W) := HK1.out.below hb
      have HB2 : Hid (Below w.heap.size w W) := HB1.out.thru hb
      simp only [layAll, s9]
      clear hS hD s9 hb HK1 HB1 HA
      obtain ⟨S0, hS0⟩ : ∃ S, S = u1 ++ ByteArray.mk #[46] ++ u2 := ⟨_, rfl⟩
      rw [← hS0]
      have HS0 : Hid (bl S0 = da.s.take k ++ 46 :: da.s.drop k) := by
        show _ = _
        rw [hS0, bl_append, bl_append, HU1.out, HU2.out, bl_bs, bl_bs, List.append_assoc]; rfl
      have hsS : S0.size ≤ 8200 := by
        rw [← bl_len, HS0.out]
        simp only [List.length_append, List.length_cons, List.length_take, List.length_drop]
        omega
      have hx := ok_exp OK.out
      obtain ⟨y, hy⟩ : ∃ y, y = da.e + (da.s.length : Int) := ⟨_, rfl⟩
      obtain ⟨x, hxx⟩ : ∃ x, x = y - (k : Int) := ⟨_, rfl⟩
      obtain ⟨xx, hxb⟩ : ∃ b, b = bs (itoaL x) := ⟨_, rfl⟩
      have kA : IntKind.i64.wrap (da.e + ((bs da.s).size : Int)) = y := by
        have : (bs da.s).size = da.s.length := rfl
        rw [this, ← hy]; exact IntWalk.i64_in _ (by omega)
      have kB : IntKind.i64.wrap (y - (k : Int)) = x := by rw [← hxx]; exact IntWalk.i64_in _ (by omega)
      have hxz : xx.size ≤ 40000 := by
        rw [hxb]
        have := itoa_len2 x
        show (itoaL x).length ≤ _
        omega
      have PLN : Hid (∀ W, Calls Tryz.prog 23 #[.int .i64 x] W fun e w' => e = .returned (.string xx) ∧ Below W.heap.size W w') := fun W => by rw [hxb]; exact plain_v x W (by omega) (by omega)
      have HXX : Hid (bl xx = itoaL (da.e + da.s.length - k)) := by show _ = _; rw [hxb, bl_bs, hxx, hy]
      have HKL : Hid (k ≤ da.s.length) := hk2
      clear hS0 hy hxx hxb hx hsz1 hsz2 htz hkt hk2 hlen FX1 FX2 HTT HU1 HU2
      by_cases c2 : i2 = 1
      · have d2 : ((i2 : Int) == 1) = true := by simp; omega
        clear c2
        by_cases c3 : i3 = 1
        · have d3 : ((i3 : Int) == 1) = true := by simp; omega
          clear c3
          by_cases c5 : i5 = 1
          · have d5 : ((i5 : Int) == 1) = true := by simp; omega
            clear c5
            cases hng : da.neg
            · have HNG : Hid (da.neg = false) := hng
              clear hng
              obtain ⟨a0, a1, a2⟩ := HK2.out.decs (.head _)
              go_wp2_with fail
              refine (PK2.out _).mono ?_
              rintro e w' ⟨rfl, hw⟩
              subst hw
              go_wp2_with fail
              refine (PK3.out _).mono ?_
              rintro e w' ⟨rfl, hw⟩
              subst hw
              go_wp2_with fail
              refine (PLN.out _).mono ?_
              rintro e v3 ⟨rfl, hb⟩
              have HK3 : Hid (Kept _ v3) := HK2.out.below hb
              have HB3 : Hid (Below w.heap.size w v3) := HB2.out.thru hb
              clear hb HK2 HB2 kA kB a0 a1 a2
              obtain ⟨a0, a1, a2⟩ := HK3.out.decs (.head _)
              replace a0 := a0.trans (show some (Value.bool da.neg) = some (Value.bool false) by rw [HNG.out])
              go_wp2_with fail
              refine (PK5.out _).mono ?_
              rintro e w' ⟨rfl, hw⟩
              subst hw
              go_wp2_with fail
              refine (point_call OK.out HZ.out k 2 HKL.out (by decide) [48, 48, 48] [43] 69 (.inr rfl) (by decide) (by decide) (.inr (.inl ⟨rfl, HNG.out⟩)) _ (by simp only [bl_append, HS0.out, HXX.out]; simp [bl, List.replicate]) _).mono ?_
              rintro e v4 ⟨rfl, hb⟩
              have HK4 : Hid (Kept _ (v4.alloc (.cells #[.bool da.neg, .string (bs da.s), .int .i64 da.e] 25))) := (HK3.out.below hb).dec da
              have HB4 : Hid (Below w.heap.size w (v4.alloc (.cells #[.bool da.neg, .string (bs da.s), .int .i64 da.e] 25))) := (HB3.out.thru hb).alloc (HB3.out.thru hb).size _
              clear hb HK3 HB3 a0 a1 a2
              obtain ⟨a0, a1, a2⟩ := HK4.out.decs (.tail _ (.head _))
              obtain ⟨b0, b1, b2⟩ := HK4.out.decs (.head _)
              go_wp2_with fail
              refine (KN.out _ HB4.out).mono ?_
              rintro e v5 ⟨rfl, hb⟩
              have HK5 : Hid (Kept _ v5) := HK4.out.below hb
              have HB5 : Hid (Below w.heap.size w v5) := HB4.out.thru hb
              clear hb HK4 HB4 a0 a1 a2 b0 b1 b2
              go_wp2
              go_ret
              exact ⟨rfl, HB5.out⟩
            · have HNG : Hid (da.neg = true) := hng
              clear hng
              obtain ⟨a0, a1, a2⟩ := HK2.out.decs (.head _)
              go_wp2_with fail
              refine (PK2.out _).mono ?_
              rintro e w' ⟨rfl, hw⟩
              subst hw
              go_wp2_with fail
              refine (PK3.out _).mono ?_
              rintro e w' ⟨rfl, hw⟩
              subst hw
              go_wp2_with fail
              refine (PLN.out _).mono ?_
              rintro e v3 ⟨rfl, hb⟩
              have HK3 : Hid (Kept _ v3) := HK2.out.below hb
              have HB3 : Hid (Below w.heap.size w v3) := HB2.out.thru hb
              clear hb HK2 HB2 kA kB a0 a1 a2
              obtain ⟨a0, a1, a2⟩ := HK3.out.decs (.head _)
              replace a0 := a0.trans (show some (Value.bool da.neg) = some (Value.bool true) by rw [HNG.out])
              go_wp2_with fail
              refine (PK5.out _).mono ?_
              rintro e w' ⟨rfl, hw⟩
              subst hw
              go_wp2_with fail
              refine (point_call OK.out HZ.out k 2 HKL.out (by decide) [48, 48, 48] [45] 69 (.inr rfl) (by decide) (by decide) (.inr (.inr ⟨rfl, HNG.out⟩)) _ (by simp only [bl_append, HS0.out, HXX.out]; simp [bl, List.replicate]) _).mono ?_
              rintro e v4 ⟨rfl, hb⟩
              have HK4 : Hid (Kept _ (v4.alloc (.cells #[.bool da.neg, .string (bs da.s), .int .i64 da.e] 25))) := (HK3.out.below hb).dec da
              have HB4 : Hid (Below w.heap.size w (v4.alloc (.cells #[.bool da.neg, .string (bs da.s), .int .i64 da.e] 25))) := (HB3.out.thru hb).alloc (HB3.out.thru hb).size _
              clear hb HK3 HB3 a0 a1 a2
              obtain ⟨a0, a1, a2⟩ := HK4.out.decs (.tail _ (.head _))
              obtain ⟨b0, b1, b2⟩ := HK4.out.decs (.head _)
              go_wp2_with fail
              refine (KN.out _ HB4.out).mono ?_
              rintro e v5 ⟨rfl, hb⟩
              have HK5 : Hid (Kept _ v5) := HK4.out.below hb
              have HB5 : Hid (Below w.heap.size w v5) := HB4.out.thru hb
              clear hb HK4 HB4 a0 a1 a2 b0 b1 b2
              go_wp2
              go_ret
              exact ⟨rfl, HB5.out⟩
          · have d5 : ((i5 : Int) == 1) = false := by simp; omega
            clear c5
            cases hng : da.neg
            · have HNG : Hid (da.neg = false) := hng
              clear hng
              obtain ⟨a0, a1, a2⟩ := HK2.out.decs (.head _)
              go_wp2_with fail
              refine (PK2.out _).mono ?_
              rintro e w' ⟨rfl, hw⟩
              subst hw
              go_wp2_with fail
              refine (PK3.out _).mono ?_
              rintro e w' ⟨rfl, hw⟩
              subst hw
              go_wp2_with fail
              refine (PLN.out _).mono ?_
              rintro e v3 ⟨rfl, hb⟩
              have HK3 : Hid (Kept _ v3) := HK2.out.below hb
              have HB3 : Hid (Below w.heap.size w v3) := HB2.out.thru hb
              clear hb HK2 HB2 kA kB a0 a1 a2
              obtain ⟨a0, a1, a2⟩ := HK3.out.decs (.head _)
              replace a0 := a0.trans (show some (Value.bool da.neg) = some (Value.bool false) by rw [HNG.out])
              go_wp2_with fail
              refine (PK5.out _).mono ?_
              rintro e w' ⟨rfl, hw⟩
              subst hw
              go_wp2_with fail
              refine (point_call OK.out HZ.out k 2 HKL.out (by decide) [48, 48, 48] [] 69 (.inr rfl) (by decide) (by decide) (.inl ⟨rfl, HNG.out⟩) _ (by simp only [bl_append, HS0.out, HXX.out]; simp [bl, List.replicate]) _).mono ?_
              rintro e v4 ⟨rfl, hb⟩
              have HK4 : Hid (Kept _ (v4.alloc (.cells #[.bool da.neg, .string (bs da.s), .int .i64 da.e] 25))) := (HK3.out.below hb).dec da
              have HB4 : Hid (Below w.heap.size w (v4.alloc (.cells #[.bool da.neg, .string (bs da.s), .int .i64 da.e] 25))) := (HB3.out.thru hb).alloc (HB3.out.thru hb).size _
              clear hb HK3 HB3 a0 a1 a2
              obtain ⟨a0, a1, a2⟩ := HK4.out.decs (.tail _ (.head _))
              obtain ⟨b0, b1, b2⟩ := HK4.out.decs (.head _)
              go_wp2_with fail
              refine (KN.out _ HB4.out).mono ?_
              rintro e v5 ⟨rfl, hb⟩
              have HK5 : Hid (Kept _ v5) := HK4.out.below hb
              have HB5 : Hid (Below w.heap.size w v5) := HB4.out.thru hb
              clear hb HK4 HB4 a0 a1 a2 b0 b1 b2
              go_wp2
              go_ret
              exact ⟨rfl, HB5.out⟩
            · have HNG : Hid (da.neg = true) := hng
              clear hng
              obtain ⟨a0, a1, a2⟩ := HK2.out.decs (.head _)
              go_wp2_with fail
              refine (PK2.out _).mono ?_
              rintro e w' ⟨rfl, hw⟩
              subst hw
              go_wp2_with fail
              refine (PK3.out _).mono ?_
              rintro e w' ⟨rfl, hw⟩
              subst hw
              go_wp2_with fail
              refine (PLN.out _).mono ?_
              rintro e v3 ⟨rfl, hb⟩
              have HK3 : Hid (Kept _ v3) := HK2.out.below hb
              have HB3 : Hid (Below w.heap.size w v3) := HB2.out.thru hb
              clear hb HK2 HB2 kA kB a0 a1 a2
              obtain ⟨a0, a1, a2⟩ := HK3.out.decs (.head _)
              replace a0 := a0.trans (show some (Value.bool da.neg) = some (Value.bool true) by rw [HNG.out])
              go_wp2_with fail
              refine (PK5.out _).mono ?_
              rintro e w' ⟨rfl, hw⟩
              subst hw
              go_wp2_with fail
              refine (point_call OK.out HZ.out k 2 HKL.out (by decide) [48, 48, 48] [45] 69 (.inr rfl) (by decide) (by decide) (.inr (.inr ⟨rfl, HNG.out⟩)) _ (by simp only [bl_append, HS0.out, HXX.out]; simp [bl, List.replicate]) _).mono ?_
              rintro e v4 ⟨rfl, hb⟩
              have HK4 : Hid (Kept _ (v4.alloc (.cells #[.bool da.neg, .string (bs da.s), .int .i64 da.e] 25))) := (HK3.out.below hb).dec da
              have HB4 : Hid (Below w.heap.size w (v4.alloc (.cells #[.bool da.neg, .string (bs da.s), .int .i64 da.e] 25))) := (HB3.out.thru hb).alloc (HB3.out.thru hb).size _
              clear hb HK3 HB3 a0 a1 a2
              obtain ⟨a0, a1, a2⟩ := HK4.out.decs (.tail _ (.head _))
              obtain ⟨b0, b1, b2⟩ := HK4.out.decs (.head _)
              go_wp2_with fail
              refine (KN.out _ HB4.out).mono ?_
              rintro e v5 ⟨rfl, hb⟩
              have HK5 : Hid (Kept _ v5) := HK4.out.below hb
              have HB5 : Hid (Below w.heap.size w v5) := HB4.out.thru hb
              clear hb HK4 HB4 a0 a1 a2 b0 b1 b2
              go_wp2
              go_ret
              exact ⟨rfl, HB5.out⟩
        · have d3 : ((i3 : Int) == 1) = false := by simp; omega
          clear c3
          by_cases c5 : i5 = 1
          · have d5 : ((i5 : Int) == 1) = true := by simp; omega
            clear c5
            cases hng : da.neg
            · have HNG : Hid (da.neg = false) := hng
              clear hng
              obtain ⟨a0, a1, a2⟩ := HK2.out.decs (.head _)
              go_wp2_with fail
              refine (PK2.out _).mono ?_
              rintro e w' ⟨rfl, hw⟩
              subst hw
              go_wp2_with fail
              refine (PK3.out _).mono ?_
              rintro e w' ⟨rfl, hw⟩
              subst hw
              go_wp2_with fail
              refine (PLN.out _).mono ?_
              rintro e v3 ⟨rfl, hb⟩
              have HK3 : Hid (Kept _ v3) := HK2.out.below hb
              have HB3 : Hid (Below w.heap.size w v3) := HB2.out.thru hb
              clear hb HK2 HB2 kA kB a0 a1 a2
              obtain ⟨a0, a1, a2⟩ := HK3.out.decs (.head _)
              replace a0 := a0.trans (show some (Value.bool da.neg) = some (Value.bool false) by rw [HNG.out])
              go_wp2_with fail
              refine (PK5.out _).mono ?_
              rintro e w' ⟨rfl, hw⟩
              subst hw
              go_wp2_with fail
              refine (point_call OK.out HZ.out k 2 HKL.out (by decide) [48, 48, 48] [43] 101 (.inl rfl) (by decide) (by decide) (.inr (.inl ⟨rfl, HNG.out⟩)) _ (by simp only [bl_append, HS0.out, HXX.out]; simp [bl, List.replicate]) _).mono ?_
              rintro e v4 ⟨rfl, hb⟩
              have HK4 : Hid (Kept _ (v4.alloc (.cells #[.bool da.neg, .string (bs da.s), .int .i64 da.e] 25))) := (HK3.out.below hb).dec da
              have HB4 : Hid (Below w.heap.size w (v4.alloc (.cells #[.bool da.neg, .string (bs da.s), .int .i64 da.e] 25))) := (HB3.out.thru hb).alloc (HB3.out.thru hb).size _
              clear hb HK3 HB3 a0 a1 a2
              obtain ⟨a0, a1, a2⟩ := HK4.out.decs (.tail _ (.head _))
              obtain ⟨b0, b1, b2⟩ := HK4.out.decs (.head _)
              go_wp2_with fail
              refine (KN.out _ HB4.out).mono ?_
              rintro e v5 ⟨rfl, hb⟩
              have HK5 : Hid (Kept _ v5) := HK4.out.below hb
              have HB5 : Hid (Below w.heap.size w v5) := HB4.out.thru hb
              clear hb HK4 HB4 a0 a1 a2 b0 b1 b2
              go_wp2
              go_ret
              exact ⟨rfl, HB5.out⟩
            · have HNG : Hid (da.neg = true) := hng
              clear hng
              obtain ⟨a0, a1, a2⟩ := HK2.out.decs (.head _)
              go_wp2_with fail
              refine (PK2.out _).mono ?_
              rintro e w' ⟨rfl, hw⟩
              subst hw
              go_wp2_with fail
              refine (PK3.out _).mono ?_
              rintro e w' ⟨rfl, hw⟩
              subst hw
              go_wp2_with fail
              refine (PLN.out _).mono ?_
              rintro e v3 ⟨rfl, hb⟩
              have HK3 : Hid (Kept _ v3) := HK2.out.below hb
              have HB3 : Hid (Below w.heap.size w v3) := HB2.out.thru hb
              clear hb HK2 HB2 kA kB a0 a1 a2
              obtain ⟨a0, a1, a2⟩ := HK3.out.decs (.head _)
              replace a0 := a0.trans (show some (Value.bool da.neg) = some (Value.bool true) by rw [HNG.out])
              go_wp2_with fail
              refine (PK5.out _).mono ?_
              rintro e w' ⟨rfl, hw⟩
              subst hw
              go_wp2_with fail
              refine (point_call OK.out HZ.out k 2 HKL.out (by decide) [48, 48, 48] [45] 101 (.inl rfl) (by decide) (by decide) (.inr (.inr ⟨rfl, HNG.out⟩)) _ (by simp only [bl_append, HS0.out, HXX.out]; simp [bl, List.replicate]) _).mono ?_
              rintro e v4 ⟨rfl, hb⟩
              have HK4 : Hid (Kept _ (v4.alloc (.cells #[.bool da.neg, .string (bs da.s), .int .i64 da.e] 25))) := (HK3.out.below hb).dec da
              have HB4 : Hid (Below w.heap.size w (v4.alloc (.cells #[.bool da.neg, .string (bs da.s), .int .i64 da.e] 25))) := (HB3.out.thru hb).alloc (HB3.out.thru hb).size _
              clear hb HK3 HB3 a0 a1 a2
              obtain ⟨a0, a1, a2⟩ := HK4.out.decs (.tail _ (.head _))
              obtain ⟨b0, b1, b2⟩ := HK4.out.decs (.head _)
              go_wp2_with fail
              refine (KN.out _ HB4.out).mono ?_
              rintro e v5 ⟨rfl, hb⟩
              have HK5 : Hid (Kept _ v5) := HK4.out.below hb
              have HB5 : Hid (Below w.heap.size w v5) := HB4.out.thru hb
              clear hb HK4 HB4 a0 a1 a2 b0 b1 b2
              go_wp2
              go_ret
              exact ⟨rfl, HB5.out⟩
          · have d5 : ((i5 : Int) == 1) = false := by simp; omega
            clear c5
            cases hng : da.neg
            · have HNG : Hid (da.neg = false) := hng
              clear hng
              obtain ⟨a0, a1, a2⟩ := HK2.out.decs (.head _)
              go_wp2_with fail
              refine (PK2.out _).mono ?_
              rintro e w' ⟨rfl, hw⟩
              subst hw
              go_wp2_with fail
              refine (PK3.out _).mono ?_
              rintro e w' ⟨rfl, hw⟩
              subst hw
              go_wp2_with fail
              refine (PLN.out _).mono ?_
              rintro e v3 ⟨rfl, hb⟩
              have HK3 : Hid (Kept _ v3) := HK2.out.below hb
              have HB3 : Hid (Below w.heap.size w v3) := HB2.out.thru hb
              clear hb HK2 HB2 kA kB a0 a1 a2
              obtain ⟨a0, a1, a2⟩ := HK3.out.decs (.head _)
              replace a0 := a0.trans (show some (Value.bool da.neg) = some (Value.bool false) by rw [HNG.out])
              go_wp2_with fail
              refine (PK5.out _).mono ?_
              rintro e w' ⟨rfl, hw⟩
              subst hw
              go_wp2_with fail
              refine (point_call OK.out HZ.out k 2 HKL.out (by decide) [48, 48, 48] [] 101 (.inl rfl) (by decide) (by decide) (.inl ⟨rfl, HNG.out⟩) _ (by simp only [bl_append, HS0.out, HXX.out]; simp [bl, List.replicate]) _).mono ?_
              rintro e v4 ⟨rfl, hb⟩
              have HK4 : Hid (Kept _ (v4.alloc (.cells #[.bool da.neg, .string (bs da.s), .int .i64 da.e] 25))) := (HK3.out.below hb).dec da
              have HB4 : Hid (Below w.heap.size w (v4.alloc (.cells #[.bool da.neg, .string (bs da.s), .int .i64 da.e] 25))) := (HB3.out.thru hb).alloc (HB3.out.thru hb).size _
              clear hb HK3 HB3 a0 a1 a2
              obtain ⟨a0, a1, a2⟩ := HK4.out.decs (.tail _ (.head _))
              obtain ⟨b0, b1, b2⟩ := HK4.out.decs (.head _)
              go_wp2_with fail
              refine (KN.out _ HB4.out).mono ?_
              rintro e v5 ⟨rfl, hb⟩
              have HK5 : Hid (Kept _ v5) := HK4.out.below hb
              have HB5 : Hid (Below w.heap.size w v5) := HB4.out.thru hb
              clear hb HK4 HB4 a0 a1 a2 b0 b1 b2
              go_wp2
              go_ret
              exact ⟨rfl, HB5.out⟩
            · have HNG : Hid (da.neg = true) := hng
              clear hng
              obtain ⟨a0, a1, a2⟩ := HK2.out.decs (.head _)
              go_wp2_with fail
              refine (PK2.out _).mono ?_
              rintro e w' ⟨rfl, hw⟩
              subst hw
              go_wp2_with fail
              refine (PK3.out _).mono ?_
              rintro e w' ⟨rfl, hw⟩
              subst hw
              go_wp2_with fail
              refine (PLN.out _).mono ?_
              rintro e v3 ⟨rfl, hb⟩
              have HK3 : Hid (Kept _ v3) := HK2.out.below hb
              have HB3 : Hid (Below w.heap.size w v3) := HB2.out.thru hb
              clear hb HK2 HB2 kA kB a0 a1 a2
              obtain ⟨a0, a1, a2⟩ := HK3.out.decs (.head _)
              replace a0 := a0.trans (show some (Value.bool da.neg) = some (Value.bool true) by rw [HNG.out])
              go_wp2_with fail
              refine (PK5.out _).mono ?_
              rintro e w' ⟨rfl, hw⟩
              subst hw
              go_wp2_with fail
              refine (point_call OK.out HZ.out k 2 HKL.out (by decide) [48, 48, 48] [45] 101 (.inl rfl) (by decide) (by decide) (.inr (.inr ⟨rfl, HNG.out⟩)) _ (by simp only [bl_append, HS0.out, HXX.out]; simp [bl, List.replicate]) _).mono ?_
              rintro e v4 ⟨rfl, hb⟩
              have HK4 : Hid (Kept _ (v4.alloc (.cells #[.bool da.neg, .string (bs da.s), .int .i64 da.e] 25))) := (HK3.out.below hb).dec da
              have HB4 : Hid (Below w.heap.size w (v4.alloc (.cells #[.bool da.neg, .string (bs da.s), .int .i64 da.e] 25))) := (HB3.out.thru hb).alloc (HB3.out.thru hb).size _
              clear hb HK3 HB3 a0 a1 a2
              obtain ⟨a0, a1, a2⟩ := HK4.out.decs (.tail _ (.head _))
              obtain ⟨b0, b1, b2⟩ := HK4.out.decs (.head _)
              go_wp2_with fail
              refine (KN.out _ HB4.out).mono ?_
              rintro e v5 ⟨rfl, hb⟩
              have HK5 : Hid (Kept _ v5) := HK4.out.below hb
              have HB5 : Hid (Below w.heap.size w v5) := HB4.out.thru hb
              clear hb HK4 HB4 a0 a1 a2 b0 b1 b2
              go_wp2
              go_ret
              exact ⟨rfl, HB5.out⟩
      · have d2 : ((i2 : Int) == 1) = false := by simp; omega
        clear c2
        by_cases c3 : i3 = 1
        · have d3 : ((i3 : Int) == 1) = true := by simp; omega
          clear c3
          by_cases c5 : i5 = 1
          · have d5 : ((i5 : Int) == 1) = true := by simp; omega
            clear c5
            cases hng : da.neg
            · have HNG : Hid (da.neg = false) := hng
              clear hng
              obtain ⟨a0, a1, a2⟩ := HK2.out.decs (.head _)
              go_wp2_with fail
              refine (PK2.out _).mono ?_
              rintro e w' ⟨rfl, hw⟩
              subst hw
              go_wp2_with fail
              refine (PK3.out _).mono ?_
              rintro e w' ⟨rfl, hw⟩
              subst hw
              go_wp2_with fail
              refine (PLN.out _).mono ?_
              rintro e v3 ⟨rfl, hb⟩
              have HK3 : Hid (Kept _ v3) := HK2.out.below hb
              have HB3 : Hid (Below w.heap.size w v3) := HB2.out.thru hb
              clear hb HK2 HB2 kA kB a0 a1 a2
              obtain ⟨a0, a1, a2⟩ := HK3.out.decs (.head _)
              replace a0 := a0.trans (show some (Value.bool da.neg) = some (Value.bool false) by rw [HNG.out])
              go_wp2_with fail
              refine (PK5.out _).mono ?_
              rintro e w' ⟨rfl, hw⟩
              subst hw
              go_wp2_with fail
              refine (point_call OK.out HZ.out k 0 HKL.out (by decide) [] [43] 69 (.inr rfl) (by decide) (by decide) (.inr (.inl ⟨rfl, HNG.out⟩)) _ (by simp only [bl_append, HS0.out, HXX.out]; simp [bl, List.replicate]) _).mono ?_
              rintro e v4 ⟨rfl, hb⟩
              have HK4 : Hid (Kept _ (v4.alloc (.cells #[.bool da.neg, .string (bs da.s), .int .i64 da.e] 25))) := (HK3.out.below hb).dec da
              have HB4 : Hid (Below w.heap.size w (v4.alloc (.cells #[.bool da.neg, .string (bs da.s), .int .i64 da.e] 25))) := (HB3.out.thru hb).alloc (HB3.out.thru hb).size _
              clear hb HK3 HB3 a0 a1 a2
              obtain ⟨a0, a1, a2⟩ := HK4.out.decs (.tail _ (.head _))
              obtain ⟨b0, b1, b2⟩ := HK4.out.decs (.head _)
              go_wp2_with fail
              refine (KN.out _ HB4.out).mono ?_
              rintro e v5 ⟨rfl, hb⟩
              have HK5 : Hid (Kept _ v5) := HK4.out.below hb
              have HB5 : Hid (Below w.heap.size w v5) := HB4.out.thru hb
              clear hb HK4 HB4 a0 a1 a2 b0 b1 b2
              go_wp2
              go_ret
              exact ⟨rfl, HB5.out⟩
            · have HNG : Hid (da.neg = true) := hng
              clear hng
              obtain ⟨a0, a1, a2⟩ := HK2.out.decs (.head _)
              go_wp2_with fail
              refine (PK2.out _).mono ?_
              rintro e w' ⟨rfl, hw⟩
              subst hw
              go_wp2_with fail
              refine (PK3.out _).mono ?_
              rintro e w' ⟨rfl, hw⟩
              subst hw
              go_wp2_with fail
              refine (PLN.out _).mono ?_
              rintro e v3 ⟨rfl, hb⟩
              have HK3 : Hid (Kept _ v3) := HK2.out.below hb
              have HB3 : Hid (Below w.heap.size w v3) := HB2.out.thru hb
              clear hb HK2 HB2 kA kB a0 a1 a2
              obtain ⟨a0, a1, a2⟩ := HK3.out.decs (.head _)
              replace a0 := a0.trans (show some (Value.bool da.neg) = some (Value.bool true) by rw [HNG.out])
              go_wp2_with fail
              refine (PK5.out _).mono ?_
              rintro e w' ⟨rfl, hw⟩
              subst hw
              go_wp2_with fail
              refine (point_call OK.out HZ.out k 0 HKL.out (by decide) [] [45] 69 (.inr rfl) (by decide) (by decide) (.inr (.inr ⟨rfl, HNG.out⟩)) _ (by simp only [bl_append, HS0.out, HXX.out]; simp [bl, List.replicate]) _).mono ?_
              rintro e v4 ⟨rfl, hb⟩
              have HK4 : Hid (Kept _ (v4.alloc (.cells #[.bool da.neg, .string (bs da.s), .int .i64 da.e] 25))) := (HK3.out.below hb).dec da
              have HB4 : Hid (Below w.heap.size w (v4.alloc (.cells #[.bool da.neg, .string (bs da.s), .int .i64 da.e] 25))) := (HB3.out.thru hb).alloc (HB3.out.thru hb).size _
              clear hb HK3 HB3 a0 a1 a2
              obtain ⟨a0, a1, a2⟩ := HK4.out.decs (.tail _ (.head _))
              obtain ⟨b0, b1, b2⟩ := HK4.out.decs (.head _)
              go_wp2_with fail
              refine (KN.out _ HB4.out).mono ?_
              rintro e v5 ⟨rfl, hb⟩
              have HK5 : Hid (Kept _ v5) := HK4.out.below hb
              have HB5 : Hid (Below w.heap.size w v5) := HB4.out.thru hb
              clear hb HK4 HB4 a0 a1 a2 b0 b1 b2
              go_wp2
              go_ret
              exact ⟨rfl, HB5.out⟩
          · have d5 : ((i5 : Int) == 1) = false := by simp; omega
            clear c5
            cases hng : da.neg
            · have HNG : Hid (da.neg = false) := hng
              clear hng
              obtain ⟨a0, a1, a2⟩ := HK2.out.decs (.head _)
              go_wp2_with fail
              refine (PK2.out _).mono ?_
              rintro e w' ⟨rfl, hw⟩
              subst hw
              go_wp2_with fail
              refine (PK3.out _).mono ?_
              rintro e w' ⟨rfl, hw⟩
              subst hw
              go_wp2_with fail
              refine (PLN.out _).mono ?_
              rintro e v3 ⟨rfl, hb⟩
              have HK3 : Hid (Kept _ v3) := HK2.out.below hb
              have HB3 : Hid (Below w.heap.size w v3) := HB2.out.thru hb
              clear hb HK2 HB2 kA kB a0 a1 a2
              obtain ⟨a0, a1, a2⟩ := HK3.out.decs (.head _)
              replace a0 := a0.trans (show some (Value.bool da.neg) = some (Value.bool false) by rw [HNG.out])
              go_wp2_with fail
              refine (PK5.out _).mono ?_
              rintro e w' ⟨rfl, hw⟩
              subst hw
              go_wp2_with fail
              refine (point_call OK.out HZ.out k 0 HKL.out (by decide) [] [] 69 (.inr rfl) (by decide) (by decide) (.inl ⟨rfl, HNG.out⟩) _ (by simp only [bl_append, HS0.out, HXX.out]; simp [bl, List.replicate]) _).mono ?_
              rintro e v4 ⟨rfl, hb⟩
              have HK4 : Hid (Kept _ (v4.alloc (.cells #[.bool da.neg, .string (bs da.s), .int .i64 da.e] 25))) := (HK3.out.below hb).dec da
              have HB4 : Hid (Below w.heap.size w (v4.alloc (.cells #[.bool da.neg, .string (bs da.s), .int .i64 da.e] 25))) := (HB3.out.thru hb).alloc (HB3.out.thru hb).size _
              clear hb HK3 HB3 a0 a1 a2
              obtain ⟨a0, a1, a2⟩ := HK4.out.decs (.tail _ (.head _))
              obtain ⟨b0, b1, b2⟩ := HK4.out.decs (.head _)
              go_wp2_with fail
              refine (KN.out _ HB4.out).mono ?_
              rintro e v5 ⟨rfl, hb⟩
              have HK5 : Hid (Kept _ v5) := HK4.out.below hb
              have HB5 : Hid (Below w.heap.size w v5) := HB4.out.thru hb
              clear hb HK4 HB4 a0 a1 a2 b0 b1 b2
              go_wp2
              go_ret
              exact ⟨rfl, HB5.out⟩
            · have HNG : Hid (da.neg = true) := hng
              clear hng
              obtain ⟨a0, a1, a2⟩ := HK2.out.decs (.head _)
              go_wp2_with fail
              refine (PK2.out _).mono ?_
              rintro e w' ⟨rfl, hw⟩
              subst hw
              go_wp2_with fail
              refine (PK3.out _).mono ?_
              rintro e w' ⟨rfl, hw⟩
              subst hw
              go_wp2_with fail
              refine (PLN.out _).mono ?_
              rintro e v3 ⟨rfl, hb⟩
              have HK3 : Hid (Kept _ v3) := HK2.out.below hb
              have HB3 : Hid (Below w.heap.size w v3) := HB2.out.thru hb
              clear hb HK2 HB2 kA kB a0 a1 a2
              obtain ⟨a0, a1, a2⟩ := HK3.out.decs (.head _)
              replace a0 := a0.trans (show some (Value.bool da.neg) = some (Value.bool true) by rw [HNG.out])
              go_wp2_with fail
              refine (PK5.out _).mono ?_
              rintro e w' ⟨rfl, hw⟩
              subst hw
              go_wp2_with fail
              refine (point_call OK.out HZ.out k 0 HKL.out (by decide) [] [45] 69 (.inr rfl) (by decide) (by decide) (.inr (.inr ⟨rfl, HNG.out⟩)) _ (by simp only [bl_append, HS0.out, HXX.out]; simp [bl, List.replicate]) _).mono ?_
              rintro e v4 ⟨rfl, hb⟩
              have HK4 : Hid (Kept _ (v4.alloc (.cells #[.bool da.neg, .string (bs da.s), .int .i64 da.e] 25))) := (HK3.out.below hb).dec da
              have HB4 : Hid (Below w.heap.size w (v4.alloc (.cells #[.bool da.neg, .string (bs da.s), .int .i64 da.e] 25))) := (HB3.out.thru hb).alloc (HB3.out.thru hb).size _
              clear hb HK3 HB3 a0 a1 a2
              obtain ⟨a0, a1, a2⟩ := HK4.out.decs (.tail _ (.head _))
              obtain ⟨b0, b1, b2⟩ := HK4.out.decs (.head _)
              go_wp2_with fail
              refine (KN.out _ HB4.out).mono ?_
              rintro e v5 ⟨rfl, hb⟩
              have HK5 : Hid (Kept _ v5) := HK4.out.below hb
              have HB5 : Hid (Below w.heap.size w v5) := HB4.out.thru hb
              clear hb HK4 HB4 a0 a1 a2 b0 b1 b2
              go_wp2
              go_ret
              exact ⟨rfl, HB5.out⟩
        · have d3 : ((i3 : Int) == 1) = false := by simp; omega
          clear c3
          by_cases c5 : i5 = 1
          · have d5 : ((i5 : Int) == 1) = true := by simp; omega
            clear c5
            cases hng : da.neg
            · have HNG : Hid (da.neg = false) := hng
              clear hng
              obtain ⟨a0, a1, a2⟩ := HK2.out.decs (.head _)
              go_wp2_with fail
              refine (PK2.out _).mono ?_
              rintro e w' ⟨rfl, hw⟩
              subst hw
              go_wp2_with fail
              refine (PK3.out _).mono ?_
              rintro e w' ⟨rfl, hw⟩
              subst hw
              go_wp2_with fail
              refine (PLN.out _).mono ?_
              rintro e v3 ⟨rfl, hb⟩
              have HK3 : Hid (Kept _ v3) := HK2.out.below hb
              have HB3 : Hid (Below w.heap.size w v3) := HB2.out.thru hb
              clear hb HK2 HB2 kA kB a0 a1 a2
              obtain ⟨a0, a1, a2⟩ := HK3.out.decs (.head _)
              replace a0 := a0.trans (show some (Value.bool da.neg) = some (Value.bool false) by rw [HNG.out])
              go_wp2_with fail
              refine (PK5.out _).mono ?_
              rintro e w' ⟨rfl, hw⟩
              subst hw
              go_wp2_with fail
              refine (point_call OK.out HZ.out k 0 HKL.out (by decide) [] [43] 101 (.inl rfl) (by decide) (by decide) (.inr (.inl ⟨rfl, HNG.out⟩)) _ (by simp only [bl_append, HS0.out, HXX.out]; simp [bl, List.replicate]) _).mono ?_
              rintro e v4 ⟨rfl, hb⟩
              have HK4 : Hid (Kept _ (v4.alloc (.cells #[.bool da.neg, .string (bs da.s), .int .i64 da.e] 25))) := (HK3.out.below hb).dec da
              have HB4 : Hid (Below w.heap.size w (v4.alloc (.cells #[.bool da.neg, .string (bs da.s), .int .i64 da.e] 25))) := (HB3.out.thru hb).alloc (HB3.out.thru hb).size _
              clear hb HK3 HB3 a0 a1 a2
              obtain ⟨a0, a1, a2⟩ := HK4.out.decs (.tail _ (.head _))
              obtain ⟨b0, b1, b2⟩ := HK4.out.decs (.head _)
              go_wp2_with fail
              refine (KN.out _ HB4.out).mono ?_
              rintro e v5 ⟨rfl, hb⟩
              have HK5 : Hid (Kept _ v5) := HK4.out.below hb
              have HB5 : Hid (Below w.heap.size w v5) := HB4.out.thru hb
              clear hb HK4 HB4 a0 a1 a2 b0 b1 b2
              go_wp2
              go_ret
              exact ⟨rfl, HB5.out⟩
            · have HNG : Hid (da.neg = true) := hng
              clear hng
              obtain ⟨a0, a1, a2⟩ := HK2.out.decs (.head _)
              go_wp2_with fail
              refine (PK2.out _).mono ?_
              rintro e w' ⟨rfl, hw⟩
              subst hw
              go_wp2_with fail
              refine (PK3.out _).mono ?_
              rintro e w' ⟨rfl, hw⟩
              subst hw
              go_wp2_with fail
              refine (PLN.out _).mono ?_
              rintro e v3 ⟨rfl, hb⟩
              have HK3 : Hid (Kept _ v3) := HK2.out.below hb
              have HB3 : Hid (Below w.heap.size w v3) := HB2.out.thru hb
              clear hb HK2 HB2 kA kB a0 a1 a2
              obtain ⟨a0, a1, a2⟩ := HK3.out.decs (.head _)
              replace a0 := a0.trans (show some (Value.bool da.neg) = some (Value.bool true) by rw [HNG.out])
              go_wp2_with fail
              refine (PK5.out _).mono ?_
              rintro e w' ⟨rfl, hw⟩
              subst hw
              go_wp2_with fail
              refine (point_call OK.out HZ.out k 0 HKL.out (by decide) [] [45] 101 (.inl rfl) (by decide) (by decide) (.inr (.inr ⟨rfl, HNG.out⟩)) _ (by simp only [bl_append, HS0.out, HXX.out]; simp [bl, List.replicate]) _).mono ?_
              rintro e v4 ⟨rfl, hb⟩
              have HK4 : Hid (Kept _ (v4.alloc (.cells #[.bool da.neg, .string (bs da.s), .int .i64 da.e] 25))) := (HK3.out.below hb).dec da
              have HB4 : Hid (Below w.heap.size w (v4.alloc (.cells #[.bool da.neg, .string (bs da.s), .int .i64 da.e] 25))) := (HB3.out.thru hb).alloc (HB3.out.thru hb).size _
              clear hb HK3 HB3 a0 a1 a2
              obtain ⟨a0, a1, a2⟩ := HK4.out.decs (.tail _ (.head _))
              obtain ⟨b0, b1, b2⟩ := HK4.out.decs (.head _)
              go_wp2_with fail
              refine (KN.out _ HB4.out).mono ?_
              rintro e v5 ⟨rfl, hb⟩
              have HK5 : Hid (Kept _ v5) := HK4.out.below hb
              have HB5 : Hid (Below w.heap.size w v5) := HB4.out.thru hb
              clear hb HK4 HB4 a0 a1 a2 b0 b1 b2
              go_wp2
              go_ret
              exact ⟨rfl, HB5.out⟩
          · have d5 : ((i5 : Int) == 1) = false := by simp; omega
            clear c5
            cases hng : da.neg
            · have HNG : Hid (da.neg = false) := hng
              clear hng
              obtain ⟨a0, a1, a2⟩ := HK2.out.decs (.head _)
              go_wp2_with fail
              refine (PK2.out _).mono ?_
              rintro e w' ⟨rfl, hw⟩
              subst hw
              go_wp2_with fail
              refine (PK3.out _).mono ?_
              rintro e w' ⟨rfl, hw⟩
              subst hw
              go_wp2_with fail
              refine (PLN.out _).mono ?_
              rintro e v3 ⟨rfl, hb⟩
              have HK3 : Hid (Kept _ v3) := HK2.out.below hb
              have HB3 : Hid (Below w.heap.size w v3) := HB2.out.thru hb
              clear hb HK2 HB2 kA kB a0 a1 a2
              obtain ⟨a0, a1, a2⟩ := HK3.out.decs (.head _)
              replace a0 := a0.trans (show some (Value.bool da.neg) = some (Value.bool false) by rw [HNG.out])
              go_wp2_with fail
              refine (PK5.out _).mono ?_
              rintro e w' ⟨rfl, hw⟩
              subst hw
              go_wp2_with fail
              refine (point_call OK.out HZ.out k 0 HKL.out (by decide) [] [] 101 (.inl rfl) (by decide) (by decide) (.inl ⟨rfl, HNG.out⟩) _ (by simp only [bl_append, HS0.out, HXX.out]; simp [bl, List.replicate]) _).mono ?_
              rintro e v4 ⟨rfl, hb⟩
              have HK4 : Hid (Kept _ (v4.alloc (.cells #[.bool da.neg, .string (bs da.s), .int .i64 da.e] 25))) := (HK3.out.below hb).dec da
              have HB4 : Hid (Below w.heap.size w (v4.alloc (.cells #[.bool da.neg, .string (bs da.s), .int .i64 da.e] 25))) := (HB3.out.thru hb).alloc (HB3.out.thru hb).size _
              clear hb HK3 HB3 a0 a1 a2
              obtain ⟨a0, a1, a2⟩ := HK4.out.decs (.tail _ (.head _))
              obtain ⟨b0, b1, b2⟩ := HK4.out.decs (.head _)
              go_wp2_with fail
              refine (KN.out _ HB4.out).mono ?_
              rintro e v5 ⟨rfl, hb⟩
              have HK5 : Hid (Kept _ v5) := HK4.out.below hb
              have HB5 : Hid (Below w.heap.size w v5) := HB4.out.thru hb
              clear hb HK4 HB4 a0 a1 a2 b0 b1 b2
              go_wp2
              go_ret
              exact ⟨rfl, HB5.out⟩
            · have HNG : Hid (da.neg = true) := hng
              clear hng
              obtain ⟨a0, a1, a2⟩ := HK2.out.decs (.head _)
              go_wp2_with fail
              refine (PK2.out _).mono ?_
              rintro e w' ⟨rfl, hw⟩
              subst hw
              go_wp2_with fail
              refine (PK3.out _).mono ?_
              rintro e w' ⟨rfl, hw⟩
              subst hw
              go_wp2_with fail
              refine (PLN.out _).mono ?_
              rintro e v3 ⟨rfl, hb⟩
              have HK3 : Hid (Kept _ v3) := HK2.out.below hb
              have HB3 : Hid (Below w.heap.size w v3) := HB2.out.thru hb
              clear hb HK2 HB2 kA kB a0 a1 a2
              obtain ⟨a0, a1, a2⟩ := HK3.out.decs (.head _)
              replace a0 := a0.trans (show some (Value.bool da.neg) = some (Value.bool true) by rw [HNG.out])
              go_wp2_with fail
              refine (PK5.out _).mono ?_
              rintro e w' ⟨rfl, hw⟩
              subst hw
              go_wp2_with fail
              refine (point_call OK.out HZ.out k 0 HKL.out (by decide) [] [45] 101 (.inl rfl) (by decide) (by decide) (.inr (.inr ⟨rfl, HNG.out⟩)) _ (by simp only [bl_append, HS0.out, HXX.out]; simp [bl, List.replicate]) _).mono ?_
              rintro e v4 ⟨rfl, hb⟩
              have HK4 : Hid (Kept _ (v4.alloc (.cells #[.bool da.neg, .string (bs da.s), .int .i64 da.e] 25))) := (HK3.out.below hb).dec da
              have HB4 : Hid (Below w.heap.size w (v4.alloc (.cells #[.bool da.neg, .string (bs da.s), .int .i64 da.e] 25))) := (HB3.out.thru hb).alloc (HB3.out.thru hb).size _
              clear hb HK3 HB3 a0 a1 a2
              obtain ⟨a0, a1, a2⟩ := HK4.out.decs (.tail _ (.head _))
              obtain ⟨b0, b1, b2⟩ := HK4.out.decs (.head _)
              go_wp2_with fail
              refine (KN.out _ HB4.out).mono ?_
              rintro e v5 ⟨rfl, hb⟩
              have HK5 : Hid (Kept _ v5) := HK4.out.below hb
              have HB5 : Hid (Below w.heap.size w v5) := HB4.out.thru hb
              clear hb HK4 HB4 a0 a1 a2 b0 b1 b2
              go_wp2
              go_ret
              exact ⟨rfl, HB5.out⟩
end Go.Proofs.YtpfnfhikhlceoaaGreatDoor
