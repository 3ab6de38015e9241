/- Parts Gt, Gv of the proof, in one text. -/
import Derived.Test.YtpfnfhikhlceoaaGreatDoorRV

/- Walks: the document's answer: signed. -/
namespace Go.Proofs.YtpfnfhikhlceoaaGreatDoor
open Go.RowKit

set_option maxRecDepth 100000 in
theorem rsigned_v (s : ByteArray) (w : World) (hs : s.size ≤ 4611686018427387904) :
    Calls Tryz.prog 52 #[.string s] w fun e w' => ∃ t, e = .returned (.tuple #[.bool (signL (bl s)).1, .string t]) ∧ bl t = (signL (bl s)).2 ∧ Below w.heap.size w w' := by
  have hdrop : ∀ c r', bl s = c :: r' → bl (s.extract 1 s.size) = r' ∧ ∃ h : 0 < s.size, s[0]'h = c := fun c r' e => by
    have hsz : s.size = r'.length + 1 := by rw [← bl_len, e]; rfl
    refine ⟨?_, by omega, ?_⟩
    · rw [bl_extract, List.take_of_length_le (by rw [bl_len]; exact Nat.le_refl _), e]; rfl
    · rw [bl_get]; simp only [e]; rfl
  obtain ⟨F, hF⟩ : ∃ F, F = (signL (bl s)).1 := ⟨_, rfl⟩
  obtain ⟨R, hR⟩ : ∃ R, R = (signL (bl s)).2 := ⟨_, rfl⟩
  rw [← hF, ← hR]
  rcases sign_cases (bl s) with ⟨-, r, e2, e3⟩ | ⟨-, -, r, e2, e3⟩ | ⟨e1, e2, e3⟩
  · obtain ⟨d1, h0, hc⟩ := hdrop _ _ e2
    rw [e3] at hF hR
    have hb0 : ((s[0]'h0).toNat : Int) = 45 := by rw [hc]; rfl
    have k1 : (((s[0]'h0).toNat : Int) == 43) = false := by rw [hc]; rfl
    have k2 : (((s[0]'h0).toNat : Int) == 45) = true := by rw [hc]; rfl
    obtain ⟨t, ht⟩ : ∃ t, s.extract 1 s.size = t := ⟨_, rfl⟩
    have HT : Hid (bl t = R) := by show _ = _; rw [← ht, hR]; exact d1
    have HX : Hid (s.extract 1 s.size = t) := ht
    have HB0 : Hid (((s[0]'h0).toNat : Int) = 45) := hb0
    have h0' : 0 < (s.size : Int) := by omega
    subst hF
    clear hdrop e2 e3 hR d1 hc ht hb0
    go_enter Tryz.func52, Tryz.ntmps52
    go_upto_region 2 with fail
    have h1 : once [(17, 0), (18, 1), (19, 2), (20, 3), (21, 4), (2, 5)] = true := by kernel_rfl
    have h2 : within [(17, 0), (18, 1), (19, 2), (20, 3), (21, 4), (2, 5)] 22 = true := by kernel_rfl
    refine wp_region_flow 6 7 [(17, 0), (18, 1), (19, 2), (20, 3), (21, 4), (2, 5)] [] (fun i v W => match i with
      | 0 => v = .string s
      | 1 => v = .int .u8 45
      | 2 => v = .bool true
      | 3 => v = .string s
      | 4 => v = .string t
      | _ => v = .bool true) w.heap.size (Nat.le_refl _) (by kernel_rfl) (by kernel_rfl) (by kernel_rfl) (by decide) (by kernel_rfl) h1 (by kernel_rfl) ?_ ?_ ?_ ?_
    · intro j v W W' h hb
      match j, h with
      | 0, h => exact h
      | 1, h => exact h
      | 2, h => exact h
      | 3, h => exact h
      | 4, h => exact h
      | _ + 5, h => exact h
    · exact fun j hj => by cases hj
    · refine ⟨⟨⟨⟨⟨⟨trivial, ?_⟩, ?_⟩, ?_⟩, ?_⟩, ?_⟩, ?_⟩
      · refine flow_step _ 17 rfl rfl (fun d h => by simpa using h) h1 h2 fun ac xs W he hb hS K hK => ?_
        exact op_move (.tmp 0) (.inl rfl) (hK _ _ (he 0) (Below.refl _ _) (fun h => absurd h (by decide)))
      · refine flow_step _ 18 rfl rfl (fun d h => by simpa using h) h1 h2 fun ac xs W he hb hS K hK => ?_
        have k0 := HB0.out
        have k1 := h0'
        have e0 : ac.eval (.tmp 17) = _ := (he 17).trans (hS 0 (by kernel_rfl))
        refine op_any (.index 9 (.tmp 17) (.const (.int .i64 0))) rfl (.int .u8 45) (fun o' ho' => ?_) (hK _ _ rfl (Below.refl _ _) (fun h => absurd h (by decide)))
        simp only [execOp, ho', e0]
        go_simp
      · refine flow_step _ 19 rfl rfl (fun d h => by simpa using h) h1 h2 fun ac xs W he hb hS K hK => ?_
        have e0 : ac.eval (.tmp 18) = _ := (he 18).trans (hS 1 (by kernel_rfl))
        refine op_any (.binOp .eql 5 (.tmp 18) (.const (.int .u8 45)) 5) rfl (.bool true) (fun o' ho' => ?_) (hK _ _ rfl (Below.refl _ _) (fun h => absurd h (by decide)))
        simp only [execOp, ho', e0]
        go_simp
      · refine flow_step _ 20 rfl rfl (fun d h => by simpa using h) h1 h2 fun ac xs W he hb hS K hK => ?_
        exact op_move (.tmp 0) (.inl rfl) (hK _ _ (he 0) (Below.refl _ _) (fun h => absurd h (by decide)))
      · refine flow_step _ 21 rfl rfl (fun d h => by simpa using h) h1 h2 fun ac xs W he hb hS K hK => ?_
        have k0 := HX.out
        have k1 := h0'
        have e0 : ac.eval (.tmp 20) = _ := (he 20).trans (hS 3 (by kernel_rfl))
        refine op_any (.slice 9 (.tmp 20) (some (.const (.int .i64 1))) none none) rfl (.string t) (fun o' ho' => ?_) (hK _ _ rfl (Below.refl _ _) (fun h => absurd h (by decide)))
        simp only [execOp, ho', e0]
        go_simp
        intro hh; omega
      · refine flow_step _ 2 rfl rfl (fun d h => by simpa using h) h1 h2 fun ac xs W he hb hS K hK => ?_
        exact op_move (.tmp 19) (.inr rfl) (hK _ _ ((he 19).trans (hS 2 (by kernel_rfl))) (Below.refl _ _) (fun h => absurd h (by decide)))
    · intro xs W hb hS hD
      have s2 : xs 2 = _ := hS 2 (by decide)
      have s4 : xs 4 = _ := hS 4 (by decide)
      have s5 : xs 5 = _ := hS 5 (by decide)
      generalize xs 0 = x0 at *
      generalize xs 1 = x1 at *
      generalize xs 3 = x3 at *
      simp only [layAll, s2, s4, s5]
      have HBB : Hid (Below w.heap.size w W) := hb
      clear hS hD s2 s4 s5 hb
      go_wp2
      go_ret2
      exact ⟨t, rfl, HT.out, HBB.out⟩
  · obtain ⟨d1, h0, hc⟩ := hdrop _ _ e2
    rw [e3] at hF hR
    have hb0 : ((s[0]'h0).toNat : Int) = 43 := by rw [hc]; rfl
    have k1 : (((s[0]'h0).toNat : Int) == 43) = true := by rw [hc]; rfl
    have k2 : (((s[0]'h0).toNat : Int) == 45) = false := by rw [hc]; rfl
    obtain ⟨t, ht⟩ : ∃ t, s.extract 1 s.size = t := ⟨_, rfl⟩
    have HT : Hid (bl t = R) := by show _ = _; rw [← ht, hR]; exact d1
    have HX : Hid (s.extract 1 s.size = t) := ht
    have HB0 : Hid (((s[0]'h0).toNat : Int) = 43) := hb0
    have h0' : 0 < (s.size : Int) := by omega
    subst hF
    clear hdrop e2 e3 hR d1 hc ht hb0
    go_enter Tryz.func52, Tryz.ntmps52
    go_upto_region 2 with fail
    have h1 : once [(17, 0), (18, 1), (19, 2), (20, 3), (21, 4), (2, 5)] = true := by kernel_rfl
    have h2 : within [(17, 0), (18, 1), (19, 2), (20, 3), (21, 4), (2, 5)] 22 = true := by kernel_rfl
    refine wp_region_flow 6 7 [(17, 0), (18, 1), (19, 2), (20, 3), (21, 4), (2, 5)] [] (fun i v W => match i with
      | 0 => v = .string s
      | 1 => v = .int .u8 43
      | 2 => v = .bool false
      | 3 => v = .string s
      | 4 => v = .string t
      | _ => v = .bool false) w.heap.size (Nat.le_refl _) (by kernel_rfl) (by kernel_rfl) (by kernel_rfl) (by decide) (by kernel_rfl) h1 (by kernel_rfl) ?_ ?_ ?_ ?_
    · intro j v W W' h hb
      match j, h with
      | 0, h => exact h
      | 1, h => exact h
      | 2, h => exact h
      | 3, h => exact h
      | 4, h => exact h
      | _ + 5, h => exact h
    · exact fun j hj => by cases hj
    · refine ⟨⟨⟨⟨⟨⟨trivial, ?_⟩, ?_⟩, ?_⟩, ?_⟩, ?_⟩, ?_⟩
      · refine flow_step _ 17 rfl rfl (fun d h => by simpa using h) h1 h2 fun ac xs W he hb hS K hK => ?_
        exact op_move (.tmp 0) (.inl rfl) (hK _ _ (he 0) (Below.refl _ _) (fun h => absurd h (by decide)))
      · refine flow_step _ 18 rfl rfl (fun d h => by simpa using h) h1 h2 fun ac xs W he hb hS K hK => ?_
        have k0 := HB0.out
        have k1 := h0'
        have e0 : ac.eval (.tmp 17) = _ := (he 17).trans (hS 0 (by kernel_rfl))
        refine op_any (.index 9 (.tmp 17) (.const (.int .i64 0))) rfl (.int .u8 43) (fun o' ho' => ?_) (hK _ _ rfl (Below.refl _ _) (fun h => absurd h (by decide)))
        simp only [execOp, ho', e0]
        go_simp
      · refine flow_step _ 19 rfl rfl (fun d h => by simpa using h) h1 h2 fun ac xs W he hb hS K hK => ?_
        have e0 : ac.eval (.tmp 18) = _ := (he 18).trans (hS 1 (by kernel_rfl))
        refine op_any (.binOp .eql 5 (.tmp 18) (.const (.int .u8 45)) 5) rfl (.bool false) (fun o' ho' => ?_) (hK _ _ rfl (Below.refl _ _) (fun h => absurd h (by decide)))
        simp only [execOp, ho', e0]
        go_simp
      · refine flow_step _ 20 rfl rfl (fun d h => by simpa using h) h1 h2 fun ac xs W he hb hS K hK => ?_
        exact op_move (.tmp 0) (.inl rfl) (hK _ _ (he 0) (Below.refl _ _) (fun h => absurd h (by decide)))
      · refine flow_step _ 21 rfl rfl (fun d h => by simpa using h) h1 h2 fun ac xs W he hb hS K hK => ?_
        have k0 := HX.out
        have k1 := h0'
        have e0 : ac.eval (.tmp 20) = _ := (he 20).trans (hS 3 (by kernel_rfl))
        refine op_any (.slice 9 (.tmp 20) (some (.const (.int .i64 1))) none none) rfl (.string t) (fun o' ho' => ?_) (hK _ _ rfl (Below.refl _ _) (fun h => absurd h (by decide)))
        simp only [execOp, ho', e0]
        go_simp
        intro hh; omega
      · refine flow_step _ 2 rfl rfl (fun d h => by simpa using h) h1 h2 fun ac xs W he hb hS K hK => ?_
        exact op_move (.tmp 19) (.inr rfl) (hK _ _ ((he 19).trans (hS 2 (by kernel_rfl))) (Below.refl _ _) (fun h => absurd h (by decide)))
    · intro xs W hb hS hD
      have s2 : xs 2 = _ := hS 2 (by decide)
      have s4 : xs 4 = _ := hS 4 (by decide)
      have s5 : xs 5 = _ := hS 5 (by decide)
      generalize xs 0 = x0 at *
      generalize xs 1 = x1 at *
      generalize xs 3 = x3 at *
      simp only [layAll, s2, s4, s5]
      have HBB : Hid (Below w.heap.size w W) := hb
      clear hS hD s2 s4 s5 hb
      go_wp2
      go_ret2
      exact ⟨t, rfl, HT.out, HBB.out⟩
  · rw [e3] at hF hR
    have HR : Hid (bl s = R) := hR.symm
    subst hF
    by_cases hz : 0 < s.size
    · have n1 : ((((s[0]'hz).toNat : Nat) : Int) == 43) = false := by
        rw [beq_eq_false_iff_ne]; intro h
        have hc : s[0]'hz = 43 := UInt8.toNat_inj.1 (by have : (43 : UInt8).toNat = 43 := rfl; omega)
        obtain ⟨c, r, he⟩ := cons_of_ne (l := bl s) (by intro e; rw [← bl_len, e] at hz; cases hz)
        rw [he, pre_one] at e2
        rw [bl_get] at hc
        simp only [he] at hc
        have : c = 43 := hc
        rw [this] at e2; cases e2
      have n2 : ((((s[0]'hz).toNat : Nat) : Int) == 45) = false := by
        rw [beq_eq_false_iff_ne]; intro h
        have hc : s[0]'hz = 45 := UInt8.toNat_inj.1 (by have : (45 : UInt8).toNat = 45 := rfl; omega)
        obtain ⟨c, r, he⟩ := cons_of_ne (l := bl s) (by intro e; rw [← bl_len, e] at hz; cases hz)
        rw [he, pre_one] at e1
        rw [bl_get] at hc
        simp only [he] at hc
        have : c = 45 := hc
        rw [this] at e1; cases e1
      have h0' : 0 < (s.size : Int) := by omega
      clear hdrop e1 e2 e3 hR
      go_enter Tryz.func52, Tryz.ntmps52
      go_wp2
      go_ret2
      exact ⟨s, rfl, HR.out, Below.refl _ _⟩
    · have h0' : ¬ 0 < (s.size : Int) := by omega
      clear hdrop e1 e2 e3 hR
      go_enter Tryz.func52, Tryz.ntmps52
      go_wp2
      go_ret2
      exact ⟨s, rfl, HR.out, Below.refl _ _⟩
end Go.Proofs.YtpfnfhikhlceoaaGreatDoor

/- Walks: the document's answer: decimals. -/
namespace Go.Proofs.YtpfnfhikhlceoaaGreatDoor
open Go.RowKit Go.Lib

set_option maxHeartbeats 2000000 in
set_option maxRecDepth 100000 in
theorem rdec_nat : ∀ (n : Nat) (w : World), n ≤ 9223372036854775807 →
    Calls Tryz.prog 97 #[.int .i64 (n : Nat)] w fun e w' => e = .returned (.string (bs (decDigits n))) ∧ Below w.heap.size w w' := by
  intro n
  induction n using Nat.strongRecOn with
  | _ n ih =>
    intro w hn
    by_cases h10 : n < 10
    · obtain ⟨c, hc⟩ : ∃ c, c = 48 + n := ⟨_, rfl⟩
      have FC : IntKind.u8.wrap (48 + (n : Int)) = (c : Int) := by
        have : (48 + (n : Int)) = (c : Int) := by omega
        rw [this]; unfold IntKind.wrap; simp [IntKind.bits, IntKind.signed]; omega
      have h1 : ¬ (n : Int) < 0 := by omega
      have h2 : (n : Int) < 10 := by omega
      have k1 := one_byte c (by omega) (w.alloc (.cells #[.int .u8 (c : Nat)] 5)) w.heap.size 5 (new_blk _ _)
      rw [decDigits_small h10]
      obtain ⟨T, hT⟩ : ∃ T, T = bs [UInt8.ofNat (48 + n)] := ⟨_, rfl⟩
      rw [← hT]
      have HT : Hid (T = bs [UInt8.ofNat c]) := by show _ = _; rw [hT, hc]
      clear hc hT
      go_enter Tryz.func97, Tryz.ntmps97
      go_wp2_with fail
      go_ret
      refine ⟨?_, (Below.refl _ _).alloc (Nat.le_refl _) _⟩
      rw [HT.out]; rfl
    · have IH : Hid (∀ W, Calls Tryz.prog 97 #[.int .i64 (n / 10 : Nat)] W fun e w' => e = .returned (.string (bs (decDigits (n / 10)))) ∧ Below W.heap.size W w') := fun W => ih (n / 10) (by omega) W (by omega)
      obtain ⟨c, hc⟩ : ∃ c, c = 48 + n % 10 := ⟨_, rfl⟩
      have HC : Hid (c < 256) := by show _ < _; omega
      have FQ : Hid ((n : Int).tdiv 10 = (n / 10 : Nat)) := by show _ = _; rw [Int.tdiv_eq_ediv_of_nonneg (by omega)]; rfl
      have FR : Hid ((n : Int).tmod 10 = (n % 10 : Nat)) := by show _ = _; rw [Int.tmod_eq_emod_of_nonneg (by omega)]; rfl
      have FA : Hid (IntKind.i64.wrap (48 + (n : Int) % 10) = (c : Int)) := by show _ = _; rw [IntWalk.i64_in _ (by omega)]; omega
      have FC : Hid (IntKind.u8.wrap (c : Int) = (c : Int)) := by show _ = _; unfold IntKind.wrap; simp [IntKind.bits, IntKind.signed]; omega
      obtain ⟨T, hT⟩ : ∃ T, T = bs (decDigits n) := ⟨_, rfl⟩
      have FS : Hid ((bs (decDigits (n / 10))).size + (bs [UInt8.ofNat c]).size ≤ 9223372036854775807) := by
        have := dec_len (n / 10)
        show (decDigits (n / 10)).length + 1 ≤ _
        omega
      have FT : Hid (bs (decDigits (n / 10)) ++ bs [UInt8.ofNat c] = T) := by show _ = _; rw [hT, app_bs, decDigits_big h10, hc]
      rw [← hT]
      have h1 : ¬ (n : Int) < 0 := by omega
      have h2 : ¬ (n : Int) < 10 := by omega
      clear ih hc hT h10
      go_enter Tryz.func97, Tryz.ntmps97
      go_upto_region 5 with fail
      have h1 : once [(16, 0), (17, 1), (18, 2), (19, 3), (20, 4), (21, 5), (22, 6), (23, 7), (24, 8), (25, 9)] = true := by kernel_rfl
      have h2 : within [(16, 0), (17, 1), (18, 2), (19, 3), (20, 4), (21, 5), (22, 6), (23, 7), (24, 8), (25, 9)] 26 = true := by kernel_rfl
      refine wp_region_flow 10 11 [(16, 0), (17, 1), (18, 2), (19, 3), (20, 4), (21, 5), (22, 6), (23, 7), (24, 8), (25, 9)] [] (fun i v W => match i with
        | 0 => v = .int .i64 n
        | 1 => v = .int .i64 (n / 10 : Nat)
        | 2 => v = .string (bs (decDigits (n / 10)))
        | 3 => v = .int .i64 n
        | 4 => v = .int .i64 (n % 10 : Nat)
        | 5 => v = .int .i64 (c : Nat)
        | 6 => v = .int .u8 (c : Nat)
        | 7 => ∃ g, v = .slice (some ⟨g, 0, none⟩) 1 1 ∧ g < W.heap.size ∧ ∃ ty, W.heap[g]? = some (.cells #[.int .u8 (c : Nat)] ty (0, 0))
        | 8 => v = .string (bs [UInt8.ofNat c])
        | _ => v = .string T) w.heap.size (Nat.le_refl _) (by kernel_rfl) (by kernel_rfl) (by kernel_rfl) (by decide) (by kernel_rfl) h1 (by kernel_rfl) ?_ ?_ ?_ ?_
      · intro j v W W' h hb
        match j, h with
        | 0, h => exact h
        | 1, h => exact h
        | 2, h => exact h
        | 3, h => exact h
        | 4, h => exact h
        | 5, h => exact h
        | 6, h => exact h
        | 7, ⟨g, s1, s2, ty, s3⟩ => exact ⟨g, s1, Nat.lt_of_lt_of_le s2 hb.size, ty, hb.blk s3 s2⟩
        | 8, h => exact h
        | _ + 9, h => exact h
      · exact fun j hj => by cases hj
      · refine ⟨⟨⟨⟨⟨⟨⟨⟨⟨⟨trivial, ?_⟩, ?_⟩, ?_⟩, ?_⟩, ?_⟩, ?_⟩, ?_⟩, ?_⟩, ?_⟩, ?_⟩
        · refine flow_step _ 16 rfl rfl (fun d h => by simpa using h) h1 h2 fun ac xs W he hb hS K hK => ?_
          exact op_move (.tmp 0) (.inl rfl) (hK _ _ (he 0) (Below.refl _ _) (fun h => absurd h (by decide)))
        · refine flow_step _ 17 rfl rfl (fun d h => by simpa using h) h1 h2 fun ac xs W he hb hS K hK => ?_
          have k0 := FQ.out
          have e0 : ac.eval (.tmp 16) = _ := (he 16).trans (hS 0 (by kernel_rfl))
          refine op_any (.binOp .quo 3 (.tmp 16) (.const (.int .i64 10)) 3) rfl (.int .i64 (n / 10 : Nat)) (fun o' ho' => ?_) (hK _ _ rfl (Below.refl _ _) (fun h => absurd h (by decide)))
          simp only [execOp, ho', e0]
          go_simp
          exact IntWalk.i64_in _ (by omega)
        · refine flow_step _ 18 rfl rfl (fun d h => by simpa using h) h1 h2 fun ac xs W he hb hS K hK => ?_
          have e0 : ac.eval (.tmp 17) = _ := (he 17).trans (hS 1 (by kernel_rfl))
          refine op_call 97 _ _ rfl _ (by simp only [List.map, e0]) (by go_simp) (IH.out W) ?_
          rintro e' W' ⟨rfl, hb'⟩
          exact ⟨_, rfl, hK _ _ (rfl) hb' (fun h => absurd h (by decide))⟩
        · refine flow_step _ 19 rfl rfl (fun d h => by simpa using h) h1 h2 fun ac xs W he hb hS K hK => ?_
          exact op_move (.tmp 0) (.inl rfl) (hK _ _ (he 0) (Below.refl _ _) (fun h => absurd h (by decide)))
        · refine flow_step _ 20 rfl rfl (fun d h => by simpa using h) h1 h2 fun ac xs W he hb hS K hK => ?_
          have k0 := FR.out
          have e0 : ac.eval (.tmp 19) = _ := (he 19).trans (hS 3 (by kernel_rfl))
          refine op_any (.binOp .rem 3 (.tmp 19) (.const (.int .i64 10)) 3) rfl (.int .i64 (n % 10 : Nat)) (fun o' ho' => ?_) (hK _ _ rfl (Below.refl _ _) (fun h => absurd h (by decide)))
          simp only [execOp, ho', e0]
          go_simp
        · refine flow_step _ 21 rfl rfl (fun d h => by simpa using h) h1 h2 fun ac xs W he hb hS K hK => ?_
          have k0 := FA.out
          have e0 : ac.eval (.tmp 20) = _ := (he 20).trans (hS 4 (by kernel_rfl))
          refine op_any (.binOp .add 3 (.const (.int .i64 48)) (.tmp 20) 3) rfl (.int .i64 (c : Nat)) (fun o' ho' => ?_) (hK _ _ rfl (Below.refl _ _) (fun h => absurd h (by decide)))
          simp only [execOp, ho', e0]
          go_simp
        · refine flow_step _ 22 rfl rfl (fun d h => by simpa using h) h1 h2 fun ac xs W he hb hS K hK => ?_
          have k0 := FC.out
          have e0 : ac.eval (.tmp 21) = _ := (he 21).trans (hS 5 (by kernel_rfl))
          refine op_any (.convert 3 5 (.tmp 21)) rfl (.int .u8 (c : Nat)) (fun o' ho' => ?_) (hK _ _ rfl (Below.refl _ _) (fun h => absurd h (by decide)))
          simp only [execOp, ho', e0]
          go_simp
        · refine flow_step _ 23 rfl rfl (fun d h => by simpa using h) h1 h2 fun ac xs W he hb hS K hK => ?_
          have e0 : ac.eval (.tmp 22) = _ := (he 22).trans (hS 6 (by kernel_rfl))
          refine op_anyw (.buildSlice 70 1 #[(0, .tmp 22)]) rfl (.slice (some ⟨W.heap.size, 0, none⟩) 1 1) (W.alloc (.cells #[.int .u8 (c : Nat)] 5)) (fun o' ho' => ?_) (hK _ _ ⟨_, rfl, by simp, _, heap_alloc_new _ _⟩ ((Below.refl _ _).alloc (Nat.le_refl _) _) (fun h => absurd h (by decide)))
          have f0 : ac.tmps[22]?.getD undef = .int .u8 (c : Nat) := by rw [← Array.getD_eq_getD_getElem?]; exact e0
          clear e0
          simp only [execOp, ho']
          go_simp
        · refine flow_step _ 24 rfl rfl (fun d h => by simpa using h) h1 h2 fun ac xs W he hb hS K hK => ?_
          obtain ⟨g, s1, s2, ty, s3⟩ := hS 7 (by kernel_rfl)
          have e0 : ac.eval (.tmp 23) = _ := (he 23).trans s1
          have k0 := one_byte c HC.out W g ty s3
          refine op_any (.convert 70 9 (.tmp 23)) rfl (.string (bs [UInt8.ofNat c])) (fun o' ho' => ?_) (hK _ _ rfl (Below.refl _ _) (fun h => absurd h (by decide)))
          simp only [execOp, ho', e0]
          go_simp
        · refine flow_step _ 25 rfl rfl (fun d h => by simpa using h) h1 h2 fun ac xs W he hb hS K hK => ?_
          have k1 := FT.out
          have e0 : ac.eval (.tmp 18) = _ := (he 18).trans (hS 2 (by kernel_rfl))
          have e1 : ac.eval (.tmp 24) = _ := (he 24).trans (hS 8 (by kernel_rfl))
          refine op_any (.binOp .add 9 (.tmp 18) (.tmp 24) 9) rfl (.string T) (fun o' ho' => ?_) (hK _ _ rfl (Below.refl _ _) (fun h => absurd h (by decide)))
          simp only [execOp, ho', e0, e1]
          go_simp
          exact FS.out
      · intro xs W hb hS hD
        have s9 : xs 9 = _ := hS 9 (by decide)
        generalize xs 0 = x0 at *
        generalize xs 1 = x1 at *
        generalize xs 2 = x2 at *
        generalize xs 3 = x3 at *
        generalize xs 4 = x4 at *
        generalize xs 5 = x5 at *
        generalize xs 6 = x6 at *
        generalize xs 7 = x7 at *
        generalize xs 8 = x8 at *
        simp only [layAll, s9]
        have HBB : Hid (Below w.heap.size w W) := hb
        clear hS hD s9 hb
        go_wp2
        go_ret
        exact ⟨rfl, HBB.out⟩

set_option maxRecDepth 100000 in
theorem rdec_v (n : Int) (w : World) (h0 : -9223372036854775807 ≤ n) (h1 : n ≤ 9223372036854775807) :
    Calls Tryz.prog 97 #[.int .i64 n] w fun e w' => e = .returned (.string (bs (itoaL n))) ∧ Below w.heap.size w w' := by
  by_cases h : n < 0
  · obtain ⟨m, rfl⟩ : ∃ m : Nat, n = -(m : Int) := ⟨n.natAbs, by omega⟩
    have HP : Hid (∀ W, Calls Tryz.prog 97 #[.int .i64 (m : Nat)] W fun e w' => e = .returned (.string (bs (decDigits m))) ∧ Below W.heap.size W w') := fun W => rdec_nat m W (by omega)
    have k0 : IntKind.i64.wrap (- -(m : Int)) = (m : Int) := by rw [Int.neg_neg]; exact IntWalk.i64_in _ (by omega)
    obtain ⟨t, ht⟩ : ∃ t, t = bs (decDigits m) := ⟨_, rfl⟩
    have hsz : t.size ≤ 9223372036854775806 := by rw [ht]; exact dec_small m (by omega)
    have HT : Hid (ByteArray.mk #[45] ++ t = bs (itoaL (-(m : Int)))) := by
      show _ = _
      rw [ht, cons_bs]; unfold itoaL; rw [if_pos h]; congr 2; rw [Int.natAbs_neg]; rfl
    rw [← ht] at HP
    generalize bs (itoaL (-(m : Int))) = T at *
    clear ht
    go_enter Tryz.func97, Tryz.ntmps97
    go_wp2_with fail
    refine (HP.out _).mono ?_
    rintro e w' ⟨rfl, hb⟩
    have k1 := HT.out
    have HB : Hid _ := hb
    clear hb k0
    go_wp2
    go_ret
    exact ⟨rfl, HB.out⟩
  · obtain ⟨m, rfl⟩ : ∃ m : Nat, n = (m : Int) := ⟨n.toNat, by omega⟩
    have := rdec_nat m w (by omega)
    have e : itoaL (m : Int) = decDigits m := by unfold itoaL; rw [if_neg h]; rfl
    rw [e]; exact this
end Go.Proofs.YtpfnfhikhlceoaaGreatDoor
