/- Parts Gg of the proof, in one text. -/
import Derived.Test.YtpfnfhikhlceoaaGreatDoorRG

/- Walks: plain: a number in decimals. -/
namespace Go.Proofs.YtpfnfhikhlceoaaGreatDoor
open Go.RowKit Go.Lib

theorem one_byte (c : Nat) (hc : c < 256) (w : World) (g : Nat) (ty : TypeId) (h : w.heap[g]? = some (.cells #[.int .u8 (c : Nat)] ty (0, 0))) :
    (convert 70 9 (.slice (some ⟨g, 0, none⟩) 1 1)).run Tryz.prog w = .ok (.string (bs [UInt8.ofNat c])) w := by
  have := run_convert_bytes_back (P := Tryz.prog) w 70 9 5 ⟨g, 0, none⟩ 1 [UInt8.ofNat c] Tryz.underlying70 Tryz.underlying5 Tryz.underlying9 (fun j hj => by
    obtain rfl : j = 0 := by simpa using hj
    have h0 := cell_of_row w g 0 _ _ _ h
    have e : (UInt8.ofNat c).toNat = c := by simp; omega
    show w.cell? ⟨g, 0, none⟩ = some (.int .u8 ((UInt8.ofNat c).toNat : Int))
    rw [h0, e]; rfl)
  exact this

theorem dec_len : ∀ n : Nat, (decDigits n).length ≤ n + 1 := by
  intro n
  induction n using Nat.strongRecOn with
  | _ n ih =>
    by_cases h : n < 10
    · rw [decDigits_small h]; simp
    · rw [decDigits_big h]
      have := ih (n / 10) (by omega)
      simp; omega
theorem dec_small (n : Nat) (h : n ≤ 9223372036854775807) : (bs (decDigits n)).size ≤ 9223372036854775806 := by
  have h1 := dec_len (n / 10)
  show (decDigits n).length ≤ _
  by_cases g : n < 10
  · rw [decDigits_small g]; simp
  · rw [decDigits_big g]; simp; omega

set_option maxHeartbeats 2000000 in
set_option maxRecDepth 100000 in
theorem plain_nat : ∀ (n : Nat) (w : World), n ≤ 9223372036854775807 →
    Calls Tryz.prog 23 #[.int .i64 (n : Nat)] w fun e w' => e = .returned (.string (bs (decDigits n))) ∧ Below w.heap.size w w' := by
  intro n
  induction n using Nat.strongRecOn with
  | _ n ih =>
    intro w hn
    by_cases h10 : n < 10
    · obtain ⟨c, hc⟩ : ∃ c, c = 48 + n := ⟨_, rfl⟩
      have FC : IntKind.u8.wrap (48 + (n : Int)) = (c : Int) := by
        have : (48 + (n : Int)) = (c : Int) := by omega
        rw [this]; unfold IntKind.wrap; simp [IntKind.bits, IntKind.signed]; omega
      have h1 : ¬ (n : Int) < 0 := by omega
      have h2 : (n : Int) < 10 := by omega
      have k1 := one_byte c (by omega) (w.alloc (.cells #[.int .u8 (c : Nat)] 5)) w.heap.size 5 (new_blk _ _)
      rw [decDigits_small h10]
      obtain ⟨T, hT⟩ : ∃ T, T = bs [UInt8.ofNat (48 + n)] := ⟨_, rfl⟩
      rw [← hT]
      have HT : Hid (T = bs [UInt8.ofNat c]) := by show _ = _; rw [hT, hc]
      clear hc hT
      go_enter Tryz.func23, Tryz.ntmps23
      go_wp2_with fail
      go_ret
      refine ⟨?_, (Below.refl _ _).alloc (Nat.le_refl _) _⟩
      rw [HT.out]; rfl
    · have IH : Hid (∀ W, Calls Tryz.prog 23 #[.int .i64 (n / 10 : Nat)] W fun e w' => e = .returned (.string (bs (decDigits (n / 10)))) ∧ Below W.heap.size W w') := fun W => ih (n / 10) (by omega) W (by omega)
      obtain ⟨c, hc⟩ : ∃ c, c = 48 + n % 10 := ⟨_, rfl⟩
      have HC : Hid (c < 256) := by show _ < _; omega
      have FQ : Hid ((n : Int).tdiv 10 = (n / 10 : Nat)) := by show _ = _; rw [Int.tdiv_eq_ediv_of_nonneg (by omega)]; rfl
      have FR : Hid ((n : Int).tmod 10 = (n % 10 : Nat)) := by show _ = _; rw [Int.tmod_eq_emod_of_nonneg (by omega)]; rfl
      have FA : Hid (IntKind.i64.wrap (48 + (n : Int) % 10) = (c : Int)) := by show _ = _; rw [IntWalk.i64_in _ (by omega)]; omega
      have FC : Hid (IntKind.u8.wrap (c : Int) = (c : Int)) := by show _ = _; unfold IntKind.wrap; simp [IntKind.bits, IntKind.signed]; omega
      obtain ⟨T, hT⟩ : ∃ T, T = bs (decDigits n) := ⟨_, rfl⟩
      have FS : Hid ((bs (decDigits (n / 10))).size + (bs [UInt8.ofNat c]).size ≤ 9223372036854775807) := by
        have := dec_len (n / 10)
        show (decDigits (n / 10)).length + 1 ≤ _
        omega
      have FT : Hid (bs (decDigits (n / 10)) ++ bs [UInt8.ofNat c] = T) := by show _ = _; rw [hT, app_bs, decDigits_big h10, hc]
      rw [← hT]
      have h1 : ¬ (n : Int) < 0 := by omega
      have h2 : ¬ (n : Int) < 10 := by omega
      clear ih hc hT h10
      go_enter Tryz.func23, Tryz.ntmps23
      go_upto_region 5 with fail
      have h1 : once [(16, 0), (17, 1), (18, 2), (19, 3), (20, 4), (21, 5), (22, 6), (23, 7), (24, 8), (25, 9)] = true := by kernel_rfl
      have h2 : within [(16, 0), (17, 1), (18, 2), (19, 3), (20, 4), (21, 5), (22, 6), (23, 7), (24, 8), (25, 9)] 26 = true := by kernel_rfl
      refine wp_region_flow 10 11 [(16, 0), (17, 1), (18, 2), (19, 3), (20, 4), (21, 5), (22, 6), (23, 7), (24, 8), (25, 9)] [] (fun i v W => match i with
        | 0 => v = .int .i64 n
        | 1 => v = .int .i64 (n / 10 : Nat)
        | 2 => v = .string (bs (decDigits (n / 10)))
        | 3 => v = .int .i64 n
        | 4 => v = .int .i64 (n % 10 : Nat)
        | 5 => v = .int .i64 (c : Nat)
        | 6 => v = .int .u8 (c : Nat)
        | 7 => ∃ g, v = .slice (some ⟨g, 0, none⟩) 1 1 ∧ g < W.heap.size ∧ ∃ ty, W.heap[g]? = some (.cells #[.int .u8 (c : Nat)] ty (0, 0))
        | 8 => v = .string (bs [UInt8.ofNat c])
        | _ => v = .string T) w.heap.size (Nat.le_refl _) (by kernel_rfl) (by kernel_rfl) (by kernel_rfl) (by decide) (by kernel_rfl) h1 (by kernel_rfl) ?_ ?_ ?_ ?_
      · intro j v W W' h hb
        match j, h with
        | 0, h => exact h
        | 1, h => exact h
        | 2, h => exact h
        | 3, h => exact h
        | 4, h => exact h
        | 5, h => exact h
        | 6, h => exact h
        | 7, ⟨g, s1, s2, ty, s3⟩ => exact ⟨g, s1, Nat.lt_of_lt_of_le s2 hb.size, ty, hb.blk s3 s2⟩
        | 8, h => exact h
        | _ + 9, h => exact h
      · exact fun j hj => by cases hj
      · refine ⟨⟨⟨⟨⟨⟨⟨⟨⟨⟨trivial, ?_⟩, ?_⟩, ?_⟩, ?_⟩, ?_⟩, ?_⟩, ?_⟩, ?_⟩, ?_⟩, ?_⟩
        · refine flow_step _ 16 rfl rfl (fun d h => by simpa using h) h1 h2 fun ac xs W he hb hS K hK => ?_
          exact op_move (.tmp 0) (.inl rfl) (hK _ _ (he 0) (Below.refl _ _) (fun h => absurd h (by decide)))
        · refine flow_step _ 17 rfl rfl (fun d h => by simpa using h) h1 h2 fun ac xs W he hb hS K hK => ?_
          have k0 := FQ.out
          have e0 : ac.eval (.tmp 16) = _ := (he 16).trans (hS 0 (by kernel_rfl))
          refine op_any (.binOp .quo 3 (.tmp 16) (.const (.int .i64 10)) 3) rfl (.int .i64 (n / 10 : Nat)) (fun o' ho' => ?_) (hK _ _ rfl (Below.refl _ _) (fun h => absurd h (by decide)))
          simp only [execOp, ho', e0]
          go_simp
          exact IntWalk.i64_in _ (by omega)
        · refine flow_step _ 18 rfl rfl (fun d h => by simpa using h) h1 h2 fun ac xs W he hb hS K hK => ?_
          have e0 : ac.eval (.tmp 17) = _ := (he 17).trans (hS 1 (by kernel_rfl))
          refine op_call 23 _ _ rfl _ (by simp only [List.map, e0]) (by go_simp) (IH.out W) ?_
          rintro e' W' ⟨rfl, hb'⟩
          exact ⟨_, rfl, hK _ _ (rfl) hb' (fun h => absurd h (by decide))⟩
        · refine flow_step _ 19 rfl rfl (fun d h => by simpa using h) h1 h2 fun ac xs W he hb hS K hK => ?_
          exact op_move (.tmp 0) (.inl rfl) (hK _ _ (he 0) (Below.refl _ _) (fun h => absurd h (by decide)))
        · refine flow_step _ 20 rfl rfl (fun d h => by simpa using h) h1 h2 fun ac xs W he hb hS K hK => ?_
          have k0 := FR.out
          have e0 : ac.eval (.tmp 19) = _ := (he 19).trans (hS 3 (by kernel_rfl))
          refine op_any (.binOp .rem 3 (.tmp 19) (.const (.int .i64 10)) 3) rfl (.int .i64 (n % 10 : Nat)) (fun o' ho' => ?_) (hK _ _ rfl (Below.refl _ _) (fun h => absurd h (by decide)))
          simp only [execOp, ho', e0]
          go_simp
        · refine flow_step _ 21 rfl rfl (fun d h => by simpa using h) h1 h2 fun ac xs W he hb hS K hK => ?_
          have k0 := FA.out
          have e0 : ac.eval (.tmp 20) = _ := (he 20).trans (hS 4 (by kernel_rfl))
          refine op_any (.binOp .add 3 (.const (.int .i64 48)) (.tmp 20) 3) rfl (.int .i64 (c : Nat)) (fun o' ho' => ?_) (hK _ _ rfl (Below.refl _ _) (fun h => absurd h (by decide)))
          simp only [execOp, ho', e0]
          go_simp
        · refine flow_step _ 22 rfl rfl (fun d h => by simpa using h) h1 h2 fun ac xs W he hb hS K hK => ?_
          have k0 := FC.out
          have e0 : ac.eval (.tmp 21) = _ := (he 21).trans (hS 5 (by kernel_rfl))
          refine op_any (.convert 3 5 (.tmp 21)) rfl (.int .u8 (c : Nat)) (fun o' ho' => ?_) (hK _ _ rfl (Below.refl _ _) (fun h => absurd h (by decide)))
          simp only [execOp, ho', e0]
          go_simp
        · refine flow_step _ 23 rfl rfl (fun d h => by simpa using h) h1 h2 fun ac xs W he hb hS K hK => ?_
          have e0 : ac.eval (.tmp 22) = _ := (he 22).trans (hS 6 (by kernel_rfl))
          refine op_anyw (.buildSlice 70 1 #[(0, .tmp 22)]) rfl (.slice (some ⟨W.heap.size, 0, none⟩) 1 1) (W.alloc (.cells #[.int .u8 (c : Nat)] 5)) (fun o' ho' => ?_) (hK _ _ ⟨_, rfl, by simp, _, heap_alloc_new _ _⟩ ((Below.refl _ _).alloc (Nat.le_refl _) _) (fun h => absurd h (by decide)))
          have f0 : ac.tmps[22]?.getD undef = .int .u8 (c : Nat) := by rw [← Array.getD_eq_getD_getElem?]; exact e0
          clear e0
          simp only [execOp, ho']
          go_simp
        · refine flow_step _ 24 rfl rfl (fun d h => by simpa using h) h1 h2 fun ac xs W he hb hS K hK => ?_
          obtain ⟨g, s1, s2, ty, s3⟩ := hS 7 (by kernel_rfl)
          have e0 : ac.eval (.tmp 23) = _ := (he 23).trans s1
          have k0 := one_byte c HC.out W g ty s3
          refine op_any (.convert 70 9 (.tmp 23)) rfl (.string (bs [UInt8.ofNat c])) (fun o' ho' => ?_) (hK _ _ rfl (Below.refl _ _) (fun h => absurd h (by decide)))
          simp only [execOp, ho', e0]
          go_simp
        · refine flow_step _ 25 rfl rfl (fun d h => by simpa using h) h1 h2 fun ac xs W he hb hS K hK => ?_
          have k1 := FT.out
          have e0 : ac.eval (.tmp 18) = _ := (he 18).trans (hS 2 (by kernel_rfl))
          have e1 : ac.eval (.tmp 24) = _ := (he 24).trans (hS 8 (by kernel_rfl))
          refine op_any (.binOp .add 9 (.tmp 18) (.tmp 24) 9) rfl (.string T) (fun o' ho' => ?_) (hK _ _ rfl (Below.refl _ _) (fun h => absurd h (by decide)))
          simp only [execOp, ho', e0, e1]
          go_simp
          exact FS.out
      · intro xs W hb hS hD
        have s9 : xs 9 = _ := hS 9 (by decide)
        generalize xs 0 = x0 at *
        generalize xs 1 = x1 at *
        generalize xs 2 = x2 at *
        generalize xs 3 = x3 at *
        generalize xs 4 = x4 at *
        generalize xs 5 = x5 at *
        generalize xs 6 = x6 at *
        generalize xs 7 = x7 at *
        generalize xs 8 = x8 at *
        simp only [layAll, s9]
        have HBB : Hid (Below w.heap.size w W) := hb
        clear hS hD s9 hb
        go_wp2
        go_ret
        exact ⟨rfl, HBB.out⟩

set_option maxRecDepth 100000 in
theorem plain_v (n : Int) (w : World) (h0 : -9223372036854775807 ≤ n) (h1 : n ≤ 9223372036854775807) :
    Calls Tryz.prog 23 #[.int .i64 n] w fun e w' => e = .returned (.string (bs (itoaL n))) ∧ Below w.heap.size w w' := by
  by_cases h : n < 0
  · obtain ⟨m, rfl⟩ : ∃ m : Nat, n = -(m : Int) := ⟨n.natAbs, by omega⟩
    have HP : Hid (∀ W, Calls Tryz.prog 23 #[.int .i64 (m : Nat)] W fun e w' => e = .returned (.string (bs (decDigits m))) ∧ Below W.heap.size W w') := fun W => plain_nat m W (by omega)
    have k0 : IntKind.i64.wrap (- -(m : Int)) = (m : Int) := by rw [Int.neg_neg]; exact IntWalk.i64_in _ (by omega)
    obtain ⟨t, ht⟩ : ∃ t, t = bs (decDigits m) := ⟨_, rfl⟩
    have hsz : t.size ≤ 9223372036854775806 := by rw [ht]; exact dec_small m (by omega)
    have HT : Hid (ByteArray.mk #[45] ++ t = bs (itoaL (-(m : Int)))) := by
      show _ = _
      rw [ht, cons_bs]; unfold itoaL; rw [if_pos h]; congr 2; rw [Int.natAbs_neg]; rfl
    rw [← ht] at HP
    generalize bs (itoaL (-(m : Int))) = T at *
    clear ht
    go_enter Tryz.func23, Tryz.ntmps23
    go_wp2_with fail
    refine (HP.out _).mono ?_
    rintro e w' ⟨rfl, hb⟩
    have k1 := HT.out
    have HB : Hid _ := hb
    clear hb k0
    go_wp2
    go_ret
    exact ⟨rfl, HB.out⟩
  · obtain ⟨m, rfl⟩ : ∃ m : Nat, n = (m : Int) := ⟨n.toNat, by omega⟩
    have := plain_nat m w (by omega)
    have e : itoaL (m : Int) = decDigits m := by unfold itoaL; rw [if_neg h]; rfl
    rw [e]; exact this
theorem itoa_len2 (e : Int) : (itoaL e).length ≤ e.natAbs + 2 := by
  have h := dec_len e.natAbs
  unfold itoaL; split
  · simp; omega
  · omega
/-- Parse of a numeral with a point in it. -/
theorem point_call {d : Dc} (ok : d.ok) (h0 : ¬ d.s = []) (k z : Nat) (hk : k ≤ d.s.length) (hz : z ≤ 100) (pre sign : List UInt8) (letter : UInt8) (hl : letter = 101 ∨ letter = 69) (hpre : ∀ c ∈ pre, c = 48) (hp : pre.length ≤ 100)
    (hsign : sign = [] ∧ d.neg = false ∨ sign = [43] ∧ d.neg = false ∨ sign = [45] ∧ d.neg = true) (E : ByteArray) (hE : bl E = sign ++ (pre ++ (d.s.take k ++ 46 :: (d.s.drop k ++ (List.replicate z 48 ++ letter :: itoaL (d.e + d.s.length - k)))))) (W : World) :
    Calls Tryz.prog 19 #[.string E] W fun e w' => e = .returned (.tuple #[.agg #[.bool d.neg, .string (bs d.s), .int .i64 d.e], .int .i64 0]) ∧ Below W.heap.size W w' := by
  have h1 := ok_len ok
  have h2 := ok_exp ok
  have h3 := itoa_len2 (d.e + d.s.length - k)
  have h4 : sign.length ≤ 1 := by rcases hsign with ⟨h, -⟩ | ⟨h, -⟩ | ⟨h, -⟩ <;> rw [h] <;> decide
  have hsz : E.size ≤ 70368744177664 := by
    rw [← bl_len, hE]
    simp only [List.length_append, List.length_cons, List.length_take, List.length_drop, List.length_replicate]
    omega
  have := dparse_any E W hsz
  rw [hE, read_point ok h0 k z hk pre sign letter hl hpre hsign] at this
  exact this
end Go.Proofs.YtpfnfhikhlceoaaGreatDoor
