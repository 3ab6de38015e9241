/- Parts Gz, Ha of the proof, in one text. -/
import Derived.Test.YtpfnfhikhlceoaaGreatDoorRX

/- Walks: the document's answer: noughts, more. -/
namespace Go.Proofs.YtpfnfhikhlceoaaGreatDoor
open Go.RowKit

theorem mk_bytes2 (k : Nat) (w : World) (hk : k ≤ 1000000) : (Instr.makeSlice 70 (.int .i64 k) (.int .i64 k)).run Tryz.prog w = .ok (.slice (some ⟨w.heap.size, 0, none⟩) k k) (w.alloc (.cells (Array.replicate k (.int .u8 0)) 5)) := by
  have hi : (Tryz.prog.info? 5).map (fun i => (i.zero, i.size, i.bytes)) = some (some (.int .u8 0), 1, 1) := by kernel_rfl
  obtain ⟨i, h1, h2⟩ := Option.map_eq_some_iff.1 hi
  obtain ⟨h2, h3, h4⟩ : i.zero = some (.int .u8 0) ∧ i.size = 1 ∧ i.bytes = 1 := by
    simp only [Prod.mk.injEq] at h2; exact ⟨h2.1, h2.2.1, h2.2.2⟩
  have := run_makeSlice (P := Tryz.prog) w 70 5 i (.int .u8 0) Tryz.underlying70 h1 h2 .i64 .i64 k k (by omega) (by omega) (by rw [h3]; omega) (by rw [h4]; omega) (by omega)
  rw [this, h3]
  have e : madeCells (Value.int IntKind.u8 0).cells ((k : Int).toNat * 1) = Array.replicate k (.int .u8 0) := by
    apply Array.ext
    · simp [madeCells]
    · intro j h1 h2
      simp [madeCells, Value.cells, Nat.mod_one]
  rw [e]; rfl
theorem all_nought {zs : List Nat} {n : Nat} (hl : zs.length = n) (h : ∀ p, p < n → zs.getD p 0 = 48) : bytesN zs = List.replicate n 48 := by
  refine List.ext_getElem (by rw [bytesN_len, hl, List.length_replicate]) fun j h1 h2 => ?_
  rw [List.getElem_replicate]
  have e := h j (by rw [bytesN_len] at h1; omega)
  have hg := bytesN_get zs j h1 (by rw [e]; decide)
  rw [e] at hg
  exact UInt8.toNat_inj.1 hg
set_option maxRecDepth 100000 in
theorem rnoughts_v (n : Nat) (w : World) (hn : n ≤ 1000000) : Calls Tryz.prog 121 #[.int .i64 (n : Nat)] w fun e w' => e = .returned (.string (bs (List.replicate n 48))) ∧ Below w.heap.size w w' := by
  have hmk := mk_bytes2 n w hn
  obtain ⟨T, hT⟩ : ∃ T, T = bs (List.replicate n 48) := ⟨_, rfl⟩
  rw [← hT]
  have HT : Hid (T = bs (List.replicate n 48)) := hT
  clear hT
  go_enter Tryz.func121, Tryz.ntmps121
  go_upto_region 3 with fail
  have HO1 : Hid _ := own_bytes n w (by omega) 5
  have HB1 : Hid _ := (Below.refl w.heap.size w).alloc (Nat.le_refl _) (.cells (Array.replicate n (.int .u8 0)) 5)
  obtain ⟨w1, hw1⟩ : ∃ w1, w1 = w.alloc (.cells (Array.replicate n (.int .u8 0)) 5) := ⟨_, rfl⟩
  rw [← hw1] at HO1 HB1 ⊢
  clear hw1 hmk
  go_loopw [4] (fun iv wr => ∃ (i : Nat) (zs : List Nat), i ≤ n ∧ iv = .int .i64 (i : Nat) ∧ OwnW .u8 5 wr w.heap.size n zs ∧ (∀ p, p < i → zs.getD p 0 = 48) ∧ Below w.heap.size w wr) (fun iv _ => n - (intOf iv).toNat)
  case atStart => exact ⟨0, _, Nat.zero_le _, rfl, HO1.out, fun p hp => absurd hp (Nat.not_lt_zero _), HB1.out⟩
  case round =>
    obtain ⟨i, zs, hi, rfl, ho, hz, hb⟩ := hrel
    have HO : Hid (OwnW .u8 5 wr w.heap.size n zs) := ho
    have HZ : Hid (∀ p, p < i → zs.getD p 0 = 48) := hz
    have HB : Hid (Below w.heap.size w wr) := hb
    clear ho hz hb
    by_cases hin : i < n
    · have c1 := HO.out.cell hin
      have f1 := HO.out.frozen i
      go_wp2_with fail
      refine ⟨⟨i + 1, zs.set i 48, by omega, rfl, HO.out.set _ _, fun p hp => ?_, HB.out.setCell (Nat.le_refl _) _⟩, by simp [intOf]; omega⟩
      by_cases e : p = i
      · subst e; exact getD_set_same (by rw [HO.out.length]; exact hin)
      · rw [getD_set_other e]; exact HZ.out p (by omega)
    · have hi2 : n = i := by omega
      subst hi2
      have hpd := all_nought HO.out.length HZ.out
      have CV := text_own HO.out (fun m hm => by rw [HZ.out m hm]; decide)
      rw [hpd, ← HT.out] at CV
      clear hpd
      go_wp2_with fail
      go_ret
      exact ⟨rfl, HB.out⟩

theorem bare_len_low {B L : Nat} (h : L < (bareD B).length) : 10 ^ L ≤ B := by
  rcases Nat.lt_or_ge B (10 ^ L) with g | g
  · have := bare_len_le B L g; omega
  · exact g
theorem bare_shorter {A B : Nat} (h : (bareD A).length < (bareD B).length) : A < B := by
  have h1 := bare_len_low h
  have h2 := dval_lt _ (bare_all A)
  rw [dval_bare] at h2
  omega
set_option maxRecDepth 100000 in
theorem rmore_v (A B : Nat) (w : World) (hA : (bareD A).length ≤ 1000000) (hB : (bareD B).length ≤ 1000000) :
    Calls Tryz.prog 100 #[.string (bs (bareD A)), .string (bs (bareD B))] w fun e w' => e = .returned (.int .i64 (if A = B then 0 else if A < B then -1 else 1)) ∧ Below w.heap.size w w' := by
  obtain ⟨s, hs⟩ : ∃ s, s = bs (bareD A) := ⟨_, rfl⟩
  obtain ⟨t, ht⟩ : ∃ t, t = bs (bareD B) := ⟨_, rfl⟩
  rw [← hs, ← ht]
  have hsl : s.size = (bareD A).length := by rw [hs]; rfl
  have htl : t.size = (bareD B).length := by rw [ht]; rfl
  have hss : s.size ≤ 1000000 := by omega
  have hts : t.size ≤ 1000000 := by omega
  have HBL : Hid (bl s = bareD A ∧ bl t = bareD B) := by rw [hs, ht]; exact ⟨rfl, rfl⟩
  obtain ⟨r, hr⟩ : ∃ r : Int, r = if A = B then 0 else if A < B then -1 else 1 := ⟨_, rfl⟩
  rw [← hr]
  have HR : Hid (r = if A = B then 0 else if A < B then -1 else 1) := hr
  rcases Nat.lt_trichotomy s.size t.size with g | g | g
  · have hab := bare_shorter (A := A) (B := B) (by omega)
    obtain rfl : r = -1 := by rw [hr, if_neg (by omega), if_pos hab]
    have n1 : ((s.size : Int) == t.size) = false := by rw [beq_eq_false_iff_ne]; omega
    have n2 : ¬ (t.size : Int) < s.size := by omega
    clear hs ht hsl htl hr hab HR
    go_enter Tryz.func100, Tryz.ntmps100
    go_wp2
    go_ret
    exact ⟨rfl, Below.refl _ _⟩
  · have HEQ : Hid (s.size = t.size) := g
    have n1 : ((s.size : Int) == t.size) = true := by rw [beq_iff_eq]; omega
    clear hs ht hsl htl hr
    go_enter Tryz.func100, Tryz.ntmps100
    go_upto_region 6 with fail
    go_loopw [5] (fun iv wr => ∃ q : Nat, q ≤ s.size ∧ iv = .int .i64 (q : Nat) ∧ (bl s).take q = (bl t).take q ∧ Below w.heap.size w wr) (fun iv _ => s.size - (intOf iv).toNat)
    case atStart => exact ⟨0, Nat.zero_le _, rfl, rfl, Below.refl _ _⟩
    case round =>
      obtain ⟨q, hq, rfl, htk, hb⟩ := hrel
      have HTK : Hid ((bl s).take q = (bl t).take q) := htk
      have HB : Hid (Below w.heap.size w wr) := hb
      clear htk hb
      by_cases hqs : q < s.size
      · have hqt : q < t.size := by have := HEQ.out; omega
        obtain ⟨x, hx⟩ : ∃ x, x = (s[q]'hqs).toNat := ⟨_, rfl⟩
        obtain ⟨y, hy⟩ : ∃ y, y = (t[q]'hqt).toNat := ⟨_, rfl⟩
        have FX : Hid (((s[q]'hqs).toNat : Int) = x) := by show _ = _; rw [hx]
        have FY : Hid (((t[q]'hqt).toNat : Int) = y) := by show _ = _; rw [hy]
        clear hx hy
        rcases Nat.lt_trichotomy x y with hxy | hxy | hxy
        · go_upto_region 8 with fail
          have exy : ((x : Int) == y) = false := by rw [beq_eq_false_iff_ne]; omega
          have e2 : ¬ (y : Int) < x := by omega
          have HAB : Hid (r = -1) := by
            have h1 := less_at (a := bl s) (b := bl t) (by rw [HBL.out.1]; exact bare_all A) (by rw [HBL.out.2]; exact bare_all B) HEQ.out q hqs HTK.out (by have h5 := FX.out; have h6 := FY.out; show (s[q]'hqs).toNat < (t[q]'hqt).toNat; omega)
            rw [HBL.out.1, HBL.out.2, dval_bare, dval_bare] at h1
            show _ = _
            rw [HR.out, if_neg (by omega), if_pos h1]
          clear hxy
          have h1 : once [(22, 0), (23, 1), (24, 2), (25, 3), (26, 4), (27, 5)] = true := by kernel_rfl
          have h2 : within [(22, 0), (23, 1), (24, 2), (25, 3), (26, 4), (27, 5)] 36 = true := by kernel_rfl
          refine wp_region_flow 6 7 [(22, 0), (23, 1), (24, 2), (25, 3), (26, 4), (27, 5)] [] (fun i v W => match i with
            | 0 => v = .string s
            | 1 => v = .int .i64 (q : Nat)
            | 2 => v = .int .u8 x
            | 3 => v = .string t
            | 4 => v = .int .i64 (q : Nat)
            | _ => v = .int .u8 y) wr.heap.size (Nat.le_refl _) (by kernel_rfl) (by kernel_rfl) (by kernel_rfl) (by decide) (by kernel_rfl) h1 (by kernel_rfl) ?_ ?_ ?_ ?_
          · intro j v W W' h hb
            match j, h with
            | 0, h => exact h
            | 1, h => exact h
            | 2, h => exact h
            | 3, h => exact h
            | 4, h => exact h
            | _ + 5, h => exact h
          · exact fun j hj => by cases hj
          · refine ⟨⟨⟨⟨⟨⟨trivial, ?_⟩, ?_⟩, ?_⟩, ?_⟩, ?_⟩, ?_⟩
            · refine flow_step _ 22 rfl rfl (fun d h => by simpa using h) h1 h2 fun ac xs W he hb hS K hK => ?_
              exact op_move (.tmp 0) (.inl rfl) (hK _ _ (he 0) (Below.refl _ _) (fun h => absurd h (by decide)))
            · refine flow_step _ 23 rfl rfl (fun d h => by simpa using h) h1 h2 fun ac xs W he hb hS K hK => ?_
              exact op_move (.tmp 5) (.inl rfl) (hK _ _ (he 5) (Below.refl _ _) (fun h => absurd h (by decide)))
            · refine flow_step _ 24 rfl rfl (fun d h => by simpa using h) h1 h2 fun ac xs W he hb hS K hK => ?_
              have e0 : ac.eval (.tmp 22) = _ := (he 22).trans (hS 0 (by kernel_rfl))
              refine op_any (.index 9 (.tmp 22) (.tmp 23)) rfl (.int .u8 x) (fun o' ho' => ?_) (hK _ _ rfl (Below.refl _ _) (fun h => absurd h (by decide)))
              simp only [execOp, ho', e0]
              have f1 : ac.tmps[23]?.getD undef = .int .i64 (q : Nat) := by rw [← Array.getD_eq_getD_getElem?]; exact (he 23).trans (hS 1 (by kernel_rfl))
              have k0 := FX.out
              go_simp
            · refine flow_step _ 25 rfl rfl (fun d h => by simpa using h) h1 h2 fun ac xs W he hb hS K hK => ?_
              exact op_move (.tmp 1) (.inl rfl) (hK _ _ (he 1) (Below.refl _ _) (fun h => absurd h (by decide)))
            · refine flow_step _ 26 rfl rfl (fun d h => by simpa using h) h1 h2 fun ac xs W he hb hS K hK => ?_
              exact op_move (.tmp 5) (.inl rfl) (hK _ _ (he 5) (Below.refl _ _) (fun h => absurd h (by decide)))
            · refine flow_step _ 27 rfl rfl (fun d h => by simpa using h) h1 h2 fun ac xs W he hb hS K hK => ?_
              have e0 : ac.eval (.tmp 25) = _ := (he 25).trans (hS 3 (by kernel_rfl))
              refine op_any (.index 9 (.tmp 25) (.tmp 26)) rfl (.int .u8 y) (fun o' ho' => ?_) (hK _ _ rfl (Below.refl _ _) (fun h => absurd h (by decide)))
              simp only [execOp, ho', e0]
              have f1 : ac.tmps[26]?.getD undef = .int .i64 (q : Nat) := by rw [← Array.getD_eq_getD_getElem?]; exact (he 26).trans (hS 4 (by kernel_rfl))
              have k0 := FY.out
              go_simp
          · intro xs w8 hb hS hD
            have s2 : xs 2 = _ := hS 2 (by decide)
            have s5 : xs 5 = _ := hS 5 (by decide)
            generalize xs 0 = x0 at *
            generalize xs 1 = x1 at *
            generalize xs 3 = x3 at *
            generalize xs 4 = x4 at *
            simp only [layAll, s2, s5]
            have HB8 : Hid (Below w.heap.size w w8) := HB.out.thru hb
            clear hS hD s2 s5 hb
            go_upto_region 9 with fail
            have h1 : once [(29, 0), (30, 1), (31, 2), (32, 3), (33, 4), (34, 5)] = true := by kernel_rfl
            have h2 : within [(29, 0), (30, 1), (31, 2), (32, 3), (33, 4), (34, 5)] 36 = true := by kernel_rfl
            refine wp_region_flow 6 7 [(29, 0), (30, 1), (31, 2), (32, 3), (33, 4), (34, 5)] [] (fun i v W => match i with
              | 0 => v = .string s
              | 1 => v = .int .i64 (q : Nat)
              | 2 => v = .int .u8 x
              | 3 => v = .string t
              | 4 => v = .int .i64 (q : Nat)
              | _ => v = .int .u8 y) w8.heap.size (Nat.le_refl _) (by kernel_rfl) (by kernel_rfl) (by kernel_rfl) (by decide) (by kernel_rfl) h1 (by kernel_rfl) ?_ ?_ ?_ ?_
            · intro j v W W' h hb
              match j, h with
              | 0, h => exact h
              | 1, h => exact h
              | 2, h => exact h
              | 3, h => exact h
              | 4, h => exact h
              | _ + 5, h => exact h
            · exact fun j hj => by cases hj
            · refine ⟨⟨⟨⟨⟨⟨trivial, ?_⟩, ?_⟩, ?_⟩, ?_⟩, ?_⟩, ?_⟩
              · refine flow_step _ 29 rfl rfl (fun d h => by simpa using h) h1 h2 fun ac xs W he hb hS K hK => ?_
                exact op_move (.tmp 0) (.inl rfl) (hK _ _ (he 0) (Below.refl _ _) (fun h => absurd h (by decide)))
              · refine flow_step _ 30 rfl rfl (fun d h => by simpa using h) h1 h2 fun ac xs W he hb hS K hK => ?_
                exact op_move (.tmp 5) (.inl rfl) (hK _ _ (he 5) (Below.refl _ _) (fun h => absurd h (by decide)))
              · refine flow_step _ 31 rfl rfl (fun d h => by simpa using h) h1 h2 fun ac xs W he hb hS K hK => ?_
                have e0 : ac.eval (.tmp 29) = _ := (he 29).trans (hS 0 (by kernel_rfl))
                refine op_any (.index 9 (.tmp 29) (.tmp 30)) rfl (.int .u8 x) (fun o' ho' => ?_) (hK _ _ rfl (Below.refl _ _) (fun h => absurd h (by decide)))
                simp only [execOp, ho', e0]
                have f1 : ac.tmps[30]?.getD undef = .int .i64 (q : Nat) := by rw [← Array.getD_eq_getD_getElem?]; exact (he 30).trans (hS 1 (by kernel_rfl))
                have k0 := FX.out
                go_simp
              · refine flow_step _ 32 rfl rfl (fun d h => by simpa using h) h1 h2 fun ac xs W he hb hS K hK => ?_
                exact op_move (.tmp 1) (.inl rfl) (hK _ _ (he 1) (Below.refl _ _) (fun h => absurd h (by decide)))
              · refine flow_step _ 33 rfl rfl (fun d h => by simpa using h) h1 h2 fun ac xs W he hb hS K hK => ?_
                exact op_move (.tmp 5) (.inl rfl) (hK _ _ (he 5) (Below.refl _ _) (fun h => absurd h (by decide)))
              · refine flow_step _ 34 rfl rfl (fun d h => by simpa using h) h1 h2 fun ac xs W he hb hS K hK => ?_
                have e0 : ac.eval (.tmp 32) = _ := (he 32).trans (hS 3 (by kernel_rfl))
                refine op_any (.index 9 (.tmp 32) (.tmp 33)) rfl (.int .u8 y) (fun o' ho' => ?_) (hK _ _ rfl (Below.refl _ _) (fun h => absurd h (by decide)))
                simp only [execOp, ho', e0]
                have f1 : ac.tmps[33]?.getD undef = .int .i64 (q : Nat) := by rw [← Array.getD_eq_getD_getElem?]; exact (he 33).trans (hS 4 (by kernel_rfl))
                have k0 := FY.out
                go_simp
            · intro xs w9 hb hS hD
              have s2 : xs 2 = _ := hS 2 (by decide)
              have s5 : xs 5 = _ := hS 5 (by decide)
              generalize xs 0 = x0 at *
              generalize xs 1 = x1 at *
              generalize xs 3 = x3 at *
              generalize xs 4 = x4 at *
              simp only [layAll, s2, s5]
              have HB9 : Hid (Below w.heap.size w w9) := HB8.out.thru hb
              clear hS hD s2 s5 hb
              go_wp2_with fail
              go_ret
              refine ⟨?_, HB9.out⟩
              rw [HAB.out]; rfl
        · go_upto_region 8 with fail
          have exy : ((x : Int) == y) = true := by rw [beq_iff_eq]; omega
          have HXY : Hid (x = y) := hxy
          clear hxy
          have h1 : once [(22, 0), (23, 1), (24, 2), (25, 3), (26, 4), (27, 5)] = true := by kernel_rfl
          have h2 : within [(22, 0), (23, 1), (24, 2), (25, 3), (26, 4), (27, 5)] 36 = true := by kernel_rfl
          refine wp_region_flow 6 7 [(22, 0), (23, 1), (24, 2), (25, 3), (26, 4), (27, 5)] [] (fun i v W => match i with
            | 0 => v = .string s
            | 1 => v = .int .i64 (q : Nat)
            | 2 => v = .int .u8 x
            | 3 => v = .string t
            | 4 => v = .int .i64 (q : Nat)
            | _ => v = .int .u8 y) wr.heap.size (Nat.le_refl _) (by kernel_rfl) (by kernel_rfl) (by kernel_rfl) (by decide) (by kernel_rfl) h1 (by kernel_rfl) ?_ ?_ ?_ ?_
          · intro j v W W' h hb
            match j, h with
            | 0, h => exact h
            | 1, h => exact h
            | 2, h => exact h
            | 3, h => exact h
            | 4, h => exact h
            | _ + 5, h => exact h
          · exact fun j hj => by cases hj
          · refine ⟨⟨⟨⟨⟨⟨trivial, ?_⟩, ?_⟩, ?_⟩, ?_⟩, ?_⟩, ?_⟩
            · refine flow_step _ 22 rfl rfl (fun d h => by simpa using h) h1 h2 fun ac xs W he hb hS K hK => ?_
              exact op_move (.tmp 0) (.inl rfl) (hK _ _ (he 0) (Below.refl _ _) (fun h => absurd h (by decide)))
            · refine flow_step _ 23 rfl rfl (fun d h => by simpa using h) h1 h2 fun ac xs W he hb hS K hK => ?_
              exact op_move (.tmp 5) (.inl rfl) (hK _ _ (he 5) (Below.refl _ _) (fun h => absurd h (by decide)))
            · refine flow_step _ 24 rfl rfl (fun d h => by simpa using h) h1 h2 fun ac xs W he hb hS K hK => ?_
              have e0 : ac.eval (.tmp 22) = _ := (he 22).trans (hS 0 (by kernel_rfl))
              refine op_any (.index 9 (.tmp 22) (.tmp 23)) rfl (.int .u8 x) (fun o' ho' => ?_) (hK _ _ rfl (Below.refl _ _) (fun h => absurd h (by decide)))
              simp only [execOp, ho', e0]
              have f1 : ac.tmps[23]?.getD undef = .int .i64 (q : Nat) := by rw [← Array.getD_eq_getD_getElem?]; exact (he 23).trans (hS 1 (by kernel_rfl))
              have k0 := FX.out
              go_simp
            · refine flow_step _ 25 rfl rfl (fun d h => by simpa using h) h1 h2 fun ac xs W he hb hS K hK => ?_
              exact op_move (.tmp 1) (.inl rfl) (hK _ _ (he 1) (Below.refl _ _) (fun h => absurd h (by decide)))
            · refine flow_step _ 26 rfl rfl (fun d h => by simpa using h) h1 h2 fun ac xs W he hb hS K hK => ?_
              exact op_move (.tmp 5) (.inl rfl) (hK _ _ (he 5) (Below.refl _ _) (fun h => absurd h (by decide)))
            · refine flow_step _ 27 rfl rfl (fun d h => by simpa using h) h1 h2 fun ac xs W he hb hS K hK => ?_
              have e0 : ac.eval (.tmp 25) = _ := (he 25).trans (hS 3 (by kernel_rfl))
              refine op_any (.index 9 (.tmp 25) (.tmp 26)) rfl (.int .u8 y) (fun o' ho' => ?_) (hK _ _ rfl (Below.refl _ _) (fun h => absurd h (by decide)))
              simp only [execOp, ho', e0]
              have f1 : ac.tmps[26]?.getD undef = .int .i64 (q : Nat) := by rw [← Array.getD_eq_getD_getElem?]; exact (he 26).trans (hS 4 (by kernel_rfl))
              have k0 := FY.out
              go_simp
          · intro xs w8 hb hS hD
            have s2 : xs 2 = _ := hS 2 (by decide)
            have s5 : xs 5 = _ := hS 5 (by decide)
            generalize xs 0 = x0 at *
            generalize xs 1 = x1 at *
            generalize xs 3 = x3 at *
            generalize xs 4 = x4 at *
            simp only [layAll, s2, s5]
            have HB8 : Hid (Below w.heap.size w w8) := HB.out.thru hb
            clear hS hD s2 s5 hb
            go_wp2_with fail
            go_roundw
            case rel =>
              refine ⟨q + 1, by omega, by go_num, ?_, HB8.out⟩
              rw [List.take_succ_eq_append_getElem (by rw [bl_len]; exact hqs), List.take_succ_eq_append_getElem (by rw [bl_len]; exact hqt), HTK.out]
              congr 2
              have h1 : (s[q]'hqs) = (t[q]'hqt) := UInt8.toNat_inj.1 (by have := FX.out; have := FY.out; have := HXY.out; omega)
              exact h1
            case measure => simp [intOf]; omega
        · go_upto_region 8 with fail
          have exy : ((x : Int) == y) = false := by rw [beq_eq_false_iff_ne]; omega
          have e2 : (y : Int) < x := by omega
          have HAB : Hid (r = 1) := by
            have h1 := less_at (a := bl t) (b := bl s) (by rw [HBL.out.2]; exact bare_all B) (by rw [HBL.out.1]; exact bare_all A) HEQ.out.symm q hqt HTK.out.symm (by have h5 := FX.out; have h6 := FY.out; show (t[q]'hqt).toNat < (s[q]'hqs).toNat; omega)
            rw [HBL.out.1, HBL.out.2, dval_bare, dval_bare] at h1
            show _ = _
            rw [HR.out, if_neg (by omega), if_neg (by omega)]
          clear hxy
          have h1 : once [(22, 0), (23, 1), (24, 2), (25, 3), (26, 4), (27, 5)] = true := by kernel_rfl
          have h2 : within [(22, 0), (23, 1), (24, 2), (25, 3), (26, 4), (27, 5)] 36 = true := by kernel_rfl
          refine wp_region_flow 6 7 [(22, 0), (23, 1), (24, 2), (25, 3), (26, 4), (27, 5)] [] (fun i v W => match i with
            | 0 => v = .string s
            | 1 => v = .int .i64 (q : Nat)
            | 2 => v = .int .u8 x
            | 3 => v = .string t
            | 4 => v = .int .i64 (q : Nat)
            | _ => v = .int .u8 y) wr.heap.size (Nat.le_refl _) (by kernel_rfl) (by kernel_rfl) (by kernel_rfl) (by decide) (by kernel_rfl) h1 (by kernel_rfl) ?_ ?_ ?_ ?_
          · intro j v W W' h hb
            match j, h with
            | 0, h => exact h
            | 1, h => exact h
            | 2, h => exact h
            | 3, h => exact h
            | 4, h => exact h
            | _ + 5, h => exact h
          · exact fun j hj => by cases hj
          · refine ⟨⟨⟨⟨⟨⟨trivial, ?_⟩, ?_⟩, ?_⟩, ?_⟩, ?_⟩, ?_⟩
            · refine flow_step _ 22 rfl rfl (fun d h => by simpa using h) h1 h2 fun ac xs W he hb hS K hK => ?_
              exact op_move (.tmp 0) (.inl rfl) (hK _ _ (he 0) (Below.refl _ _) (fun h => absurd h (by decide)))
            · refine flow_step _ 23 rfl rfl (fun d h => by simpa using h) h1 h2 fun ac xs W he hb hS K hK => ?_
              exact op_move (.tmp 5) (.inl rfl) (hK _ _ (he 5) (Below.refl _ _) (fun h => absurd h (by decide)))
            · refine flow_step _ 24 rfl rfl (fun d h => by simpa using h) h1 h2 fun ac xs W he hb hS K hK => ?_
              have e0 : ac.eval (.tmp 22) = _ := (he 22).trans (hS 0 (by kernel_rfl))
              refine op_any (.index 9 (.tmp 22) (.tmp 23)) rfl (.int .u8 x) (fun o' ho' => ?_) (hK _ _ rfl (Below.refl _ _) (fun h => absurd h (by decide)))
              simp only [execOp, ho', e0]
              have f1 : ac.tmps[23]?.getD undef = .int .i64 (q : Nat) := by rw [← Array.getD_eq_getD_getElem?]; exact (he 23).trans (hS 1 (by kernel_rfl))
              have k0 := FX.out
              go_simp
            · refine flow_step _ 25 rfl rfl (fun d h => by simpa using h) h1 h2 fun ac xs W he hb hS K hK => ?_
              exact op_move (.tmp 1) (.inl rfl) (hK _ _ (he 1) (Below.refl _ _) (fun h => absurd h (by decide)))
            · refine flow_step _ 26 rfl rfl (fun d h => by simpa using h) h1 h2 fun ac xs W he hb hS K hK => ?_
              exact op_move (.tmp 5) (.inl rfl) (hK _ _ (he 5) (Below.refl _ _) (fun h => absurd h (by decide)))
            · refine flow_step _ 27 rfl rfl (fun d h => by simpa using h) h1 h2 fun ac xs W he hb hS K hK => ?_
              have e0 : ac.eval (.tmp 25) = _ := (he 25).trans (hS 3 (by kernel_rfl))
              refine op_any (.index 9 (.tmp 25) (.tmp 26)) rfl (.int .u8 y) (fun o' ho' => ?_) (hK _ _ rfl (Below.refl _ _) (fun h => absurd h (by decide)))
              simp only [execOp, ho', e0]
              have f1 : ac.tmps[26]?.getD undef = .int .i64 (q : Nat) := by rw [← Array.getD_eq_getD_getElem?]; exact (he 26).trans (hS 4 (by kernel_rfl))
              have k0 := FY.out
              go_simp
          · intro xs w8 hb hS hD
            have s2 : xs 2 = _ := hS 2 (by decide)
            have s5 : xs 5 = _ := hS 5 (by decide)
            generalize xs 0 = x0 at *
            generalize xs 1 = x1 at *
            generalize xs 3 = x3 at *
            generalize xs 4 = x4 at *
            simp only [layAll, s2, s5]
            have HB8 : Hid (Below w.heap.size w w8) := HB.out.thru hb
            clear hS hD s2 s5 hb
            go_upto_region 9 with fail
            have h1 : once [(29, 0), (30, 1), (31, 2), (32, 3), (33, 4), (34, 5)] = true := by kernel_rfl
            have h2 : within [(29, 0), (30, 1), (31, 2), (32, 3), (33, 4), (34, 5)] 36 = true := by kernel_rfl
            refine wp_region_flow 6 7 [(29, 0), (30, 1), (31, 2), (32, 3), (33, 4), (34, 5)] [] (fun i v W => match i with
              | 0 => v = .string s
              | 1 => v = .int .i64 (q : Nat)
              | 2 => v = .int .u8 x
              | 3 => v = .string t
              | 4 => v = .int .i64 (q : Nat)
              | _ => v = .int .u8 y) w8.heap.size (Nat.le_refl _) (by kernel_rfl) (by kernel_rfl) (by kernel_rfl) (by decide) (by kernel_rfl) h1 (by kernel_rfl) ?_ ?_ ?_ ?_
            · intro j v W W' h hb
              match j, h with
              | 0, h => exact h
              | 1, h => exact h
              | 2, h => exact h
              | 3, h => exact h
              | 4, h => exact h
              | _ + 5, h => exact h
            · exact fun j hj => by cases hj
            · refine ⟨⟨⟨⟨⟨⟨trivial, ?_⟩, ?_⟩, ?_⟩, ?_⟩, ?_⟩, ?_⟩
              · refine flow_step _ 29 rfl rfl (fun d h => by simpa using h) h1 h2 fun ac xs W he hb hS K hK => ?_
                exact op_move (.tmp 0) (.inl rfl) (hK _ _ (he 0) (Below.refl _ _) (fun h => absurd h (by decide)))
              · refine flow_step _ 30 rfl rfl (fun d h => by simpa using h) h1 h2 fun ac xs W he hb hS K hK => ?_
                exact op_move (.tmp 5) (.inl rfl) (hK _ _ (he 5) (Below.refl _ _) (fun h => absurd h (by decide)))
              · refine flow_step _ 31 rfl rfl (fun d h => by simpa using h) h1 h2 fun ac xs W he hb hS K hK => ?_
                have e0 : ac.eval (.tmp 29) = _ := (he 29).trans (hS 0 (by kernel_rfl))
                refine op_any (.index 9 (.tmp 29) (.tmp 30)) rfl (.int .u8 x) (fun o' ho' => ?_) (hK _ _ rfl (Below.refl _ _) (fun h => absurd h (by decide)))
                simp only [execOp, ho', e0]
                have f1 : ac.tmps[30]?.getD undef = .int .i64 (q : Nat) := by rw [← Array.getD_eq_getD_getElem?]; exact (he 30).trans (hS 1 (by kernel_rfl))
                have k0 := FX.out
                go_simp
              · refine flow_step _ 32 rfl rfl (fun d h => by simpa using h) h1 h2 fun ac xs W he hb hS K hK => ?_
                exact op_move (.tmp 1) (.inl rfl) (hK _ _ (he 1) (Below.refl _ _) (fun h => absurd h (by decide)))
              · refine flow_step _ 33 rfl rfl (fun d h => by simpa using h) h1 h2 fun ac xs W he hb hS K hK => ?_
                exact op_move (.tmp 5) (.inl rfl) (hK _ _ (he 5) (Below.refl _ _) (fun h => absurd h (by decide)))
              · refine flow_step _ 34 rfl rfl (fun d h => by simpa using h) h1 h2 fun ac xs W he hb hS K hK => ?_
                have e0 : ac.eval (.tmp 32) = _ := (he 32).trans (hS 3 (by kernel_rfl))
                refine op_any (.index 9 (.tmp 32) (.tmp 33)) rfl (.int .u8 y) (fun o' ho' => ?_) (hK _ _ rfl (Below.refl _ _) (fun h => absurd h (by decide)))
                simp only [execOp, ho', e0]
                have f1 : ac.tmps[33]?.getD undef = .int .i64 (q : Nat) := by rw [← Array.getD_eq_getD_getElem?]; exact (he 33).trans (hS 4 (by kernel_rfl))
                have k0 := FY.out
                go_simp
            · intro xs w9 hb hS hD
              have s2 : xs 2 = _ := hS 2 (by decide)
              have s5 : xs 5 = _ := hS 5 (by decide)
              generalize xs 0 = x0 at *
              generalize xs 1 = x1 at *
              generalize xs 3 = x3 at *
              generalize xs 4 = x4 at *
              simp only [layAll, s2, s5]
              have HB9 : Hid (Below w.heap.size w w9) := HB8.out.thru hb
              clear hS hD s2 s5 hb
              go_wp2_with fail
              go_ret
              refine ⟨?_, HB9.out⟩
              rw [HAB.out]; rfl
      · have hq2 : (bl s) = (bl t) := by
          have h1 := HTK.out
          rw [List.take_of_length_le (by rw [bl_len]; omega), List.take_of_length_le (by rw [bl_len]; have := HEQ.out; omega)] at h1
          exact h1
        have HAB : Hid (r = 0) := by
          have : A = B := by rw [← dval_bare A, ← dval_bare B, ← HBL.out.1, ← HBL.out.2, hq2]
          show _ = _
          rw [HR.out, if_pos this]
        clear hq2
        go_wp2_with fail
        go_ret
        refine ⟨?_, HB.out⟩
        rw [HAB.out]; rfl
  · have hab := bare_shorter (A := B) (B := A) (by omega)
    obtain rfl : r = 1 := by rw [hr, if_neg (by omega), if_neg (by omega)]
    have n1 : ((s.size : Int) == t.size) = false := by rw [beq_eq_false_iff_ne]; omega
    have n2 : (t.size : Int) < s.size := by omega
    clear hs ht hsl htl hr hab HR
    go_enter Tryz.func100, Tryz.ntmps100
    go_wp2
    go_ret
    exact ⟨rfl, Below.refl _ _⟩
end Go.Proofs.YtpfnfhikhlceoaaGreatDoor

/- Walks: the document's answer: plus. -/
namespace Go.Proofs.YtpfnfhikhlceoaaGreatDoor
open Go.RowKit

theorem sum_carry (X Y i : Nat) : (X % 10 ^ i + Y % 10 ^ i) / 10 ^ i ≤ 1 := by
  have hp : 0 < 10 ^ i := Nat.pow_pos (by decide)
  have h1 := Nat.mod_lt X hp
  have h2 := Nat.mod_lt Y hp
  have : (X % 10 ^ i + Y % 10 ^ i) / 10 ^ i < 2 := (Nat.div_lt_iff_lt_mul hp).2 (by omega)
  omega

set_option maxHeartbeats 2000000 in
set_option maxRecDepth 100000 in
theorem rplus_v (s t : ByteArray) (w : World) (hd : allDig (bl s)) (he : allDig (bl t)) (hs : s.size ≤ 100000) (ht : t.size ≤ 100000) :
    Calls Tryz.prog 99 #[.string s, .string t] w fun e w' => e = .returned (.string (bs (bareD (dval (bl s) + dval (bl t))))) ∧ Below w.heap.size w w' := by
  obtain ⟨X, hX⟩ : ∃ X, X = dval (bl s) := ⟨_, rfl⟩
  obtain ⟨Y, hY⟩ : ∃ Y, Y = dval (bl t) := ⟨_, rfl⟩
  rw [← hX, ← hY]
  have HDX : Hid (∀ j (h : j < s.size), (s[s.size - 1 - j]'(by omega)).toNat = 48 + dg X j) := fun j h => by
    have := dg_of (bl s) hd j (by rw [bl_len]; exact h)
    rw [← hX] at this; exact this
  have HDY : Hid (∀ j (h : j < t.size), (t[t.size - 1 - j]'(by omega)).toNat = 48 + dg Y j) := fun j h => by
    have := dg_of (bl t) he j (by rw [bl_len]; exact h)
    rw [← hY] at this; exact this
  have HX0 : Hid (X < 10 ^ s.size) := by
    have h1 := dval_lt _ hd
    rw [← hX, bl_len] at h1; exact h1
  have HY0 : Hid (Y < 10 ^ t.size) := by
    have h1 := dval_lt _ he
    rw [← hY, bl_len] at h1; exact h1
  obtain ⟨T, hT⟩ : ∃ T, T = bs (bareD (X + Y)) := ⟨_, rfl⟩
  rw [← hT]
  have HT : Hid (T = bs (bareD (X + Y))) := hT
  clear hX hY hd he hT
  go_enter Tryz.func99, Tryz.ntmps99
  go_upto_if 15 with fail
  go_cut [5] (fun e wx => wx = w ∧ ∃ n : Nat, s.size ≤ n ∧ t.size ≤ n ∧ n ≤ 100000 ∧ e = .int .i64 (n : Nat))
  case first => as_aux_lemma =>
    go_wp2
    · go_meet; exact ⟨rfl, t.size, by omega, by omega, by omega, rfl⟩
    · go_meet; exact ⟨rfl, s.size, by omega, by omega, by omega, rfl⟩
  case rest =>
  obtain ⟨hw, n, hn1, hn2, hn3, rfl⟩ := hcut
  have hw := hw.symm
  subst hw
  have HXY : Hid (X + Y < 10 ^ (n + 1)) := by
    show _ < _
    have h1 := Nat.lt_of_lt_of_le HX0.out (Nat.pow_le_pow_right (by decide) hn1)
    have h2 := Nat.lt_of_lt_of_le HY0.out (Nat.pow_le_pow_right (by decide) hn2)
    rw [Nat.pow_succ]; omega
  obtain ⟨N, hN⟩ : ∃ N, N = n + 1 := ⟨_, rfl⟩
  have HN : Hid (N = n + 1) := hN
  have hmk := mk_bytes2 N w (by omega)
  have kN : IntKind.i64.wrap ((n : Int) + 1) = (N : Int) := by rw [IntWalk.i64_in _ (by omega)]; omega
  have hN2 : N ≤ 100001 := by omega
  have hnN : n < N := by omega
  clear hN
  go_upto_region 7 with fail
  have HO1 : Hid _ := own_bytes N w (by omega) 5
  have HB1 : Hid _ := (Below.refl w.heap.size w).alloc (Nat.le_refl _) (.cells (Array.replicate N (.int .u8 0)) 5)
  obtain ⟨w1, hw1⟩ : ∃ w1, w1 = w.alloc (.cells (Array.replicate N (.int .u8 0)) 5) := ⟨_, rfl⟩
  rw [← hw1] at HO1 HB1 ⊢
  clear hw1 hmk kN
  go_loopw [7, 8] (fun cv iv wr => ∃ (i c : Nat) (zs : List Nat), i ≤ N ∧ cv = .int .i64 (c : Nat) ∧ iv = .int .i64 (i : Nat) ∧ OwnW .u8 5 wr w.heap.size N zs ∧ (∀ p, p < i → zs.getD (N - 1 - p) 0 = 48 + dg (X + Y) p) ∧ c = (X % 10 ^ i + Y % 10 ^ i) / 10 ^ i ∧ Below w.heap.size w wr) (fun _ iv _ => N - (intOf iv).toNat)
  case atStart => exact ⟨0, 0, _, Nat.zero_le _, rfl, rfl, HO1.out, fun p hp => absurd hp (Nat.not_lt_zero _), by rw [Nat.pow_zero, Nat.mod_one, Nat.mod_one, Nat.zero_div], HB1.out⟩
  case round =>
    obtain ⟨i, c, zs, hi, rfl, rfl, ho, hz, hc, hb⟩ := hrel
    have HO : Hid (OwnW .u8 5 wr w.heap.size N zs) := ho
    have HZ : Hid (∀ p, p < i → zs.getD (N - 1 - p) 0 = 48 + dg (X + Y) p) := hz
    have HC : Hid (c = (X % 10 ^ i + Y % 10 ^ i) / 10 ^ i) := hc
    have HB : Hid (Below w.heap.size w wr) := hb
    have hck : c ≤ 1 := by have := sum_carry X Y i; omega
    clear hz hc hb ho
    by_cases hin : i < N
    · have hiN : i ≤ n := by have := HN.out; omega
      obtain ⟨q, hq⟩ : ∃ q, n = i + q := ⟨n - i, by omega⟩
      have HQ : Hid (n = i + q) := hq
      have hqN : q < N := by have := HN.out; omega
      have c1 := HO.out.cell hqN
      have f1 := HO.out.frozen q
      obtain ⟨t1, t2⟩ := carry_next HC.out
      have kq : IntKind.i64.wrap ((n : Int) - (i : Int)) = (q : Int) := by rw [IntWalk.i64_in _ (by omega)]; omega
      obtain ⟨D, hD⟩ : ∃ D, D = dg X i := ⟨_, rfl⟩
      obtain ⟨E, hE⟩ : ∃ E, E = dg Y i := ⟨_, rfl⟩
      rw [← hD, ← hE] at t1 t2
      have HT1 : Hid ((c + D + E) % 10 = dg (X + Y) i ∧ (c + D + E) / 10 = (X % 10 ^ (i + 1) + Y % 10 ^ (i + 1)) / 10 ^ (i + 1)) := ⟨t1, t2⟩
      have HD : Hid (D = dg X i) := hD
      have HE : Hid (E = dg Y i) := hE
      clear t1 t2 hD hE hq
      by_cases his : i < s.size
      · by_cases hit : i < t.size
        · skip
          have ha : (s[s.size - 1 - i]'(by omega)).toNat = 48 + D := by rw [HD.out]; exact HDX.out i his
          have hb : (t[t.size - 1 - i]'(by omega)).toNat = 48 + E := by rw [HE.out]; exact HDY.out i hit
          have HAB : Hid ((s[s.size - 1 - i]'(by omega)).toNat = 48 + D ∧ (t[t.size - 1 - i]'(by omega)).toNat = 48 + E) := ⟨ha, hb⟩
          clear ha hb
          go_wp2_with fail
          obtain ⟨g1, g2⟩ := HAB.out
          simp only [g1, g2]
          obtain ⟨G, hG⟩ : ∃ G, G = c + D + E := ⟨_, rfl⟩
          have hD9 : D < 10 := by rw [HD.out]; exact dg_lt _ _
          have hE9 : E < 10 := by rw [HE.out]; exact dg_lt _ _
          rw [show (c : Int) + (((48 + D : Nat) : Int) - 48) % 256 + (((48 + E : Nat) : Int) - 48) % 256 = (G : Int) by omega]
          have h1 := HT1.out
          rw [← hG] at h1
          refine ⟨⟨i + 1, G / 10, zs.set q (48 + G % 10), by omega, ?_, by go_num, ?_, ?_, h1.2, HB.out.setCell (Nat.le_refl _) _⟩, by simp [intOf]; omega⟩
          · rw [show ((G : Int) / 10) = ((G / 10 : Nat) : Int) by omega]
          · rw [show (48 + (G : Int) % 10) = ((48 + G % 10 : Nat) : Int) by omega]; exact HO.out.set _ _
          · exact pad_set HO.out.length (by have := HQ.out; have := HN.out; omega) hin HZ.out h1.1
        · skip
          have ha : (s[s.size - 1 - i]'(by omega)).toNat = 48 + D := by rw [HD.out]; exact HDX.out i his
          have hE0 : E = 0 := by rw [HE.out]; exact dg_zero HY0.out (by omega)
          have HAB : Hid ((s[s.size - 1 - i]'(by omega)).toNat = 48 + D ∧ E = 0) := ⟨ha, hE0⟩
          clear ha hE0
          go_wp2_with fail
          obtain ⟨g1, g2⟩ := HAB.out
          simp only [g1]
          obtain ⟨G, hG⟩ : ∃ G, G = c + D + E := ⟨_, rfl⟩
          have hD9 : D < 10 := by rw [HD.out]; exact dg_lt _ _
          have hE9 : E < 10 := by rw [HE.out]; exact dg_lt _ _
          rw [show (c : Int) + (((48 + D : Nat) : Int) - 48) % 256 = (G : Int) by omega]
          have h1 := HT1.out
          rw [← hG] at h1
          refine ⟨⟨i + 1, G / 10, zs.set q (48 + G % 10), by omega, ?_, by go_num, ?_, ?_, h1.2, HB.out.setCell (Nat.le_refl _) _⟩, by simp [intOf]; omega⟩
          · rw [show ((G : Int) / 10) = ((G / 10 : Nat) : Int) by omega]
          · rw [show (48 + (G : Int) % 10) = ((48 + G % 10 : Nat) : Int) by omega]; exact HO.out.set _ _
          · exact pad_set HO.out.length (by have := HQ.out; have := HN.out; omega) hin HZ.out h1.1
      · by_cases hit : i < t.size
        · skip
          have hD0 : D = 0 := by rw [HD.out]; exact dg_zero HX0.out (by omega)
          have hb : (t[t.size - 1 - i]'(by omega)).toNat = 48 + E := by rw [HE.out]; exact HDY.out i hit
          have HAB : Hid (D = 0 ∧ (t[t.size - 1 - i]'(by omega)).toNat = 48 + E) := ⟨hD0, hb⟩
          clear hD0 hb
          go_wp2_with fail
          obtain ⟨g1, g2⟩ := HAB.out
          simp only [g2]
          obtain ⟨G, hG⟩ : ∃ G, G = c + D + E := ⟨_, rfl⟩
          have hD9 : D < 10 := by rw [HD.out]; exact dg_lt _ _
          have hE9 : E < 10 := by rw [HE.out]; exact dg_lt _ _
          rw [show (c : Int) + (((48 + E : Nat) : Int) - 48) % 256 = (G : Int) by omega]
          have h1 := HT1.out
          rw [← hG] at h1
          refine ⟨⟨i + 1, G / 10, zs.set q (48 + G % 10), by omega, ?_, by go_num, ?_, ?_, h1.2, HB.out.setCell (Nat.le_refl _) _⟩, by simp [intOf]; omega⟩
          · rw [show ((G : Int) / 10) = ((G / 10 : Nat) : Int) by omega]
          · rw [show (48 + (G : Int) % 10) = ((48 + G % 10 : Nat) : Int) by omega]; exact HO.out.set _ _
          · exact pad_set HO.out.length (by have := HQ.out; have := HN.out; omega) hin HZ.out h1.1
        · skip
          have hD0 : D = 0 := by rw [HD.out]; exact dg_zero HX0.out (by omega)
          have hE0 : E = 0 := by rw [HE.out]; exact dg_zero HY0.out (by omega)
          have HAB : Hid (D = 0 ∧ E = 0) := ⟨hD0, hE0⟩
          clear hD0 hE0
          go_wp2_with fail
          obtain ⟨g1, g2⟩ := HAB.out
          obtain ⟨G, hG⟩ : ∃ G, G = c + D + E := ⟨_, rfl⟩
          have hD9 : D < 10 := by rw [HD.out]; exact dg_lt _ _
          have hE9 : E < 10 := by rw [HE.out]; exact dg_lt _ _
          have hcG : (c : Int) = (G : Int) := by omega
          simp only [hcG]
          have h1 := HT1.out
          rw [← hG] at h1
          refine ⟨⟨i + 1, G / 10, zs.set q (48 + G % 10), by omega, ?_, by go_num, ?_, ?_, h1.2, HB.out.setCell (Nat.le_refl _) _⟩, by simp [intOf]; omega⟩
          · rw [show ((G : Int) / 10) = ((G / 10 : Nat) : Int) by omega]
          · rw [show (48 + (G : Int) % 10) = ((48 + G % 10 : Nat) : Int) by omega]; exact HO.out.set _ _
          · exact pad_set HO.out.length (by have := HQ.out; have := HN.out; omega) hin HZ.out h1.1
    · have hi2 : N = i := by omega
      subst hi2
      have hpd := own_pad HO.out.length HZ.out
      have CV := text_own HO.out (fun m hm => by have := HZ.out (N - 1 - m) (by omega); rw [show N - 1 - (N - 1 - m) = m by omega] at this; have := dg_lt (X + Y) (N - 1 - m); omega)
      rw [hpd] at CV
      have HBR : Hid (∀ W, Calls Tryz.prog 57 #[.string (bs (padK N (X + Y)))] W fun e w' => e = .returned (.string T) ∧ Below W.heap.size W w') := fun W => by
        have := rbare_v (bs (padK N (X + Y))) W (by show (padK N (X + Y)).length ≤ _; rw [padK_len]; omega)
        rw [bl_bs, show (padK N (X + Y)).dropWhile (· == 48) = bareD (X + Y) from bare_pad (by rw [HN.out]; exact HXY.out), ← HT.out] at this
        exact this
      have hNn : ¬ (N : Int) ≤ (n : Int) := by omega
      clear hpd hi
      go_wp2_with fail
      refine (HBR.out _).mono ?_
      rintro e w2 ⟨rfl, hb⟩
      have HB2 : Hid (Below w.heap.size w w2) := HB.out.thru hb
      clear hb CV
      go_wp2
      go_ret
      exact ⟨rfl, HB2.out⟩
end Go.Proofs.YtpfnfhikhlceoaaGreatDoor
