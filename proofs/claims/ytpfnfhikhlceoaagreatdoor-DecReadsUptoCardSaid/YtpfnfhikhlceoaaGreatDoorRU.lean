/- Parts Gr of the proof, in one text. -/
import Derived.Test.YtpfnfhikhlceoaaGreatDoorRT

/- Walks: the law DecMade. -/
namespace Go.Proofs.YtpfnfhikhlceoaaGreatDoor
open Go.RowKit
/-- What is told of any digits, by both. -/
theorem made_both (g : Bool) (s : ByteArray) (x : Int) (hs : s.size ≤ 4611686018427387904) : ∃ (D : Dc) (X : Int), D.ok ∧
    (∀ W, Calls Tryz.prog 26 #[.bool g, .string s, .int .i64 x] W fun e w' => e = .returned (.tuple #[.agg #[.bool D.neg, .string (bs D.s), .int .i64 D.e], .int .i64 X]) ∧ Below W.heap.size W w') ∧
    (∀ W, Calls Tryz.prog 28 #[.bool g, .string s, .int .i64 x] W fun e w' => e = .returned (.tuple #[.agg #[.bool D.neg, .string (bs D.s), .int .i64 D.e], .int .i64 X]) ∧ Below W.heap.size W w') := by
  cases h : (bl s).all isDig
  · exact ⟨Dc.none, 3, none_ok, fun W => Made_bad g s x W h (by omega), fun W => rmade_bad g s x W h (by omega)⟩
  · have hd := all_dig.1 h
    exact ⟨⟨madeS g (dval (bl s)) x, madeL (dval (bl s)) x, madeE (dval (bl s)) x⟩, madeX (dval (bl s)) x, made_may _ _ _, fun W => Made_any g s x W hd hs, fun W => rmade_v g s x W hd hs⟩

set_option maxHeartbeats 4000000 in
set_option maxRecDepth 100000 in
theorem decMade_walk (a : Option Addr) (n cp : Nat) (gs : Nat → Bool) (ss : Nat → ByteArray) (es : Nat → Int) (v : Int) (w : World) (hn : n ≤ 9223372036854775807) (hz : ∀ i, i < n → (ss i).size ≤ 4611686018427387904) (hv0 : -9223372036854775808 ≤ v) (hv1 : v ≤ 9223372036854775807)
    (hc : 0 < n → ∃ b o, a = some ⟨b, o, none⟩ ∧ ∀ i, i < n → w.cell? ⟨b, o + i * 3, none⟩ = some (.bool (gs i)) ∧ w.cell? ⟨b, o + i * 3 + 1, none⟩ = some (.string (ss i)) ∧ w.cell? ⟨b, o + i * 3 + 2, none⟩ = some (.int .i64 (es i))) (htab : Tab w) :
    Calls Tryz.prog 8 #[.slice a n cp, .int .i64 v] w fun e w' => e = .returned (.bool true) ∧ Below w.heap.size w w' := by
  have HZ : Hid (∀ i, i < n → (ss i).size ≤ 4611686018427387904) := hz
  obtain ⟨N, hN⟩ : ∃ N, N = mkD v 0 := ⟨_, rfl⟩
  have I1 : Hid (∀ W, Below w.heap.size w W → Calls Tryz.prog 29 #[.int .i64 v] W fun e w' => e = .returned (.agg #[.bool N.neg, .string (bs N.s), .int .i64 N.e]) ∧ Below W.heap.size W w') := int_c hv0 hv1 hN.symm w htab
  have I2 : Hid (∀ W, Calls Tryz.prog 30 #[.int .i64 v] W fun e w' => e = .returned (.agg #[.bool N.neg, .string (bs N.s), .int .i64 N.e]) ∧ Below W.heap.size W w') := fun W => by rw [hN]; exact rint_v v W hv0 hv1
  have KN : Hid (∀ W, Below w.heap.size w W → Calls Tryz.prog 14 #[] W fun e w' => e = .returned (.bool true) ∧ Below W.heap.size W w') := fun W hW => known_any W (htab.below hW)
  clear hz htab hN hv0 hv1
  go_enter Tryz.func8, Tryz.ntmps8
  go_upto_region 2 with fail
  go_loopw [5] (fun v wr => ∃ i : Nat, i ≤ n ∧ v = .int .i64 (i : Nat) ∧ Below w.heap.size w wr) (fun v _ => n - (intOf v).toNat)
  case atStart => exact ⟨0, Nat.zero_le _, rfl, Below.refl _ _⟩
  case round =>
    obtain ⟨q, hi, rfl, hb⟩ := hrel
    have HB0 : Hid (Below w.heap.size w wr) := hb
    clear hb
    by_cases hin : q < n
    · obtain ⟨b, o, rfl, hcell⟩ := hc (by omega)
      obtain ⟨g, hg⟩ : ∃ x, x = gs q := ⟨_, rfl⟩
      obtain ⟨s, hs⟩ : ∃ x, x = ss q := ⟨_, rfl⟩
      obtain ⟨x, hx⟩ : ∃ x, x = es q := ⟨_, rfl⟩
      have hci := hcell q hin
      rw [← hg, ← hs, ← hx] at hci
      have HC : Hid (∀ W, Below w.heap.size w W → W.cell? ⟨b, o + q * 3, none⟩ = some (.bool g) ∧ W.cell? ⟨b, o + q * 3 + 1, none⟩ = some (.string s) ∧ W.cell? ⟨b, o + q * 3 + 2, none⟩ = some (.int .i64 x)) := fun W hW =>
        ⟨(hW.cell (cell_lt hci.1)).trans hci.1, (hW.cell (cell_lt hci.2.1)).trans hci.2.1, (hW.cell (cell_lt hci.2.2)).trans hci.2.2⟩
      obtain ⟨DD, X, hok, c1, c2⟩ := made_both g s x (by rw [hs]; exact HZ.out q hin)
      have C1 : Hid _ := c1
      have C2 : Hid _ := c2
      have CV : Hid (∀ W, Calls Tryz.prog 25 #[.agg #[.bool DD.neg, .string (bs DD.s), .int .i64 DD.e]] W fun e w' => e = .returned (.bool true) ∧ Below W.heap.size W w') := fun W => by
        have := valid_v DD W (by have := ok_len hok; omega)
        rw [okB_ok hok] at this; exact this
      clear hg hs hx hci hcell hc c1 c2 hok
      go_upto_region 4 with fail
      generalize wr = w5 at *
      have HK0 : Hid (Kept [] w5) := Kept.nil w5
      have h1 : once [(17, 0), (18, 1), (19, 2), (20, 3), (21, 4), (22, 5), (23, 6), (24, 7), (25, 8), (26, 9), (27, 10), (28, 11), (29, 12), (30, 13), (31, 14), (32, 15), (16, 16), (33, 17), (34, 18), (6, 19)] = true := by kernel_rfl
      have h2 : within [(17, 0), (18, 1), (19, 2), (20, 3), (21, 4), (22, 5), (23, 6), (24, 7), (25, 8), (26, 9), (27, 10), (28, 11), (29, 12), (30, 13), (31, 14), (32, 15), (16, 16), (33, 17), (34, 18), (6, 19)] 77 = true := by kernel_rfl
      have hstab : ∀ j (ys : Nat → Value) W W', (fun (i : Nat) (xs : Nat → Value) (W : World) => match i with
        | 0 => (xs 0) = .slice (some ⟨b, o, none⟩) n cp
        | 1 => (xs 1) = .int .i64 (q : Nat)
        | 2 => (xs 2) = .pointer (some ⟨b, o + q * 3, none⟩)
        | 3 => (xs 3) = .pointer (some ⟨b, o + q * 3, none⟩)
        | 4 => (xs 4) = .bool g
        | 5 => (xs 5) = .slice (some ⟨b, o, none⟩) n cp
        | 6 => (xs 6) = .int .i64 (q : Nat)
        | 7 => (xs 7) = .pointer (some ⟨b, o + q * 3, none⟩)
        | 8 => (xs 8) = .pointer (some ⟨b, o + q * 3 + 1, none⟩)
        | 9 => (xs 9) = .string s
        | 10 => (xs 10) = .slice (some ⟨b, o, none⟩) n cp
        | 11 => (xs 11) = .int .i64 (q : Nat)
        | 12 => (xs 12) = .pointer (some ⟨b, o + q * 3, none⟩)
        | 13 => (xs 13) = .pointer (some ⟨b, o + q * 3 + 2, none⟩)
        | 14 => (xs 14) = .int .i64 x
        | 15 => (xs 15) = .tuple #[.agg #[.bool DD.neg, .string (bs DD.s), .int .i64 DD.e], .int .i64 X]
        | 16 => (xs 16) = .tuple #[.agg #[.bool DD.neg, .string (bs DD.s), .int .i64 DD.e], .int .i64 X]
        | 17 => (xs 17) = .agg #[.bool DD.neg, .string (bs DD.s), .int .i64 DD.e]
        | 18 => (xs 18) = .int .i64 X
        | 19 => ∃ g x y z, xs 19 = .pointer (some ⟨g, 0, none⟩) ∧ w5.heap.size ≤ g ∧ g < W.heap.size ∧ W.heap[g]? = some (.cells #[x, y, z] 25 (0, 0))
        | 20 => ∃ g, xs 19 = .pointer (some ⟨g, 0, none⟩) ∧ w5.heap.size ≤ g ∧ W.heap[g]? = some (.cells #[.bool DD.neg, .string (bs DD.s), .int .i64 DD.e] 25 (0, 0))
        | _ => True) j ys W → Below W.heap.size W W' → (fun (i : Nat) (xs : Nat → Value) (W : World) => match i with
        | 0 => (xs 0) = .slice (some ⟨b, o, none⟩) n cp
        | 1 => (xs 1) = .int .i64 (q : Nat)
        | 2 => (xs 2) = .pointer (some ⟨b, o + q * 3, none⟩)
        | 3 => (xs 3) = .pointer (some ⟨b, o + q * 3, none⟩)
        | 4 => (xs 4) = .bool g
        | 5 => (xs 5) = .slice (some ⟨b, o, none⟩) n cp
        | 6 => (xs 6) = .int .i64 (q : Nat)
        | 7 => (xs 7) = .pointer (some ⟨b, o + q * 3, none⟩)
        | 8 => (xs 8) = .pointer (some ⟨b, o + q * 3 + 1, none⟩)
        | 9 => (xs 9) = .string s
        | 10 => (xs 10) = .slice (some ⟨b, o, none⟩) n cp
        | 11 => (xs 11) = .int .i64 (q : Nat)
        | 12 => (xs 12) = .pointer (some ⟨b, o + q * 3, none⟩)
        | 13 => (xs 13) = .pointer (some ⟨b, o + q * 3 + 2, none⟩)
        | 14 => (xs 14) = .int .i64 x
        | 15 => (xs 15) = .tuple #[.agg #[.bool DD.neg, .string (bs DD.s), .int .i64 DD.e], .int .i64 X]
        | 16 => (xs 16) = .tuple #[.agg #[.bool DD.neg, .string (bs DD.s), .int .i64 DD.e], .int .i64 X]
        | 17 => (xs 17) = .agg #[.bool DD.neg, .string (bs DD.s), .int .i64 DD.e]
        | 18 => (xs 18) = .int .i64 X
        | 19 => ∃ g x y z, xs 19 = .pointer (some ⟨g, 0, none⟩) ∧ w5.heap.size ≤ g ∧ g < W.heap.size ∧ W.heap[g]? = some (.cells #[x, y, z] 25 (0, 0))
        | 20 => ∃ g, xs 19 = .pointer (some ⟨g, 0, none⟩) ∧ w5.heap.size ≤ g ∧ W.heap[g]? = some (.cells #[.bool DD.neg, .string (bs DD.s), .int .i64 DD.e] 25 (0, 0))
        | _ => True) j ys W' := by
        intro j ys W W' h hb
        match j, h with
        | 0, h => exact h
        | 1, h => exact h
        | 2, h => exact h
        | 3, h => exact h
        | 4, h => exact h
        | 5, h => exact h
        | 6, h => exact h
        | 7, h => exact h
        | 8, h => exact h
        | 9, h => exact h
        | 10, h => exact h
        | 11, h => exact h
        | 12, h => exact h
        | 13, h => exact h
        | 14, h => exact h
        | 15, h => exact h
        | 16, h => exact h
        | 17, h => exact h
        | 18, h => exact h
        | 19, ⟨g, x, y, z, s1, s2, s3, s4⟩ => exact ⟨g, x, y, z, s1, s2, Nat.lt_of_lt_of_le s3 hb.size, hb.blk s4 s3⟩
        | 20, ⟨g, s1, s2, s4⟩ => exact ⟨g, s1, s2, hb.blk s4 (blk_lt s4)⟩
        | _ + 21, h => exact trivial
      refine wp_region_flow3 21 22 [(17, 0), (18, 1), (19, 2), (20, 3), (21, 4), (22, 5), (23, 6), (24, 7), (25, 8), (26, 9), (27, 10), (28, 11), (29, 12), (30, 13), (31, 14), (32, 15), (16, 16), (33, 17), (34, 18), (6, 19)] [19] (fun (i : Nat) (xs : Nat → Value) (W : World) => match i with
        | 0 => (xs 0) = .slice (some ⟨b, o, none⟩) n cp
        | 1 => (xs 1) = .int .i64 (q : Nat)
        | 2 => (xs 2) = .pointer (some ⟨b, o + q * 3, none⟩)
        | 3 => (xs 3) = .pointer (some ⟨b, o + q * 3, none⟩)
        | 4 => (xs 4) = .bool g
        | 5 => (xs 5) = .slice (some ⟨b, o, none⟩) n cp
        | 6 => (xs 6) = .int .i64 (q : Nat)
        | 7 => (xs 7) = .pointer (some ⟨b, o + q * 3, none⟩)
        | 8 => (xs 8) = .pointer (some ⟨b, o + q * 3 + 1, none⟩)
        | 9 => (xs 9) = .string s
        | 10 => (xs 10) = .slice (some ⟨b, o, none⟩) n cp
        | 11 => (xs 11) = .int .i64 (q : Nat)
        | 12 => (xs 12) = .pointer (some ⟨b, o + q * 3, none⟩)
        | 13 => (xs 13) = .pointer (some ⟨b, o + q * 3 + 2, none⟩)
        | 14 => (xs 14) = .int .i64 x
        | 15 => (xs 15) = .tuple #[.agg #[.bool DD.neg, .string (bs DD.s), .int .i64 DD.e], .int .i64 X]
        | 16 => (xs 16) = .tuple #[.agg #[.bool DD.neg, .string (bs DD.s), .int .i64 DD.e], .int .i64 X]
        | 17 => (xs 17) = .agg #[.bool DD.neg, .string (bs DD.s), .int .i64 DD.e]
        | 18 => (xs 18) = .int .i64 X
        | 19 => ∃ g x y z, xs 19 = .pointer (some ⟨g, 0, none⟩) ∧ w5.heap.size ≤ g ∧ g < W.heap.size ∧ W.heap[g]? = some (.cells #[x, y, z] 25 (0, 0))
        | 20 => ∃ g, xs 19 = .pointer (some ⟨g, 0, none⟩) ∧ w5.heap.size ≤ g ∧ W.heap[g]? = some (.cells #[.bool DD.neg, .string (bs DD.s), .int .i64 DD.e] 25 (0, 0))
        | _ => True) (fun _ W => Below w5.heap.size w5 W) ((Below.refl _ _).drew) (by kernel_rfl) (by kernel_rfl) (by kernel_rfl) (by decide) (by kernel_rfl) h1 (by kernel_rfl) ?_ ?_ ?_ ?_
      · intro j hj xs W h
        simp only [List.mem_cons, List.not_mem_nil, or_false] at hj
        subst hj
        obtain ⟨g, _, _, _, s1, _, s3, _⟩ := h; exact ⟨g, s1, s3⟩
      · intro j xs ys W e h
        match j, e, h with
        | 0, e, h => exact (e 0 (.inl rfl)).symm.trans h
        | 1, e, h => exact (e 1 (.inl rfl)).symm.trans h
        | 2, e, h => exact (e 2 (.inl rfl)).symm.trans h
        | 3, e, h => exact (e 3 (.inl rfl)).symm.trans h
        | 4, e, h => exact (e 4 (.inl rfl)).symm.trans h
        | 5, e, h => exact (e 5 (.inl rfl)).symm.trans h
        | 6, e, h => exact (e 6 (.inl rfl)).symm.trans h
        | 7, e, h => exact (e 7 (.inl rfl)).symm.trans h
        | 8, e, h => exact (e 8 (.inl rfl)).symm.trans h
        | 9, e, h => exact (e 9 (.inl rfl)).symm.trans h
        | 10, e, h => exact (e 10 (.inl rfl)).symm.trans h
        | 11, e, h => exact (e 11 (.inl rfl)).symm.trans h
        | 12, e, h => exact (e 12 (.inl rfl)).symm.trans h
        | 13, e, h => exact (e 13 (.inl rfl)).symm.trans h
        | 14, e, h => exact (e 14 (.inl rfl)).symm.trans h
        | 15, e, h => exact (e 15 (.inl rfl)).symm.trans h
        | 16, e, h => exact (e 16 (.inl rfl)).symm.trans h
        | 17, e, h => exact (e 17 (.inl rfl)).symm.trans h
        | 18, e, h => exact (e 18 (.inl rfl)).symm.trans h
        | 19, e, ⟨g, x, y, z, s1, r⟩ => exact ⟨g, x, y, z, (e 19 (.inl rfl)).symm.trans s1, r⟩
        | 20, e, ⟨g, s1, r⟩ => exact ⟨g, (e 19 (.inr (by kernel_rfl))).symm.trans s1, r⟩
        | _ + 21, e, h => exact trivial
      · refine ⟨⟨⟨⟨⟨⟨⟨⟨⟨⟨⟨⟨⟨⟨⟨⟨⟨⟨⟨⟨⟨trivial, ?_⟩, ?_⟩, ?_⟩, ?_⟩, ?_⟩, ?_⟩, ?_⟩, ?_⟩, ?_⟩, ?_⟩, ?_⟩, ?_⟩, ?_⟩, ?_⟩, ?_⟩, ?_⟩, ?_⟩, ?_⟩, ?_⟩, ?_⟩, ?_⟩
        · refine flow3_step _ (some 17) rfl rfl rfl h1 h2 (fun D W _ h => h) (fun D W W' h hb => h.thru hb) hstab fun ac xs W D he hni hb hS K hK => ?_
          exact op_move (.tmp 0) (.inl rfl) (hK _ _ (he 0) (Below.refl _ _) (fun h => absurd h (by decide)))
        · refine flow3_step _ (some 18) rfl rfl rfl h1 h2 (fun D W _ h => h) (fun D W W' h hb => h.thru hb) hstab fun ac xs W D he hni hb hS K hK => ?_
          exact op_move (.tmp 5) (.inl rfl) (hK _ _ (he 5) (Below.refl _ _) (fun h => absurd h (by decide)))
        · refine flow3_step _ (some 19) rfl rfl rfl h1 h2 (fun D W _ h => h) (fun D W W' h hb => h.thru hb) hstab fun ac xs W D he hni hb hS K hK => ?_
          have e0 : ac.eval (.tmp 17) = _ := (he 17).trans (hS 0 (by kernel_rfl))
          have e1 : ac.eval (.tmp 18) = _ := (he 18).trans (hS 1 (by kernel_rfl))
          refine op_any (.indexAddr 48 (.tmp 17) (.tmp 18)) rfl (.pointer (some ⟨b, o + q * 3, none⟩)) (fun o' ho' => ?_) (hK _ _ rfl (Below.refl _ _) (fun h => absurd h (by decide)))
          simp only [execOp, ho', e0, e1]
          go_simp
        · refine flow3_step _ (some 20) rfl rfl rfl h1 h2 (fun D W _ h => h) (fun D W W' h hb => h.thru hb) hstab fun ac xs W D he hni hb hS K hK => ?_
          have e0 : ac.eval (.tmp 19) = _ := (he 19).trans (hS 2 (by kernel_rfl))
          refine op_any (.fieldAddr 38 (.tmp 19) 0) rfl (.pointer (some ⟨b, o + q * 3, none⟩)) (fun o' ho' => ?_) (hK _ _ rfl (Below.refl _ _) (fun h => absurd h (by decide)))
          simp only [execOp, ho', e0]
          go_simp
        · refine flow3_step _ (some 21) rfl rfl rfl h1 h2 (fun D W _ h => h) (fun D W W' h hb => h.thru hb) hstab fun ac xs W D he hni hb hS K hK => ?_
          have e0 : ac.eval (.tmp 20) = _ := (he 20).trans (hS 3 (by kernel_rfl))
          refine op_any (.load 4 (.tmp 20)) rfl (.bool g) (fun o' ho' => ?_) (hK _ _ rfl (Below.refl _ _) (fun h => absurd h (by decide)))
          simp only [execOp, ho', e0]
          have hc := (HC.out W (HB0.out.thru hb)).1
          go_simp
        · refine flow3_step _ (some 22) rfl rfl rfl h1 h2 (fun D W _ h => h) (fun D W W' h hb => h.thru hb) hstab fun ac xs W D he hni hb hS K hK => ?_
          exact op_move (.tmp 0) (.inl rfl) (hK _ _ (he 0) (Below.refl _ _) (fun h => absurd h (by decide)))
        · refine flow3_step _ (some 23) rfl rfl rfl h1 h2 (fun D W _ h => h) (fun D W W' h hb => h.thru hb) hstab fun ac xs W D he hni hb hS K hK => ?_
          exact op_move (.tmp 5) (.inl rfl) (hK _ _ (he 5) (Below.refl _ _) (fun h => absurd h (by decide)))
        · refine flow3_step _ (some 24) rfl rfl rfl h1 h2 (fun D W _ h => h) (fun D W W' h hb => h.thru hb) hstab fun ac xs W D he hni hb hS K hK => ?_
          have e0 : ac.eval (.tmp 22) = _ := (he 22).trans (hS 5 (by kernel_rfl))
          have e1 : ac.eval (.tmp 23) = _ := (he 23).trans (hS 6 (by kernel_rfl))
          refine op_any (.indexAddr 48 (.tmp 22) (.tmp 23)) rfl (.pointer (some ⟨b, o + q * 3, none⟩)) (fun o' ho' => ?_) (hK _ _ rfl (Below.refl _ _) (fun h => absurd h (by decide)))
          simp only [execOp, ho', e0, e1]
          go_simp
        · refine flow3_step _ (some 25) rfl rfl rfl h1 h2 (fun D W _ h => h) (fun D W W' h hb => h.thru hb) hstab fun ac xs W D he hni hb hS K hK => ?_
          have e0 : ac.eval (.tmp 24) = _ := (he 24).trans (hS 7 (by kernel_rfl))
          refine op_any (.fieldAddr 38 (.tmp 24) 1) rfl (.pointer (some ⟨b, o + q * 3 + 1, none⟩)) (fun o' ho' => ?_) (hK _ _ rfl (Below.refl _ _) (fun h => absurd h (by decide)))
          simp only [execOp, ho', e0]
          go_simp
        · refine flow3_step _ (some 26) rfl rfl rfl h1 h2 (fun D W _ h => h) (fun D W W' h hb => h.thru hb) hstab fun ac xs W D he hni hb hS K hK => ?_
          have e0 : ac.eval (.tmp 25) = _ := (he 25).trans (hS 8 (by kernel_rfl))
          refine op_any (.load 9 (.tmp 25)) rfl (.string s) (fun o' ho' => ?_) (hK _ _ rfl (Below.refl _ _) (fun h => absurd h (by decide)))
          simp only [execOp, ho', e0]
          have hc := (HC.out W (HB0.out.thru hb)).2.1
          go_simp
        · refine flow3_step _ (some 27) rfl rfl rfl h1 h2 (fun D W _ h => h) (fun D W W' h hb => h.thru hb) hstab fun ac xs W D he hni hb hS K hK => ?_
          exact op_move (.tmp 0) (.inl rfl) (hK _ _ (he 0) (Below.refl _ _) (fun h => absurd h (by decide)))
        · refine flow3_step _ (some 28) rfl rfl rfl h1 h2 (fun D W _ h => h) (fun D W W' h hb => h.thru hb) hstab fun ac xs W D he hni hb hS K hK => ?_
          exact op_move (.tmp 5) (.inl rfl) (hK _ _ (he 5) (Below.refl _ _) (fun h => absurd h (by decide)))
        · refine flow3_step _ (some 29) rfl rfl rfl h1 h2 (fun D W _ h => h) (fun D W W' h hb => h.thru hb) hstab fun ac xs W D he hni hb hS K hK => ?_
          have e0 : ac.eval (.tmp 27) = _ := (he 27).trans (hS 10 (by kernel_rfl))
          have e1 : ac.eval (.tmp 28) = _ := (he 28).trans (hS 11 (by kernel_rfl))
          refine op_any (.indexAddr 48 (.tmp 27) (.tmp 28)) rfl (.pointer (some ⟨b, o + q * 3, none⟩)) (fun o' ho' => ?_) (hK _ _ rfl (Below.refl _ _) (fun h => absurd h (by decide)))
          simp only [execOp, ho', e0, e1]
          go_simp
        · refine flow3_step _ (some 30) rfl rfl rfl h1 h2 (fun D W _ h => h) (fun D W W' h hb => h.thru hb) hstab fun ac xs W D he hni hb hS K hK => ?_
          have e0 : ac.eval (.tmp 29) = _ := (he 29).trans (hS 12 (by kernel_rfl))
          refine op_any (.fieldAddr 38 (.tmp 29) 2) rfl (.pointer (some ⟨b, o + q * 3 + 2, none⟩)) (fun o' ho' => ?_) (hK _ _ rfl (Below.refl _ _) (fun h => absurd h (by decide)))
          simp only [execOp, ho', e0]
          go_simp
        · refine flow3_step _ (some 31) rfl rfl rfl h1 h2 (fun D W _ h => h) (fun D W W' h hb => h.thru hb) hstab fun ac xs W D he hni hb hS K hK => ?_
          have e0 : ac.eval (.tmp 30) = _ := (he 30).trans (hS 13 (by kernel_rfl))
          refine op_any (.load 3 (.tmp 30)) rfl (.int .i64 x) (fun o' ho' => ?_) (hK _ _ rfl (Below.refl _ _) (fun h => absurd h (by decide)))
          simp only [execOp, ho', e0]
          have hc := (HC.out W (HB0.out.thru hb)).2.2
          go_simp
        · refine flow3_step _ (some 32) rfl rfl rfl h1 h2 (fun D W _ h => h) (fun D W W' h hb => h.thru hb) hstab fun ac xs W D he hni hb hS K hK => ?_
          have e0 : ac.eval (.tmp 21) = _ := (he 21).trans (hS 4 (by kernel_rfl))
          have e1 : ac.eval (.tmp 26) = _ := (he 26).trans (hS 9 (by kernel_rfl))
          have e2 : ac.eval (.tmp 31) = _ := (he 31).trans (hS 14 (by kernel_rfl))
          refine op_call 26 _ _ rfl _ (by simp only [List.map, e0, e1, e2]) (by go_simp) (C1.out W) ?_
          rintro e' W' ⟨rfl, hb'⟩
          exact ⟨_, rfl, hK _ _ (rfl) hb' (fun h => absurd h (by decide))⟩
        · refine flow3_step _ (some 16) rfl rfl rfl h1 h2 (fun D W _ h => h) (fun D W W' h hb => h.thru hb) hstab fun ac xs W D he hni hb hS K hK => ?_
          exact op_move (.tmp 32) (.inl rfl) (hK _ _ ((he 32).trans (hS 15 (by kernel_rfl))) (Below.refl _ _) (fun h => absurd h (by decide)))
        · refine flow3_step _ (some 33) rfl rfl rfl h1 h2 (fun D W _ h => h) (fun D W W' h hb => h.thru hb) hstab fun ac xs W D he hni hb hS K hK => ?_
          have e0 : ac.eval (.tmp 16) = _ := (he 16).trans (hS 16 (by kernel_rfl))
          refine op_any (.extract (.tmp 16) 0) rfl (.agg #[.bool DD.neg, .string (bs DD.s), .int .i64 DD.e]) (fun o' ho' => ?_) (hK _ _ rfl (Below.refl _ _) (fun h => absurd h (by decide)))
          simp only [execOp, ho', e0]
          go_simp
        · refine flow3_step _ (some 34) rfl rfl rfl h1 h2 (fun D W _ h => h) (fun D W W' h hb => h.thru hb) hstab fun ac xs W D he hni hb hS K hK => ?_
          have e0 : ac.eval (.tmp 16) = _ := (he 16).trans (hS 16 (by kernel_rfl))
          refine op_any (.extract (.tmp 16) 1) rfl (.int .i64 X) (fun o' ho' => ?_) (hK _ _ rfl (Below.refl _ _) (fun h => absurd h (by decide)))
          simp only [execOp, ho', e0]
          go_simp
        · refine flow3_step _ (some 6) rfl rfl rfl h1 h2 (fun D W _ h => h) (fun D W W' h hb => h.thru hb) hstab fun ac xs W D he hni hb hS K hK => ?_
          have hsz := hb.size
          refine op_anyw (.alloc 25) rfl (.pointer (some ⟨W.heap.size, 0, none⟩)) (W.alloc (.cells #[.bool false, .string ⟨#[]⟩, .int .i64 0] 25)) ?_ ?_
          · intro o' ho'
            simp only [execOp, ho']
            go_simp
          · exact hK _ _ ⟨_, _, _, _, rfl, by omega, by simp, heap_alloc_new _ _⟩ ((Below.refl _ _).alloc (Nat.le_refl _) _) (fun _ => rfl)
        · refine flow3_store _ rfl rfl rfl h1 h2 (by decide) fun ac xs W D he hni hb hS K hK => ?_
          obtain ⟨g, z1, z2, z3, s1, s2, s3, s4⟩ := hS 19 (by kernel_rfl)
          have hvy : ac.eval (.tmp 33) = .agg #[.bool DD.neg, .string (bs DD.s), .int .i64 DD.e] := (he 33).trans (hS 17 (by kernel_rfl))
          refine wp_store_row 25 (.tmp 6) (.tmp 33) rfl g #[.bool DD.neg, .string (bs DD.s), .int .i64 DD.e] ((he 6).trans s1) hvy _ _ s4 (by kernel_rfl) rfl (by simp [Value.oneCell']) ?_
          have hself := setRow_heap W g _ #[.bool DD.neg, .string (bs DD.s), .int .i64 DD.e] 25 (0, 0) s4
          refine hK _ ⟨g, s1, s2, hself⟩ (below_setRow hb s2 _) ?_
          intro j ys h
          match j, h with
          | 0, h => exact h
          | 1, h => exact h
          | 2, h => exact h
          | 3, h => exact h
          | 4, h => exact h
          | 5, h => exact h
          | 6, h => exact h
          | 7, h => exact h
          | 8, h => exact h
          | 9, h => exact h
          | 10, h => exact h
          | 11, h => exact h
          | 12, h => exact h
          | 13, h => exact h
          | 14, h => exact h
          | 15, h => exact h
          | 16, h => exact h
          | 17, h => exact h
          | 18, h => exact h
          | 19, ⟨g1, x, y, z, u1, u2, u3, u4⟩ =>
            by_cases hg : g1 = g
            · subst hg; exact ⟨g1, _, _, _, u1, u2, by rw [setRow_size]; exact u3, hself⟩
            · exact ⟨g1, x, y, z, u1, u2, by rw [setRow_size]; exact u3, (setRow_other W g g1 _ hg).trans u4⟩
          | 20, ⟨g1, u1, u2, u4⟩ =>
            by_cases hg : g1 = g
            · subst hg; exact ⟨g1, u1, u2, hself⟩
            · exact ⟨g1, u1, u2, (setRow_other W g g1 _ hg).trans u4⟩
          | _ + 21, h => exact trivial
      · intro xs w6 D hall hb hS hD
        have s17 : xs 17 = _ := hS 17 (by decide)
        have s18 : xs 18 = _ := hS 18 (by decide)
        obtain ⟨g9, s19, -, s20⟩ := hS 20 (by decide)
        have HK1 : Hid (Kept _ w6) := (HK0.out.below hb).cons (o := decO DD) s20
        have HB1 : Hid (Below w.heap.size w w6) := HB0.out.thru hb
        generalize xs 0 = y0 at *
        generalize xs 1 = y1 at *
        generalize xs 2 = y2 at *
        generalize xs 3 = y3 at *
        generalize xs 4 = y4 at *
        generalize xs 5 = y5 at *
        generalize xs 6 = y6 at *
        generalize xs 7 = y7 at *
        generalize xs 8 = y8 at *
        generalize xs 9 = y9 at *
        generalize xs 10 = y10 at *
        generalize xs 11 = y11 at *
        generalize xs 12 = y12 at *
        generalize xs 13 = y13 at *
        generalize xs 14 = y14 at *
        generalize xs 15 = y15 at *
        generalize xs 16 = y16 at *
        simp only [layAll, s17, s18, s19]
        clear hS hD hall hstab s17 s18 s19 s20 hb HK0 HB0
        go_upto_region 5 with fail
        have h1 : once [(36, 0), (37, 1), (38, 2), (39, 3), (40, 4), (41, 5), (42, 6), (43, 7), (44, 8), (45, 9), (46, 10), (47, 11), (48, 12), (49, 13), (50, 14), (51, 15), (35, 16), (52, 17), (53, 18), (8, 19)] = true := by kernel_rfl
        have h2 : within [(36, 0), (37, 1), (38, 2), (39, 3), (40, 4), (41, 5), (42, 6), (43, 7), (44, 8), (45, 9), (46, 10), (47, 11), (48, 12), (49, 13), (50, 14), (51, 15), (35, 16), (52, 17), (53, 18), (8, 19)] 77 = true := by kernel_rfl
        have hstab : ∀ j (ys : Nat → Value) W W', (fun (i : Nat) (xs : Nat → Value) (W : World) => match i with
          | 0 => (xs 0) = .slice (some ⟨b, o, none⟩) n cp
          | 1 => (xs 1) = .int .i64 (q : Nat)
          | 2 => (xs 2) = .pointer (some ⟨b, o + q * 3, none⟩)
          | 3 => (xs 3) = .pointer (some ⟨b, o + q * 3, none⟩)
          | 4 => (xs 4) = .bool g
          | 5 => (xs 5) = .slice (some ⟨b, o, none⟩) n cp
          | 6 => (xs 6) = .int .i64 (q : Nat)
          | 7 => (xs 7) = .pointer (some ⟨b, o + q * 3, none⟩)
          | 8 => (xs 8) = .pointer (some ⟨b, o + q * 3 + 1, none⟩)
          | 9 => (xs 9) = .string s
          | 10 => (xs 10) = .slice (some ⟨b, o, none⟩) n cp
          | 11 => (xs 11) = .int .i64 (q : Nat)
          | 12 => (xs 12) = .pointer (some ⟨b, o + q * 3, none⟩)
          | 13 => (xs 13) = .pointer (some ⟨b, o + q * 3 + 2, none⟩)
          | 14 => (xs 14) = .int .i64 x
          | 15 => (xs 15) = .tuple #[.agg #[.bool DD.neg, .string (bs DD.s), .int .i64 DD.e], .int .i64 X]
          | 16 => (xs 16) = .tuple #[.agg #[.bool DD.neg, .string (bs DD.s), .int .i64 DD.e], .int .i64 X]
          | 17 => (xs 17) = .agg #[.bool DD.neg, .string (bs DD.s), .int .i64 DD.e]
          | 18 => (xs 18) = .int .i64 X
          | 19 => ∃ g x y z, xs 19 = .pointer (some ⟨g, 0, none⟩) ∧ w6.heap.size ≤ g ∧ g < W.heap.size ∧ W.heap[g]? = some (.cells #[x, y, z] 25 (0, 0))
          | 20 => ∃ g, xs 19 = .pointer (some ⟨g, 0, none⟩) ∧ w6.heap.size ≤ g ∧ W.heap[g]? = some (.cells #[.bool DD.neg, .string (bs DD.s), .int .i64 DD.e] 25 (0, 0))
          | _ => True) j ys W → Below W.heap.size W W' → (fun (i : Nat) (xs : Nat → Value) (W : World) => match i with
          | 0 => (xs 0) = .slice (some ⟨b, o, none⟩) n cp
          | 1 => (xs 1) = .int .i64 (q : Nat)
          | 2 => (xs 2) = .pointer (some ⟨b, o + q * 3, none⟩)
          | 3 => (xs 3) = .pointer (some ⟨b, o + q * 3, none⟩)
          | 4 => (xs 4) = .bool g
          | 5 => (xs 5) = .slice (some ⟨b, o, none⟩) n cp
          | 6 => (xs 6) = .int .i64 (q : Nat)
          | 7 => (xs 7) = .pointer (some ⟨b, o + q * 3, none⟩)
          | 8 => (xs 8) = .pointer (some ⟨b, o + q * 3 + 1, none⟩)
          | 9 => (xs 9) = .string s
          | 10 => (xs 10) = .slice (some ⟨b, o, none⟩) n cp
          | 11 => (xs 11) = .int .i64 (q : Nat)
          | 12 => (xs 12) = .pointer (some ⟨b, o + q * 3, none⟩)
          | 13 => (xs 13) = .pointer (some ⟨b, o + q * 3 + 2, none⟩)
          | 14 => (xs 14) = .int .i64 x
          | 15 => (xs 15) = .tuple #[.agg #[.bool DD.neg, .string (bs DD.s), .int .i64 DD.e], .int .i64 X]
          | 16 => (xs 16) = .tuple #[.agg #[.bool DD.neg, .string (bs DD.s), .int .i64 DD.e], .int .i64 X]
          | 17 => (xs 17) = .agg #[.bool DD.neg, .string (bs DD.s), .int .i64 DD.e]
          | 18 => (xs 18) = .int .i64 X
          | 19 => ∃ g x y z, xs 19 = .pointer (some ⟨g, 0, none⟩) ∧ w6.heap.size ≤ g ∧ g < W.heap.size ∧ W.heap[g]? = some (.cells #[x, y, z] 25 (0, 0))
          | 20 => ∃ g, xs 19 = .pointer (some ⟨g, 0, none⟩) ∧ w6.heap.size ≤ g ∧ W.heap[g]? = some (.cells #[.bool DD.neg, .string (bs DD.s), .int .i64 DD.e] 25 (0, 0))
          | _ => True) j ys W' := by
          intro j ys W W' h hb
          match j, h with
          | 0, h => exact h
          | 1, h => exact h
          | 2, h => exact h
          | 3, h => exact h
          | 4, h => exact h
          | 5, h => exact h
          | 6, h => exact h
          | 7, h => exact h
          | 8, h => exact h
          | 9, h => exact h
          | 10, h => exact h
          | 11, h => exact h
          | 12, h => exact h
          | 13, h => exact h
          | 14, h => exact h
          | 15, h => exact h
          | 16, h => exact h
          | 17, h => exact h
          | 18, h => exact h
          | 19, ⟨g, x, y, z, s1, s2, s3, s4⟩ => exact ⟨g, x, y, z, s1, s2, Nat.lt_of_lt_of_le s3 hb.size, hb.blk s4 s3⟩
          | 20, ⟨g, s1, s2, s4⟩ => exact ⟨g, s1, s2, hb.blk s4 (blk_lt s4)⟩
          | _ + 21, h => exact trivial
        refine wp_region_flow3 21 22 [(36, 0), (37, 1), (38, 2), (39, 3), (40, 4), (41, 5), (42, 6), (43, 7), (44, 8), (45, 9), (46, 10), (47, 11), (48, 12), (49, 13), (50, 14), (51, 15), (35, 16), (52, 17), (53, 18), (8, 19)] [19] (fun (i : Nat) (xs : Nat → Value) (W : World) => match i with
          | 0 => (xs 0) = .slice (some ⟨b, o, none⟩) n cp
          | 1 => (xs 1) = .int .i64 (q : Nat)
          | 2 => (xs 2) = .pointer (some ⟨b, o + q * 3, none⟩)
          | 3 => (xs 3) = .pointer (some ⟨b, o + q * 3, none⟩)
          | 4 => (xs 4) = .bool g
          | 5 => (xs 5) = .slice (some ⟨b, o, none⟩) n cp
          | 6 => (xs 6) = .int .i64 (q : Nat)
          | 7 => (xs 7) = .pointer (some ⟨b, o + q * 3, none⟩)
          | 8 => (xs 8) = .pointer (some ⟨b, o + q * 3 + 1, none⟩)
          | 9 => (xs 9) = .string s
          | 10 => (xs 10) = .slice (some ⟨b, o, none⟩) n cp
          | 11 => (xs 11) = .int .i64 (q : Nat)
          | 12 => (xs 12) = .pointer (some ⟨b, o + q * 3, none⟩)
          | 13 => (xs 13) = .pointer (some ⟨b, o + q * 3 + 2, none⟩)
          | 14 => (xs 14) = .int .i64 x
          | 15 => (xs 15) = .tuple #[.agg #[.bool DD.neg, .string (bs DD.s), .int .i64 DD.e], .int .i64 X]
          | 16 => (xs 16) = .tuple #[.agg #[.bool DD.neg, .string (bs DD.s), .int .i64 DD.e], .int .i64 X]
          | 17 => (xs 17) = .agg #[.bool DD.neg, .string (bs DD.s), .int .i64 DD.e]
          | 18 => (xs 18) = .int .i64 X
          | 19 => ∃ g x y z, xs 19 = .pointer (some ⟨g, 0, none⟩) ∧ w6.heap.size ≤ g ∧ g < W.heap.size ∧ W.heap[g]? = some (.cells #[x, y, z] 25 (0, 0))
          | 20 => ∃ g, xs 19 = .pointer (some ⟨g, 0, none⟩) ∧ w6.heap.size ≤ g ∧ W.heap[g]? = some (.cells #[.bool DD.neg, .string (bs DD.s), .int .i64 DD.e] 25 (0, 0))
          | _ => True) (fun _ W => Below w6.heap.size w6 W) ((Below.refl _ _).drew) (by kernel_rfl) (by kernel_rfl) (by kernel_rfl) (by decide) (by kernel_rfl) h1 (by kernel_rfl) ?_ ?_ ?_ ?_
        · intro j hj xs W h
          simp only [List.mem_cons, List.not_mem_nil, or_false] at hj
          subst hj
          obtain ⟨g, _, _, _, s1, _, s3, _⟩ := h; exact ⟨g, s1, s3⟩
        · intro j xs ys W e h
          match j, e, h with
          | 0, e, h => exact (e 0 (.inl rfl)).symm.trans h
          | 1, e, h => exact (e 1 (.inl rfl)).symm.trans h
          | 2, e, h => exact (e 2 (.inl rfl)).symm.trans h
          | 3, e, h => exact (e 3 (.inl rfl)).symm.trans h
          | 4, e, h => exact (e 4 (.inl rfl)).symm.trans h
          | 5, e, h => exact (e 5 (.inl rfl)).symm.trans h
          | 6, e, h => exact (e 6 (.inl rfl)).symm.trans h
          | 7, e, h => exact (e 7 (.inl rfl)).symm.trans h
          | 8, e, h => exact (e 8 (.inl rfl)).symm.trans h
          | 9, e, h => exact (e 9 (.inl rfl)).symm.trans h
          | 10, e, h => exact (e 10 (.inl rfl)).symm.trans h
          | 11, e, h => exact (e 11 (.inl rfl)).symm.trans h
          | 12, e, h => exact (e 12 (.inl rfl)).symm.trans h
          | 13, e, h => exact (e 13 (.inl rfl)).symm.trans h
          | 14, e, h => exact (e 14 (.inl rfl)).symm.trans h
          | 15, e, h => exact (e 15 (.inl rfl)).symm.trans h
          | 16, e, h => exact (e 16 (.inl rfl)).symm.trans h
          | 17, e, h => exact (e 17 (.inl rfl)).symm.trans h
          | 18, e, h => exact (e 18 (.inl rfl)).symm.trans h
          | 19, e, ⟨g, x, y, z, s1, r⟩ => exact ⟨g, x, y, z, (e 19 (.inl rfl)).symm.trans s1, r⟩
          | 20, e, ⟨g, s1, r⟩ => exact ⟨g, (e 19 (.inr (by kernel_rfl))).symm.trans s1, r⟩
          | _ + 21, e, h => exact trivial
        · refine ⟨⟨⟨⟨⟨⟨⟨⟨⟨⟨⟨⟨⟨⟨⟨⟨⟨⟨⟨⟨⟨trivial, ?_⟩, ?_⟩, ?_⟩, ?_⟩, ?_⟩, ?_⟩, ?_⟩, ?_⟩, ?_⟩, ?_⟩, ?_⟩, ?_⟩, ?_⟩, ?_⟩, ?_⟩, ?_⟩, ?_⟩, ?_⟩, ?_⟩, ?_⟩, ?_⟩
          · refine flow3_step _ (some 36) rfl rfl rfl h1 h2 (fun D W _ h => h) (fun D W W' h hb => h.thru hb) hstab fun ac xs W D he hni hb hS K hK => ?_
            exact op_move (.tmp 0) (.inl rfl) (hK _ _ (he 0) (Below.refl _ _) (fun h => absurd h (by decide)))
          · refine flow3_step _ (some 37) rfl rfl rfl h1 h2 (fun D W _ h => h) (fun D W W' h hb => h.thru hb) hstab fun ac xs W D he hni hb hS K hK => ?_
            exact op_move (.tmp 5) (.inl rfl) (hK _ _ (he 5) (Below.refl _ _) (fun h => absurd h (by decide)))
          · refine flow3_step _ (some 38) rfl rfl rfl h1 h2 (fun D W _ h => h) (fun D W W' h hb => h.thru hb) hstab fun ac xs W D he hni hb hS K hK => ?_
            have e0 : ac.eval (.tmp 36) = _ := (he 36).trans (hS 0 (by kernel_rfl))
            have e1 : ac.eval (.tmp 37) = _ := (he 37).trans (hS 1 (by kernel_rfl))
            refine op_any (.indexAddr 48 (.tmp 36) (.tmp 37)) rfl (.pointer (some ⟨b, o + q * 3, none⟩)) (fun o' ho' => ?_) (hK _ _ rfl (Below.refl _ _) (fun h => absurd h (by decide)))
            simp only [execOp, ho', e0, e1]
            go_simp
          · refine flow3_step _ (some 39) rfl rfl rfl h1 h2 (fun D W _ h => h) (fun D W W' h hb => h.thru hb) hstab fun ac xs W D he hni hb hS K hK => ?_
            have e0 : ac.eval (.tmp 38) = _ := (he 38).trans (hS 2 (by kernel_rfl))
            refine op_any (.fieldAddr 38 (.tmp 38) 0) rfl (.pointer (some ⟨b, o + q * 3, none⟩)) (fun o' ho' => ?_) (hK _ _ rfl (Below.refl _ _) (fun h => absurd h (by decide)))
            simp only [execOp, ho', e0]
            go_simp
          · refine flow3_step _ (some 40) rfl rfl rfl h1 h2 (fun D W _ h => h) (fun D W W' h hb => h.thru hb) hstab fun ac xs W D he hni hb hS K hK => ?_
            have e0 : ac.eval (.tmp 39) = _ := (he 39).trans (hS 3 (by kernel_rfl))
            refine op_any (.load 4 (.tmp 39)) rfl (.bool g) (fun o' ho' => ?_) (hK _ _ rfl (Below.refl _ _) (fun h => absurd h (by decide)))
            simp only [execOp, ho', e0]
            have hc := (HC.out W (HB1.out.thru hb)).1
            go_simp
          · refine flow3_step _ (some 41) rfl rfl rfl h1 h2 (fun D W _ h => h) (fun D W W' h hb => h.thru hb) hstab fun ac xs W D he hni hb hS K hK => ?_
            exact op_move (.tmp 0) (.inl rfl) (hK _ _ (he 0) (Below.refl _ _) (fun h => absurd h (by decide)))
          · refine flow3_step _ (some 42) rfl rfl rfl h1 h2 (fun D W _ h => h) (fun D W W' h hb => h.thru hb) hstab fun ac xs W D he hni hb hS K hK => ?_
            exact op_move (.tmp 5) (.inl rfl) (hK _ _ (he 5) (Below.refl _ _) (fun h => absurd h (by decide)))
          · refine flow3_step _ (some 43) rfl rfl rfl h1 h2 (fun D W _ h => h) (fun D W W' h hb => h.thru hb) hstab fun ac xs W D he hni hb hS K hK => ?_
            have e0 : ac.eval (.tmp 41) = _ := (he 41).trans (hS 5 (by kernel_rfl))
            have e1 : ac.eval (.tmp 42) = _ := (he 42).trans (hS 6 (by kernel_rfl))
            refine op_any (.indexAddr 48 (.tmp 41) (.tmp 42)) rfl (.pointer (some ⟨b, o + q * 3, none⟩)) (fun o' ho' => ?_) (hK _ _ rfl (Below.refl _ _) (fun h => absurd h (by decide)))
            simp only [execOp, ho', e0, e1]
            go_simp
          · refine flow3_step _ (some 44) rfl rfl rfl h1 h2 (fun D W _ h => h) (fun D W W' h hb => h.thru hb) hstab fun ac xs W D he hni hb hS K hK => ?_
            have e0 : ac.eval (.tmp 43) = _ := (he 43).trans (hS 7 (by kernel_rfl))
            refine op_any (.fieldAddr 38 (.tmp 43) 1) rfl (.pointer (some ⟨b, o + q * 3 + 1, none⟩)) (fun o' ho' => ?_) (hK _ _ rfl (Below.refl _ _) (fun h => absurd h (by decide)))
            simp only [execOp, ho', e0]
            go_simp
          · refine flow3_step _ (some 45) rfl rfl rfl h1 h2 (fun D W _ h => h) (fun D W W' h hb => h.thru hb) hstab fun ac xs W D he hni hb hS K hK => ?_
            have e0 : ac.eval (.tmp 44) = _ := (he 44).trans (hS 8 (by kernel_rfl))
            refine op_any (.load 9 (.tmp 44)) rfl (.string s) (fun o' ho' => ?_) (hK _ _ rfl (Below.refl _ _) (fun h => absurd h (by decide)))
            simp only [execOp, ho', e0]
            have hc := (HC.out W (HB1.out.thru hb)).2.1
            go_simp
          · refine flow3_step _ (some 46) rfl rfl rfl h1 h2 (fun D W _ h => h) (fun D W W' h hb => h.thru hb) hstab fun ac xs W D he hni hb hS K hK => ?_
            exact op_move (.tmp 0) (.inl rfl) (hK _ _ (he 0) (Below.refl _ _) (fun h => absurd h (by decide)))
          · refine flow3_step _ (some 47) rfl rfl rfl h1 h2 (fun D W _ h => h) (fun D W W' h hb => h.thru hb) hstab fun ac xs W D he hni hb hS K hK => ?_
            exact op_move (.tmp 5) (.inl rfl) (hK _ _ (he 5) (Below.refl _ _) (fun h => absurd h (by decide)))
          · refine flow3_step _ (some 48) rfl rfl rfl h1 h2 (fun D W _ h => h) (fun D W W' h hb => h.thru hb) hstab fun ac xs W D he hni hb hS K hK => ?_
            have e0 : ac.eval (.tmp 46) = _ := (he 46).trans (hS 10 (by kernel_rfl))
            have e1 : ac.eval (.tmp 47) = _ := (he 47).trans (hS 11 (by kernel_rfl))
            refine op_any (.indexAddr 48 (.tmp 46) (.tmp 47)) rfl (.pointer (some ⟨b, o + q * 3, none⟩)) (fun o' ho' => ?_) (hK _ _ rfl (Below.refl _ _) (fun h => absurd h (by decide)))
            simp only [execOp, ho', e0, e1]
            go_simp
          · refine flow3_step _ (some 49) rfl rfl rfl h1 h2 (fun D W _ h => h) (fun D W W' h hb => h.thru hb) hstab fun ac xs W D he hni hb hS K hK => ?_
            have e0 : ac.eval (.tmp 48) = _ := (he 48).trans (hS 12 (by kernel_rfl))
            refine op_any (.fieldAddr 38 (.tmp 48) 2) rfl (.pointer (some ⟨b, o + q * 3 + 2, none⟩)) (fun o' ho' => ?_) (hK _ _ rfl (Below.refl _ _) (fun h => absurd h (by decide)))
            simp only [execOp, ho', e0]
            go_simp
          · refine flow3_step _ (some 50) rfl rfl rfl h1 h2 (fun D W _ h => h) (fun D W W' h hb => h.thru hb) hstab fun ac xs W D he hni hb hS K hK => ?_
            have e0 : ac.eval (.tmp 49) = _ := (he 49).trans (hS 13 (by kernel_rfl))
            refine op_any (.load 3 (.tmp 49)) rfl (.int .i64 x) (fun o' ho' => ?_) (hK _ _ rfl (Below.refl _ _) (fun h => absurd h (by decide)))
            simp only [execOp, ho', e0]
            have hc := (HC.out W (HB1.out.thru hb)).2.2
            go_simp
          · refine flow3_step _ (some 51) rfl rfl rfl h1 h2 (fun D W _ h => h) (fun D W W' h hb => h.thru hb) hstab fun ac xs W D he hni hb hS K hK => ?_
            have e0 : ac.eval (.tmp 40) = _ := (he 40).trans (hS 4 (by kernel_rfl))
            have e1 : ac.eval (.tmp 45) = _ := (he 45).trans (hS 9 (by kernel_rfl))
            have e2 : ac.eval (.tmp 50) = _ := (he 50).trans (hS 14 (by kernel_rfl))
            refine op_call 28 _ _ rfl _ (by simp only [List.map, e0, e1, e2]) (by go_simp) (C2.out W) ?_
            rintro e' W' ⟨rfl, hb'⟩
            exact ⟨_, rfl, hK _ _ (rfl) hb' (fun h => absurd h (by decide))⟩
          · refine flow3_step _ (some 35) rfl rfl rfl h1 h2 (fun D W _ h => h) (fun D W W' h hb => h.thru hb) hstab fun ac xs W D he hni hb hS K hK => ?_
            exact op_move (.tmp 51) (.inl rfl) (hK _ _ ((he 51).trans (hS 15 (by kernel_rfl))) (Below.refl _ _) (fun h => absurd h (by decide)))
          · refine flow3_step _ (some 52) rfl rfl rfl h1 h2 (fun D W _ h => h) (fun D W W' h hb => h.thru hb) hstab fun ac xs W D he hni hb hS K hK => ?_
            have e0 : ac.eval (.tmp 35) = _ := (he 35).trans (hS 16 (by kernel_rfl))
            refine op_any (.extract (.tmp 35) 0) rfl (.agg #[.bool DD.neg, .string (bs DD.s), .int .i64 DD.e]) (fun o' ho' => ?_) (hK _ _ rfl (Below.refl _ _) (fun h => absurd h (by decide)))
            simp only [execOp, ho', e0]
            go_simp
          · refine flow3_step _ (some 53) rfl rfl rfl h1 h2 (fun D W _ h => h) (fun D W W' h hb => h.thru hb) hstab fun ac xs W D he hni hb hS K hK => ?_
            have e0 : ac.eval (.tmp 35) = _ := (he 35).trans (hS 16 (by kernel_rfl))
            refine op_any (.extract (.tmp 35) 1) rfl (.int .i64 X) (fun o' ho' => ?_) (hK _ _ rfl (Below.refl _ _) (fun h => absurd h (by decide)))
            simp only [execOp, ho', e0]
            go_simp
          · refine flow3_step _ (some 8) rfl rfl rfl h1 h2 (fun D W _ h => h) (fun D W W' h hb => h.thru hb) hstab fun ac xs W D he hni hb hS K hK => ?_
            have hsz := hb.size
            refine op_anyw (.alloc 25) rfl (.pointer (some ⟨W.heap.size, 0, none⟩)) (W.alloc (.cells #[.bool false, .string ⟨#[]⟩, .int .i64 0] 25)) ?_ ?_
            · intro o' ho'
              simp only [execOp, ho']
              go_simp
            · exact hK _ _ ⟨_, _, _, _, rfl, by omega, by simp, heap_alloc_new _ _⟩ ((Below.refl _ _).alloc (Nat.le_refl _) _) (fun _ => rfl)
          · refine flow3_store _ rfl rfl rfl h1 h2 (by decide) fun ac xs W D he hni hb hS K hK => ?_
            obtain ⟨g, z1, z2, z3, s1, s2, s3, s4⟩ := hS 19 (by kernel_rfl)
            have hvy : ac.eval (.tmp 52) = .agg #[.bool DD.neg, .string (bs DD.s), .int .i64 DD.e] := (he 52).trans (hS 17 (by kernel_rfl))
            refine wp_store_row 25 (.tmp 8) (.tmp 52) rfl g #[.bool DD.neg, .string (bs DD.s), .int .i64 DD.e] ((he 8).trans s1) hvy _ _ s4 (by kernel_rfl) rfl (by simp [Value.oneCell']) ?_
            have hself := setRow_heap W g _ #[.bool DD.neg, .string (bs DD.s), .int .i64 DD.e] 25 (0, 0) s4
            refine hK _ ⟨g, s1, s2, hself⟩ (below_setRow hb s2 _) ?_
            intro j ys h
            match j, h with
            | 0, h => exact h
            | 1, h => exact h
            | 2, h => exact h
            | 3, h => exact h
            | 4, h => exact h
            | 5, h => exact h
            | 6, h => exact h
            | 7, h => exact h
            | 8, h => exact h
            | 9, h => exact h
            | 10, h => exact h
            | 11, h => exact h
            | 12, h => exact h
            | 13, h => exact h
            | 14, h => exact h
            | 15, h => exact h
            | 16, h => exact h
            | 17, h => exact h
            | 18, h => exact h
            | 19, ⟨g1, x, y, z, u1, u2, u3, u4⟩ =>
              by_cases hg : g1 = g
              · subst hg; exact ⟨g1, _, _, _, u1, u2, by rw [setRow_size]; exact u3, hself⟩
              · exact ⟨g1, x, y, z, u1, u2, by rw [setRow_size]; exact u3, (setRow_other W g g1 _ hg).trans u4⟩
            | 20, ⟨g1, u1, u2, u4⟩ =>
              by_cases hg : g1 = g
              · subst hg; exact ⟨g1, u1, u2, hself⟩
              · exact ⟨g1, u1, u2, (setRow_other W g g1 _ hg).trans u4⟩
            | _ + 21, h => exact trivial
        · intro xs w7 D hall hb hS hD
          have s17 : xs 17 = _ := hS 17 (by decide)
          have s18 : xs 18 = _ := hS 18 (by decide)
          obtain ⟨g9, s19, -, s20⟩ := hS 20 (by decide)
          have HK2 : Hid (Kept _ w7) := (HK1.out.below hb).cons (o := decO DD) s20
          have HB2 : Hid (Below w.heap.size w w7) := HB1.out.thru hb
          generalize xs 0 = y0 at *
          generalize xs 1 = y1 at *
          generalize xs 2 = y2 at *
          generalize xs 3 = y3 at *
          generalize xs 4 = y4 at *
          generalize xs 5 = y5 at *
          generalize xs 6 = y6 at *
          generalize xs 7 = y7 at *
          generalize xs 8 = y8 at *
          generalize xs 9 = y9 at *
          generalize xs 10 = y10 at *
          generalize xs 11 = y11 at *
          generalize xs 12 = y12 at *
          generalize xs 13 = y13 at *
          generalize xs 14 = y14 at *
          generalize xs 15 = y15 at *
          generalize xs 16 = y16 at *
          simp only [layAll, s17, s18, s19]
          clear hS hD hall hstab s17 s18 s19 s20 hb HK1 HB1
          obtain ⟨a0, a1, a2⟩ := HK2.out.decs (.tail _ (.head _))
          obtain ⟨b0, b1, b2⟩ := HK2.out.decs (.head _)
          go_wp2_with fail
          refine (agree_same DD X _).mono ?_
          rintro e v3 ⟨rfl, hb⟩
          have HK3 : Hid (Kept _ v3) := HK2.out.below hb
          have HB3 : Hid (Below w.heap.size w v3) := HB2.out.thru hb
          clear hb HB2 HK2 a0 a1 a2 b0 b1 b2
          obtain ⟨a0, a1, a2⟩ := HK3.out.decs (.tail _ (.head _))
          by_cases hX : X = 0
          · have hXb : (X == 0) = true := by simpa using hX
            clear hX
            go_wp2_with fail
            refine (CV.out _).mono ?_
            rintro e v4 ⟨rfl, hb⟩
            have HB4 : Hid (Below w.heap.size w v4) := HB3.out.thru hb
            clear hb a0 a1 a2 HB3 HK3
            go_wp2_with fail
            go_roundw
            case rel => exact ⟨q + 1, by omega, by go_num, HB4.out⟩
            case measure => simp [intOf]; omega
          · have hXb : (X == 0) = false := by simpa using hX
            clear hX
            go_wp2_with fail
            go_roundw
            case rel => exact ⟨q + 1, by omega, by go_num, HB3.out⟩
            case measure => simp [intOf]; omega
    · obtain rfl : q = n := by omega
      go_wp2_with fail
      refine (I1.out _ HB0.out).mono ?_
      rintro e v1 ⟨rfl, hb⟩
      have HB1 : Hid (Below w.heap.size w v1) := HB0.out.thru hb
      clear hb
      go_wp2_with fail
      refine (I2.out _).mono ?_
      rintro e v2 ⟨rfl, hb⟩
      have HB2 : Hid (Below w.heap.size w v2) := HB1.out.thru hb
      clear hb
      go_wp2_with fail
      refine (KN.out _ HB2.out).mono ?_
      rintro e v3 ⟨rfl, hb⟩
      have HBZ : Hid (Below w.heap.size w v3) := HB2.out.thru hb
      clear hb
      go_wp2
      go_ret
      exact ⟨rfl, HBZ.out⟩
end Go.Proofs.YtpfnfhikhlceoaaGreatDoor
