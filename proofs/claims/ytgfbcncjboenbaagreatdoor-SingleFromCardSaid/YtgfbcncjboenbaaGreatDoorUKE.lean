/- Parts Ke, Kf, Kg of the proof, in one text. -/
import Derived.Test.YtgfbcncjboenbaaGreatDoorUCQ
import Derived.Test.YtgfbcncjboenbaaGreatDoorUCL
import Derived.Test.YtgfbcncjboenbaaGreatDoorUAE

/- Walks: the document's from: a whole number to a kind, rounded. -/
namespace Go.Proofs.YtgfbcncjboenbaaGreatDoor
open Go.RowKit
open Go.Lib hiding intOf

theorem no_u32fl (x y : Bool) (p q : Int) : ∀ (i : Nat) z, (#[Value.bool x, Value.bool y, Value.int .u64 p, Value.int .i64 q] : Array Value)[i]? ≠ some (.int .u32 z) := by
  intro i z
  match i with
  | 0 => simp
  | 1 => simp
  | 2 => simp
  | 3 => simp
  | n + 4 => simp
/-- What stays while the document's from works. -/
structure FrG (w : World) (k0 k1 k2 : Int) (W : World) : Prop where
  bw : Below w.heap.size w W
  sz : w.heap.size + 3 ≤ W.heap.size
  kd : W.heap[w.heap.size]? = some (.cells #[.int .i64 k0, .int .i64 k1, .int .i64 k2] 164 (0, 0))
  fl : ∃ x y p q, W.heap[w.heap.size + 1]? = some (.cells #[.bool x, .bool y, .int .u64 p, .int .i64 q] 160 (0, 0))
  fg : ∃ x y z, W.heap[w.heap.size + 2]? = some (.cells #[.bool x, .bool y, .bool z] 35 (0, 0))
theorem FrG.thru {w W W' : World} {k0 k1 k2 : Int} (h : FrG w k0 k1 k2 W) (hb : Below W.heap.size W W') : FrG w k0 k1 k2 W' := by
  obtain ⟨x, y, p, q, r1⟩ := h.fl
  obtain ⟨x', y', z', r2⟩ := h.fg
  exact ⟨h.bw.thru hb, Nat.le_trans h.sz hb.size, hb.blk h.kd (blk_lt h.kd), ⟨x, y, p, q, hb.blk r1 (blk_lt r1)⟩, ⟨x', y', z', hb.blk r2 (blk_lt r2)⟩⟩
theorem FrG.put {w W : World} {k0 k1 k2 : Int} (h : FrG w k0 k1 k2 W) (a b : Bool) (c d : Int) : FrG w k0 k1 k2 (W.setRow (w.heap.size + 1) #[.bool a, .bool b, .int .u64 c, .int .i64 d]) := by
  obtain ⟨x, y, p, q, r1⟩ := h.fl
  obtain ⟨x', y', z', r2⟩ := h.fg
  exact ⟨below_setRow h.bw (by omega) _, by rw [setRow_size]; exact h.sz, (setRow_other W _ _ _ (by omega)).trans h.kd, ⟨a, b, c, d, setRow_heap W _ _ _ _ _ r1⟩, ⟨x', y', z', (setRow_other W _ _ _ (by omega)).trans r2⟩⟩
set_option maxHeartbeats 4000000 in
set_option maxRecDepth 100000 in
theorem d_from (neg : Bool) {n : Nat} (hn : n < 18446744073709551616) (k0 k1 k2 m : Int) (o : Out) (w : World)
    (hto : ∀ W v, Val W v neg n 1 0 → Calls Tryz.prog 119 #[v, .agg #[.int .i64 k0, .int .i64 k1, .int .i64 k2], .int .i64 m] W (FlQ neg o W)) : Calls Tryz.prog 110 #[.bool neg, .int .u64 (n : Nat), .agg #[.int .i64 k0, .int .i64 k1, .int .i64 k2], .int .i64 m] w (FlQ neg o w) := by
  obtain ⟨w3, hw3⟩ : ∃ W, W = (((w.alloc (.cells #[.int .i64 k0, .int .i64 k1, .int .i64 k2] 164)).alloc (.cells #[.bool false, .bool false, .int .u64 0, .int .i64 0] 160)).alloc (.cells #[.bool false, .bool false, .bool false] 35)) := ⟨_, rfl⟩
  have HG0 : Hid (FrG w k0 k1 k2 w3) := by
    show FrG _ _ _ _ _
    rw [hw3]
    exact ⟨(((Below.refl _ _).alloc (Nat.le_refl _) _).alloc (by simp) _).alloc (by simp; omega) _, by simp, heap_alloc3_0 w _ _ _, ⟨_, _, _, _, heap_alloc3_1 w _ _ _⟩, ⟨_, _, _, heap_alloc3_2 w _ _ _⟩⟩
  have HTO : Hid (∀ W v, Val W v neg n 1 0 → Calls Tryz.prog 119 #[v, .agg #[.int .i64 k0, .int .i64 k1, .int .i64 k2], .int .i64 m] W (FlQ neg o W)) := hto
  have HOF : Hid (∀ W, Calls Tryz.prog 94 #[.int .u64 (n : Nat)] W (NatQ n W)) := fun W => of_any n W hn
  have HO1 : Hid (∀ W, Calls Tryz.prog 94 #[.int .u64 1] W (NatQ 1 W)) := fun W => of_any 1 W (by decide)
  clear hto hn
  go_enter Tryz.func110, Tryz.ntmps110
  go_upto_region 1 with fail
  rw [← hw3]
  clear hw3
  have h1 : once [(10, 0), (11, 1), (12, 2), (13, 3), (14, 4), (15, 5), (16, 6), (17, 7), (18, 8), (19, 9)] = true := by kernel_rfl
  have h2 : within [(10, 0), (11, 1), (12, 2), (13, 3), (14, 4), (15, 5), (16, 6), (17, 7), (18, 8), (19, 9)] 20 = true := by kernel_rfl
  let S : Nat → (Nat → Value) → World → Prop := fun i xs W => match i with
    | 0 => (xs 0) = .bool neg
    | 1 => (xs 1) = .int .u64 (n : Nat)
    | 2 => Num .u32 4294967296 W (xs 2) (n)
    | 3 => Num .u32 4294967296 W (xs 3) (1)
    | 4 => ∃ p1 p2 p3 q1 q2 q3, (xs 4) = .agg #[.bool neg, .slice p1 p2 p3, .slice q1 q2 q3, .int .i64 (0), .bool false] ∧ Num .u32 4294967296 W (.slice p1 p2 p3) (n) ∧ Num .u32 4294967296 W (.slice q1 q2 q3) (1)
    | 5 => (xs 5) = .agg #[.int .i64 k0, .int .i64 k1, .int .i64 k2]
    | 6 => (xs 6) = .int .i64 m
    | 7 => (xs 7) = .tuple #[.agg #[.bool neg, .bool o.inf, .int .u64 (o.m : Nat), .int .i64 o.e], .agg #[.bool o.ine, .bool o.ov, .bool o.un]]
    | 8 => (xs 8) = .agg #[.bool neg, .bool o.inf, .int .u64 (o.m : Nat), .int .i64 o.e]
    | 9 => (xs 9) = .agg #[.bool o.ine, .bool o.ov, .bool o.un]
    | 10 => W.heap[w.heap.size + 1]? = some (.cells #[.bool neg, .bool o.inf, .int .u64 (o.m : Nat), .int .i64 o.e] 160 (0, 0))
    | _ => True
  have hstab : ∀ j ys W W', S j ys W → Below W.heap.size W W' → S j ys W' := by
    intro j ys W W' h hb
    match j, h with
    | 0, h => exact h
    | 1, h => exact h
    | 2, h => exact h.below (Nat.le_refl _) hb
    | 3, h => exact h.below (Nat.le_refl _) hb
    | 4, ⟨p1, p2, p3, q1, q2, q3, e1, n1, n2⟩ => exact ⟨p1, p2, p3, q1, q2, q3, e1, n1.below (Nat.le_refl _) hb, n2.below (Nat.le_refl _) hb⟩
    | 5, h => exact h
    | 6, h => exact h
    | 7, h => exact h
    | 8, h => exact h
    | 9, h => exact h
    | 10, h => exact hb.blk h (blk_lt h)
    | _ + 11, h => exact trivial
  refine wp_region_flow3T 11 12 4 [(10, 0), (11, 1), (12, 2), (13, 3), (14, 4), (15, 5), (16, 6), (17, 7), (18, 8), (19, 9)] [] S (fun _ W => (fun W => FrG w k0 k1 k2 W) W) (HG0.out.thru (Below.refl _ _).drew) (by kernel_rfl) (by kernel_rfl) (by kernel_rfl) (by decide) (by kernel_rfl) h1 (by kernel_rfl) ?_ ?_ ?_ ?_
  · exact fun j hj => by cases hj
  · intro j xs ys W e h
    match j, e, h with
    | 0, e, h => exact (e 0 (.inl rfl)).symm.trans h
    | 1, e, h => exact (e 1 (.inl rfl)).symm.trans h
    | 2, e, h => exact (congrArg (fun z => Num .u32 4294967296 W z _) (e 2 (.inl rfl))).mp h
    | 3, e, h => exact (congrArg (fun z => Num .u32 4294967296 W z _) (e 3 (.inl rfl))).mp h
    | 4, e, ⟨p1, p2, p3, q1, q2, q3, e1, r⟩ => exact ⟨p1, p2, p3, q1, q2, q3, (e 4 (.inl rfl)).symm.trans e1, r⟩
    | 5, e, h => exact (e 5 (.inl rfl)).symm.trans h
    | 6, e, h => exact (e 6 (.inl rfl)).symm.trans h
    | 7, e, h => exact (e 7 (.inl rfl)).symm.trans h
    | 8, e, h => exact (e 8 (.inl rfl)).symm.trans h
    | 9, e, h => exact (e 9 (.inl rfl)).symm.trans h
    | 10, e, h => exact h
    | _ + 11, e, h => exact trivial
  · refine ⟨⟨⟨⟨⟨⟨⟨⟨⟨⟨⟨trivial, ?_⟩, ?_⟩, ?_⟩, ?_⟩, ?_⟩, ?_⟩, ?_⟩, ?_⟩, ?_⟩, ?_⟩, ?_⟩
    · refine flow3_step _ (some 10) rfl rfl rfl h1 h2 (fun D W _ h => h) (fun D W W' h hb => h.thru hb) hstab fun ac xs W Dn he hni hG hS K hK => ?_
      exact op_move (.tmp 0) (.inl rfl) (hK _ _ (he 0) (Below.refl _ _) (fun h => absurd h (by decide)))
    · refine flow3_step _ (some 11) rfl rfl rfl h1 h2 (fun D W _ h => h) (fun D W W' h hb => h.thru hb) hstab fun ac xs W Dn he hni hG hS K hK => ?_
      exact op_move (.tmp 1) (.inl rfl) (hK _ _ (he 1) (Below.refl _ _) (fun h => absurd h (by decide)))
    · refine flow3_step _ (some 12) rfl rfl rfl h1 h2 (fun D W _ h => h) (fun D W W' h hb => h.thru hb) hstab fun ac xs W Dn he hni hG hS K hK => ?_
      have e0 : ac.eval (.tmp 11) = _ := (he 11).trans (hS 1 (by kernel_rfl))
      refine op_call 94 _ _ rfl _ (by simp only [List.map, e0]) (by go_simp) (HOF.out W) ?_
      rintro e' W' ⟨u, rfl, hi', hb'⟩
      exact ⟨_, rfl, hK _ _ (hi') hb' (fun h => absurd h (by decide))⟩
    · refine flow3_step _ (some 13) rfl rfl rfl h1 h2 (fun D W _ h => h) (fun D W W' h hb => h.thru hb) hstab fun ac xs W Dn he hni hG hS K hK => ?_
      refine op_call 94 _ _ rfl _ (by simp only [List.map, eval_const]) (by go_simp) (HO1.out W) ?_
      rintro e' W' ⟨u, rfl, hi', hb'⟩
      exact ⟨_, rfl, hK _ _ (hi') hb' (fun h => absurd h (by decide))⟩
    · refine flow3_step _ (some 14) rfl rfl rfl h1 h2 (fun D W _ h => h) (fun D W W' h hb => h.thru hb) hstab fun ac xs W Dn he hni hG hS K hK => ?_
      have n1 : Num .u32 4294967296 W (xs 2) (n) := hS 2 (by kernel_rfl)
      have n2 : Num .u32 4294967296 W (xs 3) (1) := hS 3 (by kernel_rfl)
      obtain ⟨p1, p2, p3, e1⟩ := n1.shape
      obtain ⟨q1, q2, q3, e2⟩ := n2.shape
      rw [e1] at n1
      rw [e2] at n2
      have f0 : ac.tmps[10]?.getD undef = .bool neg := by rw [← Array.getD_eq_getD_getElem?]; exact (he 10).trans (hS 0 (by kernel_rfl))
      have f1 : ac.tmps[12]?.getD undef = .slice p1 p2 p3 := by rw [← Array.getD_eq_getD_getElem?]; exact (he 12).trans e1
      have f2 : ac.tmps[13]?.getD undef = .slice q1 q2 q3 := by rw [← Array.getD_eq_getD_getElem?]; exact (he 13).trans e2
      refine op_any (.build 176 #[(0, .tmp 10), (1, .tmp 12), (2, .tmp 13)]) rfl (.agg #[.bool neg, .slice p1 p2 p3, .slice q1 q2 q3, .int .i64 (0), .bool false]) (fun o' ho' => ?_) (hK _ _ ⟨_, _, _, _, _, _, rfl, n1, n2⟩ (Below.refl _ _) (fun h => absurd h (by decide)))
      simp only [execOp, ho']
      go_simp
    · refine flow3_step _ (some 15) rfl rfl rfl h1 h2 (fun D W _ h => h) (fun D W W' h hb => h.thru hb) hstab fun ac xs W Dn he hni hG hS K hK => ?_
      exact wp_load_row 164 (.tmp 6) rfl w.heap.size (he 6) _ _ _ _ (hG.kd) Tryz.underlying164 rfl (by kernel_rfl) (hK _ _ rfl (Below.refl _ _) (fun h => absurd h (by decide)))
    · refine flow3_step _ (some 16) rfl rfl rfl h1 h2 (fun D W _ h => h) (fun D W W' h hb => h.thru hb) hstab fun ac xs W Dn he hni hG hS K hK => ?_
      exact op_move (.tmp 3) (.inl rfl) (hK _ _ (he 3) (Below.refl _ _) (fun h => absurd h (by decide)))
    · refine flow3_step _ (some 17) rfl rfl rfl h1 h2 (fun D W _ h => h) (fun D W W' h hb => h.thru hb) hstab fun ac xs W Dn he hni hG hS K hK => ?_
      have e0 : ac.eval (.tmp 14) = xs 4 := he 14
      have e1 : ac.eval (.tmp 15) = _ := (he 15).trans (hS 5 (by kernel_rfl))
      have e2 : ac.eval (.tmp 16) = _ := (he 16).trans (hS 6 (by kernel_rfl))
      refine op_call 119 _ _ rfl _ (by simp only [List.map, e0, e1, e2]) (by go_simp) (HTO.out W (xs 4) (by obtain ⟨p1, p2, p3, q1, q2, q3, e9, n1, n2⟩ := hS 4 (by kernel_rfl); exact ⟨_, _, e9, n1, n2⟩)) ?_
      rintro e' W' ⟨rfl, hb'⟩
      exact ⟨_, rfl, hK _ _ (rfl) hb' (fun h => absurd h (by decide))⟩
    · refine flow3_step _ (some 18) rfl rfl rfl h1 h2 (fun D W _ h => h) (fun D W W' h hb => h.thru hb) hstab fun ac xs W Dn he hni hG hS K hK => ?_
      have e0 : ac.eval (.tmp 17) = _ := (he 17).trans (hS 7 (by kernel_rfl))
      refine op_any (.extract (.tmp 17) 0) rfl (.agg #[.bool neg, .bool o.inf, .int .u64 (o.m : Nat), .int .i64 o.e]) (fun o' ho' => ?_) (hK _ _ rfl (Below.refl _ _) (fun h => absurd h (by decide)))
      simp only [execOp, ho', e0]
      go_simp
    · refine flow3_step _ (some 19) rfl rfl rfl h1 h2 (fun D W _ h => h) (fun D W W' h hb => h.thru hb) hstab fun ac xs W Dn he hni hG hS K hK => ?_
      have e0 : ac.eval (.tmp 17) = _ := (he 17).trans (hS 7 (by kernel_rfl))
      refine op_any (.extract (.tmp 17) 1) rfl (.agg #[.bool o.ine, .bool o.ov, .bool o.un]) (fun o' ho' => ?_) (hK _ _ rfl (Below.refl _ _) (fun h => absurd h (by decide)))
      simp only [execOp, ho', e0]
      go_simp
    · refine flow3_store _ rfl rfl rfl h1 h2 (by decide) fun ac xs W Dn he hni hG hS K hK => ?_
      obtain ⟨x1, x2, x3, x4, s5⟩ := hG.fl
      have hvy := hS 8 (by kernel_rfl)
      refine wp_store_row 160 (.tmp 8) (.tmp 18) rfl (w.heap.size + 1) #[.bool neg, .bool o.inf, .int .u64 (o.m : Nat), .int .i64 o.e] (he 8) ((he 18).trans hvy) _ _ s5 (by kernel_rfl) rfl (by simp [Value.oneCell']) ?_
      have hself := setRow_heap W (w.heap.size + 1) _ #[.bool neg, .bool o.inf, .int .u64 (o.m : Nat), .int .i64 o.e] _ _ s5
      have hG2 := hG.put neg o.inf (o.m : Nat) o.e
      refine hK _ hself hG2 ?_
      intro j ys h
      match j, h with
      | 0, h => exact h
      | 1, h => exact h
      | 2, h => exact num_setRow32 h s5 (no_u32fl _ _ _ _)
      | 3, h => exact num_setRow32 h s5 (no_u32fl _ _ _ _)
      | 4, ⟨p1, p2, p3, q1, q2, q3, e1, n1, n2⟩ => exact ⟨p1, p2, p3, q1, q2, q3, e1, num_setRow32 n1 s5 (no_u32fl _ _ _ _), num_setRow32 n2 s5 (no_u32fl _ _ _ _)⟩
      | 5, h => exact h
      | 6, h => exact h
      | 7, h => exact h
      | 8, h => exact h
      | 9, h => exact h
      | 10, _ => exact hself
      | _ + 11, h => exact trivial
  · intro xs WL Dn hall hG hS hD
    have s9 : xs 9 = _ := hS 9 (by decide)
    have r1 : WL.heap[w.heap.size + 1]? = _ := hS 10 (by decide)
    obtain ⟨y1, y2, y3, r2⟩ := hG.fg
    have HBW : Hid (Below w.heap.size w WL) := hG.bw
    have HR1 : Hid _ := r1
    have HR2 : Hid _ := r2
    simp only [layAll, s9, List.setIfInBounds_toArray, List.set_cons_succ, List.set_cons_zero]
    clear hS hD hall hstab S s9 h1 h2 hG r1 r2
    refine wpList_store_row rfl 35 (.tmp 9) (.tmp 19) rfl (w.heap.size + 2) #[.bool o.ine, .bool o.ov, .bool o.un] rfl rfl _ _ HR2.out (by kernel_rfl) rfl (by simp [Value.oneCell']) ?_
    go_wp2
    exact bodyPost_ret (float_flags_row rfl _ _ (w.heap.size + 1) (w.heap.size + 2) _ _ _ _ _ _ _ rfl ((setRow_other WL _ _ _ (by omega)).trans HR1.out) rfl (setRow_heap WL _ _ _ _ _ HR2.out)) rfl ⟨rfl, below_setRow HBW.out (by omega) _⟩
end Go.Proofs.YtgfbcncjboenbaaGreatDoor

/- Walks: the document's FromInt, FromUint, SingleInt. -/
namespace Go.Proofs.YtgfbcncjboenbaaGreatDoor
open Go.RowKit
open Go.Lib hiding intOf

theorem d_errof (f : Bool) (w : World) : Calls Tryz.prog 108 #[.bool f] w fun e w' => e = .returned (.int .i64 (if f = true then 0 else 1)) ∧ w = w' := by
  cases f
  all_goals
    go_enter Tryz.func108, Tryz.ntmps108
    go_wp2
    go_ret
    exact ⟨rfl, rfl⟩
theorem d_parted {n : Int} (h1 : -9223372036854775808 ≤ n) (h2 : n ≤ 9223372036854775807) (w : World) : Calls Tryz.prog 109 #[.int .i64 n] w fun e w' => e = .returned (.tuple #[.bool (decide (n < 0)), .int .u64 (n.natAbs : Nat)]) ∧ w = w' := by
  by_cases h : n < 0
  · rw [decide_eq_true h]
    have e1 : IntKind.u64.wrap n = n + 18446744073709551616 := by
      have := IntKind.wrap_u64 n
      omega
    have e2 : IntKind.u64.wrap (-(n + 18446744073709551616)) = ((n.natAbs : Nat) : Int) := by
      have := IntKind.wrap_u64 (-(n + 18446744073709551616))
      omega
    go_enter Tryz.func109, Tryz.ntmps109
    go_wp2
    go_ret2
    exact ⟨rfl, rfl⟩
  · rw [decide_eq_false h]
    have e1 : IntKind.u64.wrap n = ((n.natAbs : Nat) : Int) := by
      have := IntKind.wrap_u64 n
      omega
    go_enter Tryz.func109, Tryz.ntmps109
    go_wp2
    go_ret2
    exact ⟨rfl, rfl⟩
theorem to53_nat (neg : Bool) {n : Nat} (h0 : n ≠ 0) (hn : n < 18446744073709551616) {m : Int} (hm : 1 ≤ m ∧ m ≤ 6) (W : World) (v : Value) (h : Val W v neg n 1 0) :
    Calls Tryz.prog 119 #[v, .agg #[.int .i64 53, .int .i64 (-1074), .int .i64 1023], .int .i64 m] W (FlQ neg (outG 53 (-1074) 971 neg m (ratMag n 1 0)) W) :=
  to53_rat m hm neg v n 1 0 W h (bb := 64) (by omega) (by decide) (by decide) (by decide) (by decide) (by omega) (by decide)
theorem to24_nat (neg : Bool) {n : Nat} (h0 : n ≠ 0) (hn : n < 18446744073709551616) {m : Int} (hm : 1 ≤ m ∧ m ≤ 6) (W : World) (v : Value) (h : Val W v neg n 1 0) :
    Calls Tryz.prog 119 #[v, .agg #[.int .i64 24, .int .i64 (-149), .int .i64 127], .int .i64 m] W (FlQ neg (outG 24 (-149) 104 neg m (ratMag n 1 0)) W) :=
  to24_rat m hm neg v n 1 0 W h (bb := 64) (by omega) (by decide) (by decide) (by decide) (by decide) (by omega) (by decide)
set_option maxHeartbeats 4000000 in
set_option maxRecDepth 100000 in
theorem d_fromint {n : Int} (h1 : -9223372036854775808 ≤ n) (h2 : n ≤ 9223372036854775807) (m : Int) (w : World) : Calls Tryz.prog 42 #[.int .i64 n, .int .i64 m] w (RefQ .u64 (fromA (decide (n < 0)) 53 m n.natAbs) w) := by
  obtain ⟨w1, hw1⟩ : ∃ W, W = w.alloc (.cells #[.bool false, .bool false, .bool false] 35) := ⟨_, rfl⟩
  have hb1 : Below w.heap.size w w1 := by rw [hw1]; exact (Below.refl _ _).alloc (Nat.le_refl _) _
  have q1 : w1.heap[w.heap.size]? = some (.cells #[.bool false, .bool false, .bool false] 35 (0, 0)) := by rw [hw1]; exact new_blk w _
  have HX : Hid (∀ W, Below w1.heap.size w1 W → W.heap[w.heap.size]? = some (.cells #[.bool false, .bool false, .bool false] 35 (0, 0)) ∧ Below w.heap.size w W) := fun W hW => ⟨hW.blk q1 (blk_lt q1), hb1.trans (hW.mono hb1.size)⟩
  have HBW : Hid (Below w.heap.size w w1) := hb1
  have HPA : Hid (∀ W, Calls Tryz.prog 109 #[.int .i64 n] W fun e w' => e = .returned (.tuple #[.bool (decide (n < 0)), .int .u64 (n.natAbs : Nat)]) ∧ W = w') := fun W => d_parted h1 h2 W
  have HMO : Hid (∀ W, Calls Tryz.prog 107 #[.int .i64 m] W fun e w' => e = .returned (.bool (decide (1 ≤ m ∧ m ≤ 6))) ∧ W = w') := fun W => d_mode m W
  have HER : Hid (∀ W f, Calls Tryz.prog 108 #[.bool f] W fun e w' => e = .returned (.int .i64 (if f = true then 0 else 1)) ∧ W = w') := fun W f => d_errof f W
  obtain ⟨R, hR⟩ : ∃ R, R = fromA (decide (n < 0)) 53 m n.natAbs := ⟨_, rfl⟩
  rw [← hR]
  obtain ⟨f0, c0, f1, c1, f2, c2, r3⟩ := rw3 (HX.out w1 (Below.refl _ _)).1
  have HR3 : Hid _ := r3
  clear hb1 q1 r3
  by_cases hm : 1 ≤ m ∧ m ≤ 6
  · rw [decide_eq_true hm] at HMO
    by_cases h0 : n.natAbs = 0
    · have HRN : Hid (R = ⟨0, false, false, false, 0⟩) := by
        show _ = _
        rw [hR, h0]
        rw [fromA_ok hm, from_zero, (cut_zero0 false 53 m).2.2]; rw [show decide (n < 0) = false from decide_eq_false (by omega)]; rfl
      have q0 : (n == 0) = true := by rw [beq_iff_eq]; omega
      clear hR h0 hm
      go_enter Tryz.func42, Tryz.ntmps42
      go_upto_region 1 with fail
      rw [← hw1]
      clear hw1
      go_wp2_with (first | (go_at_call 107; refine (HMO.out _).mono ?_; rintro e w' ⟨rfl, rfl⟩) | (go_at_call 108; refine (HER.out _ _).mono ?_; rintro e w' ⟨rfl, rfl⟩))
      exact ref_end (p := 4) (u := 5) (q := 6) rfl rfl rfl rfl (HR3.out _ _ _) (below_row3 HBW.out (Nat.le_refl _) _ _ _) (by rw [HRN.out]; exact ⟨rfl, rfl, rfl, rfl, rfl⟩)
    · obtain ⟨o, ho⟩ : ∃ o, o = outG 53 (-1074) 971 (decide (n < 0)) m (ratMag n.natAbs 1 0) := ⟨_, rfl⟩
      obtain ⟨BB, hBB⟩ : ∃ x, x = bits64 (decide (n < 0)) o := ⟨_, rfl⟩
      have HRB : Hid (R = ⟨BB, o.ine, o.ov, o.un, 0⟩) := by
        show _ = _
        rw [hR, hBB, ho]
        obtain ⟨M, e, g1, -, g3, -, -⟩ := from53 h0 (show n.natAbs < 18446744073709551616 by omega) ((decide (n < 0))) m
        rw [fromA_ok hm, g3, g1]
      have HO : Hid (o = outG 53 (-1074) 971 (decide (n < 0)) m (ratMag n.natAbs 1 0)) := ho
      have HBB : Hid (BB = bits64 (decide (n < 0)) o) := hBB
      have HTO : Hid (∀ W v, Val W v ((decide (n < 0))) (n.natAbs) 1 0 → Calls Tryz.prog 119 #[v, .agg #[.int .i64 53, .int .i64 (-1074), .int .i64 1023], .int .i64 m] W (FlQ ((decide (n < 0))) o W)) := fun W v hv => by rw [ho]; exact to53_nat _ h0 (by omega) hm W v hv
      have HFR : Hid (∀ W, Calls Tryz.prog 110 #[.bool ((decide (n < 0))), .int .u64 (n.natAbs : Nat), .agg #[.int .i64 53, .int .i64 (-1074), .int .i64 1023], .int .i64 m] W (FlQ ((decide (n < 0))) o W)) := fun W => d_from _ (by omega) _ _ _ m o W HTO.out
      have q0 : (n == 0) = false := by rw [Bool.eq_false_iff, Ne, beq_iff_eq]; omega
      clear hR ho hBB h0 hm HTO HER HR3 HBW f0 c0 f1 c1 f2 c2
      go_enter Tryz.func42, Tryz.ntmps42
      go_upto_region 1 with fail
      rw [← hw1]
      clear hw1
      go_wp2_with (first | (go_at_call 107; refine (HMO.out _).mono ?_; rintro e w' ⟨rfl, rfl⟩) | (go_at_call 109; refine (HPA.out _).mono ?_; rintro e w' ⟨rfl, rfl⟩))
      refine (sixty_any _).mono ?_
      rintro e w2 ⟨rfl, hb2⟩
      have HB2 : Hid (Below w1.heap.size w1 w2) := hb2
      clear hb2
      go_wp2_with fail
      refine (HFR.out _).mono ?_
      rintro e w7 ⟨rfl, hb7⟩
      have HB7 : Hid (Below w1.heap.size w1 w7) := HB2.out.thru hb7
      clear hb7 HB2
      go_upto_region 6 with fail
      obtain ⟨w8, hw8⟩ : ∃ W, W = (w7.alloc (.cells #[.bool (decide (n < 0)), .bool o.inf, .int .u64 (o.m : Nat), .int .i64 o.e] 160)).alloc (.cells #[.bool o.ine, .bool o.ov, .bool o.un] 35) := ⟨_, rfl⟩
      have HB8 : Hid (Below w1.heap.size w1 w8) := by show Below _ _ _; rw [hw8]; exact (HB7.out.alloc HB7.out.size _).alloc (by have := HB7.out.size; simp; omega) _
      have HR0 : Hid (∀ W, Below w8.heap.size w8 W → W.heap[w7.heap.size]? = some (.cells #[.bool (decide (n < 0)), .bool o.inf, .int .u64 (o.m : Nat), .int .i64 o.e] 160 (0, 0)) ∧ W.heap[w7.heap.size + 1]? = some (.cells #[.bool o.ine, .bool o.ov, .bool o.un] 35 (0, 0))) := fun W hW => by
        have q0 : w8.heap[w7.heap.size]? = some (.cells #[.bool (decide (n < 0)), .bool o.inf, .int .u64 (o.m : Nat), .int .i64 o.e] 160 (0, 0)) := by rw [hw8]; exact heap_alloc2_old w7 _ _
        have q1 : w8.heap[w7.heap.size + 1]? = some (.cells #[.bool o.ine, .bool o.ov, .bool o.un] 35 (0, 0)) := by rw [hw8]; exact heap_alloc2_new w7 _ _
        exact ⟨hW.blk q0 (blk_lt q0), hW.blk q1 (blk_lt q1)⟩
      have HBT : Hid (∀ W, Calls Tryz.prog 112 #[.agg #[.bool (decide (n < 0)), .bool o.inf, .int .u64 (o.m : Nat), .int .i64 o.e]] W fun e w' => e = .returned (.int .u64 (BB : Nat)) ∧ Below W.heap.size W w') := fun W => by
        rw [HBB.out, HO.out]; exact bits64_out _ m _ (ratMag_ok (by decide)) W
      rw [← hw8]
      clear hw8
      have h1 : once [(36, 0), (37, 1), (38, 2), (4, 3)] = true := by kernel_rfl
      have h2 : within [(36, 0), (37, 1), (38, 2), (4, 3)] 39 = true := by kernel_rfl
      refine wp_region_flow 4 6 [(36, 0), (37, 1), (38, 2), (4, 3)] [] (fun i v W => match i with
        | 0 => v = .agg #[.bool (decide (n < 0)), .bool o.inf, .int .u64 (o.m : Nat), .int .i64 o.e]
        | 1 => v = .int .u64 (BB : Nat)
        | 2 => v = .agg #[.bool o.ine, .bool o.ov, .bool o.un]
        | _ => v = .int .u64 (BB : Nat)) w8.heap.size (Nat.le_refl _) (by kernel_rfl) (by kernel_rfl) (by kernel_rfl) (by decide) (by kernel_rfl) h1 (by kernel_rfl) ?_ ?_ ?_ ?_
      · intro j v W W' h hb
        match j, h with
        | 0, h => exact h
        | 1, h => exact h
        | 2, h => exact h
        | _ + 3, h => exact h
      · exact fun j hj => by cases hj
      · refine ⟨⟨⟨⟨trivial, ?_⟩, ?_⟩, ?_⟩, ?_⟩
        · refine flow_step _ 36 rfl rfl (fun d h => by simpa using h) h1 h2 fun ac xs W he hb hS K hK => ?_
          exact wp_load_row 160 (.tmp 10) rfl w7.heap.size (he 10) _ _ _ _ ((HR0.out W hb).1) Tryz.underlying160 rfl (by kernel_rfl) (hK _ _ rfl (Below.refl _ _) (fun h => absurd h (by decide)))
        · refine flow_step _ 37 rfl rfl (fun d h => by simpa using h) h1 h2 fun ac xs W he hb hS K hK => ?_
          have e0 : ac.eval (.tmp 36) = _ := (he 36).trans (hS 0 (by kernel_rfl))
          refine op_call 112 _ _ rfl _ (by simp only [List.map, e0]) (by go_simp) (HBT.out W) ?_
          rintro e' W' ⟨rfl, hb'⟩
          exact ⟨_, rfl, hK _ _ (rfl) hb' (fun h => absurd h (by decide))⟩
        · refine flow_step _ 38 rfl rfl (fun d h => by simpa using h) h1 h2 fun ac xs W he hb hS K hK => ?_
          exact wp_load_row 35 (.tmp 11) rfl (w7.heap.size + 1) (he 11) _ _ _ _ ((HR0.out W hb).2) Tryz.underlying35 rfl (by kernel_rfl) (hK _ _ rfl (Below.refl _ _) (fun h => absurd h (by decide)))
        · refine flow_step _ 4 rfl rfl (fun d h => by simpa using h) h1 h2 fun ac xs W he hb hS K hK => ?_
          exact op_move (.tmp 37) (.inr rfl) (hK _ _ ((he 37).trans (hS 1 (by kernel_rfl))) (Below.refl _ _) (fun h => absurd h (by decide)))
      · intro xs WL hb hS hD
        have s0 : xs 0 = _ := hS 0 (by decide)
        have s1 : xs 1 = _ := hS 1 (by decide)
        have s2 : xs 2 = _ := hS 2 (by decide)
        have s3 : xs 3 = _ := hS 3 (by decide)
        have HBL : Hid (Below w1.heap.size w1 WL) := HB8.out.thru hb
        obtain ⟨f0, c0, f1, c1, f2, c2, r3⟩ := rw3 (HX.out _ HBL.out).1
        have HR3 : Hid _ := r3
        have HBW : Hid (Below w.heap.size w WL) := (HX.out _ HBL.out).2
        simp only [layAll, s0, s1, s2, s3, List.setIfInBounds_toArray, List.set_cons_succ, List.set_cons_zero]
        clear hS hD hb r3 s0 s1 s2 s3 h1 h2
        go_wp2
        exact ref_end (p := 4) (u := 5) (q := 6) rfl rfl rfl rfl (HR3.out _ _ _) (below_row3 HBW.out (Nat.le_refl _) _ _ _) (by rw [HRB.out]; exact ⟨rfl, rfl, rfl, rfl, rfl⟩)
  · have HRN : Hid (R = ⟨0, false, false, false, 1⟩) := by
      show _ = _
      rw [hR]
      exact if_neg hm
    rw [decide_eq_false hm] at HMO
    clear hR hm
    go_enter Tryz.func42, Tryz.ntmps42
    go_upto_region 1 with fail
    rw [← hw1]
    clear hw1
    go_wp2_with (first | (go_at_call 107; refine (HMO.out _).mono ?_; rintro e w' ⟨rfl, rfl⟩) | (go_at_call 108; refine (HER.out _ _).mono ?_; rintro e w' ⟨rfl, rfl⟩))
    exact ref_end (p := 4) (u := 5) (q := 6) rfl rfl rfl rfl (HR3.out _ _ _) (below_row3 HBW.out (Nat.le_refl _) _ _ _) (by rw [HRN.out]; exact ⟨rfl, rfl, rfl, rfl, rfl⟩)
set_option maxHeartbeats 4000000 in
set_option maxRecDepth 100000 in
theorem d_singleint {n : Int} (h1 : -9223372036854775808 ≤ n) (h2 : n ≤ 9223372036854775807) (m : Int) (w : World) : Calls Tryz.prog 45 #[.int .i64 n, .int .i64 m] w (RefQ .u32 (sinA (decide (n < 0)) m n.natAbs) w) := by
  obtain ⟨w1, hw1⟩ : ∃ W, W = w.alloc (.cells #[.bool false, .bool false, .bool false] 35) := ⟨_, rfl⟩
  have hb1 : Below w.heap.size w w1 := by rw [hw1]; exact (Below.refl _ _).alloc (Nat.le_refl _) _
  have q1 : w1.heap[w.heap.size]? = some (.cells #[.bool false, .bool false, .bool false] 35 (0, 0)) := by rw [hw1]; exact new_blk w _
  have HX : Hid (∀ W, Below w1.heap.size w1 W → W.heap[w.heap.size]? = some (.cells #[.bool false, .bool false, .bool false] 35 (0, 0)) ∧ Below w.heap.size w W) := fun W hW => ⟨hW.blk q1 (blk_lt q1), hb1.trans (hW.mono hb1.size)⟩
  have HBW : Hid (Below w.heap.size w w1) := hb1
  have HPA : Hid (∀ W, Calls Tryz.prog 109 #[.int .i64 n] W fun e w' => e = .returned (.tuple #[.bool (decide (n < 0)), .int .u64 (n.natAbs : Nat)]) ∧ W = w') := fun W => d_parted h1 h2 W
  have HMO : Hid (∀ W, Calls Tryz.prog 107 #[.int .i64 m] W fun e w' => e = .returned (.bool (decide (1 ≤ m ∧ m ≤ 6))) ∧ W = w') := fun W => d_mode m W
  have HER : Hid (∀ W f, Calls Tryz.prog 108 #[.bool f] W fun e w' => e = .returned (.int .i64 (if f = true then 0 else 1)) ∧ W = w') := fun W f => d_errof f W
  obtain ⟨R, hR⟩ : ∃ R, R = sinA (decide (n < 0)) m n.natAbs := ⟨_, rfl⟩
  rw [← hR]
  obtain ⟨f0, c0, f1, c1, f2, c2, r3⟩ := rw3 (HX.out w1 (Below.refl _ _)).1
  have HR3 : Hid _ := r3
  clear hb1 q1 r3
  by_cases hm : 1 ≤ m ∧ m ≤ 6
  · rw [decide_eq_true hm] at HMO
    by_cases h0 : n.natAbs = 0
    · have HRN : Hid (R = ⟨0, false, false, false, 0⟩) := by
        show _ = _
        rw [hR, h0]
        rw [sinA_ok hm]; unfold sinB; rw [if_pos rfl, (cut_zero0 false 24 m).2.2]; rw [show decide (n < 0) = false from decide_eq_false (by omega)]; rfl
      have q0 : (n == 0) = true := by rw [beq_iff_eq]; omega
      clear hR h0 hm
      go_enter Tryz.func45, Tryz.ntmps45
      go_upto_region 1 with fail
      rw [← hw1]
      clear hw1
      go_wp2_with (first | (go_at_call 107; refine (HMO.out _).mono ?_; rintro e w' ⟨rfl, rfl⟩) | (go_at_call 108; refine (HER.out _ _).mono ?_; rintro e w' ⟨rfl, rfl⟩))
      exact ref_end (p := 4) (u := 5) (q := 6) rfl rfl rfl rfl (HR3.out _ _ _) (below_row3 HBW.out (Nat.le_refl _) _ _ _) (by rw [HRN.out]; exact ⟨rfl, rfl, rfl, rfl, rfl⟩)
    · obtain ⟨o, ho⟩ : ∃ o, o = outG 24 (-149) 104 (decide (n < 0)) m (ratMag n.natAbs 1 0) := ⟨_, rfl⟩
      obtain ⟨BB, hBB⟩ : ∃ x, x = bits32 (decide (n < 0)) o := ⟨_, rfl⟩
      have HRB : Hid (R = ⟨BB, o.ine, o.ov, o.un, 0⟩) := by
        show _ = _
        rw [hR, hBB, ho]
        obtain ⟨M, e, g1⟩ := (from24 (n := n.natAbs) (by omega) ((decide (n < 0))) m).2 h0
        rw [sinA_ok hm]; unfold sinB; rw [if_neg h0, g1]
      have HO : Hid (o = outG 24 (-149) 104 (decide (n < 0)) m (ratMag n.natAbs 1 0)) := ho
      have HBB : Hid (BB = bits32 (decide (n < 0)) o) := hBB
      have HTO : Hid (∀ W v, Val W v ((decide (n < 0))) (n.natAbs) 1 0 → Calls Tryz.prog 119 #[v, .agg #[.int .i64 24, .int .i64 (-149), .int .i64 127], .int .i64 m] W (FlQ ((decide (n < 0))) o W)) := fun W v hv => by rw [ho]; exact to24_nat _ h0 (by omega) hm W v hv
      have HFR : Hid (∀ W, Calls Tryz.prog 110 #[.bool ((decide (n < 0))), .int .u64 (n.natAbs : Nat), .agg #[.int .i64 24, .int .i64 (-149), .int .i64 127], .int .i64 m] W (FlQ ((decide (n < 0))) o W)) := fun W => d_from _ (by omega) _ _ _ m o W HTO.out
      have q0 : (n == 0) = false := by rw [Bool.eq_false_iff, Ne, beq_iff_eq]; omega
      clear hR ho hBB h0 hm HTO HER HR3 HBW f0 c0 f1 c1 f2 c2
      go_enter Tryz.func45, Tryz.ntmps45
      go_upto_region 1 with fail
      rw [← hw1]
      clear hw1
      go_wp2_with (first | (go_at_call 107; refine (HMO.out _).mono ?_; rintro e w' ⟨rfl, rfl⟩) | (go_at_call 109; refine (HPA.out _).mono ?_; rintro e w' ⟨rfl, rfl⟩))
      refine (thirty_any _).mono ?_
      rintro e w2 ⟨rfl, hb2⟩
      have HB2 : Hid (Below w1.heap.size w1 w2) := hb2
      clear hb2
      go_wp2_with fail
      refine (HFR.out _).mono ?_
      rintro e w7 ⟨rfl, hb7⟩
      have HB7 : Hid (Below w1.heap.size w1 w7) := HB2.out.thru hb7
      clear hb7 HB2
      go_upto_region 6 with fail
      obtain ⟨w8, hw8⟩ : ∃ W, W = (w7.alloc (.cells #[.bool (decide (n < 0)), .bool o.inf, .int .u64 (o.m : Nat), .int .i64 o.e] 160)).alloc (.cells #[.bool o.ine, .bool o.ov, .bool o.un] 35) := ⟨_, rfl⟩
      have HB8 : Hid (Below w1.heap.size w1 w8) := by show Below _ _ _; rw [hw8]; exact (HB7.out.alloc HB7.out.size _).alloc (by have := HB7.out.size; simp; omega) _
      have HR0 : Hid (∀ W, Below w8.heap.size w8 W → W.heap[w7.heap.size]? = some (.cells #[.bool (decide (n < 0)), .bool o.inf, .int .u64 (o.m : Nat), .int .i64 o.e] 160 (0, 0)) ∧ W.heap[w7.heap.size + 1]? = some (.cells #[.bool o.ine, .bool o.ov, .bool o.un] 35 (0, 0))) := fun W hW => by
        have q0 : w8.heap[w7.heap.size]? = some (.cells #[.bool (decide (n < 0)), .bool o.inf, .int .u64 (o.m : Nat), .int .i64 o.e] 160 (0, 0)) := by rw [hw8]; exact heap_alloc2_old w7 _ _
        have q1 : w8.heap[w7.heap.size + 1]? = some (.cells #[.bool o.ine, .bool o.ov, .bool o.un] 35 (0, 0)) := by rw [hw8]; exact heap_alloc2_new w7 _ _
        exact ⟨hW.blk q0 (blk_lt q0), hW.blk q1 (blk_lt q1)⟩
      have HBT : Hid (∀ W, Calls Tryz.prog 114 #[.agg #[.bool (decide (n < 0)), .bool o.inf, .int .u64 (o.m : Nat), .int .i64 o.e]] W fun e w' => e = .returned (.int .u32 (BB : Nat)) ∧ Below W.heap.size W w') := fun W => by
        rw [HBB.out, HO.out]; exact bits32_out _ m _ (ratMag_ok (by decide)) W
      rw [← hw8]
      clear hw8
      have h1 : once [(36, 0), (37, 1), (38, 2), (4, 3)] = true := by kernel_rfl
      have h2 : within [(36, 0), (37, 1), (38, 2), (4, 3)] 39 = true := by kernel_rfl
      refine wp_region_flow 4 6 [(36, 0), (37, 1), (38, 2), (4, 3)] [] (fun i v W => match i with
        | 0 => v = .agg #[.bool (decide (n < 0)), .bool o.inf, .int .u64 (o.m : Nat), .int .i64 o.e]
        | 1 => v = .int .u32 (BB : Nat)
        | 2 => v = .agg #[.bool o.ine, .bool o.ov, .bool o.un]
        | _ => v = .int .u32 (BB : Nat)) w8.heap.size (Nat.le_refl _) (by kernel_rfl) (by kernel_rfl) (by kernel_rfl) (by decide) (by kernel_rfl) h1 (by kernel_rfl) ?_ ?_ ?_ ?_
      · intro j v W W' h hb
        match j, h with
        | 0, h => exact h
        | 1, h => exact h
        | 2, h => exact h
        | _ + 3, h => exact h
      · exact fun j hj => by cases hj
      · refine ⟨⟨⟨⟨trivial, ?_⟩, ?_⟩, ?_⟩, ?_⟩
        · refine flow_step _ 36 rfl rfl (fun d h => by simpa using h) h1 h2 fun ac xs W he hb hS K hK => ?_
          exact wp_load_row 160 (.tmp 10) rfl w7.heap.size (he 10) _ _ _ _ ((HR0.out W hb).1) Tryz.underlying160 rfl (by kernel_rfl) (hK _ _ rfl (Below.refl _ _) (fun h => absurd h (by decide)))
        · refine flow_step _ 37 rfl rfl (fun d h => by simpa using h) h1 h2 fun ac xs W he hb hS K hK => ?_
          have e0 : ac.eval (.tmp 36) = _ := (he 36).trans (hS 0 (by kernel_rfl))
          refine op_call 114 _ _ rfl _ (by simp only [List.map, e0]) (by go_simp) (HBT.out W) ?_
          rintro e' W' ⟨rfl, hb'⟩
          exact ⟨_, rfl, hK _ _ (rfl) hb' (fun h => absurd h (by decide))⟩
        · refine flow_step _ 38 rfl rfl (fun d h => by simpa using h) h1 h2 fun ac xs W he hb hS K hK => ?_
          exact wp_load_row 35 (.tmp 11) rfl (w7.heap.size + 1) (he 11) _ _ _ _ ((HR0.out W hb).2) Tryz.underlying35 rfl (by kernel_rfl) (hK _ _ rfl (Below.refl _ _) (fun h => absurd h (by decide)))
        · refine flow_step _ 4 rfl rfl (fun d h => by simpa using h) h1 h2 fun ac xs W he hb hS K hK => ?_
          exact op_move (.tmp 37) (.inr rfl) (hK _ _ ((he 37).trans (hS 1 (by kernel_rfl))) (Below.refl _ _) (fun h => absurd h (by decide)))
      · intro xs WL hb hS hD
        have s0 : xs 0 = _ := hS 0 (by decide)
        have s1 : xs 1 = _ := hS 1 (by decide)
        have s2 : xs 2 = _ := hS 2 (by decide)
        have s3 : xs 3 = _ := hS 3 (by decide)
        have HBL : Hid (Below w1.heap.size w1 WL) := HB8.out.thru hb
        obtain ⟨f0, c0, f1, c1, f2, c2, r3⟩ := rw3 (HX.out _ HBL.out).1
        have HR3 : Hid _ := r3
        have HBW : Hid (Below w.heap.size w WL) := (HX.out _ HBL.out).2
        simp only [layAll, s0, s1, s2, s3, List.setIfInBounds_toArray, List.set_cons_succ, List.set_cons_zero]
        clear hS hD hb r3 s0 s1 s2 s3 h1 h2
        go_wp2
        exact ref_end (p := 4) (u := 5) (q := 6) rfl rfl rfl rfl (HR3.out _ _ _) (below_row3 HBW.out (Nat.le_refl _) _ _ _) (by rw [HRB.out]; exact ⟨rfl, rfl, rfl, rfl, rfl⟩)
  · have HRN : Hid (R = ⟨0, false, false, false, 1⟩) := by
      show _ = _
      rw [hR]
      exact if_neg hm
    rw [decide_eq_false hm] at HMO
    clear hR hm
    go_enter Tryz.func45, Tryz.ntmps45
    go_upto_region 1 with fail
    rw [← hw1]
    clear hw1
    go_wp2_with (first | (go_at_call 107; refine (HMO.out _).mono ?_; rintro e w' ⟨rfl, rfl⟩) | (go_at_call 108; refine (HER.out _ _).mono ?_; rintro e w' ⟨rfl, rfl⟩))
    exact ref_end (p := 4) (u := 5) (q := 6) rfl rfl rfl rfl (HR3.out _ _ _) (below_row3 HBW.out (Nat.le_refl _) _ _ _) (by rw [HRN.out]; exact ⟨rfl, rfl, rfl, rfl, rfl⟩)
set_option maxHeartbeats 4000000 in
set_option maxRecDepth 100000 in
theorem d_fromuint {n : Nat} (hn : n < 18446744073709551616) (m : Int) (w : World) : Calls Tryz.prog 44 #[.int .u64 (n : Nat), .int .i64 m] w (RefQ .u64 (fromA false 53 m n) w) := by
  obtain ⟨w1, hw1⟩ : ∃ W, W = w.alloc (.cells #[.bool false, .bool false, .bool false] 35) := ⟨_, rfl⟩
  have hb1 : Below w.heap.size w w1 := by rw [hw1]; exact (Below.refl _ _).alloc (Nat.le_refl _) _
  have q1 : w1.heap[w.heap.size]? = some (.cells #[.bool false, .bool false, .bool false] 35 (0, 0)) := by rw [hw1]; exact new_blk w _
  have HX : Hid (∀ W, Below w1.heap.size w1 W → W.heap[w.heap.size]? = some (.cells #[.bool false, .bool false, .bool false] 35 (0, 0)) ∧ Below w.heap.size w W) := fun W hW => ⟨hW.blk q1 (blk_lt q1), hb1.trans (hW.mono hb1.size)⟩
  have HBW : Hid (Below w.heap.size w w1) := hb1
  have HMO : Hid (∀ W, Calls Tryz.prog 107 #[.int .i64 m] W fun e w' => e = .returned (.bool (decide (1 ≤ m ∧ m ≤ 6))) ∧ W = w') := fun W => d_mode m W
  have HER : Hid (∀ W f, Calls Tryz.prog 108 #[.bool f] W fun e w' => e = .returned (.int .i64 (if f = true then 0 else 1)) ∧ W = w') := fun W f => d_errof f W
  obtain ⟨R, hR⟩ : ∃ R, R = fromA false 53 m n := ⟨_, rfl⟩
  rw [← hR]
  obtain ⟨f0, c0, f1, c1, f2, c2, r3⟩ := rw3 (HX.out w1 (Below.refl _ _)).1
  have HR3 : Hid _ := r3
  clear hb1 q1 r3
  by_cases hm : 1 ≤ m ∧ m ≤ 6
  · rw [decide_eq_true hm] at HMO
    by_cases h0 : n = 0
    · have HRN : Hid (R = ⟨0, false, false, false, 0⟩) := by
        show _ = _
        rw [hR, h0]
        rw [fromA_ok hm, from_zero, (cut_zero0 false 53 m).2.2]; rfl
      have q0 : ((n : Int) == 0) = true := by rw [beq_iff_eq]; omega
      clear hR h0 hm
      go_enter Tryz.func44, Tryz.ntmps44
      go_upto_region 1 with fail
      rw [← hw1]
      clear hw1
      go_wp2_with (first | (go_at_call 107; refine (HMO.out _).mono ?_; rintro e w' ⟨rfl, rfl⟩) | (go_at_call 108; refine (HER.out _ _).mono ?_; rintro e w' ⟨rfl, rfl⟩))
      exact ref_end (p := 4) (u := 5) (q := 6) rfl rfl rfl rfl (HR3.out _ _ _) (below_row3 HBW.out (Nat.le_refl _) _ _ _) (by rw [HRN.out]; exact ⟨rfl, rfl, rfl, rfl, rfl⟩)
    · obtain ⟨o, ho⟩ : ∃ o, o = outG 53 (-1074) 971 false m (ratMag n 1 0) := ⟨_, rfl⟩
      obtain ⟨BB, hBB⟩ : ∃ x, x = bits64 false o := ⟨_, rfl⟩
      have HRB : Hid (R = ⟨BB, o.ine, o.ov, o.un, 0⟩) := by
        show _ = _
        rw [hR, hBB, ho]
        obtain ⟨M, e, g1, -, g3, -, -⟩ := from53 h0 (show n < 18446744073709551616 by omega) (false) m
        rw [fromA_ok hm, g3, g1]
      have HO : Hid (o = outG 53 (-1074) 971 false m (ratMag n 1 0)) := ho
      have HBB : Hid (BB = bits64 false o) := hBB
      have HTO : Hid (∀ W v, Val W v (false) (n) 1 0 → Calls Tryz.prog 119 #[v, .agg #[.int .i64 53, .int .i64 (-1074), .int .i64 1023], .int .i64 m] W (FlQ (false) o W)) := fun W v hv => by rw [ho]; exact to53_nat _ h0 (by omega) hm W v hv
      have HFR : Hid (∀ W, Calls Tryz.prog 110 #[.bool (false), .int .u64 (n : Nat), .agg #[.int .i64 53, .int .i64 (-1074), .int .i64 1023], .int .i64 m] W (FlQ (false) o W)) := fun W => d_from _ (by omega) _ _ _ m o W HTO.out
      have q0 : ((n : Int) == 0) = false := by rw [Bool.eq_false_iff, Ne, beq_iff_eq]; omega
      clear hR ho hBB h0 hm HTO HER HR3 HBW f0 c0 f1 c1 f2 c2
      go_enter Tryz.func44, Tryz.ntmps44
      go_upto_region 1 with fail
      rw [← hw1]
      clear hw1
      go_wp2_with (first | (go_at_call 107; refine (HMO.out _).mono ?_; rintro e w' ⟨rfl, rfl⟩))
      refine (sixty_any _).mono ?_
      rintro e w2 ⟨rfl, hb2⟩
      have HB2 : Hid (Below w1.heap.size w1 w2) := hb2
      clear hb2
      go_wp2_with fail
      refine (HFR.out _).mono ?_
      rintro e w7 ⟨rfl, hb7⟩
      have HB7 : Hid (Below w1.heap.size w1 w7) := HB2.out.thru hb7
      clear hb7 HB2
      go_upto_region 5 with fail
      obtain ⟨w8, hw8⟩ : ∃ W, W = (w7.alloc (.cells #[.bool false, .bool o.inf, .int .u64 (o.m : Nat), .int .i64 o.e] 160)).alloc (.cells #[.bool o.ine, .bool o.ov, .bool o.un] 35) := ⟨_, rfl⟩
      have HB8 : Hid (Below w1.heap.size w1 w8) := by show Below _ _ _; rw [hw8]; exact (HB7.out.alloc HB7.out.size _).alloc (by have := HB7.out.size; simp; omega) _
      have HR0 : Hid (∀ W, Below w8.heap.size w8 W → W.heap[w7.heap.size]? = some (.cells #[.bool false, .bool o.inf, .int .u64 (o.m : Nat), .int .i64 o.e] 160 (0, 0)) ∧ W.heap[w7.heap.size + 1]? = some (.cells #[.bool o.ine, .bool o.ov, .bool o.un] 35 (0, 0))) := fun W hW => by
        have q0 : w8.heap[w7.heap.size]? = some (.cells #[.bool false, .bool o.inf, .int .u64 (o.m : Nat), .int .i64 o.e] 160 (0, 0)) := by rw [hw8]; exact heap_alloc2_old w7 _ _
        have q1 : w8.heap[w7.heap.size + 1]? = some (.cells #[.bool o.ine, .bool o.ov, .bool o.un] 35 (0, 0)) := by rw [hw8]; exact heap_alloc2_new w7 _ _
        exact ⟨hW.blk q0 (blk_lt q0), hW.blk q1 (blk_lt q1)⟩
      have HBT : Hid (∀ W, Calls Tryz.prog 112 #[.agg #[.bool false, .bool o.inf, .int .u64 (o.m : Nat), .int .i64 o.e]] W fun e w' => e = .returned (.int .u64 (BB : Nat)) ∧ Below W.heap.size W w') := fun W => by
        rw [HBB.out, HO.out]; exact bits64_out _ m _ (ratMag_ok (by decide)) W
      rw [← hw8]
      clear hw8
      have h1 : once [(28, 0), (29, 1), (30, 2), (4, 3)] = true := by kernel_rfl
      have h2 : within [(28, 0), (29, 1), (30, 2), (4, 3)] 31 = true := by kernel_rfl
      refine wp_region_flow 4 6 [(28, 0), (29, 1), (30, 2), (4, 3)] [] (fun i v W => match i with
        | 0 => v = .agg #[.bool false, .bool o.inf, .int .u64 (o.m : Nat), .int .i64 o.e]
        | 1 => v = .int .u64 (BB : Nat)
        | 2 => v = .agg #[.bool o.ine, .bool o.ov, .bool o.un]
        | _ => v = .int .u64 (BB : Nat)) w8.heap.size (Nat.le_refl _) (by kernel_rfl) (by kernel_rfl) (by kernel_rfl) (by decide) (by kernel_rfl) h1 (by kernel_rfl) ?_ ?_ ?_ ?_
      · intro j v W W' h hb
        match j, h with
        | 0, h => exact h
        | 1, h => exact h
        | 2, h => exact h
        | _ + 3, h => exact h
      · exact fun j hj => by cases hj
      · refine ⟨⟨⟨⟨trivial, ?_⟩, ?_⟩, ?_⟩, ?_⟩
        · refine flow_step _ 28 rfl rfl (fun d h => by simpa using h) h1 h2 fun ac xs W he hb hS K hK => ?_
          exact wp_load_row 160 (.tmp 8) rfl w7.heap.size (he 8) _ _ _ _ ((HR0.out W hb).1) Tryz.underlying160 rfl (by kernel_rfl) (hK _ _ rfl (Below.refl _ _) (fun h => absurd h (by decide)))
        · refine flow_step _ 29 rfl rfl (fun d h => by simpa using h) h1 h2 fun ac xs W he hb hS K hK => ?_
          have e0 : ac.eval (.tmp 28) = _ := (he 28).trans (hS 0 (by kernel_rfl))
          refine op_call 112 _ _ rfl _ (by simp only [List.map, e0]) (by go_simp) (HBT.out W) ?_
          rintro e' W' ⟨rfl, hb'⟩
          exact ⟨_, rfl, hK _ _ (rfl) hb' (fun h => absurd h (by decide))⟩
        · refine flow_step _ 30 rfl rfl (fun d h => by simpa using h) h1 h2 fun ac xs W he hb hS K hK => ?_
          exact wp_load_row 35 (.tmp 9) rfl (w7.heap.size + 1) (he 9) _ _ _ _ ((HR0.out W hb).2) Tryz.underlying35 rfl (by kernel_rfl) (hK _ _ rfl (Below.refl _ _) (fun h => absurd h (by decide)))
        · refine flow_step _ 4 rfl rfl (fun d h => by simpa using h) h1 h2 fun ac xs W he hb hS K hK => ?_
          exact op_move (.tmp 29) (.inr rfl) (hK _ _ ((he 29).trans (hS 1 (by kernel_rfl))) (Below.refl _ _) (fun h => absurd h (by decide)))
      · intro xs WL hb hS hD
        have s0 : xs 0 = _ := hS 0 (by decide)
        have s1 : xs 1 = _ := hS 1 (by decide)
        have s2 : xs 2 = _ := hS 2 (by decide)
        have s3 : xs 3 = _ := hS 3 (by decide)
        have HBL : Hid (Below w1.heap.size w1 WL) := HB8.out.thru hb
        obtain ⟨f0, c0, f1, c1, f2, c2, r3⟩ := rw3 (HX.out _ HBL.out).1
        have HR3 : Hid _ := r3
        have HBW : Hid (Below w.heap.size w WL) := (HX.out _ HBL.out).2
        simp only [layAll, s0, s1, s2, s3, List.setIfInBounds_toArray, List.set_cons_succ, List.set_cons_zero]
        clear hS hD hb r3 s0 s1 s2 s3 h1 h2
        go_wp2
        exact ref_end (p := 4) (u := 5) (q := 6) rfl rfl rfl rfl (HR3.out _ _ _) (below_row3 HBW.out (Nat.le_refl _) _ _ _) (by rw [HRB.out]; exact ⟨rfl, rfl, rfl, rfl, rfl⟩)
  · have HRN : Hid (R = ⟨0, false, false, false, 1⟩) := by
      show _ = _
      rw [hR]
      exact if_neg hm
    rw [decide_eq_false hm] at HMO
    clear hR hm
    go_enter Tryz.func44, Tryz.ntmps44
    go_upto_region 1 with fail
    rw [← hw1]
    clear hw1
    go_wp2_with (first | (go_at_call 107; refine (HMO.out _).mono ?_; rintro e w' ⟨rfl, rfl⟩) | (go_at_call 108; refine (HER.out _ _).mono ?_; rintro e w' ⟨rfl, rfl⟩))
    exact ref_end (p := 4) (u := 5) (q := 6) rfl rfl rfl rfl (HR3.out _ _ _) (below_row3 HBW.out (Nat.le_refl _) _ _ _) (by rw [HRN.out]; exact ⟨rfl, rfl, rfl, rfl, rfl⟩)
end Go.Proofs.YtgfbcncjboenbaaGreatDoor

/- Walks: the law SingleFrom. -/
namespace Go.Proofs.YtgfbcncjboenbaaGreatDoor
open Go.RowKit
open Go.Lib hiding intOf

set_option maxHeartbeats 4000000 in
set_option maxRecDepth 100000 in
theorem singleFrom_walk (n : Int) (u : Nat) (m : Int) (w : World) (l1 : -9223372036854775808 ≤ n) (l2 : n ≤ 9223372036854775807) (hu : W64 u) (_ : -9223372036854775808 ≤ m) (_ : m ≤ 9223372036854775807) (htab : Tab w) : Calls Tryz.prog 8 #[.int .i64 n, .int .u64 (u : Nat), .int .i64 m] w fun e w' => e = .returned (.bool true) ∧ Below w.heap.size w w' := by
  have HW : Hid (Calls Tryz.prog 28 #[] w fun e w' => e = .returned (.bool true) ∧ Below w.heap.size w w') := awake4_v w htab
  obtain ⟨RX, hX⟩ : ∃ R, R = fromA (decide (n < 0)) 53 m n.natAbs := ⟨_, rfl⟩
  obtain ⟨RY, hY⟩ : ∃ R, R = fromA false 53 m u := ⟨_, rfl⟩
  obtain ⟨RZ, hZ⟩ : ∃ R, R = sinA (decide (n < 0)) m n.natAbs := ⟨_, rfl⟩
  have H1 : Hid (∀ W, Calls Tryz.prog 35 #[.int .i64 n, .int .i64 m] W (RatioQ RX W)) := fun W => by rw [hX]; exact s_fromint l1 l2 m W
  have H2 : Hid (∀ W, Calls Tryz.prog 42 #[.int .i64 n, .int .i64 m] W (RefQ .u64 RX W)) := fun W => by rw [hX]; exact d_fromint l1 l2 m W
  have H3 : Hid (∀ W, Calls Tryz.prog 43 #[.int .u64 (u : Nat), .int .i64 m] W (RatioQ RY W)) := fun W => by rw [hY]; exact s_fromuint hu m W
  have H4 : Hid (∀ W, Calls Tryz.prog 44 #[.int .u64 (u : Nat), .int .i64 m] W (RefQ .u64 RY W)) := fun W => by rw [hY]; exact d_fromuint hu m W
  have H5 : Hid (∀ W, Calls Tryz.prog 36 #[.int .i64 n, .int .i64 m] W (Ratio32Q RZ W)) := fun W => by rw [hZ]; exact s_singleint l1 l2 m W
  have H6 : Hid (∀ W, Calls Tryz.prog 45 #[.int .i64 n, .int .i64 m] W (RefQ .u32 RZ W)) := fun W => by rw [hZ]; exact d_singleint l1 l2 m W
  have HH : Hid (∀ W x, Calls Tryz.prog 30 #[.float .f32 x, .int .u32 (x : Nat)] W fun e w' => e = .returned (.bool true) ∧ Below W.heap.size W w') := fun W x => by
    have := has_v x x W; rw [decide_eq_true rfl] at this; exact this
  have HI : Hid (∀ W x, Calls Tryz.prog 41 #[.float .f64 x, .int .u64 (x : Nat)] W fun e w' => e = .returned (.bool true) ∧ Below W.heap.size W w') := fun W x => by
    have := is4_v x x W; rw [decide_eq_true rfl] at this; exact this
  have e1 : ((RX.err : Int) == RX.err) = true := by simp
  have e2 : ((RY.err : Int) == RY.err) = true := by simp
  have e3 : ((RZ.err : Int) == RZ.err) = true := by simp
  clear htab hX hY hZ l1 l2 hu
  go_enter Tryz.func8, Tryz.ntmps8
  go_wp2_with fail
  refine HW.out.mono ?_
  rintro e w0 ⟨rfl, hb⟩
  have HB0 : Hid (Below w.heap.size w w0) := hb
  have HK0 : Hid (Kept _ w0) := Kept.nil w0
  clear hb
  go_wp2_with fail
  refine (H1.out _).mono ?_
  rintro e v1 ⟨rfl, hb⟩
  have HK1 : Hid (Kept _ (v1.alloc (.cells #[.bool RX.ine, .bool RX.ov, .bool RX.un] 35))) := (HK0.out.below hb).push (.cells #[.bool RX.ine, .bool RX.ov, .bool RX.un] 35 (0, 0))
  have HB1 : Hid (Below w.heap.size w (v1.alloc (.cells #[.bool RX.ine, .bool RX.ov, .bool RX.un] 35))) := (HB0.out.thru hb).alloc (HB0.out.thru hb).size _
  clear hb HB0 HK0
  go_wp2_with fail
  refine (H2.out _).mono ?_
  rintro e v2 ⟨rfl, hb⟩
  have HK2 : Hid (Kept _ (v2.alloc (.cells #[.bool RX.ine, .bool RX.ov, .bool RX.un] 35))) := (HK1.out.below hb).push (.cells #[.bool RX.ine, .bool RX.ov, .bool RX.un] 35 (0, 0))
  have HB2 : Hid (Below w.heap.size w (v2.alloc (.cells #[.bool RX.ine, .bool RX.ov, .bool RX.un] 35))) := (HB1.out.thru hb).alloc (HB1.out.thru hb).size _
  clear hb HB1 HK1
  go_wp2_with fail
  refine (H3.out _).mono ?_
  rintro e v3 ⟨rfl, hb⟩
  have HK3 : Hid (Kept _ (v3.alloc (.cells #[.bool RY.ine, .bool RY.ov, .bool RY.un] 35))) := (HK2.out.below hb).push (.cells #[.bool RY.ine, .bool RY.ov, .bool RY.un] 35 (0, 0))
  have HB3 : Hid (Below w.heap.size w (v3.alloc (.cells #[.bool RY.ine, .bool RY.ov, .bool RY.un] 35))) := (HB2.out.thru hb).alloc (HB2.out.thru hb).size _
  clear hb HB2 HK2
  go_wp2_with fail
  refine (H4.out _).mono ?_
  rintro e v4 ⟨rfl, hb⟩
  have HK4 : Hid (Kept _ (v4.alloc (.cells #[.bool RY.ine, .bool RY.ov, .bool RY.un] 35))) := (HK3.out.below hb).push (.cells #[.bool RY.ine, .bool RY.ov, .bool RY.un] 35 (0, 0))
  have HB4 : Hid (Below w.heap.size w (v4.alloc (.cells #[.bool RY.ine, .bool RY.ov, .bool RY.un] 35))) := (HB3.out.thru hb).alloc (HB3.out.thru hb).size _
  clear hb HB3 HK3
  go_wp2_with fail
  refine (H5.out _).mono ?_
  rintro e v5 ⟨rfl, hb⟩
  have HK5 : Hid (Kept _ (v5.alloc (.cells #[.bool RZ.ine, .bool RZ.ov, .bool RZ.un] 35))) := (HK4.out.below hb).push (.cells #[.bool RZ.ine, .bool RZ.ov, .bool RZ.un] 35 (0, 0))
  have HB5 : Hid (Below w.heap.size w (v5.alloc (.cells #[.bool RZ.ine, .bool RZ.ov, .bool RZ.un] 35))) := (HB4.out.thru hb).alloc (HB4.out.thru hb).size _
  clear hb HB4 HK4
  go_wp2_with fail
  refine (H6.out _).mono ?_
  rintro e v6 ⟨rfl, hb⟩
  have HK6 : Hid (Kept _ (v6.alloc (.cells #[.bool RZ.ine, .bool RZ.ov, .bool RZ.un] 35))) := (HK5.out.below hb).push (.cells #[.bool RZ.ine, .bool RZ.ov, .bool RZ.un] 35 (0, 0))
  have HB6 : Hid (Below w.heap.size w (v6.alloc (.cells #[.bool RZ.ine, .bool RZ.ov, .bool RZ.un] 35))) := (HB5.out.thru hb).alloc (HB5.out.thru hb).size _
  clear hb HB5 HK5
  go_wp2_with fail
  refine (HI.out _ _).mono ?_
  rintro e x1 ⟨rfl, hb⟩
  have HK7 : Hid (Kept _ x1) := HK6.out.below hb
  have HB7 : Hid (Below w.heap.size w x1) := HB6.out.thru hb
  clear hb HB6 HK6
  obtain ⟨p0, q0, r0⟩ := flag_cells (HK7.out _ (.head _))
  obtain ⟨p1, q1, r1⟩ := flag_cells (HK7.out _ (.tail _ (.head _)))
  obtain ⟨p2, q2, r2⟩ := flag_cells (HK7.out _ (.tail _ (.tail _ (.head _))))
  obtain ⟨p3, q3, r3⟩ := flag_cells (HK7.out _ (.tail _ (.tail _ (.tail _ (.head _)))))
  obtain ⟨p4, q4, r4⟩ := flag_cells (HK7.out _ (.tail _ (.tail _ (.tail _ (.tail _ (.head _))))))
  obtain ⟨p5, q5, r5⟩ := flag_cells (HK7.out _ (.tail _ (.tail _ (.tail _ (.tail _ (.tail _ (.head _)))))))
  go_wp2_with fail
  refine (HI.out _ _).mono ?_
  rintro e x2 ⟨rfl, hb⟩
  have HK8 : Hid (Kept _ x2) := HK7.out.below hb
  have HB8 : Hid (Below w.heap.size w x2) := HB7.out.thru hb
  clear hb HB7 HK7
  clear p0 q0 r0 p1 q1 r1 p2 q2 r2 p3 q3 r3 p4 q4 r4 p5 q5 r5
  obtain ⟨p0, q0, r0⟩ := flag_cells (HK8.out _ (.head _))
  obtain ⟨p1, q1, r1⟩ := flag_cells (HK8.out _ (.tail _ (.head _)))
  obtain ⟨p2, q2, r2⟩ := flag_cells (HK8.out _ (.tail _ (.tail _ (.head _))))
  obtain ⟨p3, q3, r3⟩ := flag_cells (HK8.out _ (.tail _ (.tail _ (.tail _ (.head _)))))
  obtain ⟨p4, q4, r4⟩ := flag_cells (HK8.out _ (.tail _ (.tail _ (.tail _ (.tail _ (.head _))))))
  obtain ⟨p5, q5, r5⟩ := flag_cells (HK8.out _ (.tail _ (.tail _ (.tail _ (.tail _ (.tail _ (.head _)))))))
  go_wp2_with fail
  refine (HH.out _ _).mono ?_
  rintro e x3 ⟨rfl, hb⟩
  have HK9 : Hid (Kept _ x3) := HK8.out.below hb
  have HB9 : Hid (Below w.heap.size w x3) := HB8.out.thru hb
  clear hb HB8 HK8
  clear p0 q0 r0 p1 q1 r1 p2 q2 r2 p3 q3 r3 p4 q4 r4 p5 q5 r5
  obtain ⟨p0, q0, r0⟩ := flag_cells (HK9.out _ (.head _))
  obtain ⟨p1, q1, r1⟩ := flag_cells (HK9.out _ (.tail _ (.head _)))
  obtain ⟨p2, q2, r2⟩ := flag_cells (HK9.out _ (.tail _ (.tail _ (.head _))))
  obtain ⟨p3, q3, r3⟩ := flag_cells (HK9.out _ (.tail _ (.tail _ (.tail _ (.head _)))))
  obtain ⟨p4, q4, r4⟩ := flag_cells (HK9.out _ (.tail _ (.tail _ (.tail _ (.tail _ (.head _))))))
  obtain ⟨p5, q5, r5⟩ := flag_cells (HK9.out _ (.tail _ (.tail _ (.tail _ (.tail _ (.tail _ (.head _)))))))
  go_wp2
  go_ret
  exact ⟨rfl, HB9.out⟩
end Go.Proofs.YtgfbcncjboenbaaGreatDoor
