/- Parts Bm of the proof, in one text. -/
import Derived.Test.YtgfbcncjboenbaaGreatDoorSBJ
import Derived.Test.YtgfbcncjboenbaaGreatDoorSBG

/- Walks: round's To64, To32. -/
namespace Go.Proofs.YtgfbcncjboenbaaGreatDoor
open Go.RowKit
@[go_sem] theorem run_fbits32 (b : Nat) (w : World) : (callFunc 21 #[.float .f32 b]).run Tryz.prog w = .ok (.value (.int .u32 b)) w := by kernel_rfl
@[go_sem] theorem run_ffrom32 (n : Int) (w : World) : (callFunc 29 #[.int .u32 n]).run Tryz.prog w = .ok (.value (.float .f32 n.toNat)) w := by kernel_rfl
theorem one_made : mkD 1 0 = oneD := by
  have h := (mk_self oneD_ok).1
  have h1 : oneD.v = 1 := by decide
  rw [h1] at h
  exact h
theorem int_one (w : World) (htab : Tab w) : ∀ W, Below w.heap.size w W → Calls Tryz.prog 85 #[.int .i64 1] W fun e w' => e = .returned (.agg #[.bool oneD.neg, .string (bs oneD.s), .int .i64 oneD.e]) ∧ Below W.heap.size W w' := int_c (by decide) (by decide) one_made w htab

/-- What To32 tells. -/
def Ratio32Q (r : RA) (w : World) (e : Ending) (w' : World) : Prop := e = .returned (.tuple #[.float .f32 r.bits, .agg #[.bool r.ine, .bool r.ov, .bool r.un], .int .i64 r.err]) ∧ Below w.heap.size w w'
theorem ratio32_end {fn : Func} {p u q : Tmp} (hf : fn.results = #[.tmp p, .cell u 35, .tmp q]) {tmps : Array Value} {w0 w : World} {g0 x : Nat} {y : Int} {a b c : Bool} {r : RA}
    (hp : tmps.getD p undef = .float .f32 x) (hq : tmps.getD q undef = .int .i64 y) (hu : tmps.getD u undef = .pointer (some ⟨g0, 0, none⟩))
    (hg : w.heap[g0]? = some (.cells #[.bool a, .bool b, .bool c] 35 (0, 0))) (hb : Below w0.heap.size w0 w) (hr : r = ⟨x, a, b, c, y⟩) : bodyPost Tryz.prog fn (Ratio32Q r w0) .ret ⟨tmps, []⟩ w := by
  subst hr
  have hu' : tmps[u]?.getD undef = .pointer (some ⟨g0, 0, none⟩) := by simpa using hu
  refine bodyPost_ret (v := .tuple #[tmps.getD p undef, .agg #[.bool a, .bool b, .bool c], tmps.getD q undef]) ?_ rfl ⟨?_, hb⟩
  · rw [results_tct hf]
    simp [hu', asAddr, run_loadVar_row (P := Tryz.prog) w g0 _ 35 #[.bool a, .bool b, .bool c] (0, 0) _ hg Tryz.underlying35 rfl (by kernel_rfl), Result.andThen]
  · show _ = Ending.returned (.tuple #[_, _, _])
    rw [hp, hq]
/-- A decimal as a quotient by one. -/
def QuoOneQ (a : Dc) (w : World) (e : Ending) (w' : World) : Prop := ∃ a1 m1 c1 a2 m2 c2 M D, e = .returned (.agg #[.bool a.neg, .bool false, .bool false, .slice a1 m1 c1, .bool false, .slice a2 m2 c2]) ∧ Num .u64 18446744073709551616 w' (.slice a1 m1 c1) M ∧ Num .u64 18446744073709551616 w' (.slice a2 m2 c2) D ∧ QV a oneD M D ∧ Below w.heap.size w w'
theorem neg_one (a : Dc) : (a.neg != oneD.neg) = a.neg := by show (a.neg != false) = a.neg; cases a.neg <;> rfl
theorem quo_one (a : Dc) (ha : a.ok) (h0 : a.s ≠ []) (w : World) : Calls Tryz.prog 87 #[.agg #[.bool a.neg, .string (bs a.s), .int .i64 a.e], .agg #[.bool oneD.neg, .string (bs oneD.s), .int .i64 oneD.e]] w (QuoOneQ a w) := by
  refine (quotient_v a oneD ha oneD_ok h0 oneD_s w).mono ?_
  rintro e w' ⟨a1, m1, c1, a2, m2, c2, M, D, rfl, h⟩
  exact ⟨a1, m1, c1, a2, m2, c2, M, D, by rw [neg_one], h⟩
theorem f24_quo {a : Dc} (ha : a.ok) (h0 : a.s ≠ []) {mode : Int} (hm : 1 ≤ mode ∧ mode ≤ 6) {a1 a2 : Option Addr} {m1 c1 m2 c2 M D : Nat} {w : World} (n1 : Num .u64 18446744073709551616 w (.slice a1 m1 c1) M) (n2 : Num .u64 18446744073709551616 w (.slice a2 m2 c2) D) (hv : QV a oneD M D) :
    Calls Tryz.prog 88 #[.agg #[.bool a.neg, .bool false, .bool false, .slice a1 m1 c1, .bool false, .slice a2 m2 c2], .agg #[.int .i64 24, .int .i64 (-149), .int .i64 104], .int .i64 mode] w (FloatQ (outG 24 (-149) 104 a.neg mode (quoG a oneD)) w) := by
  obtain ⟨bb, h2, h3, h4, h5⟩ := hv.bd ha oneD_ok
  have hp := hv.pos ha oneD_ok h0 oneD_s
  have hs : outG 24 (-149) 104 a.neg mode (ratMag M D 0) = outG 24 (-149) 104 a.neg mode (quoG a oneD) := quo_same (c := 24) (T := 104) (l := 149) (by decide) (by decide) (by decide) ha oneD_ok h0 oneD_s hv
  have := float24_rat mode hm a.neg a1 a2 m1 c1 m2 c2 M D w n1 n2 h4 h5 (by omega) hp.1 hp.2
  rw [← hs]; exact this
theorem emp_slice {l : List UInt8} (h : l = []) : (bs l).toList.isEmpty = true := by rw [bs_emp, decide_eq_true h]
theorem emp_not {l : List UInt8} (h : l ≠ []) : (bs l).toList.isEmpty = false := by rw [bs_emp, decide_eq_false h]
set_option maxHeartbeats 4000000 in
set_option maxRecDepth 100000 in
theorem to32_v (a : Dc) (m : Int) (w : World) (htab : Tab w) (hsa : a.s.length ≤ 9223372036854775807) :
    Calls Tryz.prog 27 #[.agg #[.bool a.neg, .string (bs a.s), .int .i64 a.e], .int .i64 m] w (Ratio32Q (to32A a m) w) := by
  obtain ⟨R, hR⟩ : ∃ R, R = to32A a m := ⟨_, rfl⟩
  rw [← hR]
  have HR : Hid (R = to32A a m) := hR
  obtain ⟨w4, hw4⟩ : ∃ W, W = (((w.alloc (.cells #[.bool a.neg, .string (bs a.s), .int .i64 a.e] 47)).alloc (.cells #[.bool false, .bool false, .bool false] 35)).alloc (.cells #[.bool a.neg, .string (bs a.s), .int .i64 a.e] 47)) := ⟨_, rfl⟩
  have hba : Below w.heap.size w w4 := by rw [hw4]; exact (((Below.refl _ _).alloc (Nat.le_refl _) _).alloc (by simp) _).alloc (by simp; omega) _
  have hsz : w4.heap.size = w.heap.size + 3 := by rw [hw4]; simp
  have q0 : w4.heap[w.heap.size]? = some (.cells #[.bool a.neg, .string (bs a.s), .int .i64 a.e] 47 (0, 0)) := by rw [hw4]; exact (heap_alloc_old _ _ (by simp; omega)).trans (heap_alloc2_old w _ _)
  have q1 : w4.heap[w.heap.size + 1]? = some (.cells #[.bool false, .bool false, .bool false] 35 (0, 0)) := by rw [hw4]; exact (heap_alloc_old _ _ (by simp)).trans (heap_alloc2_new w _ _)
  have HX : Hid (∀ W, Below w4.heap.size w4 W → W.heap[w.heap.size]? = some (.cells #[.bool a.neg, .string (bs a.s), .int .i64 a.e] 47 (0, 0)) ∧ W.heap[w.heap.size + 1]? = some (.cells #[.bool false, .bool false, .bool false] 35 (0, 0)) ∧ Below w.heap.size w W) := fun W hW =>
    ⟨hW.blk q0 (by omega), hW.blk q1 (by omega), hba.trans (hW.mono hba.size)⟩
  have HSZ : Hid (w4.heap.size = w.heap.size + 3) := hsz
  have H1 : Hid (∀ W, Below w4.heap.size w4 W → Calls Tryz.prog 85 #[.int .i64 1] W fun e w' => e = .returned (.agg #[.bool oneD.neg, .string (bs oneD.s), .int .i64 oneD.e]) ∧ Below W.heap.size W w') := int_one w4 (htab.below hba)
  obtain ⟨p, hp⟩ : ∃ p, p = ([a].all (fun d => d.okB) && decide (1 ≤ m ∧ m ≤ 6)) := ⟨_, rfl⟩
  have q3 : w4.heap[w.heap.size + 2]? = some (.cells #[.bool a.neg, .string (bs a.s), .int .i64 a.e] 47 (0, 0)) := by
    rw [hw4]
    have := heap_alloc_new ((w.alloc (.cells #[.bool a.neg, .string (bs a.s), .int .i64 a.e] 47)).alloc (.cells #[.bool false, .bool false, .bool false] 35)) (.cells #[.bool a.neg, .string (bs a.s), .int .i64 a.e] 47)
    simpa using this
  have HM : Hid (Calls Tryz.prog 86 #[.int .i64 m, .slice (some ⟨w.heap.size + 2, 0, none⟩) 1 1] w4 fun e w' => e = .returned (.bool p) ∧ Below w4.heap.size w4 w') := by
    have := may_v m [a] (w.heap.size + 2) 1 w4 (by omega) (decs_one q3) (by simp) (by omega) (by simp; exact hsa)
    rw [← hp] at this
    exact this
  have HP : Hid (p = true ↔ (a.ok ∧ 1 ≤ m ∧ m ≤ 6)) := by
    show _ ↔ _
    rw [hp]
    simp [okB_iff]
  clear hR hba hsz q0 q1 q3 hp htab
  go_enter Tryz.func27, Tryz.ntmps27
  go_wp2_with fail
  rw [← hw4]
  clear hw4
  refine Calls.mono HM.out ?_
  rintro e w5 ⟨rfl, hb5⟩
  have HB5 : Hid (Below w4.heap.size w4 w5) := hb5
  have hr2 := (HX.out w5 hb5).2.1
  obtain ⟨f0, c0, f1, c1, f2, c2, r3⟩ := rw3 hr2
  have HR3 : Hid _ := r3
  have hbw := (HX.out w5 hb5).2.2
  have HBW : Hid (Below w.heap.size w w5) := hbw
  have ka := cell_of_row w5 w.heap.size 1 _ _ _ (HX.out w5 hb5).1
  have ka0 := cell_of_row w5 w.heap.size 0 _ _ _ (HX.out w5 hb5).1
  clear hb5 hr2 r3 hbw HM hsa
  cases p
  · clear ka ka0
    have HRN : Hid (R = RA.no 1) := by
      show _ = _
      rw [HR.out]; unfold to32A
      rw [if_pos (fun h => by have := HP.out.2 h; cases this)]
    go_wp2
    exact ratio32_end (p := 4) (u := 5) (q := 6) rfl rfl rfl rfl (HR3.out _ _ _) (below_row3 HBW.out (by omega) _ _ _) HRN.out
  obtain ⟨oa, m1, m2⟩ := HP.out.1 rfl
  have HOA : Hid a.ok := oa
  have HM6 : Hid (1 ≤ m ∧ m ≤ 6) := ⟨m1, m2⟩
  have HRN : Hid (R = if a.s = [] then RA.no 0 else ⟨bits32 a.neg (outG 24 (-149) 104 a.neg m (quoG a oneD)), (outG 24 (-149) 104 a.neg m (quoG a oneD)).ine, (outG 24 (-149) 104 a.neg m (quoG a oneD)).ov, (outG 24 (-149) 104 a.neg m (quoG a oneD)).un, 0⟩) := by
    show _ = _
    rw [HR.out]; unfold to32A
    rw [if_neg (fun h => h ⟨oa, m1, m2⟩)]
  clear HP HR oa m1 m2
  by_cases ha0 : a.s = []
  · have HRM : Hid (R = RA.no 0) := by show _ = _; rw [HRN.out, if_pos ha0]
    have hf := emp_slice ha0
    clear ha0 ka0
    go_wp2
    exact ratio32_end (p := 4) (u := 5) (q := 6) rfl rfl rfl rfl (HR3.out _ _ _) (below_row3 HBW.out (by omega) _ _ _) HRM.out
  have hf := emp_not ha0
  have HA0 : Hid (a.s ≠ []) := ha0
  obtain ⟨o, ho⟩ : ∃ o, o = outG 24 (-149) 104 a.neg m (quoG a oneD) := ⟨_, rfl⟩
  have HO : Hid (o = outG 24 (-149) 104 a.neg m (quoG a oneD)) := ho
  have HRM : Hid (R = ⟨bits32 a.neg o, o.ine, o.ov, o.un, 0⟩) := by show _ = _; rw [HRN.out, if_neg ha0, ← ho]
  clear HRN ha0 ho f0 c0 f1 c1 f2 c2 HR3
  go_upto_region 5 with fail
  clear ka ka0
  have h1 : once [(23, 0), (24, 1), (25, 2), (7, 3)] = true := by kernel_rfl
  have h2 : within [(23, 0), (24, 1), (25, 2), (7, 3)] 60 = true := by kernel_rfl
  let S : Nat → (Nat → Value) → World → Prop := fun i xs W => match i with
    | 0 => (xs 0) = .agg #[.bool a.neg, .string (bs a.s), .int .i64 a.e]
    | 1 => (xs 1) = .agg #[.bool oneD.neg, .string (bs oneD.s), .int .i64 oneD.e]
    | 2 => ∃ a1 m1 c1 a2 m2 c2 M D, (xs 2) = .agg #[.bool a.neg, .bool false, .bool false, .slice a1 m1 c1, .bool false, .slice a2 m2 c2] ∧ Num .u64 18446744073709551616 W (.slice a1 m1 c1) M ∧ Num .u64 18446744073709551616 W (.slice a2 m2 c2) D ∧ QV a oneD M D
    | 3 => ∃ g, (xs 3) = .pointer (some ⟨g, 0, none⟩) ∧ w5.heap.size ≤ g ∧ g < W.heap.size ∧ W.heap[g]? = some (.cells #[.bool false, .bool false, .bool false, .slice none 0 0, .bool false, .slice none 0 0] 133 (0, 0))
    | _ => True
  have hstab : ∀ j ys W W', S j ys W → Below W.heap.size W W' → S j ys W' := by
    intro j ys W W' h hb
    match j, h with
    | 0, h => exact h
    | 1, h => exact h
    | 2, ⟨a1, m1, c1, a2, m2, c2, M, D, e1, n1, n2, hv⟩ => exact ⟨a1, m1, c1, a2, m2, c2, M, D, e1, n1.below (Nat.le_refl _) hb, n2.below (Nat.le_refl _) hb, hv⟩
    | 3, ⟨g, s1, s2, s3, s4⟩ => exact ⟨g, s1, s2, Nat.lt_of_lt_of_le s3 hb.size, hb.blk s4 s3⟩
    | _ + 4, h => exact trivial
  refine wp_region_flow3T 4 5 4 [(23, 0), (24, 1), (25, 2), (7, 3)] [3] S (fun _ W => (fun W => Below w5.heap.size w5 W) W) ((Below.refl _ _).drew) (by kernel_rfl) (by kernel_rfl) (by kernel_rfl) (by decide) (by kernel_rfl) h1 (by kernel_rfl) ?_ ?_ ?_ ?_
  · intro j hj xs W h
    simp only [List.mem_cons, List.not_mem_nil, or_false] at hj
    rcases hj with rfl
    · obtain ⟨g, s1, s2, s3, s4⟩ := h; exact ⟨g, s1, s3⟩
  · intro j xs ys W e h
    match j, e, h with
    | 0, e, h => exact (e 0 (.inl rfl)).symm.trans h
    | 1, e, h => exact (e 1 (.inl rfl)).symm.trans h
    | 2, e, ⟨a1, m1, c1, a2, m2, c2, M, D, e1, r⟩ => exact ⟨a1, m1, c1, a2, m2, c2, M, D, (e 2 (.inl rfl)).symm.trans e1, r⟩
    | 3, e, ⟨g, s1, r⟩ => exact ⟨g, (e 3 (.inl rfl)).symm.trans s1, r⟩
    | _ + 4, e, h => exact trivial
  · refine ⟨⟨⟨⟨trivial, ?_⟩, ?_⟩, ?_⟩, ?_⟩
    · refine flow3_step _ (some 23) rfl rfl rfl h1 h2 (fun D W _ h => h) (fun D W W' h hb => h.thru hb) hstab fun ac xs W Dn he hni hb hS K hK => ?_
      exact wp_load_row 47 (.tmp 2) rfl w.heap.size (he 2) _ _ _ _ ((HX.out W (HB5.out.thru hb)).1) Tryz.underlying47 rfl (by kernel_rfl) (hK _ _ rfl (Below.refl _ _) (fun h => absurd h (by decide)))
    · refine flow3_step _ (some 24) rfl rfl rfl h1 h2 (fun D W _ h => h) (fun D W W' h hb => h.thru hb) hstab fun ac xs W Dn he hni hb hS K hK => ?_
      refine op_call 85 _ _ rfl _ (by simp only [List.map, eval_const]) (by go_simp) (H1.out W (HB5.out.thru hb)) ?_
      rintro e' W' ⟨rfl, hb'⟩
      exact ⟨_, rfl, hK _ _ (rfl) hb' (fun h => absurd h (by decide))⟩
    · refine flow3_step _ (some 25) rfl rfl rfl h1 h2 (fun D W _ h => h) (fun D W W' h hb => h.thru hb) hstab fun ac xs W Dn he hni hb hS K hK => ?_
      have e0 : ac.eval (.tmp 23) = _ := (he 23).trans (hS 0 (by kernel_rfl))
      have e1 : ac.eval (.tmp 24) = _ := (he 24).trans (hS 1 (by kernel_rfl))
      refine op_call 87 _ _ rfl _ (by simp only [List.map, e0, e1]) (by go_simp) (quo_one a HOA.out HA0.out W) ?_
      rintro e' W' ⟨a1, m1, c1, a2, m2, c2, M, D, rfl, n1, n2, hv, hb'⟩
      exact ⟨_, rfl, hK _ _ ⟨a1, m1, c1, a2, m2, c2, M, D, rfl, n1, n2, hv⟩ hb' (fun h => absurd h (by decide))⟩
    · refine flow3_step _ (some 7) rfl rfl rfl h1 h2 (fun D W _ h => h) (fun D W W' h hb => h.thru hb) hstab fun ac xs W Dn he hni hb hS K hK => ?_
      have hsz := hb.size
      refine op_anyw (.alloc 133) rfl (.pointer (some ⟨W.heap.size, 0, none⟩)) (W.alloc (.cells #[.bool false, .bool false, .bool false, .slice none 0 0, .bool false, .slice none 0 0] 133)) ?_ ?_
      · intro o' ho'
        simp only [execOp, ho']
        go_simp
      · exact hK _ _ ⟨_, rfl, by omega, by simp, heap_alloc_new _ _⟩ ((Below.refl _ _).alloc (Nat.le_refl _) _) (fun _ => rfl)
  · intro xs W6 Dn hall hb hS hD
    obtain ⟨g7, s3, hg7, hg8, hr7⟩ := hS 3 (by decide)
    obtain ⟨a1, m1, c1, a2, m2, c2, M, D, s2, n1, n2, hv⟩ := hS 2 (by decide)
    have s0 : xs 0 = _ := hS 0 (by decide)
    have s1 : xs 1 = _ := hS 1 (by decide)
    simp only [layAll, s0, s1, s2, s3, List.setIfInBounds_toArray, List.set_cons_succ, List.set_cons_zero]
    clear hS hD hall hstab S s0 s1 s2 s3 h1 h2
    obtain ⟨y1, y2, y3⟩ := HX.out W6 (HB5.out.thru hb)
    have hsz := HSZ.out
    have hs5 := HB5.out.size
    refine wpList_store_row rfl 133 (.tmp 7) (.tmp 25) rfl g7 #[.bool a.neg, .bool false, .bool false, .slice a1 m1 c1, .bool false, .slice a2 m2 c2] rfl rfl _ _ hr7 (by kernel_rfl) rfl (by simp [Value.oneCell']) ?_
    obtain ⟨w6, hw6⟩ : ∃ W, W = W6.setRow g7 #[.bool a.neg, .bool false, .bool false, .slice a1 m1 c1, .bool false, .slice a2 m2 c2] := ⟨_, rfl⟩
    have hq7 : w6.heap[g7]? = some (.cells #[.bool a.neg, .bool false, .bool false, .slice a1 m1 c1, .bool false, .slice a2 m2 c2] 133 (0, 0)) := by rw [hw6]; exact setRow_heap W6 g7 _ _ _ _ hr7
    have hn1 : Num .u64 18446744073709551616 w6 (.slice a1 m1 c1) M := by rw [hw6]; exact num_setRow n1 hr7 (no_u64v _ _ _ _ _ _ _ _ _ _)
    have hn2 : Num .u64 18446744073709551616 w6 (.slice a2 m2 c2) D := by rw [hw6]; exact num_setRow n2 hr7 (no_u64v _ _ _ _ _ _ _ _ _ _)
    have hy1 : w6.heap[w.heap.size]? = some (.cells #[.bool a.neg, .string (bs a.s), .int .i64 a.e] 47 (0, 0)) := by rw [hw6]; exact (setRow_other W6 g7 _ _ (by omega)).trans y1
    have hy2 : w6.heap[w.heap.size + 1]? = some (.cells #[.bool false, .bool false, .bool false] 35 (0, 0)) := by rw [hw6]; exact (setRow_other W6 g7 _ _ (by omega)).trans y2
    have hy3 : Below w.heap.size w w6 := by rw [hw6]; exact below_setRow y3 (by omega) _
    have hs6 : w6.heap.size = W6.heap.size := by rw [hw6]; exact setRow_size _ _ _
    rw [← hw6]
    have hz6 := hb.size
    have HX2 : Hid (∀ W, Below w6.heap.size w6 W → W.heap[g7]? = some (.cells #[.bool a.neg, .bool false, .bool false, .slice a1 m1 c1, .bool false, .slice a2 m2 c2] 133 (0, 0)) ∧ Num .u64 18446744073709551616 W (.slice a1 m1 c1) M ∧ Num .u64 18446744073709551616 W (.slice a2 m2 c2) D ∧ W.heap[w.heap.size]? = some (.cells #[.bool a.neg, .string (bs a.s), .int .i64 a.e] 47 (0, 0)) ∧ W.heap[w.heap.size + 1]? = some (.cells #[.bool false, .bool false, .bool false] 35 (0, 0)) ∧ Below w.heap.size w W) := fun W hW =>
      ⟨hW.blk hq7 (by omega), hn1.below (Nat.le_refl _) hW, hn2.below (Nat.le_refl _) hW, hW.blk hy1 (by omega), hW.blk hy2 (by omega), hy3.trans (hW.mono hy3.size)⟩
    have HZ6 : Hid (w.heap.size + 3 ≤ g7 ∧ g7 < w6.heap.size) := ⟨by omega, by omega⟩
    have HV : Hid (QV a oneD M D) := hv
    clear hw6 hq7 hn1 hn2 hy1 hy2 hy3 hs6 hz6 hs5 hsz y1 y2 y3 n1 n2 hr7 hg7 hg8 hv hb
    have HF : Hid (∀ W, Below w6.heap.size w6 W → Calls Tryz.prog 88 #[.agg #[.bool a.neg, .bool false, .bool false, .slice a1 m1 c1, .bool false, .slice a2 m2 c2], .agg #[.int .i64 24, .int .i64 (-149), .int .i64 104], .int .i64 m] W (FloatQ o W)) := fun W hW => by
      rw [HO.out]; exact f24_quo HOA.out HA0.out HM6.out (HX2.out W hW).2.1 (HX2.out W hW).2.2.1 HV.out
    go_upto_region 6 with fail
    clear HB5 HBW HX H1 HSZ
    have h1 : once [(27, 0), (28, 1), (29, 2), (30, 3), (26, 4), (31, 5), (32, 6), (33, 7), (34, 8), (11, 9), (8, 10), (9, 11), (10, 12)] = true := by kernel_rfl
    have h2 : within [(27, 0), (28, 1), (29, 2), (30, 3), (26, 4), (31, 5), (32, 6), (33, 7), (34, 8), (11, 9), (8, 10), (9, 11), (10, 12)] 60 = true := by kernel_rfl
    let S : Nat → (Nat → Value) → World → Prop := fun i xs W => match i with
      | 0 => (xs 0) = .agg #[.bool a.neg, .bool false, .bool false, .slice a1 m1 c1, .bool false, .slice a2 m2 c2]
      | 1 => (xs 1) = .agg #[.int .i64 24, .int .i64 (-149), .int .i64 104]
      | 2 => (xs 2) = .int .i64 m
      | 3 => (xs 3) = .tuple #[.int .u64 (o.m : Nat), .int .i64 o.e, .bool o.inf, .agg #[.bool o.ine, .bool o.ov, .bool o.un]]
      | 4 => (xs 4) = .tuple #[.int .u64 (o.m : Nat), .int .i64 o.e, .bool o.inf, .agg #[.bool o.ine, .bool o.ov, .bool o.un]]
      | 5 => (xs 5) = .int .u64 (o.m : Nat)
      | 6 => (xs 6) = .int .i64 o.e
      | 7 => (xs 7) = .bool o.inf
      | 8 => (xs 8) = .agg #[.bool o.ine, .bool o.ov, .bool o.un]
      | 9 => ∃ g x y z, xs 9 = .pointer (some ⟨g, 0, none⟩) ∧ w6.heap.size ≤ g ∧ g < W.heap.size ∧ W.heap[g]? = some (.cells #[x, y, z] 35 (0, 0))
      | 10 => (xs 10) = .int .u64 (o.m : Nat)
      | 11 => (xs 11) = .int .i64 o.e
      | 12 => (xs 12) = .bool o.inf
      | 13 => ∃ g, xs 9 = .pointer (some ⟨g, 0, none⟩) ∧ w6.heap.size ≤ g ∧ W.heap[g]? = some (.cells #[.bool o.ine, .bool o.ov, .bool o.un] 35 (0, 0))
      | _ => True
    have hstab : ∀ j ys W W', S j ys W → Below W.heap.size W W' → S j ys W' := by
      intro j ys W W' h hb
      match j, h with
      | 0, h => exact h
      | 1, h => exact h
      | 2, h => exact h
      | 3, h => exact h
      | 4, h => exact h
      | 5, h => exact h
      | 6, h => exact h
      | 7, h => exact h
      | 8, h => exact h
      | 9, ⟨g, x, y, z, s1, s2, s3, s4⟩ => exact ⟨g, x, y, z, s1, s2, Nat.lt_of_lt_of_le s3 hb.size, hb.blk s4 s3⟩
      | 10, h => exact h
      | 11, h => exact h
      | 12, h => exact h
      | 13, ⟨g, s1, s2, s4⟩ => exact ⟨g, s1, s2, hb.blk s4 (blk_lt s4)⟩
      | _ + 14, h => exact trivial
    refine wp_region_flow3 14 14 [(27, 0), (28, 1), (29, 2), (30, 3), (26, 4), (31, 5), (32, 6), (33, 7), (34, 8), (11, 9), (8, 10), (9, 11), (10, 12)] [9] S (fun _ W => Below w6.heap.size w6 W) ((Below.refl _ _).drew) (by kernel_rfl) (by kernel_rfl) (by kernel_rfl) (by decide) (by kernel_rfl) h1 (by kernel_rfl) ?_ ?_ ?_ ?_
    · intro j hj xs W h
      simp only [List.mem_cons, List.not_mem_nil, or_false] at hj
      subst hj
      obtain ⟨g, _, _, _, s1, _, s3, _⟩ := h; exact ⟨g, s1, s3⟩
    · intro j xs ys W e h
      match j, e, h with
      | 0, e, h => exact (e 0 (.inl rfl)).symm.trans h
      | 1, e, h => exact (e 1 (.inl rfl)).symm.trans h
      | 2, e, h => exact (e 2 (.inl rfl)).symm.trans h
      | 3, e, h => exact (e 3 (.inl rfl)).symm.trans h
      | 4, e, h => exact (e 4 (.inl rfl)).symm.trans h
      | 5, e, h => exact (e 5 (.inl rfl)).symm.trans h
      | 6, e, h => exact (e 6 (.inl rfl)).symm.trans h
      | 7, e, h => exact (e 7 (.inl rfl)).symm.trans h
      | 8, e, h => exact (e 8 (.inl rfl)).symm.trans h
      | 9, e, ⟨g, x, y, z, s1, r⟩ => exact ⟨g, x, y, z, (e 9 (.inl rfl)).symm.trans s1, r⟩
      | 10, e, h => exact (e 10 (.inl rfl)).symm.trans h
      | 11, e, h => exact (e 11 (.inl rfl)).symm.trans h
      | 12, e, h => exact (e 12 (.inl rfl)).symm.trans h
      | 13, e, ⟨g, s1, r⟩ => exact ⟨g, (e 9 (.inr (by kernel_rfl))).symm.trans s1, r⟩
      | _ + 14, e, h => exact trivial
    · refine ⟨⟨⟨⟨⟨⟨⟨⟨⟨⟨⟨⟨⟨⟨trivial, ?_⟩, ?_⟩, ?_⟩, ?_⟩, ?_⟩, ?_⟩, ?_⟩, ?_⟩, ?_⟩, ?_⟩, ?_⟩, ?_⟩, ?_⟩, ?_⟩
      · refine flow3_step _ (some 27) rfl rfl rfl h1 h2 (fun D W _ h => h) (fun D W W' h hb => h.thru hb) hstab fun ac xs W D he hni hb hS K hK => ?_
        exact wp_load_row 133 (.tmp 7) rfl g7 (he 7) _ _ _ _ ((HX2.out W hb).1) Tryz.underlying133 rfl (by kernel_rfl) (hK _ _ rfl (Below.refl _ _) (fun h => absurd h (by decide)))
      · refine flow3_step _ (some 28) rfl rfl rfl h1 h2 (fun D W _ h => h) (fun D W W' h hb => h.thru hb) hstab fun ac xs W D he hni hb hS K hK => ?_
        refine op_call 89 _ _ rfl _ (by simp only [List.map]) (by go_simp) (singles_v W) ?_
        rintro e' W' ⟨rfl, hb'⟩
        exact ⟨_, rfl, hK _ _ (rfl) hb' (fun h => absurd h (by decide))⟩
      · refine flow3_step _ (some 29) rfl rfl rfl h1 h2 (fun D W _ h => h) (fun D W W' h hb => h.thru hb) hstab fun ac xs W D he hni hb hS K hK => ?_
        exact op_move (.tmp 1) (.inl rfl) (hK _ _ (he 1) (Below.refl _ _) (fun h => absurd h (by decide)))
      · refine flow3_step _ (some 30) rfl rfl rfl h1 h2 (fun D W _ h => h) (fun D W W' h hb => h.thru hb) hstab fun ac xs W D he hni hb hS K hK => ?_
        have e0 : ac.eval (.tmp 27) = _ := (he 27).trans (hS 0 (by kernel_rfl))
        have e1 : ac.eval (.tmp 28) = _ := (he 28).trans (hS 1 (by kernel_rfl))
        have e2 : ac.eval (.tmp 29) = _ := (he 29).trans (hS 2 (by kernel_rfl))
        refine op_call 88 _ _ rfl _ (by simp only [List.map, e0, e1, e2]) (by go_simp) (HF.out W hb) ?_
        rintro e' W' ⟨rfl, hb'⟩
        exact ⟨_, rfl, hK _ _ (rfl) hb' (fun h => absurd h (by decide))⟩
      · refine flow3_step _ (some 26) rfl rfl rfl h1 h2 (fun D W _ h => h) (fun D W W' h hb => h.thru hb) hstab fun ac xs W D he hni hb hS K hK => ?_
        exact op_move (.tmp 30) (.inl rfl) (hK _ _ ((he 30).trans (hS 3 (by kernel_rfl))) (Below.refl _ _) (fun h => absurd h (by decide)))
      · refine flow3_step _ (some 31) rfl rfl rfl h1 h2 (fun D W _ h => h) (fun D W W' h hb => h.thru hb) hstab fun ac xs W D he hni hb hS K hK => ?_
        have e0 : ac.eval (.tmp 26) = _ := (he 26).trans (hS 4 (by kernel_rfl))
        refine op_any (.extract (.tmp 26) 0) rfl (.int .u64 (o.m : Nat)) (fun o' ho' => ?_) (hK _ _ rfl (Below.refl _ _) (fun h => absurd h (by decide)))
        simp only [execOp, ho', e0]
        go_simp
      · refine flow3_step _ (some 32) rfl rfl rfl h1 h2 (fun D W _ h => h) (fun D W W' h hb => h.thru hb) hstab fun ac xs W D he hni hb hS K hK => ?_
        have e0 : ac.eval (.tmp 26) = _ := (he 26).trans (hS 4 (by kernel_rfl))
        refine op_any (.extract (.tmp 26) 1) rfl (.int .i64 o.e) (fun o' ho' => ?_) (hK _ _ rfl (Below.refl _ _) (fun h => absurd h (by decide)))
        simp only [execOp, ho', e0]
        go_simp
      · refine flow3_step _ (some 33) rfl rfl rfl h1 h2 (fun D W _ h => h) (fun D W W' h hb => h.thru hb) hstab fun ac xs W D he hni hb hS K hK => ?_
        have e0 : ac.eval (.tmp 26) = _ := (he 26).trans (hS 4 (by kernel_rfl))
        refine op_any (.extract (.tmp 26) 2) rfl (.bool o.inf) (fun o' ho' => ?_) (hK _ _ rfl (Below.refl _ _) (fun h => absurd h (by decide)))
        simp only [execOp, ho', e0]
        go_simp
      · refine flow3_step _ (some 34) rfl rfl rfl h1 h2 (fun D W _ h => h) (fun D W W' h hb => h.thru hb) hstab fun ac xs W D he hni hb hS K hK => ?_
        have e0 : ac.eval (.tmp 26) = _ := (he 26).trans (hS 4 (by kernel_rfl))
        refine op_any (.extract (.tmp 26) 3) rfl (.agg #[.bool o.ine, .bool o.ov, .bool o.un]) (fun o' ho' => ?_) (hK _ _ rfl (Below.refl _ _) (fun h => absurd h (by decide)))
        simp only [execOp, ho', e0]
        go_simp
      · refine flow3_step _ (some 11) rfl rfl rfl h1 h2 (fun D W _ h => h) (fun D W W' h hb => h.thru hb) hstab fun ac xs W D he hni hb hS K hK => ?_
        have hsz := hb.size
        refine op_anyw (.alloc 35) rfl (.pointer (some ⟨W.heap.size, 0, none⟩)) (W.alloc (.cells #[.bool false, .bool false, .bool false] 35)) ?_ ?_
        · intro o' ho'
          simp only [execOp, ho']
          go_simp
        · exact hK _ _ ⟨_, _, _, _, rfl, by omega, by simp, heap_alloc_new _ _⟩ ((Below.refl _ _).alloc (Nat.le_refl _) _) (fun _ => rfl)
      · refine flow3_step _ (some 8) rfl rfl rfl h1 h2 (fun D W _ h => h) (fun D W W' h hb => h.thru hb) hstab fun ac xs W D he hni hb hS K hK => ?_
        exact op_move (.tmp 31) (.inr rfl) (hK _ _ ((he 31).trans (hS 5 (by kernel_rfl))) (Below.refl _ _) (fun h => absurd h (by decide)))
      · refine flow3_step _ (some 9) rfl rfl rfl h1 h2 (fun D W _ h => h) (fun D W W' h hb => h.thru hb) hstab fun ac xs W D he hni hb hS K hK => ?_
        exact op_move (.tmp 32) (.inr rfl) (hK _ _ ((he 32).trans (hS 6 (by kernel_rfl))) (Below.refl _ _) (fun h => absurd h (by decide)))
      · refine flow3_step _ (some 10) rfl rfl rfl h1 h2 (fun D W _ h => h) (fun D W W' h hb => h.thru hb) hstab fun ac xs W D he hni hb hS K hK => ?_
        exact op_move (.tmp 33) (.inr rfl) (hK _ _ ((he 33).trans (hS 7 (by kernel_rfl))) (Below.refl _ _) (fun h => absurd h (by decide)))
      · refine flow3_store _ rfl rfl rfl h1 h2 (by decide) fun ac xs W D he hni hb hS K hK => ?_
        obtain ⟨g, z1, z2, z3, s1, s2, s3, s4⟩ := hS 9 (by kernel_rfl)
        have hvy : ac.eval (.tmp 34) = .agg #[.bool o.ine, .bool o.ov, .bool o.un] := (he 34).trans (hS 8 (by kernel_rfl))
        refine wp_store_row 35 (.tmp 11) (.tmp 34) rfl g #[.bool o.ine, .bool o.ov, .bool o.un] ((he 11).trans s1) hvy _ _ s4 (by kernel_rfl) rfl (by simp [Value.oneCell']) ?_
        have hself := setRow_heap W g _ #[.bool o.ine, .bool o.ov, .bool o.un] 35 (0, 0) s4
        refine hK _ ⟨g, s1, s2, hself⟩ (below_setRow hb s2 _) ?_
        intro j ys h
        match j, h with
        | 0, h => exact h
        | 1, h => exact h
        | 2, h => exact h
        | 3, h => exact h
        | 4, h => exact h
        | 5, h => exact h
        | 6, h => exact h
        | 7, h => exact h
        | 8, h => exact h
        | 9, ⟨g1, x, y, z, u1, u2, u3, u4⟩ =>
          by_cases hg : g1 = g
          · subst hg; exact ⟨g1, _, _, _, u1, u2, by rw [setRow_size]; exact u3, hself⟩
          · exact ⟨g1, x, y, z, u1, u2, by rw [setRow_size]; exact u3, (setRow_other W g g1 _ hg).trans u4⟩
        | 10, h => exact h
        | 11, h => exact h
        | 12, h => exact h
        | 13, ⟨g1, u1, u2, u4⟩ =>
          by_cases hg : g1 = g
          · subst hg; exact ⟨g1, u1, u2, hself⟩
          · exact ⟨g1, u1, u2, (setRow_other W g g1 _ hg).trans u4⟩
        | _ + 14, h => exact trivial
    · intro xs w8 D hall hb hS hD
      have s10 : xs 10 = _ := hS 10 (by decide)
      have s11 : xs 11 = _ := hS 11 (by decide)
      have s12 : xs 12 = _ := hS 12 (by decide)
      obtain ⟨gf, s9, hgf, hrf⟩ := hS 13 (by decide)
      simp only [layAll, s9, s10, s11, s12, List.setIfInBounds_toArray, List.set_cons_succ, List.set_cons_zero]
      clear hS hD hall hstab S s9 s10 s11 s12 h1 h2
      have HRF : Hid (∀ W, Below w8.heap.size w8 W → W.heap[gf]? = some (.cells #[.bool o.ine, .bool o.ov, .bool o.un] 35 (0, 0))) := fun W hW => hW.blk hrf (blk_lt hrf)
      have HB8 : Hid (Below w6.heap.size w6 w8) := hb
      clear hb hrf hgf HF
      show wpList Tryz.prog _ _ [] _ _
      obtain ⟨Y, hY⟩ : ∃ Y, Y = o.rung 24 (-149) 104 := ⟨_, rfl⟩
      have HYB : Hid (bits32 a.neg o = (if a.neg = true then 2147483648 else 0) + Y) := by show _ = _; rw [hY]; rfl
      have hrg : (o.inf = true ∧ o.m = 0 ∧ o.e = 0 ∧ Y = 2139095040) ∨ (o.inf = false ∧ o.m < 8388608 ∧ Y = o.m) ∨ (o.inf = false ∧ 8388608 ≤ o.m ∧ o.m < 16777216 ∧ ∃ X : Nat, o.e = (X : Int) - 150 ∧ 1 ≤ X ∧ X ≤ 254 ∧ Y = (X - 1) * 8388608 + o.m) := by
        unfold Out.rung at hY
        rw [HO.out] at hY ⊢
        rcases out_range (b := 24) (L := -149) (T := 104) (neg := a.neg) (mode := m) (by decide) (by decide) (quoG_ok oneD_ok oneD_s : (quoG a oneD).Ok) with h | ⟨h1, h2, h3, h4, h5⟩
        · obtain ⟨k1, k2⟩ := out_inf h
          rw [if_pos h] at hY
          exact .inl ⟨h, k1, k2, hY⟩
        · rw [if_neg (by rw [h1]; decide)] at hY
          generalize outG 24 (-149) 104 a.neg m (quoG a oneD) = q at *
          right
          by_cases hm : q.m < 8388608
          · left
            refine ⟨h1, hm, ?_⟩
            have : q.e = -149 := by omega
            rw [hY, this, show ((-149 : Int) - -149).toNat = 0 by decide, Nat.zero_mul, Nat.zero_add]
          · right
            refine ⟨h1, by omega, h2, (q.e + 150).toNat, by omega, by omega, by omega, ?_⟩
            rw [hY, show (q.e - -149).toNat = (q.e + 150).toNat - 1 by omega]
      have HYL : Hid (Y < 2147483648) := by show _ < _; rcases hrg with ⟨-, -, -, h⟩ | ⟨-, h1, h⟩ | ⟨-, h1, h2, X, -, h3, h4, h⟩ <;> omega
      clear hY HO
      obtain ⟨om, hom⟩ : ∃ x, x = o.m := ⟨_, rfl⟩
      obtain ⟨oe, hoe⟩ : ∃ x, x = o.e := ⟨_, rfl⟩
      obtain ⟨oi, hoi⟩ : ∃ x, x = o.inf := ⟨_, rfl⟩
      rw [← hom, ← hoe, ← hoi] at hrg ⊢
      clear hom hoe hoi
      have i0 : IntKind.u32.wrap (om : Int) = om := IntWalk.u32_in _ (by rcases hrg with ⟨-, h, -⟩ | ⟨-, h, -⟩ | ⟨-, -, h, -⟩ <;> omega)
      have HRG : Hid _ := hrg
      clear hrg
      go_upto_block 0 with fail
      clear i0
      have hrg := HRG.out
      clear HRG
      go_cut [12] (fun bv wx => bv = .int .u32 (Y : Nat) ∧ wx = w8)
      case first => as_aux_lemma =>
        rcases hrg with ⟨rfl, rfl, rfl, hy⟩ | ⟨rfl, h1, hy⟩ | ⟨rfl, h1, h2, X, rfl, h3, h4, hy⟩
        · have HY : Hid (Y = 2139095040) := hy
          clear hy
          have g1 : Go.floatToFloatBits .f64 9218868437227405312 .f32 = some 2139095040 := by kernel_rfl
          have k1 := fun w : World => run_convert_float_float (P := Tryz.prog) w 23 33 .f64 .f32 _ _ (by kernel_rfl) (by kernel_rfl) g1
          go_wp2_with (go_at_call 90; refine (inf_one _).mono ?_; rintro e w' ⟨rfl, rfl⟩)
          go_meet
          exact ⟨by rw [HY.out]; rfl, rfl⟩
        · have HY : Hid (Y = om) := hy
          clear hy
          have d1 : ¬ (0 : Int) < (om : Int) / 8388608 := by omega
          go_wp2
          go_meet
          exact ⟨by rw [HY.out], rfl⟩
        · have d1 : (0 : Int) < (om : Int) / 8388608 := by omega
          have e1 : (X : Int) - 150 + 150 = X := by omega
          obtain ⟨r, hr⟩ : ∃ r, r = om % 8388608 := ⟨_, rfl⟩
          have h5 := and_low23 om h2
          rw [← hr] at h5
          have h6 : bits .or .u32 ((X : Int) * 8388608) (r : Int) = (Y : Int) := by
            have := or_low23 X r (by omega) (by omega)
            rw [show ((X * 8388608 : Nat) : Int) = (X : Int) * 8388608 by omega] at this
            rw [this]
            have : X * 8388608 + r = Y := by omega
            rw [this]
          have h8 : IntKind.u32.wrap (X : Int) = X := IntWalk.u32_in _ (by omega)
          have h9 : IntKind.u32.wrap ((X : Int) * 8388608) = (X : Int) * 8388608 := IntWalk.u32_in _ (by omega)
          clear hr hy
          go_wp2
          go_meet
          exact ⟨rfl, rfl⟩
      case rest =>
      obtain ⟨rfl, hwc⟩ := hcut
      rw [hwc]
      clear hwc hrg
      have b0 := cell_of_row w8 g7 0 _ _ _ (HX2.out w8 HB8.out).1
      obtain ⟨Z, hZ0⟩ : ∃ Z, Z = 2147483648 + Y := ⟨_, rfl⟩
      have HZ0 : Hid (Z = 2147483648 + Y) := hZ0
      have HO2 : Hid (bits .or .u32 (Y : Int) 2147483648 = (Z : Int)) := by show _ = _; rw [hZ0]; exact or_top Y HYL.out
      clear hZ0
      by_cases hn : a.neg = true
      · have HZ : Hid (bits32 a.neg o = Z) := by show _ = _; rw [HYB.out, if_pos hn, HZ0.out]
        rw [hn] at b0
        have ho2 := HO2.out
        go_upto_region 14 with fail
        clear b0 hn ho2
        have h1 : once [(57, 0), (58, 1), (59, 2), (4, 3)] = true := by kernel_rfl
        have h2 : within [(57, 0), (58, 1), (59, 2), (4, 3)] 60 = true := by kernel_rfl
        refine wp_region_flow 4 6 [(57, 0), (58, 1), (59, 2), (4, 3)] [] (fun i v W => match i with
          | 0 => v = .int .u32 (Z : Nat)
          | 1 => v = .float .f32 Z
          | 2 => v = .agg #[.bool o.ine, .bool o.ov, .bool o.un]
          | _ => v = .float .f32 Z) w8.heap.size (Nat.le_refl _) (by kernel_rfl) (by kernel_rfl) (by kernel_rfl) (by decide) (by kernel_rfl) h1 (by kernel_rfl) ?_ ?_ ?_ ?_
        · intro j v W W' h hb
          match j, h with
          | 0, h => exact h
          | 1, h => exact h
          | 2, h => exact h
          | _ + 3, h => exact h
        · exact fun j hj => by cases hj
        · refine ⟨⟨⟨⟨trivial, ?_⟩, ?_⟩, ?_⟩, ?_⟩
          · refine flow_step _ 57 rfl rfl (fun d h => by simpa using h) h1 h2 fun ac xs W he hb hS K hK => ?_
            exact op_move (.tmp 12) (.inl rfl) (hK _ _ (he 12) (Below.refl _ _) (fun h => absurd h (by decide)))
          · refine flow_step _ 58 rfl rfl (fun d h => by simpa using h) h1 h2 fun ac xs W he hb hS K hK => ?_
            have f0 : ac.tmps[57]?.getD undef = .int .u32 (Z : Nat) := by rw [← Array.getD_eq_getD_getElem?]; exact (he 57).trans (hS 0 (by kernel_rfl))
            refine op_any (.call { callee := .value (.func 29), args := #[.tmp 57], argTypes := #[41] }) rfl (.float .f32 Z) (fun o' ho' => ?_) (hK _ _ rfl (Below.refl _ _) (fun h => absurd h (by decide)))
            simp only [execOp, ho']
            go_simp
          · refine flow_step _ 59 rfl rfl (fun d h => by simpa using h) h1 h2 fun ac xs W he hb hS K hK => ?_
            exact wp_load_row 35 (.tmp 11) rfl gf (he 11) _ _ _ _ (HRF.out W hb) Tryz.underlying35 rfl (by kernel_rfl) (hK _ _ rfl (Below.refl _ _) (fun h => absurd h (by decide)))
          · refine flow_step _ 4 rfl rfl (fun d h => by simpa using h) h1 h2 fun ac xs W he hb hS K hK => ?_
            exact op_move (.tmp 58) (.inr rfl) (hK _ _ ((he 58).trans (hS 1 (by kernel_rfl))) (Below.refl _ _) (fun h => absurd h (by decide)))
        · intro xs WL hb hS hD
          have s0 : xs 0 = _ := hS 0 (by decide)
          have s1 : xs 1 = _ := hS 1 (by decide)
          have s2 : xs 2 = _ := hS 2 (by decide)
          have s3 : xs 3 = _ := hS 3 (by decide)
          have HBL : Hid (Below w6.heap.size w6 WL) := HB8.out.thru hb
          obtain ⟨f0, c0, f1, c1, f2, c2, r3⟩ := rw3 (HX2.out _ HBL.out).2.2.2.2.1
          have HR3 : Hid _ := r3
          have HBW : Hid (Below w.heap.size w WL) := (HX2.out _ HBL.out).2.2.2.2.2
          simp only [layAll, s0, s1, s2, s3, List.setIfInBounds_toArray, List.set_cons_succ, List.set_cons_zero]
          clear hS hD hb r3 s0 s1 s2 s3 h1 h2
          go_wp2
          exact ratio32_end (p := 4) (u := 5) (q := 6) rfl rfl rfl rfl (HR3.out _ _ _) (below_row3 HBW.out (by omega) _ _ _) (by rw [HRM.out, HZ.out])
      · have HZ : Hid (bits32 a.neg o = Y) := by show _ = _; rw [HYB.out, if_neg hn, Nat.zero_add]
        rw [Bool.not_eq_true] at hn
        rw [hn] at b0
        have ho2 := HO2.out
        go_upto_region 14 with fail
        clear b0 hn ho2
        have h1 : once [(57, 0), (58, 1), (59, 2), (4, 3)] = true := by kernel_rfl
        have h2 : within [(57, 0), (58, 1), (59, 2), (4, 3)] 60 = true := by kernel_rfl
        refine wp_region_flow 4 6 [(57, 0), (58, 1), (59, 2), (4, 3)] [] (fun i v W => match i with
          | 0 => v = .int .u32 (Y : Nat)
          | 1 => v = .float .f32 Y
          | 2 => v = .agg #[.bool o.ine, .bool o.ov, .bool o.un]
          | _ => v = .float .f32 Y) w8.heap.size (Nat.le_refl _) (by kernel_rfl) (by kernel_rfl) (by kernel_rfl) (by decide) (by kernel_rfl) h1 (by kernel_rfl) ?_ ?_ ?_ ?_
        · intro j v W W' h hb
          match j, h with
          | 0, h => exact h
          | 1, h => exact h
          | 2, h => exact h
          | _ + 3, h => exact h
        · exact fun j hj => by cases hj
        · refine ⟨⟨⟨⟨trivial, ?_⟩, ?_⟩, ?_⟩, ?_⟩
          · refine flow_step _ 57 rfl rfl (fun d h => by simpa using h) h1 h2 fun ac xs W he hb hS K hK => ?_
            exact op_move (.tmp 12) (.inl rfl) (hK _ _ (he 12) (Below.refl _ _) (fun h => absurd h (by decide)))
          · refine flow_step _ 58 rfl rfl (fun d h => by simpa using h) h1 h2 fun ac xs W he hb hS K hK => ?_
            have f0 : ac.tmps[57]?.getD undef = .int .u32 (Y : Nat) := by rw [← Array.getD_eq_getD_getElem?]; exact (he 57).trans (hS 0 (by kernel_rfl))
            refine op_any (.call { callee := .value (.func 29), args := #[.tmp 57], argTypes := #[41] }) rfl (.float .f32 Y) (fun o' ho' => ?_) (hK _ _ rfl (Below.refl _ _) (fun h => absurd h (by decide)))
            simp only [execOp, ho']
            go_simp
          · refine flow_step _ 59 rfl rfl (fun d h => by simpa using h) h1 h2 fun ac xs W he hb hS K hK => ?_
            exact wp_load_row 35 (.tmp 11) rfl gf (he 11) _ _ _ _ (HRF.out W hb) Tryz.underlying35 rfl (by kernel_rfl) (hK _ _ rfl (Below.refl _ _) (fun h => absurd h (by decide)))
          · refine flow_step _ 4 rfl rfl (fun d h => by simpa using h) h1 h2 fun ac xs W he hb hS K hK => ?_
            exact op_move (.tmp 58) (.inr rfl) (hK _ _ ((he 58).trans (hS 1 (by kernel_rfl))) (Below.refl _ _) (fun h => absurd h (by decide)))
        · intro xs WL hb hS hD
          have s0 : xs 0 = _ := hS 0 (by decide)
          have s1 : xs 1 = _ := hS 1 (by decide)
          have s2 : xs 2 = _ := hS 2 (by decide)
          have s3 : xs 3 = _ := hS 3 (by decide)
          have HBL : Hid (Below w6.heap.size w6 WL) := HB8.out.thru hb
          obtain ⟨f0, c0, f1, c1, f2, c2, r3⟩ := rw3 (HX2.out _ HBL.out).2.2.2.2.1
          have HR3 : Hid _ := r3
          have HBW : Hid (Below w.heap.size w WL) := (HX2.out _ HBL.out).2.2.2.2.2
          simp only [layAll, s0, s1, s2, s3, List.setIfInBounds_toArray, List.set_cons_succ, List.set_cons_zero]
          clear hS hD hb r3 s0 s1 s2 s3 h1 h2
          go_wp2
          exact ratio32_end (p := 4) (u := 5) (q := 6) rfl rfl rfl rfl (HR3.out _ _ _) (below_row3 HBW.out (by omega) _ _ _) (by rw [HRM.out, HZ.out])
end Go.Proofs.YtgfbcncjboenbaaGreatDoor
