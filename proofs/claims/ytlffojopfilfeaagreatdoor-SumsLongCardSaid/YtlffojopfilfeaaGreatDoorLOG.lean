/- Parts Og of the proof, in one text. -/
import Derived.Test.YtlffojopfilfeaaGreatDoorLOC
import Derived.Test.YtlffojopfilfeaaGreatDoorLQS

/- Walks: sums' Add. -/
namespace Go.Proofs.YtlffojopfilfeaaGreatDoor
open Go Go.RowKit

/-- An Acc in which terms have been laid. -/
def AccT (w : World) (g : Nat) (T : List Term1) : Prop := AccRow w g (cntT T) (sumT T)
/-- Terms as they may be. -/
def Fit (T : List Term1) : Prop := Five T ∧ Small T ∧ T.length < 4611686018427387904
theorem Fit.room {T : List Term1} (h : Fit T) : (sumT T).natAbs < 2 ^ (64 + LQ) := sum_room h.2.1 (by have := h.2.2; omega)
theorem lq_room : 64 + LQ ≤ 4294967296 := by rw [LQ_eq]; decide
theorem lq_le {n : Nat} (h : n < 2 ^ LQ) : n < 2 ^ (64 + LQ) := Nat.lt_of_lt_of_le h (Nat.pow_le_pow_right (by decide) (by omega))
theorem AccT.put {w : World} {g : Nat} {T : List Term1} {t : Term1} (h : AccRow w g (upd (cntT T) t.1 (cntT T t.1 + 1)) (sumT T + t.2)) : AccT w g (T ++ [t]) := by
  refine AccRow.congr h (fun k _ => ?_) (by rw [sumT_snoc])
  rw [cntT_snoc]
  unfold upd
  by_cases hk : k = t.1
  · subst hk; simp
  · rw [if_neg hk, if_neg (Ne.symm hk)]; rfl
theorem AccT.below {w w' : World} {g : Nat} {T : List Term1} (h : AccT w g T) (hb : Below w.heap.size w w') : AccT w' g T := AccRow.below h hb
theorem int_inc {n : Nat} (h : n < 4611686018427387904) : IntKind.i64.wrap ((n : Int) + 1) = (n : Int) + 1 := by rw [IntWalk.i64_in _ (by omega)]

theorem results_void {fn : Func} (h : fn.results = #[]) (tmps : Array Value) (P : Program) (w : World) : (results fn tmps).run P w = .ok (.tuple #[]) w := by
  simp [results, h]
theorem sum_of {U : List Term1} {x : Nat} (h : Fit U) (W : World) (u v : Value) (hu : WideI W u (sumT U)) (hv : WideI W v (vN x)) : Calls Tryz.prog 56 #[u, v] W (WideR (sumT U + vN x) W) :=
  iadd_v u v _ _ W hu hv h.room (lq_le (tmS_bd x)) lq_room
set_option maxHeartbeats 4000000 in
set_option maxRecDepth 100000 in
theorem add8_v {g : Nat} {T : List Term1} {a : Option Addr} {n cap : Nat} {l : List Nat} (w : World) (hr : AccT w g T) (hT : Fit (T ++ tmL l)) (hn : l.length = n) (hl : ∀ x ∈ l, W64 x)
    (hcell : 0 < n → ∃ b o, a = some ⟨b, o, none⟩ ∧ b < w.heap.size ∧ b ≠ g ∧ ∀ k, k < n → w.cell? ⟨b, o + k, none⟩ = some (.float .f64 (l.getD k 0))) :
    Calls Tryz.prog 25 #[.pointer (some ⟨g, 0, none⟩), .slice a n cap] w fun e w' => e = .returned (.tuple #[]) ∧ AccT w' g (T ++ tmL l) ∧ But g w w' := by
  have hn62 : n < 4611686018427387904 := by
    have := hT.2.2
    rw [List.length_append] at this
    unfold tmL at this
    rw [List.length_map] at this
    omega
  have HFIT : Hid (∀ k, k ≤ n → Fit (T ++ tmL (l.take k))) := fun k hk => by
    refine ⟨five_append (fun t h => hT.1 t (List.mem_append_left _ h)) (five_L _), small_append (fun t h => hT.2.1 t (List.mem_append_left _ h)) (small_L _), ?_⟩
    have h1 := hT.2.2
    rw [List.length_append] at h1 ⊢
    unfold tmL at h1 ⊢
    rw [List.length_map] at h1 ⊢
    rw [List.length_take]
    omega
  have HNX : Hid (∀ k, k < n → T ++ tmL (l.take (k + 1)) = T ++ tmL (l.take k) ++ [tmS (l.getD k 0)]) := fun k hk => by rw [tmL_take (by omega), List.append_assoc]
  have HS : Hid (∀ W k, Calls Tryz.prog 55 #[.float .f64 (l.getD k 0)] W fun e w' => e = .returned (.int .i64 (srtB (l.getD k 0) : Nat)) ∧ W = w') := fun W k => sort_v _ W (get_W hl k)
  have HO : Hid (∀ W k, Calls Tryz.prog 57 #[.float .f64 (l.getD k 0)] W (WideR (vN (l.getD k 0)) W)) := fun W k => ofU_v _ (get_W hl k) W
  have HTK : Hid (l.take n = l) := by
    have h : l.take l.length = l := List.take_length
    rw [hn] at h
    exact h
  have HCELL : Hid (0 < n → ∃ b o, a = some ⟨b, o, none⟩ ∧ b < w.heap.size ∧ b ≠ g ∧ ∀ k, k < n → w.cell? ⟨b, o + k, none⟩ = some (.float .f64 (l.getD k 0))) := hcell
  have HR : Hid (AccT w g (T ++ tmL (l.take 0))) := by
    show AccT w g _
    have e : T ++ tmL (l.take 0) = T := by simp [tmL]
    rw [e]; exact hr
  rw [show T ++ tmL l = T ++ tmL (l.take n) by rw [HTK.out]]
  clear hr hT hn hl hcell HTK
  go_enter Tryz.func25, Tryz.ntmps25
  go_wp2_with fail
  go_loopw [4, 9] (fun v i wr => ∃ k : Nat, k ≤ n ∧ i = .int .i64 (k : Nat) ∧ AccT wr g (T ++ tmL (l.take k)) ∧ But g w wr) (fun _ i _ => n - (intOf i).toNat)
  case atStart => exact ⟨0, Nat.zero_le _, rfl, HR.out, .refl _ _⟩
  case round =>
    obtain ⟨k, hk, rfl, hacc, hbut⟩ := hrel
    have HA : Hid (AccT wr g (T ++ tmL (l.take k))) := hacc
    have HB : Hid (But g w wr) := hbut
    clear hacc hbut
    by_cases hkn : k < n
    · obtain ⟨b, o, rfl, hbs, hbg, hcc⟩ := HCELL.out (by omega)
      have hck := (HB.out.cell (p := ⟨b, o + k, none⟩) hbs hbg).trans (hcc k hkn)
      obtain ⟨U, hU⟩ : ∃ U, U = T ++ tmL (l.take k) := ⟨_, rfl⟩
      have hnx := HNX.out k hkn
      have hf1 := HFIT.out k hk
      rw [← hU] at hnx HA hf1
      have HFU : Hid (Fit U) := hf1
      obtain ⟨x, hx⟩ : ∃ x, x = l.getD k 0 := ⟨_, rfl⟩
      have HS1 : Hid (∀ W, Calls Tryz.prog 55 #[.float .f64 x] W fun e w' => e = .returned (.int .i64 (srtB x : Nat)) ∧ W = w') := fun W => by rw [hx]; exact HS.out W k
      have HO1 : Hid (∀ W, Calls Tryz.prog 57 #[.float .f64 x] W (WideR (vN x) W)) := fun W => by rw [hx]; exact HO.out W k
      rw [← hx] at hck hnx
      have HN1 : Hid (T ++ tmL (l.take (k + 1)) = U ++ [tmS x]) := hnx
      obtain ⟨s, hs⟩ : ∃ s, s = srtB x := ⟨_, rfl⟩
      have hs5 : s < 5 := by rw [hs]; exact srtB_lt x
      rw [← hs] at HS1
      have HSX : Hid ((tmS x).1 = s ∧ (tmS x).2 = vN x) := ⟨hs.symm, rfl⟩
      have hbw : b < wr.heap.size := Nat.lt_of_lt_of_le hbs HB.out.size
      have hcs : cntT U s < 4611686018427387904 := Nat.lt_of_le_of_lt (cntT_le U s) HFU.out.2.2
      obtain ⟨q, hq⟩ : ∃ q, q = cntT U s := ⟨_, rfl⟩
      have hcs2 := (AccRow.cell HA.out hs5 : wr.cell? ⟨g, s, none⟩ = _)
      rw [← hq] at hcs hcs2
      have hw2 := int_inc hcs
      have HQ : Hid (q = cntT U s) := hq
      have HC : Hid (∀ W, Below wr.heap.size wr W → W.cell? ⟨b, o + k, none⟩ = some (.float .f64 x) ∧ W.cell? ⟨g, s, none⟩ = some (.int .i64 (q : Nat))) := fun W hW =>
        ⟨(hW.cell (p := ⟨b, o + k, none⟩) hbw).trans hck, (hW.cell (p := ⟨g, s, none⟩) (AccRow.lt HA.out)).trans hcs2⟩
      have HBW : Hid (b < wr.heap.size ∧ b ≠ g) := ⟨hbw, hbg⟩
      clear hU hnx hf1 hx hs hcc hck hcs2 hq hbs hbw hbg
      go_upto_region 4 with fail
      have h1 : once [(12, 0), (13, 1), (14, 2), (15, 3), (16, 4), (17, 5), (18, 6), (19, 7), (20, 8), (21, 9), (22, 10), (23, 11), (24, 12), (25, 13)] = true := by kernel_rfl
      have h2 : within [(12, 0), (13, 1), (14, 2), (15, 3), (16, 4), (17, 5), (18, 6), (19, 7), (20, 8), (21, 9), (22, 10), (23, 11), (24, 12), (25, 13)] 40 = true := by kernel_rfl
      let S : Nat → (Nat → Value) → World → Prop := fun i xs W => match i with
        | 0 => (xs 0) = .pointer (some ⟨g, 0, none⟩)
        | 1 => (xs 1) = .slice (some ⟨b, o, none⟩) n cap
        | 2 => (xs 2) = .int .i64 (k : Nat)
        | 3 => (xs 3) = .pointer (some ⟨b, o + k, none⟩)
        | 4 => (xs 4) = .float .f64 x
        | 5 => (xs 5) = .int .i64 (s : Nat)
        | 6 => (xs 6) = .pointer (some ⟨g, 0, none⟩)
        | 7 => (xs 7) = .pointer (some ⟨g, 0, none⟩)
        | 8 => (xs 8) = .pointer (some ⟨g, s, none⟩)
        | 9 => (xs 9) = .int .i64 (q : Nat)
        | 10 => (xs 10) = .int .i64 ((q : Int) + 1)
        | 11 => (xs 11) = .pointer (some ⟨g, 0, none⟩)
        | 12 => (xs 12) = .pointer (some ⟨g, 0, none⟩)
        | 13 => (xs 13) = .pointer (some ⟨g, s, none⟩)
        | _ => True
      have hstab : ∀ j ys W W', S j ys W → Below W.heap.size W W' → S j ys W' := by
        intro j ys W W' h hb
        match j, h with
        | 0, h => exact h
        | 1, h => exact h
        | 2, h => exact h
        | 3, h => exact h
        | 4, h => exact h
        | 5, h => exact h
        | 6, h => exact h
        | 7, h => exact h
        | 8, h => exact h
        | 9, h => exact h
        | 10, h => exact h
        | 11, h => exact h
        | 12, h => exact h
        | 13, h => exact h
        | _ + 14, h => exact trivial
      refine wp_region_flow3T 14 15 4 [(12, 0), (13, 1), (14, 2), (15, 3), (16, 4), (17, 5), (18, 6), (19, 7), (20, 8), (21, 9), (22, 10), (23, 11), (24, 12), (25, 13)] [] S (fun _ W => Below wr.heap.size wr W) ((Below.refl _ _).drew) (by kernel_rfl) (by kernel_rfl) (by kernel_rfl) (by decide) (by kernel_rfl) h1 (by kernel_rfl) ?_ ?_ ?_ ?_
      · exact fun j hj => by cases hj
      · intro j xs ys W e h
        match j, e, h with
        | 0, e, h => exact (e 0 (.inl rfl)).symm.trans h
        | 1, e, h => exact (e 1 (.inl rfl)).symm.trans h
        | 2, e, h => exact (e 2 (.inl rfl)).symm.trans h
        | 3, e, h => exact (e 3 (.inl rfl)).symm.trans h
        | 4, e, h => exact (e 4 (.inl rfl)).symm.trans h
        | 5, e, h => exact (e 5 (.inl rfl)).symm.trans h
        | 6, e, h => exact (e 6 (.inl rfl)).symm.trans h
        | 7, e, h => exact (e 7 (.inl rfl)).symm.trans h
        | 8, e, h => exact (e 8 (.inl rfl)).symm.trans h
        | 9, e, h => exact (e 9 (.inl rfl)).symm.trans h
        | 10, e, h => exact (e 10 (.inl rfl)).symm.trans h
        | 11, e, h => exact (e 11 (.inl rfl)).symm.trans h
        | 12, e, h => exact (e 12 (.inl rfl)).symm.trans h
        | 13, e, h => exact (e 13 (.inl rfl)).symm.trans h
        | _ + 14, e, h => exact trivial
      · refine ⟨⟨⟨⟨⟨⟨⟨⟨⟨⟨⟨⟨⟨⟨trivial, ?_⟩, ?_⟩, ?_⟩, ?_⟩, ?_⟩, ?_⟩, ?_⟩, ?_⟩, ?_⟩, ?_⟩, ?_⟩, ?_⟩, ?_⟩, ?_⟩
        · refine flow3_step _ (some 12) rfl rfl rfl h1 h2 (fun D W _ h => h) (fun D W W' h hb => h.thru hb) hstab fun ac xs W Dn he hni hG hS K hK => ?_
          exact op_move (.tmp 0) (.inl rfl) (hK _ _ (he 0) (Below.refl _ _) (fun h => absurd h (by decide)))
        · refine flow3_step _ (some 13) rfl rfl rfl h1 h2 (fun D W _ h => h) (fun D W W' h hb => h.thru hb) hstab fun ac xs W Dn he hni hG hS K hK => ?_
          exact op_move (.tmp 1) (.inl rfl) (hK _ _ (he 1) (Below.refl _ _) (fun h => absurd h (by decide)))
        · refine flow3_step _ (some 14) rfl rfl rfl h1 h2 (fun D W _ h => h) (fun D W W' h hb => h.thru hb) hstab fun ac xs W Dn he hni hG hS K hK => ?_
          exact op_move (.tmp 4) (.inl rfl) (hK _ _ (he 4) (Below.refl _ _) (fun h => absurd h (by decide)))
        · refine flow3_step _ (some 15) rfl rfl rfl h1 h2 (fun D W _ h => h) (fun D W W' h hb => h.thru hb) hstab fun ac xs W Dn he hni hG hS K hK => ?_
          have hkn2 : (k : Int) < (n : Int) := by omega
          have hk0 : (0 : Int) ≤ (k : Int) := by omega
          have e0 : ac.eval (.tmp 13) = _ := (he 13).trans (hS 1 (by kernel_rfl))
          have e1 : ac.eval (.tmp 14) = _ := (he 14).trans (hS 2 (by kernel_rfl))
          refine op_any (.indexAddr 24 (.tmp 13) (.tmp 14)) rfl (.pointer (some ⟨b, o + k, none⟩)) (fun o' ho' => ?_) (hK _ _ rfl (Below.refl _ _) (fun h => absurd h (by decide)))
          simp only [execOp, ho', e0, e1]
          go_simp
        · refine flow3_step _ (some 16) rfl rfl rfl h1 h2 (fun D W _ h => h) (fun D W W' h hb => h.thru hb) hstab fun ac xs W Dn he hni hG hS K hK => ?_
          have e0 : ac.eval (.tmp 15) = _ := (he 15).trans (hS 3 (by kernel_rfl))
          refine op_any (.load 26 (.tmp 15)) rfl (.float .f64 x) (fun o' ho' => ?_) (hK _ _ rfl (Below.refl _ _) (fun h => absurd h (by decide)))
          simp only [execOp, ho', e0]
          have hc := (HC.out W hG).1
          go_simp
        · refine flow3_step _ (some 17) rfl rfl rfl h1 h2 (fun D W _ h => h) (fun D W W' h hb => h.thru hb) hstab fun ac xs W Dn he hni hG hS K hK => ?_
          have e0 : ac.eval (.tmp 16) = _ := (he 16).trans (hS 4 (by kernel_rfl))
          refine op_call 55 _ _ rfl _ (by simp only [List.map, e0]) (by go_simp) (HS1.out W) ?_
          rintro e' W' ⟨rfl, rfl⟩; have hb' := Below.refl W.heap.size W
          exact ⟨_, rfl, hK _ _ (rfl) hb' (fun h => absurd h (by decide))⟩
        · refine flow3_step _ (some 18) rfl rfl rfl h1 h2 (fun D W _ h => h) (fun D W W' h hb => h.thru hb) hstab fun ac xs W Dn he hni hG hS K hK => ?_
          have e0 : ac.eval (.tmp 12) = _ := (he 12).trans (hS 0 (by kernel_rfl))
          refine op_any (.nilCheck (.tmp 12)) rfl (.pointer (some ⟨g, 0, none⟩)) (fun o' ho' => ?_) (hK _ _ rfl (Below.refl _ _) (fun h => absurd h (by decide)))
          simp only [execOp, ho', e0]
          go_simp
        · refine flow3_step _ (some 19) rfl rfl rfl h1 h2 (fun D W _ h => h) (fun D W W' h hb => h.thru hb) hstab fun ac xs W Dn he hni hG hS K hK => ?_
          have e0 : ac.eval (.tmp 18) = _ := (he 18).trans (hS 6 (by kernel_rfl))
          refine op_any (.fieldAddr 75 (.tmp 18) 0) rfl (.pointer (some ⟨g, 0, none⟩)) (fun o' ho' => ?_) (hK _ _ rfl (Below.refl _ _) (fun h => absurd h (by decide)))
          simp only [execOp, ho', e0]
          go_simp
        · refine flow3_step _ (some 20) rfl rfl rfl h1 h2 (fun D W _ h => h) (fun D W W' h hb => h.thru hb) hstab fun ac xs W Dn he hni hG hS K hK => ?_
          have hs50 : (s : Int) < 5 := by omega
          have hs00 : (0 : Int) ≤ (s : Int) := by omega
          have e0 : ac.eval (.tmp 19) = _ := (he 19).trans (hS 7 (by kernel_rfl))
          have e1 : ac.eval (.tmp 17) = _ := (he 17).trans (hS 5 (by kernel_rfl))
          refine op_any (.indexAddr 60 (.tmp 19) (.tmp 17)) rfl (.pointer (some ⟨g, s, none⟩)) (fun o' ho' => ?_) (hK _ _ rfl (Below.refl _ _) (fun h => absurd h (by decide)))
          simp only [execOp, ho', e0, e1]
          go_simp
        · refine flow3_step _ (some 21) rfl rfl rfl h1 h2 (fun D W _ h => h) (fun D W W' h hb => h.thru hb) hstab fun ac xs W Dn he hni hG hS K hK => ?_
          have e0 : ac.eval (.tmp 20) = _ := (he 20).trans (hS 8 (by kernel_rfl))
          refine op_any (.load 3 (.tmp 20)) rfl (.int .i64 (q : Nat)) (fun o' ho' => ?_) (hK _ _ rfl (Below.refl _ _) (fun h => absurd h (by decide)))
          simp only [execOp, ho', e0]
          have hc := (HC.out W hG).2
          go_simp
        · refine flow3_step _ (some 22) rfl rfl rfl h1 h2 (fun D W _ h => h) (fun D W W' h hb => h.thru hb) hstab fun ac xs W Dn he hni hG hS K hK => ?_
          have e0 : ac.eval (.tmp 21) = _ := (he 21).trans (hS 9 (by kernel_rfl))
          refine op_any (.binOp .add 3 (.tmp 21) (.const (.int .i64 1)) 3) rfl (.int .i64 ((q : Int) + 1)) (fun o' ho' => ?_) (hK _ _ rfl (Below.refl _ _) (fun h => absurd h (by decide)))
          simp only [execOp, ho', e0]
          go_simp
        · refine flow3_step _ (some 23) rfl rfl rfl h1 h2 (fun D W _ h => h) (fun D W W' h hb => h.thru hb) hstab fun ac xs W Dn he hni hG hS K hK => ?_
          have e0 : ac.eval (.tmp 12) = _ := (he 12).trans (hS 0 (by kernel_rfl))
          refine op_any (.nilCheck (.tmp 12)) rfl (.pointer (some ⟨g, 0, none⟩)) (fun o' ho' => ?_) (hK _ _ rfl (Below.refl _ _) (fun h => absurd h (by decide)))
          simp only [execOp, ho', e0]
          go_simp
        · refine flow3_step _ (some 24) rfl rfl rfl h1 h2 (fun D W _ h => h) (fun D W W' h hb => h.thru hb) hstab fun ac xs W Dn he hni hG hS K hK => ?_
          have e0 : ac.eval (.tmp 23) = _ := (he 23).trans (hS 11 (by kernel_rfl))
          refine op_any (.fieldAddr 75 (.tmp 23) 0) rfl (.pointer (some ⟨g, 0, none⟩)) (fun o' ho' => ?_) (hK _ _ rfl (Below.refl _ _) (fun h => absurd h (by decide)))
          simp only [execOp, ho', e0]
          go_simp
        · refine flow3_step _ (some 25) rfl rfl rfl h1 h2 (fun D W _ h => h) (fun D W W' h hb => h.thru hb) hstab fun ac xs W Dn he hni hG hS K hK => ?_
          have hs50 : (s : Int) < 5 := by omega
          have hs00 : (0 : Int) ≤ (s : Int) := by omega
          have e0 : ac.eval (.tmp 24) = _ := (he 24).trans (hS 12 (by kernel_rfl))
          have e1 : ac.eval (.tmp 17) = _ := (he 17).trans (hS 5 (by kernel_rfl))
          refine op_any (.indexAddr 60 (.tmp 24) (.tmp 17)) rfl (.pointer (some ⟨g, s, none⟩)) (fun o' ho' => ?_) (hK _ _ rfl (Below.refl _ _) (fun h => absurd h (by decide)))
          simp only [execOp, ho', e0, e1]
          go_simp
      · intro xs w3 Dn hall hG hS hD
        have s22 : xs 10 = _ := hS 10 (by decide)
        have s25 : xs 13 = _ := hS 13 (by decide)
        have HGB : Hid (Below wr.heap.size wr w3) := hG
        simp only [layAll, s22, s25, List.setIfInBounds_toArray, List.set_cons_succ, List.set_cons_zero]
        clear hS hD hall hstab S hG h1 h2
        generalize xs 0 = x0 at *
        generalize xs 1 = x1 at *
        generalize xs 2 = x2 at *
        generalize xs 3 = x3 at *
        generalize xs 4 = x4 at *
        generalize xs 5 = x5 at *
        generalize xs 6 = x6 at *
        generalize xs 7 = x7 at *
        generalize xs 8 = x8 at *
        generalize xs 9 = x9 at *
        generalize xs 11 = x11 at *
        generalize xs 12 = x12 at *
        refine accL_bump rfl 3 (.tmp 25) (.tmp 22) rfl (by kernel_rfl) g (cntT U) (sumT U) s (q + 1) hs5 rfl rfl (AccRow.below HA.out HGB.out) ?_
        intro w4 e1 e2
        show wpList Tryz.prog _ _ [] _ _
        have HB4 : Hid (But g wr w4) := (But.of g HGB.out).trans e2
        obtain ⟨sa, sm, sc, q4, n4⟩ := id e1
        have hg4 : g < w4.heap.size := blk_lt q4
        obtain ⟨nb, hnb⟩ : ∃ z, z = decide (sumT U < 0) := ⟨_, rfl⟩
        have hI4 : WideI w4 (.agg #[.bool nb, .slice sa sm sc]) (sumT U) := by rw [hnb]; exact ⟨sa, sm, sc, rfl, n4⟩
        rw [← hnb] at q4
        have HIW : Hid (∀ W, Below w4.heap.size w4 W → WideI W (.agg #[.bool nb, .slice sa sm sc]) (sumT U)) := fun W hW => hI4.below hW
        have hk4 := HB4.out.cell (p := ⟨b, o + k, none⟩) HBW.out.1 HBW.out.2
        have HC4 : Hid (∀ W, Below w4.heap.size w4 W → W.cell? ⟨b, o + k, none⟩ = some (.float .f64 x) ∧ W.cell? ⟨g, 5, none⟩ = some (.bool nb) ∧ W.cell? ⟨g, 6, none⟩ = some (.slice sa sm sc)) := fun W hW =>
          ⟨(hW.cell (p := ⟨b, o + k, none⟩) (Nat.lt_of_lt_of_le HBW.out.1 HB4.out.size)).trans (hk4.trans (HC.out _ (Below.refl _ _)).1), cell_of_row _ g 5 _ _ _ (hW.blk q4 hg4), cell_of_row _ g 6 _ _ _ (hW.blk q4 hg4)⟩
        have HAD : Hid (∀ W u v, WideI W u (sumT U) → WideI W v (vN x) → Calls Tryz.prog 56 #[u, v] W (WideR (sumT U + vN x) W)) := fun W u v hu hv => sum_of HFU.out W u v hu hv
        have HA4 : Hid (AccRow w4 g (upd (cntT U) s (q + 1)) (sumT U)) := e1
        clear e1 e2 q4 n4 hg4 hnb hI4 hk4 s22 s25 hw2 hcs
        go_upto_region 5 with fail
        have h1 : once [(26, 0), (27, 1), (28, 2), (29, 3), (30, 4), (31, 5), (32, 6), (33, 7), (34, 8), (35, 9), (36, 10), (37, 11), (38, 12)] = true := by kernel_rfl
        have h2 : within [(26, 0), (27, 1), (28, 2), (29, 3), (30, 4), (31, 5), (32, 6), (33, 7), (34, 8), (35, 9), (36, 10), (37, 11), (38, 12)] 40 = true := by kernel_rfl
        let S : Nat → (Nat → Value) → World → Prop := fun i xs W => match i with
          | 0 => (xs 0) = .pointer (some ⟨g, 0, none⟩)
          | 1 => (xs 1) = .pointer (some ⟨g, 0, none⟩)
          | 2 => (xs 2) = .pointer (some ⟨g, 0, none⟩)
          | 3 => (xs 3) = .pointer (some ⟨g, 5, none⟩)
          | 4 => (xs 4) = .agg #[.bool nb, .slice sa sm sc]
          | 5 => (xs 5) = .slice (some ⟨b, o, none⟩) n cap
          | 6 => (xs 6) = .int .i64 (k : Nat)
          | 7 => (xs 7) = .pointer (some ⟨b, o + k, none⟩)
          | 8 => (xs 8) = .float .f64 x
          | 9 => WideI W (xs 9) (vN x)
          | 10 => WideI W (xs 10) (sumT U + vN x)
          | 11 => (xs 11) = .pointer (some ⟨g, 0, none⟩)
          | 12 => (xs 12) = .pointer (some ⟨g, 5, none⟩)
          | _ => True
        have hstab : ∀ j ys W W', S j ys W → Below W.heap.size W W' → S j ys W' := by
          intro j ys W W' h hb
          match j, h with
          | 0, h => exact h
          | 1, h => exact h
          | 2, h => exact h
          | 3, h => exact h
          | 4, h => exact h
          | 5, h => exact h
          | 6, h => exact h
          | 7, h => exact h
          | 8, h => exact h
          | 9, h => exact h.below hb
          | 10, h => exact h.below hb
          | 11, h => exact h
          | 12, h => exact h
          | _ + 13, h => exact trivial
        refine wp_region_flow3T 13 14 4 [(26, 0), (27, 1), (28, 2), (29, 3), (30, 4), (31, 5), (32, 6), (33, 7), (34, 8), (35, 9), (36, 10), (37, 11), (38, 12)] [] S (fun _ W => Below w4.heap.size w4 W) ((Below.refl _ _).drew) (by kernel_rfl) (by kernel_rfl) (by kernel_rfl) (by decide) (by kernel_rfl) h1 (by kernel_rfl) ?_ ?_ ?_ ?_
        · exact fun j hj => by cases hj
        · intro j xs ys W e h
          match j, e, h with
          | 0, e, h => exact (e 0 (.inl rfl)).symm.trans h
          | 1, e, h => exact (e 1 (.inl rfl)).symm.trans h
          | 2, e, h => exact (e 2 (.inl rfl)).symm.trans h
          | 3, e, h => exact (e 3 (.inl rfl)).symm.trans h
          | 4, e, h => exact (e 4 (.inl rfl)).symm.trans h
          | 5, e, h => exact (e 5 (.inl rfl)).symm.trans h
          | 6, e, h => exact (e 6 (.inl rfl)).symm.trans h
          | 7, e, h => exact (e 7 (.inl rfl)).symm.trans h
          | 8, e, h => exact (e 8 (.inl rfl)).symm.trans h
          | 9, e, h => exact (congrArg (fun z => WideI W z _) (e 9 (.inl rfl))).mp h
          | 10, e, h => exact (congrArg (fun z => WideI W z _) (e 10 (.inl rfl))).mp h
          | 11, e, h => exact (e 11 (.inl rfl)).symm.trans h
          | 12, e, h => exact (e 12 (.inl rfl)).symm.trans h
          | _ + 13, e, h => exact trivial
        · refine ⟨⟨⟨⟨⟨⟨⟨⟨⟨⟨⟨⟨⟨trivial, ?_⟩, ?_⟩, ?_⟩, ?_⟩, ?_⟩, ?_⟩, ?_⟩, ?_⟩, ?_⟩, ?_⟩, ?_⟩, ?_⟩, ?_⟩
          · refine flow3_step _ (some 26) rfl rfl rfl h1 h2 (fun D W _ h => h) (fun D W W' h hb => h.thru hb) hstab fun ac xs W Dn he hni hG hS K hK => ?_
            exact op_move (.tmp 0) (.inl rfl) (hK _ _ (he 0) (Below.refl _ _) (fun h => absurd h (by decide)))
          · refine flow3_step _ (some 27) rfl rfl rfl h1 h2 (fun D W _ h => h) (fun D W W' h hb => h.thru hb) hstab fun ac xs W Dn he hni hG hS K hK => ?_
            exact op_move (.tmp 0) (.inl rfl) (hK _ _ (he 0) (Below.refl _ _) (fun h => absurd h (by decide)))
          · refine flow3_step _ (some 28) rfl rfl rfl h1 h2 (fun D W _ h => h) (fun D W W' h hb => h.thru hb) hstab fun ac xs W Dn he hni hG hS K hK => ?_
            have e0 : ac.eval (.tmp 27) = _ := (he 27).trans (hS 1 (by kernel_rfl))
            refine op_any (.nilCheck (.tmp 27)) rfl (.pointer (some ⟨g, 0, none⟩)) (fun o' ho' => ?_) (hK _ _ rfl (Below.refl _ _) (fun h => absurd h (by decide)))
            simp only [execOp, ho', e0]
            go_simp
          · refine flow3_step _ (some 29) rfl rfl rfl h1 h2 (fun D W _ h => h) (fun D W W' h hb => h.thru hb) hstab fun ac xs W Dn he hni hG hS K hK => ?_
            have e0 : ac.eval (.tmp 28) = _ := (he 28).trans (hS 2 (by kernel_rfl))
            refine op_any (.fieldAddr 75 (.tmp 28) 1) rfl (.pointer (some ⟨g, 5, none⟩)) (fun o' ho' => ?_) (hK _ _ rfl (Below.refl _ _) (fun h => absurd h (by decide)))
            simp only [execOp, ho', e0]
            go_simp
          · refine flow3_step _ (some 30) rfl rfl rfl h1 h2 (fun D W _ h => h) (fun D W W' h hb => h.thru hb) hstab fun ac xs W Dn he hni hG hS K hK => ?_
            have hc5 := (HC4.out W hG).2.1
            have hc6 := (HC4.out W hG).2.2
            have e0 : ac.eval (.tmp 29) = _ := (he 29).trans (hS 3 (by kernel_rfl))
            refine op_any (.load 73 (.tmp 29)) rfl (.agg #[.bool nb, .slice sa sm sc]) (fun o' ho' => ?_) (hK _ _ rfl (Below.refl _ _) (fun h => absurd h (by decide)))
            simp only [execOp, ho', e0]
            go_simp
          · refine flow3_step _ (some 31) rfl rfl rfl h1 h2 (fun D W _ h => h) (fun D W W' h hb => h.thru hb) hstab fun ac xs W Dn he hni hG hS K hK => ?_
            exact op_move (.tmp 1) (.inl rfl) (hK _ _ (he 1) (Below.refl _ _) (fun h => absurd h (by decide)))
          · refine flow3_step _ (some 32) rfl rfl rfl h1 h2 (fun D W _ h => h) (fun D W W' h hb => h.thru hb) hstab fun ac xs W Dn he hni hG hS K hK => ?_
            exact op_move (.tmp 4) (.inl rfl) (hK _ _ (he 4) (Below.refl _ _) (fun h => absurd h (by decide)))
          · refine flow3_step _ (some 33) rfl rfl rfl h1 h2 (fun D W _ h => h) (fun D W W' h hb => h.thru hb) hstab fun ac xs W Dn he hni hG hS K hK => ?_
            have hkn2 : (k : Int) < (n : Int) := by omega
            have hk0 : (0 : Int) ≤ (k : Int) := by omega
            have e0 : ac.eval (.tmp 31) = _ := (he 31).trans (hS 5 (by kernel_rfl))
            have e1 : ac.eval (.tmp 32) = _ := (he 32).trans (hS 6 (by kernel_rfl))
            refine op_any (.indexAddr 24 (.tmp 31) (.tmp 32)) rfl (.pointer (some ⟨b, o + k, none⟩)) (fun o' ho' => ?_) (hK _ _ rfl (Below.refl _ _) (fun h => absurd h (by decide)))
            simp only [execOp, ho', e0, e1]
            go_simp
          · refine flow3_step _ (some 34) rfl rfl rfl h1 h2 (fun D W _ h => h) (fun D W W' h hb => h.thru hb) hstab fun ac xs W Dn he hni hG hS K hK => ?_
            have e0 : ac.eval (.tmp 33) = _ := (he 33).trans (hS 7 (by kernel_rfl))
            refine op_any (.load 26 (.tmp 33)) rfl (.float .f64 x) (fun o' ho' => ?_) (hK _ _ rfl (Below.refl _ _) (fun h => absurd h (by decide)))
            simp only [execOp, ho', e0]
            have hc := (HC4.out W hG).1
            go_simp
          · refine flow3_step _ (some 35) rfl rfl rfl h1 h2 (fun D W _ h => h) (fun D W W' h hb => h.thru hb) hstab fun ac xs W Dn he hni hG hS K hK => ?_
            have e0 : ac.eval (.tmp 34) = _ := (he 34).trans (hS 8 (by kernel_rfl))
            refine op_call 57 _ _ rfl _ (by simp only [List.map, e0]) (by go_simp) (HO1.out W) ?_
            rintro e' W' ⟨u, rfl, hi', hb'⟩
            exact ⟨_, rfl, hK _ _ hi' hb' (fun h => absurd h (by decide))⟩
          · refine flow3_step _ (some 36) rfl rfl rfl h1 h2 (fun D W _ h => h) (fun D W W' h hb => h.thru hb) hstab fun ac xs W Dn he hni hG hS K hK => ?_
            have e0 : ac.eval (.tmp 30) = _ := (he 30).trans (hS 4 (by kernel_rfl))
            have e1 : ac.eval (.tmp 35) = xs 9 := he 35
            refine op_call 56 _ _ rfl _ (by simp only [List.map, e0, e1]) (by go_simp) (HAD.out W _ _ (HIW.out W hG) (hS 9 (by kernel_rfl))) ?_
            rintro e' W' ⟨u, rfl, hi', hb'⟩
            exact ⟨_, rfl, hK _ _ hi' hb' (fun h => absurd h (by decide))⟩
          · refine flow3_step _ (some 37) rfl rfl rfl h1 h2 (fun D W _ h => h) (fun D W W' h hb => h.thru hb) hstab fun ac xs W Dn he hni hG hS K hK => ?_
            have e0 : ac.eval (.tmp 26) = _ := (he 26).trans (hS 0 (by kernel_rfl))
            refine op_any (.nilCheck (.tmp 26)) rfl (.pointer (some ⟨g, 0, none⟩)) (fun o' ho' => ?_) (hK _ _ rfl (Below.refl _ _) (fun h => absurd h (by decide)))
            simp only [execOp, ho', e0]
            go_simp
          · refine flow3_step _ (some 38) rfl rfl rfl h1 h2 (fun D W _ h => h) (fun D W W' h hb => h.thru hb) hstab fun ac xs W Dn he hni hG hS K hK => ?_
            have e0 : ac.eval (.tmp 37) = _ := (he 37).trans (hS 11 (by kernel_rfl))
            refine op_any (.fieldAddr 75 (.tmp 37) 1) rfl (.pointer (some ⟨g, 5, none⟩)) (fun o' ho' => ?_) (hK _ _ rfl (Below.refl _ _) (fun h => absurd h (by decide)))
            simp only [execOp, ho', e0]
            go_simp
        · intro xs w5 Dn hall hG hS hD
          have HV : Hid (WideI w5 (xs 10) (sumT U + vN x)) := hS 10 (by decide)
          have s38 : xs 12 = _ := hS 12 (by decide)
          have HG5 : Hid (Below w4.heap.size w4 w5) := hG
          simp only [layAll, s38, List.setIfInBounds_toArray, List.set_cons_succ, List.set_cons_zero]
          clear hS hD hall hstab S hG h1 h2
          generalize xs 0 = x0 at *
          generalize xs 1 = x1 at *
          generalize xs 2 = x2 at *
          generalize xs 3 = x3 at *
          generalize xs 4 = x4 at *
          generalize xs 5 = x5 at *
          generalize xs 6 = x6 at *
          generalize xs 7 = x7 at *
          generalize xs 8 = x8 at *
          generalize xs 9 = x9 at *
          generalize xs 10 = x10 at *
          generalize xs 11 = x11 at *
          refine accL_lay rfl 73 (.tmp 38) (.tmp 36) rfl (by kernel_rfl) g _ _ (sumT U + vN x) x10 rfl rfl HV.out (AccRow.below HA4.out HG5.out) ?_
          intro w6 e1 e2
          show wpList Tryz.prog _ _ [] _ _
          have HB6 : Hid (But g w w6) := HB.out.trans (HB4.out.trans ((But.of g HG5.out).trans e2))
          have HA6 : Hid (AccT w6 g (T ++ tmL (l.take (k + 1)))) := by
            show AccT w6 g _
            rw [HN1.out]
            refine AccT.put ?_
            rw [HSX.out.1, HSX.out.2, ← HQ.out]
            exact e1
          have hw1 : IntKind.i64.wrap ((k : Int) + 1) = ((k + 1 : Nat) : Int) := by rw [IntWalk.i64_in _ (by omega)]; omega
          clear e1 e2
          go_wp2
          go_roundw
          case rel => exact ⟨k + 1, by omega, by first | rfl | rw [hw1], HA6.out, HB6.out⟩
          case measure => simp [intOf]; omega
    · have : k = n := by omega
      subst this
      clear hk hkn
      go_wp2
      exact bodyPost_end (results_void rfl _ _ _) rfl ⟨rfl, HA.out, HB.out⟩
end Go.Proofs.YtlffojopfilfeaaGreatDoor
