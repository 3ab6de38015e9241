/- Parts Al, As of the proof, in one text. -/
import Derived.Test.YtapahfoebpiajaaGreatDoorSAD
import Derived.Test.YtapahfoebpiajaaGreatDoorSQO
import Derived.Test.YtapahfoebpiajaaGreatDoorSWP
import Derived.Test.YtapahfoebpiajaaGreatDoorSAR
import Derived.Test.YtapahfoebpiajaaGreatDoorSQS
import Derived.Test.YtapahfoebpiajaaGreatDoorSRJ

/- Walks: the program's square root of whole numbers. -/
namespace Go.Proofs.YtapahfoebpiajaaGreatDoor
open Go.RowKit

/-- Newton's step never falls below the root. -/
theorem newton_ge {x r s : Nat} (hr : 0 < r) (hs : s * s ≤ x) : s ≤ (r + x / r) / 2 := by
  have h : 2 * s ≤ r + x / r := by
    by_cases h0 : 2 * s ≤ r
    · exact Nat.le_trans h0 (Nat.le_add_right _ _)
    · have h1 : (2 * s - r) * r ≤ x := by
        refine Nat.le_trans ?_ hs
        rcases Nat.le_total r s with h | h
        · obtain ⟨k, rfl⟩ : ∃ k, s = r + k := ⟨s - r, by omega⟩
          rw [show 2 * (r + k) - r = r + 2 * k by omega, Nat.add_mul, Nat.add_mul, Nat.mul_add, Nat.mul_add, Nat.mul_assoc, Nat.mul_comm k r]
          omega
        · obtain ⟨k, rfl⟩ : ∃ k, r = s + k := ⟨r - s, by omega⟩
          obtain ⟨j, hj⟩ : ∃ j, s = k + j := ⟨s - k, by omega⟩
          subst hj
          rw [show 2 * (k + j) - (k + j + k) = j by omega]
          rw [Nat.mul_add, Nat.mul_add, Nat.add_mul, Nat.mul_add, Nat.mul_add, Nat.mul_comm j k]
          omega
      have h2 : 2 * s - r ≤ x / r := (Nat.le_div_iff_mul_le hr).2 h1
      generalize x / r = y at *
      omega
  generalize x / r = y at *
  omega
theorem newton_end {x r : Nat} (hr : 0 < r) (h : r ≤ (r + x / r) / 2) : r * r ≤ x := by
  have h1 : r ≤ x / r := by generalize x / r = y at *; omega
  exact (Nat.le_div_iff_mul_le hr).1 h1
end Go.Proofs.YtapahfoebpiajaaGreatDoor

/- Walks: the program's square root of whole numbers. -/
namespace Go.Proofs.YtapahfoebpiajaaGreatDoor
open Go.RowKit

/-- The first guess is no less than the root. -/
theorem root_guess {N b k s : Nat} (hb : N < 2 ^ b) (hk : k = (b + 1) / 2) (hs : s * s ≤ N) : s ≤ 2 ^ k := by
  rcases Nat.lt_or_ge (2 ^ k) s with h | h
  · exfalso
    have h1 : 2 ^ k * 2 ^ k ≤ s * s := Nat.mul_le_mul (Nat.le_of_lt h) (Nat.le_of_lt h)
    rw [← Nat.pow_add] at h1
    have h2 : 2 ^ b ≤ 2 ^ (k + k) := Nat.pow_le_pow_right (by decide) (by omega)
    omega
  · exact h
theorem root_one (N : Nat) : rootQ N 1 * rootQ N 1 ≤ N ∧ N < (rootQ N 1 + 1) * (rootQ N 1 + 1) := by
  have := rootQ_spec N 1 (by decide)
  simpa using this
/-- Where it ends. -/
theorem root_stop {N r : Nat} (hr : 0 < r) (h0 : rootQ N 1 ≤ r) (h : r ≤ (r + N / r) / 2) : r = rootQ N 1 := by
  have h1 := newton_end hr h
  have h2 := (root_one N).2
  have := sq_lt.1 (Nat.lt_of_le_of_lt h1 h2)
  omega

set_option maxHeartbeats 4000000 in
set_option maxRecDepth 100000 in
theorem iroot_n (x : Value) (N : Nat) (w : World) (h : WideI w x (N : Int)) {bb : Nat} (hN : N < 2 ^ bb) (hbb : bb ≤ 2147000000) :
    Calls Tryz.prog 120 #[x] w (WideR ((rootQ N 1 : Nat) : Int) w) := by
  obtain ⟨a, m, c, rfl, hn⟩ := h.nat
  obtain ⟨w2, hw2⟩ : ∃ W, W = (w.alloc (.cells #[.bool false, .slice a m c] 77)).alloc (.cells #[.bool false, .slice none 0 0] 77) := ⟨_, rfl⟩
  have hba : Below w.heap.size w w2 := by rw [hw2]; exact ((Below.refl _ _).alloc (Nat.le_refl _) _).alloc (by simp) _
  have hq0 : w2.heap[w.heap.size]? = some (.cells #[.bool false, .slice a m c] 77 (0, 0)) := by
    rw [hw2]; exact (((Below.refl _ (w.alloc (.cells #[.bool false, .slice a m c] 77))).alloc (Nat.le_refl _) _).blk (heap_alloc_new w _) (by simp))
  have hq1 : w2.heap[w.heap.size + 1]? = some (.cells #[.bool false, .slice none 0 0] 77 (0, 0)) := by rw [hw2]; exact heap_alloc2_new w _ _
  have hsz : w2.heap.size = w.heap.size + 2 := by rw [hw2]; simp
  have HN : Hid (N < 2 ^ bb ∧ bb ≤ 4294967296 ∧ bb ≤ 2147000000) := ⟨hN, by omega, hbb⟩
  have HX : Hid (∀ W, Below w2.heap.size w2 W → IR W w.heap.size N ∧ W.heap[w.heap.size]? = some (.cells #[.bool false, .slice a m c] 77 (0, 0)) ∧ W.heap[w.heap.size + 1]? = some (.cells #[.bool false, .slice none 0 0] 77 (0, 0))) := fun W hW =>
    ⟨⟨a, m, c, hW.blk hq0 (by omega), hn.below (Nat.le_refl _) (hba.trans (hW.mono hba.size))⟩, hW.blk hq0 (by omega), hW.blk hq1 (by omega)⟩
  have HB0 : Hid (Below w.heap.size w w2) := hba
  have HSZ : Hid (w2.heap.size = w.heap.size + 2) := hsz
  obtain ⟨R, hR⟩ : ∃ R, R = rootQ N 1 := ⟨_, rfl⟩
  have HRT : Hid (R * R ≤ N ∧ N < (R + 1) * (R + 1)) := by rw [hR]; exact root_one N
  have HRS : Hid (∀ r, 0 < r → R ≤ r → r ≤ (r + N / r) / 2 → r = R) := by rw [hR]; exact fun r h1 h2 h3 => root_stop h1 h2 h3
  rw [← hR]
  clear hN hbb hba hq0 hq1 hsz h hn hR
  go_enter Tryz.func120, Tryz.ntmps120
  go_upto_region 1 with fail
  rw [← hw2]
  clear hw2
  obtain ⟨hir, hq0, hq1⟩ := HX.out _ (Below.refl _ _)
  obtain ⟨f0, f1, c0, c1, -, -⟩ := row2 hq0
  go_wp2_with fail
  refine (sign_n _ N _ (by obtain ⟨a', m', c', h1, h2⟩ := hir; rw [hq0] at h1; cases h1; exact .mk h2)).mono ?_
  rintro e w3 ⟨rfl, hb⟩
  have HBS : Hid (Below w2.heap.size w2 w3) := hb
  clear hir hq0 hq1 f0 f1 c0 c1 hb
  by_cases hN0 : N = 0
  · subst hN0
    rw [if_pos rfl]
    obtain ⟨hir, hq0, hq1⟩ := HX.out _ HBS.out
    obtain ⟨f0, f1, c0, c1, f2, c2⟩ := row2 hq1
    have HQ : Hid _ := hq1
    have hR0 : R = 0 := by have := HRT.out.1; rcases Nat.eq_zero_or_pos R with h | h; exact h; have := Nat.mul_pos h h; omega
    subst hR0
    have HZ : Hid _ := num_zero w3
    clear hir hq0 hq1
    go_wp2
    exact wide_endV (p := 2) rfl rfl HQ.out HZ.out (HB0.out.trans (HBS.out.mono HB0.out.size)) (by omega) (by decide)
  · rw [if_neg hN0]
    obtain ⟨b, hbl⟩ : ∃ b, b = blen N := ⟨_, rfl⟩
    obtain ⟨b1, hb1⟩ : ∃ b1, b1 = b + 1 := ⟨_, rfl⟩
    obtain ⟨k, hk⟩ : ∃ k, k = b1 / 2 := ⟨_, rfl⟩
    obtain ⟨p1, p2, p3⟩ := blen_pos hN0
    rw [← hbl] at p1 p2 p3
    have hble : b ≤ bb := by
      rcases Nat.lt_or_ge bb b with h | h
      · have := Nat.pow_le_pow_right (n := 2) (by decide) (show bb ≤ b - 1 by omega)
        have := HN.out.1
        omega
      · exact h
    have hbb := HN.out.2.2
    have HBL : Hid (b = blen N) := hbl
    have F1 : Hid (IntKind.i64.wrap ((b : Int) + 1) = (b1 : Nat)) := by show _ = _; rw [IntWalk.i64_in _ (by omega)]; omega
    have F2 : Hid (((b1 : Nat) : Int).tdiv 2 = (k : Nat)) := by show _ = _; rw [Int.tdiv_eq_ediv_of_nonneg (by omega)]; omega
    have F3 : Hid (IntKind.i64.wrap ((k : Nat) : Int) = (k : Nat)) := IntWalk.i64_in _ (by omega)
    have FK : Hid (k ≤ 4294967296) := by show _ ≤ _; omega
    have HK0 : Hid (R ≤ 2 ^ k ∧ 2 ^ k < 2 ^ (bb + 2) ∧ N < 2 ^ (bb + 2) ∧ bb + 3 ≤ 2147000003) := ⟨root_guess p2 (by omega) HRT.out.1, Nat.pow_lt_pow_right (by decide) (by omega), Nat.lt_of_lt_of_le HN.out.1 (Nat.pow_le_pow_right (by decide) (by omega)), by omega⟩
    have HRP : Hid (0 < R) := by
      show 0 < R
      rcases Nat.eq_zero_or_pos R with h | h
      · have := HRT.out.2; rw [h] at this; omega
      · exact h
    clear hbl hb1 hk p1 p2 p3 hble hbb
    go_upto_region 3 with fail
    have h1 : once [(11, 0), (12, 1), (13, 2), (14, 3), (15, 4), (16, 5), (3, 6)] = true := by kernel_rfl
    have h2 : within [(11, 0), (12, 1), (13, 2), (14, 3), (15, 4), (16, 5), (3, 6)] 33 = true := by kernel_rfl
    refine wp_region_flow 7 8 [(11, 0), (12, 1), (13, 2), (14, 3), (15, 4), (16, 5), (3, 6)] [6] (fun i v W => match i with
      | 0 => WideI W v ((1 : Nat) : Int)
      | 1 => WideI W v ((N : Nat) : Int)
      | 2 => v = .int .i64 (b : Nat)
      | 3 => v = .int .i64 (b1 : Nat)
      | 4 => v = .int .i64 (k : Nat)
      | 5 => WideI W v ((1 * 2 ^ k : Nat) : Int)
      | _ => ∃ g, v = .pointer (some ⟨g, 0, none⟩) ∧ w3.heap.size ≤ g ∧ g < W.heap.size ∧ W.heap[g]? = some (.cells #[.bool false, .slice none 0 0] 77 (0, 0))) w3.heap.size (Nat.le_refl _) (by kernel_rfl) (by kernel_rfl) (by kernel_rfl) (by decide) (by kernel_rfl) h1 (by kernel_rfl) ?_ ?_ ?_ ?_
    · intro j v W W' h hb
      match j, h with
      | 0, h => exact h.below hb
      | 1, h => exact h.below hb
      | 2, h => exact h
      | 3, h => exact h
      | 4, h => exact h
      | 5, h => exact h.below hb
      | _ + 6, ⟨g, s1, s2, s3, s4⟩ => exact ⟨g, s1, s2, Nat.lt_of_lt_of_le s3 hb.size, hb.blk s4 s3⟩
    · intro j hj v W h
      simp only [List.mem_cons, List.not_mem_nil, or_false] at hj
      rcases hj with rfl
      · obtain ⟨g, s1, s2, s3, s4⟩ := h; exact ⟨g, s1, s3⟩
    · refine ⟨⟨⟨⟨⟨⟨⟨trivial, ?_⟩, ?_⟩, ?_⟩, ?_⟩, ?_⟩, ?_⟩, ?_⟩
      · refine flow_step _ 11 rfl rfl (fun d h => by simpa using h) h1 h2 fun ac xs W he hb hS K hK => ?_
        have hw1 : Calls Tryz.prog 63 #[.int .u64 1] W (WideR ((1 : Nat) : Int) W) := word_v 1 W (by decide)
        refine op_call 63 _ _ rfl _ (by simp only [List.map, eval_const]) (by go_simp) (hw1) ?_
        rintro e' W' ⟨u, rfl, hi', hb'⟩
        exact ⟨_, rfl, hK _ _ hi' hb' (fun h => absurd h (by decide))⟩
      · refine flow_step _ 12 rfl rfl (fun d h => by simpa using h) h1 h2 fun ac xs W he hb hS K hK => ?_
        obtain ⟨ra, rm, rc, hrow, hval⟩ := ((HX.out W (HBS.out.thru hb)).1).val
        exact wp_load_row 77 (.tmp 1) rfl w.heap.size (he 1) _ _ _ _ hrow Tryz.underlying77 rfl (by kernel_rfl) (hK _ _ hval (Below.refl _ _) (fun h => absurd h (by decide)))
      · refine flow_step _ 13 rfl rfl (fun d h => by simpa using h) h1 h2 fun ac xs W he hb hS K hK => ?_
        have hw1 := bits_n (xs 1) N W (hS 1 (by kernel_rfl)) HN.out.1 HN.out.2.1
        rw [← HBL.out] at hw1
        have e0 : ac.eval (.tmp 12) = xs 1 := he 12
        refine op_call 79 _ _ rfl _ (by simp only [List.map, e0]) (by go_simp) (hw1) ?_
        rintro e' W' ⟨rfl, hb'⟩
        exact ⟨_, rfl, hK _ _ (rfl) hb' (fun h => absurd h (by decide))⟩
      · refine flow_step _ 14 rfl rfl (fun d h => by simpa using h) h1 h2 fun ac xs W he hb hS K hK => ?_
        have k0 := F1.out
        have e0 : ac.eval (.tmp 13) = _ := (he 13).trans (hS 2 (by kernel_rfl))
        refine op_any (.binOp .add 3 (.tmp 13) (.const (.int .i64 1)) 3) rfl (.int .i64 (b1 : Nat)) (fun o' ho' => ?_) (hK _ _ rfl (Below.refl _ _) (fun h => absurd h (by decide)))
        simp only [execOp, ho', e0]
        go_simp
      · refine flow_step _ 15 rfl rfl (fun d h => by simpa using h) h1 h2 fun ac xs W he hb hS K hK => ?_
        have k0 := F2.out
        have k1 := F3.out
        have e0 : ac.eval (.tmp 14) = _ := (he 14).trans (hS 3 (by kernel_rfl))
        refine op_any (.binOp .quo 3 (.tmp 14) (.const (.int .i64 2)) 3) rfl (.int .i64 (k : Nat)) (fun o' ho' => ?_) (hK _ _ rfl (Below.refl _ _) (fun h => absurd h (by decide)))
        simp only [execOp, ho', e0]
        go_simp
      · refine flow_step _ 16 rfl rfl (fun d h => by simpa using h) h1 h2 fun ac xs W he hb hS K hK => ?_
        have e0 : ac.eval (.tmp 11) = xs 0 := he 11
        have e1 : ac.eval (.tmp 15) = _ := (he 15).trans (hS 4 (by kernel_rfl))
        refine op_call 54 _ _ rfl _ (by simp only [List.map, e0, e1]) (by go_simp) (left_n (xs 0) 1 k W (hS 0 (by kernel_rfl)) (bb := 2) (by decide) (by decide) FK.out) ?_
        rintro e' W' ⟨u, rfl, hi', hb'⟩
        exact ⟨_, rfl, hK _ _ hi' hb' (fun h => absurd h (by decide))⟩
      · refine flow_step _ 3 rfl rfl (fun d h => by simpa using h) h1 h2 fun ac xs W he hb hS K hK => ?_
        have hsz := hb.size
        refine op_anyw (.alloc 77) rfl (.pointer (some ⟨W.heap.size, 0, none⟩)) (W.alloc (.cells #[.bool false, .slice none 0 0] 77)) ?_ ?_
        · intro o' ho'
          simp only [execOp, ho']
          go_simp
        · exact hK _ _ ⟨_, rfl, by omega, by simp, heap_alloc_new _ _⟩ ((Below.refl _ _).alloc (Nat.le_refl _) _) (fun _ => rfl)
    · intro xs w4 hb hS hD
      obtain ⟨g, s6, s7, s8, s9⟩ := hS 6 (by decide)
      have hw5 : WideI w4 (xs 5) _ := hS 5 (by decide)
      obtain ⟨ya, ym, yc, ey, hy⟩ := hw5.nat
      obtain ⟨f0, f1, c0, c1, f2, c2⟩ := row2 s9
      have HR : Hid (IR ((w4.setCell ⟨g, 0, none⟩ (.bool false)).setCell ⟨g, 1, none⟩ (.slice ya ym yc)) g (1 * 2 ^ k)) := .put ⟨_, _, _, _, s9⟩ hy
      have s7 := Nat.le_trans HBS.out.size s7
      have HG : Hid (w2.heap.size ≤ g) := s7
      have HB3 : Hid (Below w2.heap.size w2 ((w4.setCell ⟨g, 0, none⟩ (.bool false)).setCell ⟨g, 1, none⟩ (.slice ya ym yc))) := below_row (HBS.out.thru hb) s7 _ _
      generalize xs 0 = x0 at *
      generalize xs 1 = x1 at *
      generalize xs 2 = x2 at *
      generalize xs 3 = x3 at *
      generalize xs 4 = x4 at *
      simp only [layAll, s6, ey]
      clear hS hD s6 s7 s8 s9 hb hw5 hy
      go_wp2
      go_loopw [4] (fun _ wr => ∃ r : Nat, IR wr g r ∧ R ≤ r ∧ r ≤ 2 ^ k ∧ Below w2.heap.size w2 wr) (fun _ wr => irOf wr g)
      case atStart => exact ⟨2 ^ k, by have := HR.out; rwa [Nat.one_mul] at this, HK0.out.1, Nat.le_refl _, HB3.out⟩
      case round =>
        obtain ⟨r, hir, hge, hle, hbr⟩ := hrel
        obtain ⟨hx, q0, q1⟩ := HX.out _ hbr
        have HIW : Hid (IR wr g r) := hir
        obtain ⟨ra, rm, rc, hrow, hnum⟩ := hir
        obtain ⟨f0, f1, c0, c1, -, -⟩ := row2 q0
        obtain ⟨f2, f3, c2, c3, -, -⟩ := row2 hrow
        have HROW : Hid _ := hrow
        have HNUM : Hid (Num .u64 18446744073709551616 wr (.slice ra rm rc) r) := hnum
        have HBR : Hid (Below w2.heap.size w2 wr) := hbr
        have HXN : Hid (WideI wr (.agg #[.bool false, .slice a m c]) (N : Int)) := by obtain ⟨a', m', c', h1, h2⟩ := hx; rw [q0] at h1; cases h1; exact .mk h2
        have HRR : Hid (R ≤ r ∧ r ≤ 2 ^ k ∧ 0 < r) := ⟨hge, hle, Nat.lt_of_lt_of_le HRP.out hge⟩
        have hrb : r < 2 ^ (bb + 2) := Nat.lt_of_le_of_lt hle HK0.out.2.1
        have HRB : Hid (r < 2 ^ (bb + 2) ∧ N / r < 2 ^ (bb + 2) ∧ r + N / r < 2 ^ (bb + 3)) := by
          have h1 : N / r < 2 ^ (bb + 2) := Nat.lt_of_le_of_lt (Nat.div_le_self _ _) HK0.out.2.2.1
          exact ⟨hrb, h1, by rw [Nat.pow_succ 2 (bb + 2)]; omega⟩
        clear hge hle hrow hnum hbr hx q0 q1 hrb
        go_wp2_with fail
        refine (quo_n _ _ N r _ HXN.out (.mk HNUM.out) HN.out.1 (by have := HN.out.2.2; omega)).mono ?_
        rintro e w5 ⟨v, v', rfl, hv, hv', hb5⟩
        obtain ⟨qa, qm, qc, rfl, hq⟩ := hv.nat
        obtain ⟨sa, sm, sc, rfl, -⟩ := hv'.nat
        have HQ5 : Hid (Num .u64 18446744073709551616 w5 (.slice qa qm qc) (N / r)) := hq
        have hrow5 := hb5.blk HROW.out (blk_lt HROW.out)
        have HN5 : Hid (Num .u64 18446744073709551616 w5 (.slice ra rm rc) r) := HNUM.out.below (Nat.le_refl _) hb5
        have HB5 : Hid (Below w2.heap.size w2 w5) := HBR.out.thru hb5
        obtain ⟨w6, hw6⟩ : ∃ W, W = (w5.alloc (.cells #[.bool false, .slice qa qm qc] 77)).alloc (.cells #[.bool false, .slice sa sm sc] 77) := ⟨_, rfl⟩
        have hb6 : Below w5.heap.size w5 w6 := by rw [hw6]; exact ((Below.refl _ _).alloc (Nat.le_refl _) _).alloc (by simp) _
        have hrow6 := hb6.blk hrow5 (blk_lt hrow5)
        have HR6 : Hid _ := hrow6
        have HB6 : Hid (Below w5.heap.size w5 w6) := hb6
        have hq4 : w6.heap[w5.heap.size]? = some (.cells #[.bool false, .slice qa qm qc] 77 (0, 0)) := by rw [hw6]; exact (((Below.refl _ (w5.alloc (.cells #[.bool false, .slice qa qm qc] 77))).alloc (Nat.le_refl _) _).blk (heap_alloc_new w5 _) (by simp))
        obtain ⟨f0, f1, c0, c1, -, -⟩ := row2 hrow6
        obtain ⟨f4, f5, c4, c5, -, -⟩ := row2 hq4
        clear hv hv' hq hb5 hrow5 hb6 hrow6 HXN HNUM HROW HBR f2 f3 c2 c3 hq4
        go_upto_region 5 with fail
        rw [← hw6]
        clear hw6
        go_wp2_with fail
        refine (add_n _ _ r (N / r) _ (.mk (HN5.out.below (Nat.le_refl _) HB6.out)) (.mk (HQ5.out.below (Nat.le_refl _) HB6.out)) HRB.out.1 HRB.out.2.1 (by have := HK0.out.2.2.2; omega)).mono ?_
        rintro e w7 ⟨v, rfl, hv, hb7⟩
        obtain ⟨sa, sm, sc, rfl, hs⟩ := hv.nat
        have HS7 : Hid (Num .u64 18446744073709551616 w7 (.slice sa sm sc) (r + N / r)) := hs
        have hrow7 := hb7.blk HR6.out (blk_lt HR6.out)
        have HR7 : Hid _ := hrow7
        have HB7 : Hid (Below w5.heap.size w5 w7) := HB6.out.thru hb7
        clear hv hb7 hs hrow7 f0 f1 c0 c1 f4 f5 c4 c5
        go_wp2_with fail
        refine (right_n _ (r + N / r) 1 _ (.mk HS7.out) HRB.out.2.2 (by have := HK0.out.2.2.2; omega) (by decide)).mono ?_
        rintro e w8 ⟨v, rfl, hv, hb8⟩
        obtain ⟨ta, tm, tc, rfl, ht⟩ := hv.nat
        rw [Nat.pow_one] at ht
        have HT8 : Hid (Num .u64 18446744073709551616 w8 (.slice ta tm tc) ((r + N / r) / 2)) := ht
        have hrow8 := hb8.blk HR7.out (blk_lt HR7.out)
        have HB8 : Hid (Below w5.heap.size w5 w8) := HB7.out.thru hb8
        obtain ⟨w9, hw9⟩ : ∃ W, W = w8.alloc (.cells #[.bool false, .slice ta tm tc] 77) := ⟨_, rfl⟩
        have hb9 : Below w8.heap.size w8 w9 := by rw [hw9]; exact (Below.refl _ _).alloc (Nat.le_refl _) _
        have hrow9 := hb9.blk hrow8 (blk_lt hrow8)
        have hq9 : w9.heap[w8.heap.size]? = some (.cells #[.bool false, .slice ta tm tc] 77 (0, 0)) := by rw [hw9]; exact heap_alloc_new _ _
        obtain ⟨f0, f1, c0, c1, -, -⟩ := row2 hrow9
        obtain ⟨f4, f5, c4, c5, -, -⟩ := row2 hq9
        have HR9 : Hid _ := hrow9
        have HQ9 : Hid _ := hq9
        have HB9 : Hid (Below w5.heap.size w5 w9) := HB8.out.thru hb9
        have HT9 : Hid (Num .u64 18446744073709551616 w9 (.slice ta tm tc) ((r + N / r) / 2)) := HT8.out.below (Nat.le_refl _) hb9
        have HNB : Hid ((r + N / r) / 2 < 2 ^ (bb + 2)) := by
          have := HRB.out
          show _ < _
          omega
        clear hv ht hb8 hrow8 hb9 hrow9 hq9 HT8 HR7 HR6
        go_upto_region 6 with fail
        rw [← hw9]
        clear hw9
        go_wp2_with fail
        refine (cmp_n _ _ ((r + N / r) / 2) r _ (.mk HT9.out) (.mk (HN5.out.below (Nat.le_refl _) HB9.out)) HNB.out HRB.out.1 (by have := HK0.out.2.2.2; omega)).mono ?_
        rintro e w10 ⟨rfl, hb10⟩
        have hrow10 := hb10.blk HR9.out (blk_lt HR9.out)
        have hq10 := hb10.blk HQ9.out (blk_lt HQ9.out)
        have HB10 : Hid (Below w5.heap.size w5 w10) := HB9.out.thru hb10
        have HT10 : Hid (Num .u64 18446744073709551616 w10 (.slice ta tm tc) ((r + N / r) / 2)) := HT9.out.below (Nat.le_refl _) hb10
        have HN10 : Hid (Num .u64 18446744073709551616 w10 (.slice ra rm rc) r) := HN5.out.below (Nat.le_refl _) HB10.out
        obtain ⟨f0, f1, c0, c1, f2, c2⟩ := row2 hrow10
        obtain ⟨f4, f5, c4, c5, -, -⟩ := row2 hq10
        have HR10 : Hid _ := hrow10
        have HBT : Hid (Below w2.heap.size w2 w10) := HB5.out.thru HB10.out
        clear hb10 hrow10 hq10 HR9 HQ9 HT9 HB9
        by_cases hst : r ≤ (r + N / r) / 2
        · have hc : (0 : Int) ≤ ncmp ((r + N / r) / 2) r := (ncmp_ge _ _).2 hst
          have HRE : Hid (r = R) := HRS.out r HRR.out.2.2 HRR.out.1 hst
          obtain ⟨hx, q0, q1⟩ := HX.out _ HBT.out
          obtain ⟨f6, f7, c6, c7, f8, c8⟩ := row2 q1
          have HQ1 : Hid _ := q1
          clear hx q0 q1 hst
          generalize ncmp ((r + N / r) / 2) r = cv at *
          go_wp2
          have hn := HN10.out
          rw [HRE.out] at hn
          exact wide_endV (p := 2) rfl rfl HQ1.out hn (HB0.out.trans (HBT.out.mono HB0.out.size)) (by omega) (by rw [decide_eq_false (by omega)])
        · have hc : ¬ (0 : Int) ≤ ncmp ((r + N / r) / 2) r := fun h => hst ((ncmp_ge _ _).1 h)
          have HLT : Hid ((r + N / r) / 2 < r) := Nat.lt_of_not_le hst
          have HGE : Hid (R ≤ (r + N / r) / 2) := newton_ge HRR.out.2.2 HRT.out.1
          have HIR : Hid (IR wr g r) := HIW.out
          clear hst
          generalize ncmp ((r + N / r) / 2) r = cv at *
          have HNEW : Hid (IR ((w10.setCell ⟨g, 0, none⟩ (.bool false)).setCell ⟨g, 1, none⟩ (.slice ta tm tc)) g ((r + N / r) / 2)) := .put ⟨_, _, _, _, HR10.out⟩ HT10.out
          go_wp2
          go_roundw
          case rel => exact ⟨_, HNEW.out, HGE.out, by have := HLT.out; have := HRR.out.2.1; omega, below_row HBT.out HG.out _ _⟩
          case measure => rw [HNEW.out.of, HIR.out.of]; exact HLT.out
end Go.Proofs.YtapahfoebpiajaaGreatDoor
