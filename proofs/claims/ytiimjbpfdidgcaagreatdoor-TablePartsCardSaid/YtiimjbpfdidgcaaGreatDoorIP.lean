/- Parts Rm, Rn of the proof, in one text. -/
import Derived.Test.YtiimjbpfdidgcaaGreatDoorIN
import Derived.Test.YtiimjbpfdidgcaaGreatDoorHZ
import Derived.Test.YtiimjbpfdidgcaaGreatDoorIC
import Derived.Test.YtiimjbpfdidgcaaGreatDoorIG
import Derived.Test.YtiimjbpfdidgcaaGreatDoorIO
import Derived.Deep.RegionHeld3

/- Walks: the reference's To and Nearest of a root; Root of both. -/
namespace Go.Proofs.YtiimjbpfdidgcaaGreatDoor
open Go.RowKit

theorem tdiv_floor (n : Int) : 2 * Int.tdiv (if n < 0 then n - 1 else n) 2 ≤ n ∧ n ≤ 2 * Int.tdiv (if n < 0 then n - 1 else n) 2 + 1 := by
  by_cases h : n < 0
  · rw [if_pos h, show n - 1 = -(1 - n) by omega, Int.neg_tdiv, Int.tdiv_eq_ediv_of_nonneg (by omega)]
    omega
  · rw [if_neg h, Int.tdiv_eq_ediv_of_nonneg (by omega)]
    omega

theorem blen_one : blen 1 = 1 := by unfold blen; rfl

theorem to_root (neg : Bool) (a a' : Option Addr) (m c m' c' M : Nat) (E : Int) (w : World) (hs : Num .u32 4294967296 w (.slice a m c) M) (ht : Num .u32 4294967296 w (.slice a' m' c') 1) (hM0 : M ≠ 0) (hM : M < 2^53) (hE1 : -1074 ≤ E) (hE2 : E ≤ 1000)
    {n u H R : Nat} (h1 : u * u ≤ n) (h2 : n < (u + 1) * (u + 1)) (hn : 2^108 ≤ n) (hval : n * 2^(2 * H) = M * 2^(E + LP).toNat * 2^LP) (hH : 1 ≤ H) (hR : Near 52 ((2 * u + (u * u != n).toNat) * 2^(H - 1)) 1 R) :
    Calls Tryz.prog 51 #[.agg #[.bool neg, .slice a m c, .slice a' m' c', .int .i64 E, .bool true], .agg #[.int .i64 53, .int .i64 (-1074), .int .i64 1023], .int .i64 1] w (ToPost neg R w) := by
  have hb1 : blen M ≤ 53 := blen_le hM
  have hb2 : 1 ≤ blen M := (blen_pos hM0).2.2
  obtain ⟨k, hk⟩ : ∃ k : Int, k = (blen M : Int) - blen 1 + E := ⟨_, rfl⟩
  have hk2 : k = (blen M : Int) - 1 + E := by rw [hk, blen_one]; rfl
  obtain ⟨f1, f2⟩ := tdiv_floor k
  obtain ⟨sz, hsz⟩ : ∃ sz, sz = Int.tdiv (if k < 0 then k - 1 else k) 2 := ⟨_, rfl⟩
  rw [← hsz] at f1 f2
  have hM2 : M < 2^200 := Nat.lt_of_lt_of_le hM (Nat.pow_le_pow_right (by decide) (by decide))
  refine to_walk neg true a a' m c m' c' E sz (rtQ M E) (rtH M E) (rtZ M E) R w (by omega) (by omega) ?_ ?_ (rtQ_next M E) ?_ ?_ ?_ ?_
  · intro W hW
    have := size_root neg a a' m c m' c' M 1 E W (hs.below (Nat.le_refl _) hW) (ht.below (Nat.le_refl _) hW) hM2 (by decide) (by decide) (by omega) (by omega)
    rw [← hk, ← hsz] at this
    exact this
  · intro W e hW h3 h4 h5
    have hsm : rtN M E e < 2305843009213693952 * 2305843009213693952 * rtD E e := by
      obtain ⟨g1, g2⟩ := rootQ_spec (rtN M E e) (rtD E e) (rtD_pos _ _)
      have h6 : rootQ (rtN M E e) (rtD E e) < 1152921504606846976 := h5
      exact Nat.lt_of_lt_of_le g2 (Nat.mul_le_mul_right _ (Nat.mul_le_mul (by omega) (by omega)))
    exact beside_root neg a a' m c m' c' M 1 E e W (hs.below (Nat.le_refl _) hW) (ht.below (Nat.le_refl _) hW) hM2 (by decide) (by decide) (by decide) (by decide) (by omega) (by omega) (by omega) (by omega) hsm
  · have := rtQ_high (M := M) (E := E) (e := max (-1074) (sz - 56)) (k := 57) hM0 (by omega)
    exact this
  · intro _
    have := rtQ_low (M := M) (E := E) (e := sz - 56) (k := 53) hM0 (by omega)
    exact this
  · intro e; exact ncmp_cases _ _
  · intro e he hlt hge
    exact rt_last hM0 hE1 h1 h2 hn hval hH hR he hlt hge

set_option maxHeartbeats 2000000 in
set_option maxRecDepth 100000 in
theorem nearest_walk (neg rt : Bool) (s t : Value) (E : Int) (R : Nat) (w : World) (hto : ∀ W, Below w.heap.size w W → Calls Tryz.prog 51 #[.agg #[.bool neg, s, t, .int .i64 E, .bool rt], .agg #[.int .i64 53, .int .i64 (-1074), .int .i64 1023], .int .i64 1] W (ToPost neg R W)) :
    Calls Tryz.prog 26 #[.agg #[.bool neg, s, t, .int .i64 E, .bool rt]] w (NearestQ neg R w) := by
  have HTO : Hid (∀ W, Below w.heap.size w W → Calls Tryz.prog 51 #[.agg #[.bool neg, s, t, .int .i64 E, .bool rt], .agg #[.int .i64 53, .int .i64 (-1074), .int .i64 1023], .int .i64 1] W (ToPost neg R W)) := hto
  clear hto
  go_enter Tryz.func26, Tryz.ntmps26
  go_upto_region 1 with fail
  have hb0 : Below w.heap.size w (w.alloc (.cells #[.bool neg, s, t, .int .i64 E, .bool rt] 50)) := (Below.refl _ _).alloc (Nat.le_refl _) _
  have q0 := heap_alloc_new w (.cells #[.bool neg, s, t, .int .i64 E, .bool rt] 50)
  have hs1 : (w.alloc (.cells #[.bool neg, s, t, .int .i64 E, .bool rt] 50)).heap.size = w.heap.size + 1 := by simp
  generalize w.alloc (.cells #[.bool neg, s, t, .int .i64 E, .bool rt] 50) = w1 at *
  refine wp_region_inv (fun l a W => ∃ t4 t5 t6 t7 t8 t9 t10 t11 : Value, ∃ gA gB : Nat, ∃ inf ine ov un : Bool, ∃ m x : Int,
    a = { tmps := #[.agg #[.bool neg, s, t, .int .i64 E, .bool rt], .pointer (some ⟨w.heap.size, 0, none⟩), .int .u64 0, .int .i64 0, t4, t5, t6, t7, t8, t9, t10, t11, undef, undef, undef, undef], defers := [] } ∧
    Below w1.heap.size w1 W ∧ (Did l 2 → ToEnd R inf ov m x) ∧
    (Did l 0 → t7 = .agg #[.bool neg, s, t, .int .i64 E, .bool rt]) ∧ (Did l 1 → t8 = .agg #[.int .i64 53, .int .i64 (-1074), .int .i64 1023]) ∧
    (Did l 2 → t9 = .tuple #[.agg #[.bool neg, .bool inf, .int .u64 m, .int .i64 x], .agg #[.bool ine, .bool ov, .bool un]]) ∧
    (Did l 3 → t6 = .tuple #[.agg #[.bool neg, .bool inf, .int .u64 m, .int .i64 x], .agg #[.bool ine, .bool ov, .bool un]]) ∧
    (Did l 4 → t10 = .agg #[.bool neg, .bool inf, .int .u64 m, .int .i64 x]) ∧ (Did l 5 → t11 = .agg #[.bool ine, .bool ov, .bool un]) ∧
    (Did l 6 → RowD W w1.heap.size t4 gA 76 (Did l 8) #[.bool neg, .bool inf, .int .u64 m, .int .i64 x]) ∧
    (Did l 7 → RowD W w1.heap.size t5 gB 78 (Did l 9) #[.bool ine, .bool ov, .bool un]) ∧ (Did l 6 → Did l 7 → gA ≠ gB)) (by kernel_rfl) (by kernel_rfl) 10 (by kernel_rfl) ?_ ?_ ?_
  · intro l hl
    refine ⟨undef, undef, undef, undef, undef, undef, undef, undef, 0, 0, false, false, false, false, 0, 0, rfl, (Below.refl _ _).drew, ?_⟩
    exact ⟨fun h => absurd h (hl _), fun h => absurd h (hl _), fun h => absurd h (hl _), fun h => absurd h (hl _), fun h => absurd h (hl _), fun h => absurd h (hl _), fun h => absurd h (hl _), fun h => absurd h (hl _), fun h => absurd h (hl _), fun h => absurd h (hl _)⟩
  · refine ⟨⟨⟨⟨⟨⟨⟨⟨⟨⟨trivial, ?_⟩, ?_⟩, ?_⟩, ?_⟩, ?_⟩, ?_⟩, ?_⟩, ?_⟩, ?_⟩, ?_⟩
    all_goals
      rintro l a W hi ⟨t4, t5, t6, t7, t8, t9, t10, t11, gA, gB, inf, ine, ov, un, m, x, rfl, hb, f2, f0, f1, f2', f3, f4, f5, f6, f7, f67⟩ hn hd hs
    · have q := hb.blk q0 (by omega)
      refine wpOp_step rfl fun K hK => step_plain rfl (wp_load_row 50 (.tmp 1) rfl w.heap.size rfl _ _ _ _ q Tryz.underlying50 rfl (by kernel_rfl) (hK _ _ ?_))
      exact ⟨t4, t5, t6, _, t8, t9, t10, t11, gA, gB, inf, ine, ov, un, m, x, rfl, hb, fun h => f2 (h.old hi), fun _ => rfl, fun h => f1 (h.old hi), fun h => f2' (h.old hi), fun h => f3 (h.old hi), fun h => f4 (h.old hi), fun h => f5 (h.old hi),
        fun h => (f6 (h.old hi)).old rfl (fun h => h.old hi), fun h => (f7 (h.old hi)).old rfl (fun h => h.old hi), fun h h' => f67 (h.old hi) (h'.old hi)⟩
    · refine wpOp_step rfl fun K hK => ?_
      go_simp
      go_at_call 52
      refine (sixty_any _).mono ?_
      rintro e w' ⟨rfl, hb'⟩
      refine hK _ _ ?_
      exact ⟨t4, t5, t6, t7, _, t9, t10, t11, gA, gB, inf, ine, ov, un, m, x, rfl, hb.thru hb', fun h => f2 (h.old hi), fun h => f0 (h.old hi), fun _ => rfl, fun h => f2' (h.old hi), fun h => f3 (h.old hi), fun h => f4 (h.old hi), fun h => f5 (h.old hi),
        fun h => (f6 (h.old hi)).thru hb' (fun h => h.old hi), fun h => (f7 (h.old hi)).thru hb' (fun h => h.old hi), fun h h' => f67 (h.old hi) (h'.old hi)⟩
    · obtain rfl := f0 (hd 0 (by kernel_rfl))
      obtain rfl := f1 (hd 1 (by kernel_rfl))
      refine wpOp_step rfl fun K hK => ?_
      go_simp
      go_at_call 51
      refine (HTO.out _ (hb0.trans (hb.mono (by omega)))).mono ?_
      rintro e w' ⟨inf', ine', ov', un', m', x', rfl, hb', hend⟩
      refine hK _ _ ?_
      have n3 : ¬ Did l 3 := fun h => hn (hs 3 2 (by kernel_rfl) h)
      have n8 : ¬ Did l 8 := fun h => n3 (hs 4 3 (by kernel_rfl) (hs 8 4 (by kernel_rfl) h))
      have n9 : ¬ Did l 9 := fun h => n3 (hs 5 3 (by kernel_rfl) (hs 9 5 (by kernel_rfl) h))
      exact ⟨t4, t5, t6, _, _, _, t10, t11, gA, gB, inf', ine', ov', un', m', x', rfl, hb.thru hb', fun _ => hend, fun _ => rfl, fun _ => rfl, fun _ => rfl, fun h => absurd (h.old hi) n3, fun h => absurd (hs 4 3 (by kernel_rfl) (h.old hi)) n3, fun h => absurd (hs 5 3 (by kernel_rfl) (h.old hi)) n3,
        fun h => ((f6 (h.old hi)).thru hb' id).turn rfl (fun h => n8 (h.old hi)), fun h => ((f7 (h.old hi)).thru hb' id).turn rfl (fun h => n9 (h.old hi)), fun h h' => f67 (h.old hi) (h'.old hi)⟩
    · obtain rfl := f2' (hd 2 (by kernel_rfl))
      refine wpOp_step rfl fun K hK => ?_
      go_simp
      refine hK _ _ ?_
      exact ⟨t4, t5, _, t7, t8, _, t10, t11, gA, gB, inf, ine, ov, un, m, x, rfl, hb, fun h => f2 (h.old hi), fun h => f0 (h.old hi), fun h => f1 (h.old hi), fun _ => rfl, fun _ => rfl, fun h => f4 (h.old hi), fun h => f5 (h.old hi),
        fun h => (f6 (h.old hi)).old rfl (fun h => h.old hi), fun h => (f7 (h.old hi)).old rfl (fun h => h.old hi), fun h h' => f67 (h.old hi) (h'.old hi)⟩
    · obtain rfl := f3 (hd 3 (by kernel_rfl))
      refine wpOp_step rfl fun K hK => ?_
      go_simp
      refine hK _ _ ?_
      exact ⟨t4, t5, _, t7, t8, t9, _, t11, gA, gB, inf, ine, ov, un, m, x, rfl, hb, fun h => f2 (h.old hi), fun h => f0 (h.old hi), fun h => f1 (h.old hi), fun h => f2' (h.old hi), fun _ => rfl, fun _ => rfl, fun h => f5 (h.old hi),
        fun h => (f6 (h.old hi)).old rfl (fun h => h.old hi), fun h => (f7 (h.old hi)).old rfl (fun h => h.old hi), fun h h' => f67 (h.old hi) (h'.old hi)⟩
    · obtain rfl := f3 (hd 3 (by kernel_rfl))
      refine wpOp_step rfl fun K hK => ?_
      go_simp
      refine hK _ _ ?_
      exact ⟨t4, t5, _, t7, t8, t9, t10, _, gA, gB, inf, ine, ov, un, m, x, rfl, hb, fun h => f2 (h.old hi), fun h => f0 (h.old hi), fun h => f1 (h.old hi), fun h => f2' (h.old hi), fun _ => rfl, fun h => f4 (h.old hi), fun _ => rfl,
        fun h => (f6 (h.old hi)).old rfl (fun h => h.old hi), fun h => (f7 (h.old hi)).old rfl (fun h => h.old hi), fun h h' => f67 (h.old hi) (h'.old hi)⟩
    · refine wpOp_step rfl fun K hK => ?_
      go_simp
      refine hK _ _ ?_
      have n8 : ¬ Did l 8 := fun h => hn (hs 8 6 (by kernel_rfl) h)
      exact ⟨_, t5, t6, t7, t8, t9, t10, t11, W.heap.size, gB, inf, ine, ov, un, m, x, rfl, hb.alloc hb.size _, fun h => f2 (h.old hi), fun h => f0 (h.old hi), fun h => f1 (h.old hi), fun h => f2' (h.old hi), fun h => f3 (h.old hi), fun h => f4 (h.old hi), fun h => f5 (h.old hi),
        fun _ => RowD.new hb.size rfl (fun h => n8 (h.old hi)), fun h => (f7 (h.old hi)).alloc _ (fun h => h.old hi), fun _ h' => by have := (f7 (h'.old hi)).2.2.1; omega⟩
    · refine wpOp_step rfl fun K hK => ?_
      go_simp
      refine hK _ _ ?_
      have n9 : ¬ Did l 9 := fun h => hn (hs 9 7 (by kernel_rfl) h)
      exact ⟨t4, _, t6, t7, t8, t9, t10, t11, gA, W.heap.size, inf, ine, ov, un, m, x, rfl, hb.alloc hb.size _, fun h => f2 (h.old hi), fun h => f0 (h.old hi), fun h => f1 (h.old hi), fun h => f2' (h.old hi), fun h => f3 (h.old hi), fun h => f4 (h.old hi), fun h => f5 (h.old hi),
        fun h => (f6 (h.old hi)).alloc _ (fun h => h.old hi), fun _ => RowD.new hb.size rfl (fun h => n9 (h.old hi)), fun h _ => by have := (f6 (h.old hi)).2.2.1; omega⟩
    · obtain rfl := f4 (hd 4 (by kernel_rfl))
      have r := f6 (hd 6 (by kernel_rfl))
      obtain ⟨rfl, r2, r3, fs, r4, r5, r6⟩ := f6 (hd 6 (by kernel_rfl))
      refine wpOp_step rfl fun K hK => step_plain rfl (wp_store_row 76 (.tmp 4) (.tmp 10) rfl gA #[.bool neg, .bool inf, .int .u64 m, .int .i64 x] rfl rfl _ _ r4 (by kernel_rfl) r5 (by simp [Value.oneCell']) (hK _ _ ?_))
      exact ⟨_, t5, t6, t7, t8, t9, _, t11, gA, gB, inf, ine, ov, un, m, x, rfl, below_setRow hb r2 _, fun h => f2 (h.old hi), fun h => f0 (h.old hi), fun h => f1 (h.old hi), fun h => f2' (h.old hi), fun h => f3 (h.old hi), fun h => f4 (h.old hi), fun h => f5 (h.old hi),
        fun _ => r.store, fun h => (f7 (h.old hi)).other (f67 (hd 6 (by kernel_rfl)) (h.old hi)).symm _ (fun h => h.old hi), fun h h' => f67 (h.old hi) (h'.old hi)⟩
    · obtain rfl := f5 (hd 5 (by kernel_rfl))
      have r := f7 (hd 7 (by kernel_rfl))
      obtain ⟨rfl, r2, r3, fs, r4, r5, r6⟩ := f7 (hd 7 (by kernel_rfl))
      refine wpOp_step rfl fun K hK => step_plain rfl (wp_store_row 78 (.tmp 5) (.tmp 11) rfl gB #[.bool ine, .bool ov, .bool un] rfl rfl _ _ r4 (by kernel_rfl) r5 (by simp [Value.oneCell']) (hK _ _ ?_))
      exact ⟨t4, _, t6, t7, t8, t9, t10, _, gA, gB, inf, ine, ov, un, m, x, rfl, below_setRow hb r2 _, fun h => f2 (h.old hi), fun h => f0 (h.old hi), fun h => f1 (h.old hi), fun h => f2' (h.old hi), fun h => f3 (h.old hi), fun h => f4 (h.old hi), fun h => f5 (h.old hi),
        fun h => (f6 (h.old hi)).other (f67 (h.old hi) (hd 7 (by kernel_rfl))) _ (fun h => h.old hi), fun _ => r.store, fun h h' => f67 (h.old hi) (h'.old hi)⟩
  · rintro l a W hall ⟨t4, t5, t6, t7, t8, t9, t10, t11, gA, gB, inf, ine, ov, un, m, x, rfl, hb, f2, f0, f1, f2', f3, f4, f5, f6, f7, f67⟩
    have hend := f2 (hall 2 (by decide))
    obtain rfl := f0 (hall 0 (by decide))
    obtain rfl := f1 (hall 1 (by decide))
    obtain rfl := f2' (hall 2 (by decide))
    obtain rfl := f3 (hall 3 (by decide))
    obtain rfl := f4 (hall 4 (by decide))
    obtain rfl := f5 (hall 5 (by decide))
    obtain ⟨rfl, r2, r3, fs, r4, r5, r6⟩ := f6 (hall 6 (by decide))
    obtain rfl := r6 (hall 8 (by decide))
    obtain ⟨rfl, s2, s3, fs', s4, s5, s6⟩ := f7 (hall 7 (by decide))
    obtain rfl := s6 (hall 9 (by decide))
    have HBW : Hid (Below w.heap.size w W) := hb0.trans (hb.mono (by omega))
    clear f2 f0 f1 f2' f3 f4 f5 f6 f7 f67 hall r5 r6 s5 s6 hb hb0 q0
    obtain ⟨x1, x2, x3⟩ := row3 s4
    obtain ⟨y1, y2, y3, y4⟩ := (⟨cell_of_row W gA 0 _ _ _ r4, cell_of_row W gA 1 _ _ _ r4, cell_of_row W gA 2 _ _ _ r4, cell_of_row W gA 3 _ _ _ r4⟩ : W.cell? ⟨gA, 0, none⟩ = some (.bool neg) ∧ W.cell? ⟨gA, 1, none⟩ = some (.bool inf) ∧ W.cell? ⟨gA, 2, none⟩ = some (.int .u64 m) ∧ W.cell? ⟨gA, 3, none⟩ = some (.int .i64 x))
    unfold ToEnd at hend
    by_cases hR : R < 9218868437227405312
    · rw [if_pos hR] at hend
      obtain ⟨rfl, rfl, e1, e2, e3, e4, e5, e6⟩ := hend
      obtain ⟨m', rfl⟩ : ∃ m' : Nat, m = m' := ⟨m.toNat, by omega⟩
      have HBT : Hid (∀ W, Calls Tryz.prog 53 #[.agg #[.bool neg, .bool false, .int .u64 m', .int .i64 x]] W fun e w' => e = .returned (.int .u64 (sgW neg + R : Nat)) ∧ Below W.heap.size W w') := fun W => bits64_any neg m' x R W (by omega) e3 e4 (by omega) e6
      have HE1 : Hid (resB neg R = sgW neg + R) := if_pos hR
      have HE2 : Hid (resX R = 0) := if_pos hR
      clear hR e1 e2 e3 e4 e5 e6 r2 r3 r4 s2 s3 s4
      go_wp2_with (go_at_call 53; refine (HBT.out _).mono ?_; rintro e w' ⟨rfl, hb'⟩)
      go_ret2
      exact ⟨by rw [HE1.out, HE2.out]; rfl, HBW.out.thru hb'⟩
    · rw [if_neg hR] at hend
      obtain ⟨rfl, rfl⟩ := hend
      have HE1 : Hid (resB neg R = 0) := if_neg hR
      have HE2 : Hid (resX R = 15) := if_neg hR
      clear hR r2 r3 r4 s2 s3 s4
      go_wp2
      go_ret2
      exact ⟨by rw [HE1.out, HE2.out]; rfl, HBW.out⟩
end Go.Proofs.YtiimjbpfdidgcaaGreatDoor

/- Walks: the document's answer for layer 7: Root. -/
namespace Go.Proofs.YtiimjbpfdidgcaaGreatDoor
open Go.RowKit

theorem any1 (a : Nat) (ha : W64 a) (W : World) (g : Nat) (h0 : W.cell? ⟨g, 0, none⟩ = some (.int .u64 (a : Nat))) :
    Calls Tryz.prog 20 #[.slice (some ⟨g, 0, none⟩) 1 1] W fun e w' => e = .returned (.bool (nanB a)) ∧ W = w' := by
  refine (r7_anynan [a] g 1 1 W rfl ?_ ?_ (Nat.le_refl _) (by decide)).mono ?_
  · intro i hi
    match i, hi with
    | 0, _ => exact h0
  · intro x hx
    simp at hx
    subst hx
    exact ha
  · rintro e w' ⟨rfl, rfl⟩
    exact ⟨by simp, rfl⟩

/-- Nearest of a finite number's root. -/
theorem near_root (a R : Nat) (w : World) (fa : finB a = true) (hz : zeroB a = false) (hR : RootR a R) (x y z x' y' z' : _) (hs : Num .u32 4294967296 w (.slice x y z) (spM a)) (ht : Num .u32 4294967296 w (.slice x' y' z') 1) :
    Calls Tryz.prog 26 #[.agg #[.bool false, .slice x y z, .slice x' y' z', .int .i64 (spE a), .bool true]] w (NearestQ false R w) := by
  obtain ⟨n, u, H, g1, g2, g3, g4, g5, g6, -⟩ := hR
  have q := spE_range a
  have hm0 : spM a ≠ 0 := fun h => by rw [(spM_nought a fa).1 h] at hz; cases hz
  rw [rv_sp a fa] at g4
  exact nearest_walk false true _ _ _ R w fun W hW => to_root false x x' y z y' z' (spM a) (spE a) W (hs.below (Nat.le_refl _) hW) (ht.below (Nat.le_refl _) hW) hm0 (spM_lt a) (by omega) (by omega) g1 g2 g3 g4 g5 g6

set_option maxHeartbeats 1000000 in
set_option maxRecDepth 100000 in
theorem r7_root (a R : Nat) (w : World) (ha : W64 a) (hR : finB a = true → zeroB a = false → sgnB a = false → RootR a R) :
    Calls Tryz.prog 13 #[.int .u64 a] w fun e w' => e = .returned (.tuple #[.int .u64 (rootB a R : Nat), .int .i64 (rootX a R)]) ∧ Below w.heap.size w w' := by
  have HANY : Hid (∀ W g, W.cell? ⟨g, 0, none⟩ = some (.int .u64 (a : Nat)) → Calls Tryz.prog 20 #[.slice (some ⟨g, 0, none⟩) 1 1] W fun e w' => e = .returned (.bool (nanB a)) ∧ W = w') := fun W g h0 => any1 a ha W g h0
  have HB1 : Hid (∀ F, Below w.heap.size w (w.alloc F)) := fun F => (Below.refl _ _).alloc (Nat.le_refl _) _
  have HIA : Hid (∀ W, Calls Tryz.prog 23 #[.int .u64 a] W fun e w' => e = .returned (.bool (infB a)) ∧ W = w') := fun W => r7_isinf a W ha
  have HZA : Hid (∀ W, Calls Tryz.prog 22 #[.int .u64 a] W fun e w' => e = .returned (.bool (zeroB a)) ∧ W = w') := fun W => ref_nought a W ha
  have hsg : (((sgnW a : Nat) : Int) != 0) = sgnB a := w_sgn a
  obtain ⟨b1, hb1⟩ : ∃ q, q = rootB a R := ⟨_, rfl⟩
  obtain ⟨b2, hb2⟩ : ∃ q, q = rootX a R := ⟨_, rfl⟩
  rw [← hb1, ← hb2]
  unfold rootB at hb1
  unfold rootX at hb2
  cases hn : nanB a <;> cases hz : zeroB a <;> cases hs : sgnB a <;> cases hi : infB a
  case false.false.false.false =>
    simp only [hn, hz, hs, hi, Bool.false_eq_true, if_false] at hb1 hb2
    rw [hn] at HANY
    rw [hz] at HZA
    rw [hi] at HIA
    have fa : finB a = true := by rw [finB_eq, hn, hi]; rfl
    have HNR : Hid (∀ W x y z x' y' z', Num .u32 4294967296 W (.slice x y z) (spM a) → Num .u32 4294967296 W (.slice x' y' z') 1 → Calls Tryz.prog 26 #[.agg #[.bool false, .slice x y z, .slice x' y' z', .int .i64 (spE a), .bool true]] W fun e w' => e = .returned (.tuple #[.int .u64 (b1 : Nat), .int .i64 b2]) ∧ Below W.heap.size W w') := fun W x y z x' y' z' h h' => by
      have := near_root a R W fa hz (hR fa hz hs) x y z x' y' z' h h'
      unfold NearestQ at this
      rw [← hb1, ← hb2] at this
      exact this
    have HOA : Hid (∀ W, Calls Tryz.prog 25 #[.int .u64 a] W (TermQ (spS a) (spM a) (spE a) W)) := fun W => r7_of a W ha
    have HOB : Hid (∀ W, Calls Tryz.prog 37 #[.int .u64 1] W (NatQ 1 W)) := fun W => of_any 1 W (by decide)
    clear hb1 hb2 hn hz hi fa hR hsg
    go_enter Tryz.func13, Tryz.ntmps13
    go_wp2_with (first | (go_at_call 20; refine (HANY.out _ _ (by go_simp)).mono ?_; rintro e w' ⟨rfl, rfl⟩) | (go_at_call 22; with_reducible refine (HZA.out _).mono ?_; rintro e w' ⟨rfl, rfl⟩) | (go_at_call 23; with_reducible refine (HIA.out _).mono ?_; rintro e w' ⟨rfl, rfl⟩))
    refine (HOA.out _).mono ?_
    rintro e w2 ⟨vs, rfl, ⟨ts, rfl, htn⟩, hbs⟩
    obtain ⟨x, y, z, rfl⟩ := htn.shape
    have hb0 : Below w.heap.size w (w2.alloc (.cells #[.bool (spS a), .slice x y z, .int .i64 (spE a)] 46)) := by
      have h2 := (HB1.out (.cells #[.int .u64 a] 22)).trans (hbs.mono (by simp))
      exact h2.alloc h2.size _
    have q0 := heap_alloc_new w2 (.cells #[.bool (spS a), .slice x y z, .int .i64 (spE a)] 46)
    have htn1 : Num .u32 4294967296 (w2.alloc (.cells #[.bool (spS a), .slice x y z, .int .i64 (spE a)] 46)) (.slice x y z) (spM a) := htn.below (Nat.le_refl _) ((Below.refl _ _).alloc (Nat.le_refl _) _)
    have hs1 : (w2.alloc (.cells #[.bool (spS a), .slice x y z, .int .i64 (spE a)] 46)).heap.size = w2.heap.size + 1 := by simp
    go_upto_region 12 with fail
    generalize w2.alloc (.cells #[.bool (spS a), .slice x y z, .int .i64 (spE a)] 46) = w1 at *
    have HC : Hid (∀ W, Below w1.heap.size w1 W → Below w1.heap.size w1 W ∧ W.cell? ⟨w2.heap.size, 1, none⟩ = some (.slice x y z) ∧ W.cell? ⟨w2.heap.size, 2, none⟩ = some (.int .i64 (spE a))) :=
      fun W hW => ⟨hW, cell_of_row W _ 1 _ _ _ (hW.blk q0 (by omega)), cell_of_row W _ 2 _ _ _ (hW.blk q0 (by omega))⟩
    have HT1 : Hid (∀ W, Below w1.heap.size w1 W → Num .u32 4294967296 W (.slice x y z) (spM a)) := fun W hW => htn1.below (Nat.le_refl _) hW
    have HB0 : Hid (Below w.heap.size w w1) := hb0
    have HS1 : Hid (w1.heap.size = w2.heap.size + 1) := hs1
    have HS2 : Hid (w.heap.size ≤ w1.heap.size) := hb0.size
    obtain ⟨hbs1, x1, x2⟩ := HC.out w1 (Below.refl _ _)
    clear hb0 q0 hs1 htn1 htn hbs x1 x2
    go_region_held3 (fun W => Below w1.heap.size w1 W ∧ W.cell? ⟨w2.heap.size, 1, none⟩ = some (.slice x y z) ∧ W.cell? ⟨w2.heap.size, 2, none⟩ = some (.int .i64 (spE a)))
      (first | exact HC.out _ ‹Below w1.heap.size w1 _› | exact HC.out _ (‹Below w1.heap.size w1 _›).drew)
      (first | (go_at_call 37; (with_reducible refine (HOB.out _).mono ?_); rintro e w7 ⟨v, rfl, hnum, hb⟩; obtain ⟨s1, s2, s3, rfl⟩ := Num.shape hnum; have hB2 : Below w1.heap.size w1 w7 := Below.thru (by first | assumption | exact Below.drew (by assumption)) hb; have HNUM : Hid (Num .u32 4294967296 w7 (.slice s1 s2 s3) 1) := hnum; clear hb hnum) | (go_at_call 26; (with_reducible refine (HNR.out _ _ _ _ _ _ _ (HT1.out _ (by assumption : Below w1.heap.size w1 _)) HNUM.out).mono ?_); rintro e w8 ⟨rfl, hb⟩; have hB3 : Below w1.heap.size w1 w8 := Below.thru (by assumption) hb; have HB3 : Hid _ := hB3; clear hb))
    go_wp2
    go_ret2
    exact ⟨rfl, HB0.out.trans (HB3.out.mono HS2.out)⟩
  all_goals
    simp only [hn, hz, hs, hi, Bool.false_eq_true, if_false, if_true] at hb1 hb2
    first | (exfalso; unfold nanB at hn; unfold zeroB at hz; unfold infB at hi; simp at hn hz hi; omega) | skip
  all_goals
    rw [hn] at HANY
    rw [hz] at HZA
    rw [hi] at HIA
    subst hb1 hb2
    clear hn hz hi hR hsg
    go_enter Tryz.func13, Tryz.ntmps13
    go_wp2_with (first | (go_at_call 20; refine (HANY.out _ _ (by go_simp)).mono ?_; rintro e w' ⟨rfl, rfl⟩) | (go_at_call 22; with_reducible refine (HZA.out _).mono ?_; rintro e w' ⟨rfl, rfl⟩) | (go_at_call 23; with_reducible refine (HIA.out _).mono ?_; rintro e w' ⟨rfl, rfl⟩))
    go_ret2
    exact ⟨rfl, HB1.out _⟩
end Go.Proofs.YtiimjbpfdidgcaaGreatDoor
