import Derived.Test.YtlffojopfilfeaaGreatDoorSOC
import Derived.Test.YtlffojopfilfeaaGreatDoorSRR
import Derived.Test.YtlffojopfilfeaaGreatDoorSMA
import Derived.Test.YtlffojopfilfeaaGreatDoorSQS
import Derived.Test.YtlffojopfilfeaaGreatDoorSOA
set_option maxRecDepth 100000
namespace Go.Proofs.YtlffojopfilfeaaGreatDoor
open Go Go.RowKit
theorem dsort_v (b : Nat) (w : World) (hb : W64 b) : Calls Tryz.prog 89 #[.int .u64 b] w fun e w' => e = .returned (.int .i64 (srtB b : Nat)) ∧ w = w' := by
 have HI : Hid (∀ W, Calls Tryz.prog 62 #[.int .u64 b] W fun e w' => e = .returned (.bool (nanB b)) ∧ W = w') := fun W => ref_isnan b W hb
 have hk : (nanB b = true ∧ srtB b = 0) ∨ (nanB b = false ∧ b = 9218868437227405312 ∧ srtB b = 1) ∨ (nanB b = false ∧ b = 18442240474082181120 ∧ srtB b = 2) ∨ (nanB b = false ∧ b = 9223372036854775808 ∧ srtB b = 3) ∨ (nanB b = false ∧ b ≠ 9218868437227405312 ∧ b ≠ 18442240474082181120 ∧ b ≠ 9223372036854775808 ∧ srtB b = 4) := by
  unfold W64 at hb
  unfold srtB nanB infB zeroB sgnB absB
  by_cases h1 : 9218868437227405312 < b % 9223372036854775808
  ·exact .inl ⟨decide_eq_true h1, by rw [decide_eq_true h1, if_pos rfl]⟩
  ·refine .inr ?_
   rw [decide_eq_false h1, if_neg (by decide)]
   by_cases h2 : b % 9223372036854775808 = 9218868437227405312
   ·rw [decide_eq_true h2, if_pos rfl]
    by_cases h3 : 9223372036854775808 ≤ b
    ·exact .inr (.inl ⟨rfl, by omega, by rw [decide_eq_true h3, if_pos rfl]⟩)
    ·exact .inl ⟨rfl, by omega, by rw [decide_eq_false h3, if_neg (by decide)]⟩
   ·rw [decide_eq_false h2, if_neg (by decide)]
    by_cases h4 : b % 9223372036854775808 = 0
    ·rw [decide_eq_true h4, if_pos rfl]
     by_cases h3 : 9223372036854775808 ≤ b
     ·exact .inr (.inr (.inl ⟨rfl, by omega, by rw [decide_eq_true h3, if_pos rfl]⟩))
     ·exact .inr (.inr (.inr ⟨rfl, by omega, by omega, by omega, by rw [decide_eq_false h3, if_neg (by decide)]⟩))
    ·exact .inr (.inr (.inr ⟨rfl, by omega, by omega, by omega, by rw [decide_eq_false h4, if_neg (by decide)]⟩))
 rcases hk with ⟨h1, h2⟩ | ⟨h1, h2, h3⟩ | ⟨h1, h2, h3⟩ | ⟨h1, h2, h3⟩ | ⟨h1, h2, h3, h4, h5⟩
 ·rw [h1] at HI
  rw [h2]
  go_enter Tryz.func89, Tryz.ntmps89
  go_wp2_with (go_at_call 62; (with_reducible refine (HI.out _).mono ?_); rintro e w' ⟨rfl, rfl⟩)
  go_ret
  exact ⟨rfl, rfl⟩
 ·rw [h1] at HI
  rw [h3]
  have d1 : ((b : Int) == 9218868437227405312) = true := by simp; omega
  clear h2
  go_enter Tryz.func89, Tryz.ntmps89
  go_wp2_with (go_at_call 62; (with_reducible refine (HI.out _).mono ?_); rintro e w' ⟨rfl, rfl⟩)
  go_ret
  exact ⟨rfl, rfl⟩
 ·rw [h1] at HI
  rw [h3]
  have d1 : ((b : Int) == 9218868437227405312) = false := by simp; omega
  have d2 : ((b : Int) == 18442240474082181120) = true := by simp; omega
  clear h2
  go_enter Tryz.func89, Tryz.ntmps89
  go_wp2_with (go_at_call 62; (with_reducible refine (HI.out _).mono ?_); rintro e w' ⟨rfl, rfl⟩)
  go_ret
  exact ⟨rfl, rfl⟩
 ·rw [h1] at HI
  rw [h3]
  have d1 : ((b : Int) == 9218868437227405312) = false := by simp; omega
  have d2 : ((b : Int) == 18442240474082181120) = false := by simp; omega
  have d3 : ((b : Int) == 9223372036854775808) = true := by simp; omega
  clear h2
  go_enter Tryz.func89, Tryz.ntmps89
  go_wp2_with (go_at_call 62; (with_reducible refine (HI.out _).mono ?_); rintro e w' ⟨rfl, rfl⟩)
  go_ret
  exact ⟨rfl, rfl⟩
 ·rw [h1] at HI
  rw [h5]
  have d1 : ((b : Int) == 9218868437227405312) = false := by simp; omega
  have d2 : ((b : Int) == 18442240474082181120) = false := by simp; omega
  have d3 : ((b : Int) == 9223372036854775808) = false := by simp; omega
  clear h2 h3 h4
  go_enter Tryz.func89, Tryz.ntmps89
  go_wp2_with (go_at_call 62; (with_reducible refine (HI.out _).mono ?_); rintro e w' ⟨rfl, rfl⟩)
  go_ret
  exact ⟨rfl, rfl⟩
def DInt (w : World) (v : Value) (V : Int) : Prop := ∃ s N a m c, v = .agg #[.bool s, .slice a m c] ∧ Num .u32 4294967296 w (.slice a m c) N ∧ V = sg s N
def DIntR (V : Int) (w : World) (e : Ending) (w' : World) : Prop := ∃ v, e = .returned v ∧ DInt w' v V ∧ Below w.heap.size w w'
theorem DInt.below {w w' : World} {v : Value} {V : Int} (h : DInt w v V) (hb : Below w.heap.size w w') : DInt w' v V := by
 obtain ⟨s, N, a, m, c, rfl, hn, hv⟩ := h; exact ⟨s, N, a, m, c, rfl, hn.below (Nat.le_refl _) hb, hv⟩
theorem clear2 {w : World} {g : Nat} {b : Bool} {a : Option Addr} {m k : Nat} {t : TypeId} (h : w.heap[g]? = some (.cells #[.bool b, .slice a m k] t (0, 0))) : Clear w g := by
 intro o j z hc
 rw [cell_of_row _ _ _ _ _ _ h] at hc
 match o with
 | 0 | 1 => simp at hc
 | _ + 2 => simp at hc
theorem dint_end {fn : Func} {p : Tmp} (hf : fn.results = #[.cell p 64]) {tmps : Array Value} {w0 w : World} {g : Nat} {x s : Bool} {a a' : Option Addr} {n c n' c' N : Nat} {V : Int}
  (hp : tmps.getD p undef = .pointer (some ⟨g, 0, none⟩)) (hg : w.heap[g]? = some (.cells #[.bool x, .slice a n c] 64 (0, 0))) (hv : Num .u32 4294967296 w (.slice a' n' c') N) (hV : V = sg s N)
  (hb : Below w0.heap.size w0 w) (h0 : w0.heap.size ≤ g) : bodyPost Tryz.prog fn (DIntR V w0) .ret ⟨tmps, []⟩ (w.setRow g #[.bool s, .slice a' n' c']) :=
 bodyPost_ret (results_cell_row hf _ _ g 64 _ _ _ hp (setRow_heap _ _ _ _ _ _ hg) Tryz.underlying64 rfl (by kernel_rfl)) rfl ⟨_, rfl, ⟨s, N, a', n', c', rfl, num_set hv (by decide) (clear2 hg), hV⟩, below_setRow hb h0 _⟩
theorem nat_zero (w : World) : Num .u32 4294967296 w (.slice none 0 0) 0 := by
 refine ⟨[], ⟨none, 0, 0, rfl, rfl, Nat.le_refl _, by decide, by simp, fun h => absurd h (by decide)⟩, rfl, ?_⟩
 first | trivial | simp [Norm]
theorem nleft_n (s : Value) (N n : Nat) (w : World) (h : Num .u32 4294967296 w s N) {bb : Nat} (hN : N < 2 ^ bb) (hbb : bb ≤ 4294967296) (hn : n ≤ 4000000) : Calls Tryz.prog 48 #[s, .int .i64 (n : Nat)] w (NatQ (N * 2 ^ n) w) := by
 have := nleft_any s N (n / 32) (n % 32) n w h (by omega) (by omega) (by omega) hN hbb
 rwa [show 32 * (n / 32) + n % 32 = n by omega] at this
theorem NatQ.shape {N : Nat} {w w' : World} {e : Ending} (h : NatQ N w e w') : ∃ a m c, e = .returned (.slice a m c) ∧ Num .u32 4294967296 w' (.slice a m c) N ∧ Below w.heap.size w w' := by
 obtain ⟨v, rfl, hn, hb⟩ := h
 obtain ⟨a, m, c, rfl⟩ := hn.shape
 exact ⟨a, m, c, rfl, hn, hb⟩
theorem vN_any {b : Nat} (h : spX b = 0) : vN b = sg (spS b) (spM b * 2 ^ (spE b + LU).toNat) := vN_sp (spX_fin h)
set_option maxHeartbeats 1000000 in
theorem dvalue_v (b : Nat) (hb : W64 b) (w : World) : Calls Tryz.prog 90 #[.int .u64 b] w (DIntR (vN b) w) := by
 have HS : Hid (∀ W, Calls Tryz.prog 46 #[.int .u64 b] W fun e w' => e = .returned (.tuple #[.bool (spS b), .int .u64 (spM b), .int .i64 (spE b), .int .i64 (spX b)]) ∧ W = w') := fun W => ref_split b W hb
 have HB0 : Hid (Below w.heap.size w (w.alloc (.cells #[.bool false, .slice none 0 0] 64))) := (Below.refl _ _).alloc (Nat.le_refl _) _
 have HQ0 : Hid _ := heap_alloc_new w (.cells #[.bool false, .slice none 0 0] 64)
 obtain ⟨V, hV⟩ : ∃ V, V = vN b := ⟨_, rfl⟩
 rw [← hV]
 by_cases hx : spX b = 0
 ·have hv := vN_any hx
  rw [← hV] at hv
  obtain ⟨r1, r2⟩ := spE_range b
  have r3 := spM_bd b
  have hLU := LU_eq
  obtain ⟨n, hn⟩ : ∃ n, n = (spE b + LU).toNat := ⟨_, rfl⟩
  rw [← hn] at hv
  have hsub : wrap64 (spE b + 2148) = (n : Int) := by rw [IntWalk.wrap64_in _ (by omega)]; omega
  have HO : Hid (∀ W, Calls Tryz.prog 49 #[.int .u64 (spM b)] W (NatQ (spM b) W)) := fun W => of_any (spM b) W (by omega)
  have HL : Hid (∀ W v, Num .u32 4294967296 W v (spM b) → Calls Tryz.prog 48 #[v, .int .i64 (n : Nat)] W (NatQ (spM b * 2 ^ n) W)) := fun W v h => nleft_n v _ n W h (bb := 64) (by omega) (by decide) (by omega)
  rw [hx] at HS
  obtain ⟨s, hs⟩ : ∃ s, s = spS b := ⟨_, rfl⟩
  obtain ⟨m, hm1⟩ : ∃ m, m = spM b := ⟨_, rfl⟩
  obtain ⟨e, he⟩ : ∃ e, e = spE b := ⟨_, rfl⟩
  rw [← hs, ← hm1, ← he] at HS
  rw [← hm1] at HO HL
  rw [← he] at hsub
  rw [← hs, ← hm1] at hv
  have HV : Hid (V = sg s (m * 2 ^ n)) := hv
  clear hs hm1 he hv hV hx r1 r2 r3 hn hLU
  go_enter Tryz.func90, Tryz.ntmps90
  go_wp2_with (go_at_call 46; (with_reducible refine (HS.out _).mono ?_); rintro e w' ⟨rfl, rfl⟩)
  (with_reducible refine (HO.out _).mono ?_)
  rintro en w3 hq
  obtain ⟨pa, pm, pc, rfl, hn, hb⟩ := hq.shape
  have HB3 : Hid (Below w.heap.size w w3) := HB0.out.thru hb
  have HQ3 : Hid _ := hb.blk HQ0.out (blk_lt HQ0.out)
  have HN3 : Hid (Num .u32 4294967296 w3 (.slice pa pm pc) m) := hn
  clear hb hn hq
  go_wp2_with fail
  (with_reducible refine (HL.out _ _ HN3.out).mono ?_)
  rintro en w5 hq
  obtain ⟨qa, qm, qc, rfl, hn, hb⟩ := hq.shape
  have HB5 : Hid (Below w.heap.size w w5) := HB3.out.thru hb
  have HQ5 : Hid _ := hb.blk HQ3.out (blk_lt HQ3.out)
  have HN5 : Hid (Num .u32 4294967296 w5 (.slice qa qm qc) (m * 2 ^ n)) := hn
  clear hb hn hq
  go_wp2_with (refine wpList_store_row rfl 64 (.tmp 2) (.tmp 23) rfl w.heap.size #[.bool s, .slice qa qm qc] rfl rfl _ _ HQ5.out (by kernel_rfl) rfl (by simp [Value.oneCell']) ?_)
  exact dint_end (p := 2) rfl rfl HQ5.out HN5.out HV.out HB5.out (by simp)
 ·have h0 : V = 0 := by rw [hV]; exact vN_not (.inl hx)
  have HV0 : Hid (V = sg false 0) := h0
  obtain ⟨s, hs⟩ : ∃ s, s = spS b := ⟨_, rfl⟩
  obtain ⟨m, hm⟩ : ∃ m, m = spM b := ⟨_, rfl⟩
  obtain ⟨e, he⟩ : ∃ e, e = spE b := ⟨_, rfl⟩
  obtain ⟨X, hX⟩ : ∃ X, X = spX b := ⟨_, rfl⟩
  rw [← hs, ← hm, ← he, ← hX] at HS
  rw [← hX] at hx
  have hx1 : (X == 0) = false := by simpa using hx
  clear hs hm he hX hV h0 hx
  go_enter Tryz.func90, Tryz.ntmps90
  go_wp2_with (go_at_call 46; (with_reducible refine (HS.out _).mono ?_); rintro e w' ⟨rfl, rfl⟩)
  exact bodyPost_ret (results_cell_row rfl _ _ w.heap.size 64 _ _ _ rfl HQ0.out Tryz.underlying64 rfl (by kernel_rfl)) rfl ⟨_, rfl, ⟨false, 0, none, 0, 0, rfl, nat_zero _, HV0.out⟩, HB0.out⟩
set_option maxHeartbeats 2000000 in
theorem dplus_v (x y : Value) (U V : Int) (w : World) (h : DInt w x U) (h' : DInt w y V) {bb : Nat} (hU : U.natAbs < 2 ^ bb) (hV : V.natAbs < 2 ^ bb) (hbb : bb ≤ 4294967296) :
  Calls Tryz.prog 47 #[x, y] w (DIntR (U + V) w) := by
 obtain ⟨na, X, a, m, c, rfl, hn, rfl⟩ := h
 obtain ⟨nb, Y, a', m', c', rfl, hn', rfl⟩ := h'
 rw [sg_natAbs] at hU hV
 have HX : Hid (∀ W, Below w.heap.size w W → Num .u32 4294967296 W (.slice a m c) X ∧ Num .u32 4294967296 W (.slice a' m' c') Y) := fun W hW => ⟨hn.below (Nat.le_refl _) hW, hn'.below (Nat.le_refl _) hW⟩
 have HAD : Hid (∀ W, Below w.heap.size w W → Calls Tryz.prog 77 #[.slice a m c, .slice a' m' c'] W (NatQ (X + Y) W)) := fun W hW => nadd_any _ _ X Y W (HX.out W hW).1 (HX.out W hW).2 hU hV hbb
 have HCM : Hid (∀ W, Below w.heap.size w W → Calls Tryz.prog 78 #[.slice a m c, .slice a' m' c'] W (NCmpQ X Y W)) := fun W hW => ncmp_any _ _ X Y W (HX.out W hW).1 (HX.out W hW).2
 have HS1 : Hid (∀ W, Below w.heap.size w W → Y ≤ X → Calls Tryz.prog 50 #[.slice a m c, .slice a' m' c'] W (NatQ (X - Y) W)) := fun W hW hle => nsub_any _ _ X Y W (HX.out W hW).1 (HX.out W hW).2 hU hle hbb
 have HS2 : Hid (∀ W, Below w.heap.size w W → X ≤ Y → Calls Tryz.prog 50 #[.slice a' m' c', .slice a m c] W (NatQ (Y - X) W)) := fun W hW hle => nsub_any _ _ Y X W (HX.out W hW).2 (HX.out W hW).1 hV hle hbb
 obtain ⟨w2, hw2⟩ : ∃ W, W = ((w.alloc (.cells #[.bool na, .slice a m c] 64)).alloc (.cells #[.bool nb, .slice a' m' c'] 64)).alloc (.cells #[.bool false, .slice none 0 0] 64) := ⟨_, rfl⟩
 have HB2 : Hid (Below w.heap.size w w2) := by show Below _ _ _; rw [hw2]; exact (((Below.refl _ _).alloc (Nat.le_refl _) _).alloc (by simp) _).alloc (by simp; omega) _
 have q0 : w2.heap[w.heap.size]? = some (.cells #[.bool na, .slice a m c] 64 (0, 0)) := by rw [hw2]; exact heap_alloc3_0 w (.cells #[.bool na, .slice a m c] 64) (.cells #[.bool nb, .slice a' m' c'] 64) (.cells #[.bool false, .slice none 0 0] 64)
 have q1 : w2.heap[w.heap.size + 1]? = some (.cells #[.bool nb, .slice a' m' c'] 64 (0, 0)) := by rw [hw2]; exact heap_alloc3_1 w (.cells #[.bool na, .slice a m c] 64) (.cells #[.bool nb, .slice a' m' c'] 64) (.cells #[.bool false, .slice none 0 0] 64)
 have q2 : w2.heap[w.heap.size + 2]? = some (.cells #[.bool false, .slice none 0 0] 64 (0, 0)) := by rw [hw2]; exact heap_alloc3_2 w (.cells #[.bool na, .slice a m c] 64) (.cells #[.bool nb, .slice a' m' c'] 64) (.cells #[.bool false, .slice none 0 0] 64)
 have HC : Hid (∀ W, Below w2.heap.size w2 W → ((W.cell? ⟨w.heap.size, 0, none⟩ = some (.bool na) ∧ W.cell? ⟨w.heap.size, 1, none⟩ = some (.slice a m c)) ∧ W.cell? ⟨w.heap.size + 1, 0, none⟩ = some (.bool nb) ∧ W.cell? ⟨w.heap.size + 1, 1, none⟩ = some (.slice a' m' c')) ∧ W.heap[w.heap.size + 2]? = some (.cells #[.bool false, .slice none 0 0] 64 (0, 0))) := fun W hW =>
  ⟨⟨⟨cell_of_row _ _ 0 _ _ _ (hW.blk q0 (blk_lt q0)), cell_of_row _ _ 1 _ _ _ (hW.blk q0 (blk_lt q0))⟩, cell_of_row _ _ 0 _ _ _ (hW.blk q1 (blk_lt q1)), cell_of_row _ _ 1 _ _ _ (hW.blk q1 (blk_lt q1))⟩, hW.blk q2 (blk_lt q2)⟩
 obtain ⟨⟨⟨c0, c1⟩, c2, c3⟩, -⟩ := HC.out w2 (Below.refl _ _)
 clear hn hn' hU hV hbb q0 q1 q2
 by_cases hs : na = nb
 ·have HE : Hid (sg na X + sg nb Y = sg na (X + Y)) := by show _ = _; subst hs; unfold sg; cases na <;> simp <;> omega
  rw [HE.out]
  have hs1 : (na == nb) = true := by simp [hs]
  clear hs HE HCM HS1 HS2
  go_enter Tryz.func47, Tryz.ntmps47
  go_upto_region 2 with (rw [← hw2])
  have h1 : once [(11, 0), (12, 1), (13, 2), (14, 3), (15, 4), (16, 5), (17, 6)] = true := by kernel_rfl
  have h2 : within [(11, 0), (12, 1), (13, 2), (14, 3), (15, 4), (16, 5), (17, 6)] 42 = true := by kernel_rfl
  let S : Nat → (Nat → Value) → World → Prop := fun i xs W => match i with
   | 0 => xs 0 = .pointer (some ⟨w.heap.size, 0, none⟩)
   | 1 => xs 1 = .bool na
   | 2 => xs 2 = .pointer (some ⟨w.heap.size, 1, none⟩)
   | 3 => xs 3 = .slice a m c
   | 4 => xs 4 = .pointer (some ⟨w.heap.size + 1, 1, none⟩)
   | 5 => xs 5 = .slice a' m' c'
   | 6 => Num .u32 4294967296 W (xs 6) (X + Y)
   | _ => True
  have hstab : ∀ j ys W W', S j ys W → Below W.heap.size W W' → S j ys W' := by
   intro j ys W W' h hb
   match j, h with
   | 0, h => exact h
   | 1, h => exact h
   | 2, h => exact h
   | 3, h => exact h
   | 4, h => exact h
   | 5, h => exact h
   | 6, h => exact h.below (Nat.le_refl _) hb
   | _ + 7, h => exact trivial
  refine wp_region_flow3T 7 9 4 [(11, 0), (12, 1), (13, 2), (14, 3), (15, 4), (16, 5), (17, 6)] [] S (fun _ W => Below w2.heap.size w2 W) ((Below.refl _ _).drew) (by kernel_rfl) (by kernel_rfl) (by kernel_rfl) (by decide) (by kernel_rfl) h1 (by kernel_rfl) ?_ ?_ ?_ ?_
  ·exact fun j hj => by cases hj
  ·intro j xs ys W e h
   match j, e, h with
   | 0, e, h => exact c_ (e 0 (.inl rfl)) h
   | 1, e, h => exact c_ (e 1 (.inl rfl)) h
   | 2, e, h => exact c_ (e 2 (.inl rfl)) h
   | 3, e, h => exact c_ (e 3 (.inl rfl)) h
   | 4, e, h => exact c_ (e 4 (.inl rfl)) h
   | 5, e, h => exact c_ (e 5 (.inl rfl)) h
   | 6, e, h => exact (congrArg (fun z => Num .u32 4294967296 W z _) (e 6 (.inl rfl))).mp h
   | _ + 7, e, h => exact trivial
  ·refine ⟨⟨⟨⟨⟨⟨⟨trivial, ?_⟩, ?_⟩, ?_⟩, ?_⟩, ?_⟩, ?_⟩, ?_⟩
   ·refine flow3_step _ (some 11) rfl rfl rfl h1 h2 gI gB hstab fun ac xs W Dn he hni hG hS K hK => ?_
    have e0 : ac.eval (.tmp 2) = .pointer (some ⟨w.heap.size, 0, none⟩) := he 2
    refine op_any (.fieldAddr 64 (.tmp 2) 0) rfl (.pointer (some ⟨w.heap.size, 0, none⟩)) (fun o' ho' => ?_) (hK _ _ rfl bR nA)
    simp only [execOp, ho', e0]
    go_simp
   ·refine flow3_step _ (some 12) rfl rfl rfl h1 h2 gI gB hstab fun ac xs W Dn he hni hG hS K hK => ?_
    have e0 := (he 11).trans (hS 0 (by kernel_rfl))
    refine op_any (.load 4 (.tmp 11)) rfl (.bool na) (fun o' ho' => ?_) (hK _ _ rfl bR nA)
    simp only [execOp, ho', e0]
    have hc := (HC.out W (hG)).1.1.1
    go_simp
   ·refine flow3_step _ (some 13) rfl rfl rfl h1 h2 gI gB hstab fun ac xs W Dn he hni hG hS K hK => ?_
    have e0 : ac.eval (.tmp 2) = .pointer (some ⟨w.heap.size, 0, none⟩) := he 2
    refine op_any (.fieldAddr 64 (.tmp 2) 1) rfl (.pointer (some ⟨w.heap.size, 1, none⟩)) (fun o' ho' => ?_) (hK _ _ rfl bR nA)
    simp only [execOp, ho', e0]
    go_simp
   ·refine flow3_step _ (some 14) rfl rfl rfl h1 h2 gI gB hstab fun ac xs W Dn he hni hG hS K hK => ?_
    have e0 := (he 13).trans (hS 2 (by kernel_rfl))
    refine op_any (.load 62 (.tmp 13)) rfl (.slice a m c) (fun o' ho' => ?_) (hK _ _ rfl bR nA)
    simp only [execOp, ho', e0]
    have hc := (HC.out W (hG)).1.1.2
    go_simp
   ·refine flow3_step _ (some 15) rfl rfl rfl h1 h2 gI gB hstab fun ac xs W Dn he hni hG hS K hK => ?_
    have e0 : ac.eval (.tmp 3) = .pointer (some ⟨w.heap.size + 1, 0, none⟩) := he 3
    refine op_any (.fieldAddr 64 (.tmp 3) 1) rfl (.pointer (some ⟨w.heap.size + 1, 1, none⟩)) (fun o' ho' => ?_) (hK _ _ rfl bR nA)
    simp only [execOp, ho', e0]
    go_simp
   ·refine flow3_step _ (some 16) rfl rfl rfl h1 h2 gI gB hstab fun ac xs W Dn he hni hG hS K hK => ?_
    have e0 := (he 15).trans (hS 4 (by kernel_rfl))
    refine op_any (.load 62 (.tmp 15)) rfl (.slice a' m' c') (fun o' ho' => ?_) (hK _ _ rfl bR nA)
    simp only [execOp, ho', e0]
    have hc := (HC.out W (hG)).1.2.2
    go_simp
   ·refine flow3_step _ (some 17) rfl rfl rfl h1 h2 gI gB hstab fun ac xs W Dn he hni hG hS K hK => ?_
    have e0 := (he 14).trans (hS 3 (by kernel_rfl))
    have e1 := (he 16).trans (hS 5 (by kernel_rfl))
    refine op_call 77 _ _ rfl _ (by simp only [List.map, e0, e1]) (by go_simp) (HAD.out W (HB2.out.thru hG)) ?_
    rintro e' W' ⟨u, rfl, hi', hb'⟩
    exact ⟨_, rfl, hK _ _ hi' hb' nA⟩
  ·intro xs w7 Dn hall hG hS hD
   have s12 : xs 1 = _ := hS 1 (by decide)
   have HN : Hid (Num .u32 4294967296 w7 (xs 6) (X + Y)) := hS 6 (by decide)
   have HGB : Hid (Below w2.heap.size w2 w7) := hG
   simp only [layAll, s12, List.setIfInBounds_toArray, List.set_cons_succ, List.set_cons_zero]
   clear hS hD hall hstab S hG h1 h2
   generalize xs 0 = x0 at *
   generalize xs 2 = x2 at *
   generalize xs 3 = x3 at *
   generalize xs 4 = x4 at *
   generalize xs 5 = x5 at *
   generalize xs 6 = x6 at *
   clear s12
   show wpList Tryz.prog _ _ _ _ _
   obtain ⟨pa, pm, pc, rfl⟩ := HN.out.shape
   have HQ7 : Hid _ := (HC.out w7 (HGB.out)).2
   have HB7 : Hid (Below w.heap.size w w7) := HB2.out.thru (HGB.out)
   go_wp2_with (refine wpList_store_row rfl 64 (.tmp 4) (.tmp 18) rfl (w.heap.size + 2) #[.bool na, .slice pa pm pc] rfl rfl _ _ HQ7.out (by kernel_rfl) rfl (by simp [Value.oneCell']) ?_)
   exact dint_end (p := 4) rfl rfl HQ7.out HN.out rfl HB7.out (by omega)
 ·have hs1 : (na == nb) = false := by simpa using hs
  have hsn : nb = !na := by cases na <;> cases nb <;> first | rfl | exact absurd rfl hs
  by_cases hle : Y ≤ X
  ·have HE : Hid (sg na X + sg nb Y = sg na (X - Y)) := by show _ = _; rw [hsn]; unfold sg; cases na <;> simp <;> omega
   have HCG : Hid (Y ≤ X) := hle
   have hcg : (0 : Int) ≤ ncmp X Y := (ncmp_ge X Y).2 hle
   rw [HE.out]
   obtain ⟨z, hz⟩ : ∃ z, z = ncmp X Y := ⟨_, rfl⟩
   unfold NCmpQ at HCM
   rw [← hz] at HCM hcg
   clear hs HE hle hsn HAD hz HS2
   go_enter Tryz.func47, Tryz.ntmps47
   go_wp2_with (rw [← hw2])
   (with_reducible refine (HCM.out _ HB2.out).mono ?_)
   rintro e w3 ⟨rfl, hb⟩
   have HB3 : Hid (Below w2.heap.size w2 w3) := hb
   clear hb c0 c1 c2 c3
   go_upto_region 5 with fail
   have h1 : once [(26, 0), (27, 1), (28, 2), (29, 3), (30, 4), (31, 5), (32, 6)] = true := by kernel_rfl
   have h2 : within [(26, 0), (27, 1), (28, 2), (29, 3), (30, 4), (31, 5), (32, 6)] 42 = true := by kernel_rfl
   let S : Nat → (Nat → Value) → World → Prop := fun i xs W => match i with
    | 0 => xs 0 = .pointer (some ⟨w.heap.size, 0, none⟩)
    | 1 => xs 1 = .bool na
    | 2 => xs 2 = .pointer (some ⟨w.heap.size, 1, none⟩)
    | 3 => xs 3 = .slice a m c
    | 4 => xs 4 = .pointer (some ⟨w.heap.size + 1, 1, none⟩)
    | 5 => xs 5 = .slice a' m' c'
    | 6 => Num .u32 4294967296 W (xs 6) (X - Y)
    | _ => True
   have hstab : ∀ j ys W W', S j ys W → Below W.heap.size W W' → S j ys W' := by
    intro j ys W W' h hb
    match j, h with
    | 0, h => exact h
    | 1, h => exact h
    | 2, h => exact h
    | 3, h => exact h
    | 4, h => exact h
    | 5, h => exact h
    | 6, h => exact h.below (Nat.le_refl _) hb
    | _ + 7, h => exact trivial
   refine wp_region_flow3T 7 9 4 [(26, 0), (27, 1), (28, 2), (29, 3), (30, 4), (31, 5), (32, 6)] [] S (fun _ W => Below w3.heap.size w3 W) ((Below.refl _ _).drew) (by kernel_rfl) (by kernel_rfl) (by kernel_rfl) (by decide) (by kernel_rfl) h1 (by kernel_rfl) ?_ ?_ ?_ ?_
   ·exact fun j hj => by cases hj
   ·intro j xs ys W e h
    match j, e, h with
    | 0, e, h => exact c_ (e 0 (.inl rfl)) h
    | 1, e, h => exact c_ (e 1 (.inl rfl)) h
    | 2, e, h => exact c_ (e 2 (.inl rfl)) h
    | 3, e, h => exact c_ (e 3 (.inl rfl)) h
    | 4, e, h => exact c_ (e 4 (.inl rfl)) h
    | 5, e, h => exact c_ (e 5 (.inl rfl)) h
    | 6, e, h => exact (congrArg (fun z => Num .u32 4294967296 W z _) (e 6 (.inl rfl))).mp h
    | _ + 7, e, h => exact trivial
   ·refine ⟨⟨⟨⟨⟨⟨⟨trivial, ?_⟩, ?_⟩, ?_⟩, ?_⟩, ?_⟩, ?_⟩, ?_⟩
    ·refine flow3_step _ (some 26) rfl rfl rfl h1 h2 gI gB hstab fun ac xs W Dn he hni hG hS K hK => ?_
     have e0 : ac.eval (.tmp 2) = .pointer (some ⟨w.heap.size, 0, none⟩) := he 2
     refine op_any (.fieldAddr 64 (.tmp 2) 0) rfl (.pointer (some ⟨w.heap.size, 0, none⟩)) (fun o' ho' => ?_) (hK _ _ rfl bR nA)
     simp only [execOp, ho', e0]
     go_simp
    ·refine flow3_step _ (some 27) rfl rfl rfl h1 h2 gI gB hstab fun ac xs W Dn he hni hG hS K hK => ?_
     have e0 := (he 26).trans (hS 0 (by kernel_rfl))
     refine op_any (.load 4 (.tmp 26)) rfl (.bool na) (fun o' ho' => ?_) (hK _ _ rfl bR nA)
     simp only [execOp, ho', e0]
     have hc := (HC.out W (HB3.out.thru hG)).1.1.1
     go_simp
    ·refine flow3_step _ (some 28) rfl rfl rfl h1 h2 gI gB hstab fun ac xs W Dn he hni hG hS K hK => ?_
     have e0 : ac.eval (.tmp 2) = .pointer (some ⟨w.heap.size, 0, none⟩) := he 2
     refine op_any (.fieldAddr 64 (.tmp 2) 1) rfl (.pointer (some ⟨w.heap.size, 1, none⟩)) (fun o' ho' => ?_) (hK _ _ rfl bR nA)
     simp only [execOp, ho', e0]
     go_simp
    ·refine flow3_step _ (some 29) rfl rfl rfl h1 h2 gI gB hstab fun ac xs W Dn he hni hG hS K hK => ?_
     have e0 := (he 28).trans (hS 2 (by kernel_rfl))
     refine op_any (.load 62 (.tmp 28)) rfl (.slice a m c) (fun o' ho' => ?_) (hK _ _ rfl bR nA)
     simp only [execOp, ho', e0]
     have hc := (HC.out W (HB3.out.thru hG)).1.1.2
     go_simp
    ·refine flow3_step _ (some 30) rfl rfl rfl h1 h2 gI gB hstab fun ac xs W Dn he hni hG hS K hK => ?_
     have e0 : ac.eval (.tmp 3) = .pointer (some ⟨w.heap.size + 1, 0, none⟩) := he 3
     refine op_any (.fieldAddr 64 (.tmp 3) 1) rfl (.pointer (some ⟨w.heap.size + 1, 1, none⟩)) (fun o' ho' => ?_) (hK _ _ rfl bR nA)
     simp only [execOp, ho', e0]
     go_simp
    ·refine flow3_step _ (some 31) rfl rfl rfl h1 h2 gI gB hstab fun ac xs W Dn he hni hG hS K hK => ?_
     have e0 := (he 30).trans (hS 4 (by kernel_rfl))
     refine op_any (.load 62 (.tmp 30)) rfl (.slice a' m' c') (fun o' ho' => ?_) (hK _ _ rfl bR nA)
     simp only [execOp, ho', e0]
     have hc := (HC.out W (HB3.out.thru hG)).1.2.2
     go_simp
    ·refine flow3_step _ (some 32) rfl rfl rfl h1 h2 gI gB hstab fun ac xs W Dn he hni hG hS K hK => ?_
     have e0 := (he 29).trans (hS 3 (by kernel_rfl))
     have e1 := (he 31).trans (hS 5 (by kernel_rfl))
     refine op_call 50 _ _ rfl _ (by simp only [List.map, e0, e1]) (by go_simp) (HS1.out W (HB2.out.thru (HB3.out.thru hG)) HCG.out) ?_
     rintro e' W' ⟨u, rfl, hi', hb'⟩
     exact ⟨_, rfl, hK _ _ hi' hb' nA⟩
   ·intro xs w7 Dn hall hG hS hD
    have s12 : xs 1 = _ := hS 1 (by decide)
    have HN : Hid (Num .u32 4294967296 w7 (xs 6) (X - Y)) := hS 6 (by decide)
    have HGB : Hid (Below w3.heap.size w3 w7) := hG
    simp only [layAll, s12, List.setIfInBounds_toArray, List.set_cons_succ, List.set_cons_zero]
    clear hS hD hall hstab S hG h1 h2
    generalize xs 0 = x0 at *
    generalize xs 2 = x2 at *
    generalize xs 3 = x3 at *
    generalize xs 4 = x4 at *
    generalize xs 5 = x5 at *
    generalize xs 6 = x6 at *
    clear s12
    show wpList Tryz.prog _ _ _ _ _
    obtain ⟨pa, pm, pc, rfl⟩ := HN.out.shape
    have HQ7 : Hid _ := (HC.out w7 (HB3.out.thru HGB.out)).2
    have HB7 : Hid (Below w.heap.size w w7) := HB2.out.thru (HB3.out.thru HGB.out)
    go_wp2_with (refine wpList_store_row rfl 64 (.tmp 4) (.tmp 33) rfl (w.heap.size + 2) #[.bool na, .slice pa pm pc] rfl rfl _ _ HQ7.out (by kernel_rfl) rfl (by simp [Value.oneCell']) ?_)
    exact dint_end (p := 4) rfl rfl HQ7.out HN.out rfl HB7.out (by omega)
  ·have HE : Hid (sg na X + sg nb Y = sg nb (Y - X)) := by show _ = _; rw [hsn]; unfold sg; cases na <;> simp <;> omega
   have HCG : Hid (X ≤ Y) := by show _ ≤ _; omega
   have hcg : ¬ (0 : Int) ≤ ncmp X Y := fun h => hle ((ncmp_ge X Y).1 h)
   rw [HE.out]
   obtain ⟨z, hz⟩ : ∃ z, z = ncmp X Y := ⟨_, rfl⟩
   unfold NCmpQ at HCM
   rw [← hz] at HCM hcg
   clear hs HE hle hsn HAD hz HS1
   go_enter Tryz.func47, Tryz.ntmps47
   go_wp2_with (rw [← hw2])
   (with_reducible refine (HCM.out _ HB2.out).mono ?_)
   rintro e w3 ⟨rfl, hb⟩
   have HB3 : Hid (Below w2.heap.size w2 w3) := hb
   clear hb c0 c1 c2 c3
   go_upto_region 6 with fail
   have h1 : once [(34, 0), (35, 1), (36, 2), (37, 3), (38, 4), (39, 5), (40, 6)] = true := by kernel_rfl
   have h2 : within [(34, 0), (35, 1), (36, 2), (37, 3), (38, 4), (39, 5), (40, 6)] 42 = true := by kernel_rfl
   let S : Nat → (Nat → Value) → World → Prop := fun i xs W => match i with
    | 0 => xs 0 = .pointer (some ⟨w.heap.size + 1, 0, none⟩)
    | 1 => xs 1 = .bool nb
    | 2 => xs 2 = .pointer (some ⟨w.heap.size + 1, 1, none⟩)
    | 3 => xs 3 = .slice a' m' c'
    | 4 => xs 4 = .pointer (some ⟨w.heap.size, 1, none⟩)
    | 5 => xs 5 = .slice a m c
    | 6 => Num .u32 4294967296 W (xs 6) (Y - X)
    | _ => True
   have hstab : ∀ j ys W W', S j ys W → Below W.heap.size W W' → S j ys W' := by
    intro j ys W W' h hb
    match j, h with
    | 0, h => exact h
    | 1, h => exact h
    | 2, h => exact h
    | 3, h => exact h
    | 4, h => exact h
    | 5, h => exact h
    | 6, h => exact h.below (Nat.le_refl _) hb
    | _ + 7, h => exact trivial
   refine wp_region_flow3T 7 9 4 [(34, 0), (35, 1), (36, 2), (37, 3), (38, 4), (39, 5), (40, 6)] [] S (fun _ W => Below w3.heap.size w3 W) ((Below.refl _ _).drew) (by kernel_rfl) (by kernel_rfl) (by kernel_rfl) (by decide) (by kernel_rfl) h1 (by kernel_rfl) ?_ ?_ ?_ ?_
   ·exact fun j hj => by cases hj
   ·intro j xs ys W e h
    match j, e, h with
    | 0, e, h => exact c_ (e 0 (.inl rfl)) h
    | 1, e, h => exact c_ (e 1 (.inl rfl)) h
    | 2, e, h => exact c_ (e 2 (.inl rfl)) h
    | 3, e, h => exact c_ (e 3 (.inl rfl)) h
    | 4, e, h => exact c_ (e 4 (.inl rfl)) h
    | 5, e, h => exact c_ (e 5 (.inl rfl)) h
    | 6, e, h => exact (congrArg (fun z => Num .u32 4294967296 W z _) (e 6 (.inl rfl))).mp h
    | _ + 7, e, h => exact trivial
   ·refine ⟨⟨⟨⟨⟨⟨⟨trivial, ?_⟩, ?_⟩, ?_⟩, ?_⟩, ?_⟩, ?_⟩, ?_⟩
    ·refine flow3_step _ (some 34) rfl rfl rfl h1 h2 gI gB hstab fun ac xs W Dn he hni hG hS K hK => ?_
     have e0 : ac.eval (.tmp 3) = .pointer (some ⟨w.heap.size + 1, 0, none⟩) := he 3
     refine op_any (.fieldAddr 64 (.tmp 3) 0) rfl (.pointer (some ⟨w.heap.size + 1, 0, none⟩)) (fun o' ho' => ?_) (hK _ _ rfl bR nA)
     simp only [execOp, ho', e0]
     go_simp
    ·refine flow3_step _ (some 35) rfl rfl rfl h1 h2 gI gB hstab fun ac xs W Dn he hni hG hS K hK => ?_
     have e0 := (he 34).trans (hS 0 (by kernel_rfl))
     refine op_any (.load 4 (.tmp 34)) rfl (.bool nb) (fun o' ho' => ?_) (hK _ _ rfl bR nA)
     simp only [execOp, ho', e0]
     have hc := (HC.out W (HB3.out.thru hG)).1.2.1
     go_simp
    ·refine flow3_step _ (some 36) rfl rfl rfl h1 h2 gI gB hstab fun ac xs W Dn he hni hG hS K hK => ?_
     have e0 : ac.eval (.tmp 3) = .pointer (some ⟨w.heap.size + 1, 0, none⟩) := he 3
     refine op_any (.fieldAddr 64 (.tmp 3) 1) rfl (.pointer (some ⟨w.heap.size + 1, 1, none⟩)) (fun o' ho' => ?_) (hK _ _ rfl bR nA)
     simp only [execOp, ho', e0]
     go_simp
    ·refine flow3_step _ (some 37) rfl rfl rfl h1 h2 gI gB hstab fun ac xs W Dn he hni hG hS K hK => ?_
     have e0 := (he 36).trans (hS 2 (by kernel_rfl))
     refine op_any (.load 62 (.tmp 36)) rfl (.slice a' m' c') (fun o' ho' => ?_) (hK _ _ rfl bR nA)
     simp only [execOp, ho', e0]
     have hc := (HC.out W (HB3.out.thru hG)).1.2.2
     go_simp
    ·refine flow3_step _ (some 38) rfl rfl rfl h1 h2 gI gB hstab fun ac xs W Dn he hni hG hS K hK => ?_
     have e0 : ac.eval (.tmp 2) = .pointer (some ⟨w.heap.size, 0, none⟩) := he 2
     refine op_any (.fieldAddr 64 (.tmp 2) 1) rfl (.pointer (some ⟨w.heap.size, 1, none⟩)) (fun o' ho' => ?_) (hK _ _ rfl bR nA)
     simp only [execOp, ho', e0]
     go_simp
    ·refine flow3_step _ (some 39) rfl rfl rfl h1 h2 gI gB hstab fun ac xs W Dn he hni hG hS K hK => ?_
     have e0 := (he 38).trans (hS 4 (by kernel_rfl))
     refine op_any (.load 62 (.tmp 38)) rfl (.slice a m c) (fun o' ho' => ?_) (hK _ _ rfl bR nA)
     simp only [execOp, ho', e0]
     have hc := (HC.out W (HB3.out.thru hG)).1.1.2
     go_simp
    ·refine flow3_step _ (some 40) rfl rfl rfl h1 h2 gI gB hstab fun ac xs W Dn he hni hG hS K hK => ?_
     have e0 := (he 37).trans (hS 3 (by kernel_rfl))
     have e1 := (he 39).trans (hS 5 (by kernel_rfl))
     refine op_call 50 _ _ rfl _ (by simp only [List.map, e0, e1]) (by go_simp) (HS2.out W (HB2.out.thru (HB3.out.thru hG)) HCG.out) ?_
     rintro e' W' ⟨u, rfl, hi', hb'⟩
     exact ⟨_, rfl, hK _ _ hi' hb' nA⟩
   ·intro xs w7 Dn hall hG hS hD
    have s12 : xs 1 = _ := hS 1 (by decide)
    have HN : Hid (Num .u32 4294967296 w7 (xs 6) (Y - X)) := hS 6 (by decide)
    have HGB : Hid (Below w3.heap.size w3 w7) := hG
    simp only [layAll, s12, List.setIfInBounds_toArray, List.set_cons_succ, List.set_cons_zero]
    clear hS hD hall hstab S hG h1 h2
    generalize xs 0 = x0 at *
    generalize xs 2 = x2 at *
    generalize xs 3 = x3 at *
    generalize xs 4 = x4 at *
    generalize xs 5 = x5 at *
    generalize xs 6 = x6 at *
    clear s12
    show wpList Tryz.prog _ _ _ _ _
    obtain ⟨pa, pm, pc, rfl⟩ := HN.out.shape
    have HQ7 : Hid _ := (HC.out w7 (HB3.out.thru HGB.out)).2
    have HB7 : Hid (Below w.heap.size w w7) := HB2.out.thru (HB3.out.thru HGB.out)
    go_wp2_with (refine wpList_store_row rfl 64 (.tmp 4) (.tmp 41) rfl (w.heap.size + 2) #[.bool nb, .slice pa pm pc] rfl rfl _ _ HQ7.out (by kernel_rfl) rfl (by simp [Value.oneCell']) ?_)
    exact dint_end (p := 4) rfl rfl HQ7.out HN.out rfl HB7.out (by omega)
def DocT (w : World) (g : Nat) (T : List Term1) : Prop := DocRow w g (cntT T) (sumT T)
def FitD (T : List Term1) : Prop := Five T ∧ Small T ∧ T.length < 4611686018427387904
theorem FitD.room {T : List Term1} (h : FitD T) : (sumT T).natAbs < 2 ^ (64 + LQ) := sum_room h.2.1 (by have := h.2.2; omega)
theorem lq_roomD : 64 + LQ ≤ 4294967296 := by rw [LQ_eq]; decide
theorem lq_leD {n : Nat} (h : n < 2 ^ LQ) : n < 2 ^ (64 + LQ) := Nat.lt_of_lt_of_le h (Nat.pow_le_pow_right (by decide) (by omega))
theorem DocT.put {w : World} {g : Nat} {T : List Term1} {t : Term1} (h : DocRow w g (upd (cntT T) t.1 (cntT T t.1 + 1)) (sumT T + t.2)) : DocT w g (T ++ [t]) := by
 refine DocRow.congr h (fun k _ => ?_) (by rw [sumT_snoc])
 rw [cntT_snoc]
 unfold upd
 by_cases hk : k = t.1
 ·subst hk; simp
 ·rw [if_neg hk, if_neg (Ne.symm hk)]; rfl
theorem DocT.below {w w' : World} {g : Nat} {T : List Term1} (h : DocT w g T) (hb : Below w.heap.size w w') : DocT w' g T := DocRow.below h hb
theorem DocT.lt {w : World} {g : Nat} {T : List Term1} (h : DocT w g T) : g < w.heap.size := DocRow.lt h
theorem d_inc {n : Nat} (h : n < 4611686018427387904) : IntKind.i64.wrap ((n : Int) + 1) = (n : Int) + 1 := by rw [IntWalk.i64_in _ (by omega)]
theorem d_void {fn : Func} (h : fn.results = #[]) (tmps : Array Value) (P : Program) (w : World) : (results fn tmps).run P w = .ok (.tuple #[]) w := by
 simp [results, h]
set_option maxHeartbeats 4000000 in
theorem put_v {g : Nat} {T : List Term1} {b : Nat} (w : World) (hr : DocT w g T) (hT : FitD (T ++ [tmS b])) (hb : W64 b) :
  Calls Tryz.prog 61 #[.pointer (some ⟨g, 0, none⟩), .int .u64 b] w fun e w' => e = .returned (.tuple #[]) ∧ DocT w' g (T ++ [tmS b]) ∧ But g w w' := by
 have f1 : FitD T := ⟨fun t m => hT.1 t (List.mem_append_left _ m), fun t m => hT.2.1 t (List.mem_append_left _ m), by have := hT.2.2; rw [List.length_append] at this; omega⟩
 have HS1 : Hid (∀ W, Calls Tryz.prog 89 #[.int .u64 b] W fun e w' => e = .returned (.int .i64 (srtB b : Nat)) ∧ W = w') := fun W => dsort_v b W hb
 have HO1 : Hid (∀ W, Calls Tryz.prog 90 #[.int .u64 b] W (DIntR (vN b) W)) := fun W => dvalue_v b hb W
 have HAD : Hid (∀ W u v, DInt W u (sumT T) → DInt W v (vN b) → Calls Tryz.prog 47 #[u, v] W (DIntR (sumT T + vN b) W)) := fun W u v hu hv => dplus_v u v _ _ W hu hv f1.room (lq_leD (tmS_bd b)) lq_roomD
 obtain ⟨s, hs⟩ : ∃ s, s = srtB b := ⟨_, rfl⟩
 have hs5 : s < 5 := by rw [hs]; exact srtB_lt b
 rw [← hs] at HS1
 obtain ⟨q, hq⟩ : ∃ q, q = cntT T s := ⟨_, rfl⟩
 have HEND : Hid (∀ W, DocRow W g (upd (cntT T) s (q + 1)) (sumT T + vN b) → DocT W g (T ++ [tmS b])) := fun W hW => by
  refine DocT.put ?_
  show DocRow W g (upd (cntT T) (srtB b) (cntT T (srtB b) + 1)) (sumT T + vN b)
  rw [← hs, ← hq]; exact hW
 have HA : Hid (DocT w g T) := hr
 have hcell := DocRow.cell hr hs5
 rw [← hq] at hcell
 have hqb : q < 4611686018427387904 := by rw [hq]; exact Nat.lt_of_le_of_lt (cntT_le T s) f1.2.2
 have hw2 := d_inc hqb
 have HC : Hid (∀ W, Below w.heap.size w W → W.cell? ⟨g, s, none⟩ = some (.int .i64 (q : Nat))) := fun W hW => (hW.cell (p := ⟨g, s, none⟩) (DocRow.lt HA.out)).trans hcell
 have hs50 : (s : Int) < 5 := by omega
 have hs00 : (0 : Int) ≤ (s : Int) := by omega
 clear hs hq hcell hqb hr hT f1 hb
 go_enter Tryz.func61, Tryz.ntmps61
 go_upto_region 0 with fail
 have h1 : once [(4, 0), (5, 1), (6, 2), (7, 3), (8, 4), (9, 5), (10, 6), (11, 7), (12, 8), (13, 9), (14, 10)] = true := by kernel_rfl
 have h2 : within [(4, 0), (5, 1), (6, 2), (7, 3), (8, 4), (9, 5), (10, 6), (11, 7), (12, 8), (13, 9), (14, 10)] 25 = true := by kernel_rfl
 let S : Nat → (Nat → Value) → World → Prop := fun i xs W => match i with
  | 0 => xs 0 = .pointer (some ⟨g, 0, none⟩)
  | 1 => xs 1 = .int .u64 (b : Nat)
  | 2 => xs 2 = .int .i64 (s : Nat)
  | 3 => xs 3 = .pointer (some ⟨g, 0, none⟩)
  | 4 => xs 4 = .pointer (some ⟨g, 0, none⟩)
  | 5 => xs 5 = .pointer (some ⟨g, s, none⟩)
  | 6 => xs 6 = .int .i64 (q : Nat)
  | 7 => xs 7 = .int .i64 ((q : Int) + 1)
  | 8 => xs 8 = .pointer (some ⟨g, 0, none⟩)
  | 9 => xs 9 = .pointer (some ⟨g, 0, none⟩)
  | 10 => xs 10 = .pointer (some ⟨g, s, none⟩)
  | _ => True
 have hstab : ∀ j ys W W', S j ys W → Below W.heap.size W W' → S j ys W' := by
  intro j ys W W' h hb
  match j, h with
  | 0, h => exact h
  | 1, h => exact h
  | 2, h => exact h
  | 3, h => exact h
  | 4, h => exact h
  | 5, h => exact h
  | 6, h => exact h
  | 7, h => exact h
  | 8, h => exact h
  | 9, h => exact h
  | 10, h => exact h
  | _ + 11, h => exact trivial
 refine wp_region_flow3T 11 12 4 [(4, 0), (5, 1), (6, 2), (7, 3), (8, 4), (9, 5), (10, 6), (11, 7), (12, 8), (13, 9), (14, 10)] [] S (fun _ W => Below w.heap.size w W) ((Below.refl _ _).drew) (by kernel_rfl) (by kernel_rfl) (by kernel_rfl) (by decide) (by kernel_rfl) h1 (by kernel_rfl) ?_ ?_ ?_ ?_
 ·exact fun j hj => by cases hj
 ·intro j xs ys W e h
  match j, e, h with
  | 0, e, h => exact c_ (e 0 (.inl rfl)) h
  | 1, e, h => exact c_ (e 1 (.inl rfl)) h
  | 2, e, h => exact c_ (e 2 (.inl rfl)) h
  | 3, e, h => exact c_ (e 3 (.inl rfl)) h
  | 4, e, h => exact c_ (e 4 (.inl rfl)) h
  | 5, e, h => exact c_ (e 5 (.inl rfl)) h
  | 6, e, h => exact c_ (e 6 (.inl rfl)) h
  | 7, e, h => exact c_ (e 7 (.inl rfl)) h
  | 8, e, h => exact c_ (e 8 (.inl rfl)) h
  | 9, e, h => exact c_ (e 9 (.inl rfl)) h
  | 10, e, h => exact c_ (e 10 (.inl rfl)) h
  | _ + 11, e, h => exact trivial
 ·refine ⟨⟨⟨⟨⟨⟨⟨⟨⟨⟨⟨trivial, ?_⟩, ?_⟩, ?_⟩, ?_⟩, ?_⟩, ?_⟩, ?_⟩, ?_⟩, ?_⟩, ?_⟩, ?_⟩
  ·refine flow3_step _ (some 4) rfl rfl rfl h1 h2 gI gB hstab fun ac xs W Dn he hni hG hS K hK => ?_
   exact op_move (.tmp 0) (.inl rfl) (hK _ _ (he 0) bR nA)
  ·refine flow3_step _ (some 5) rfl rfl rfl h1 h2 gI gB hstab fun ac xs W Dn he hni hG hS K hK => ?_
   exact op_move (.tmp 1) (.inl rfl) (hK _ _ (he 1) bR nA)
  ·refine flow3_step _ (some 6) rfl rfl rfl h1 h2 gI gB hstab fun ac xs W Dn he hni hG hS K hK => ?_
   have e0 := (he 5).trans (hS 1 (by kernel_rfl))
   refine op_call 89 _ _ rfl _ (by simp only [List.map, e0]) (by go_simp) (HS1.out W) ?_
   rintro e' W' ⟨rfl, rfl⟩; have hb' := Below.refl W.heap.size W
   exact ⟨_, rfl, hK _ _ (rfl) hb' nA⟩
  ·refine flow3_step _ (some 7) rfl rfl rfl h1 h2 gI gB hstab fun ac xs W Dn he hni hG hS K hK => ?_
   have e0 := (he 4).trans (hS 0 (by kernel_rfl))
   refine op_any (.nilCheck (.tmp 4)) rfl (.pointer (some ⟨g, 0, none⟩)) (fun o' ho' => ?_) (hK _ _ rfl bR nA)
   simp only [execOp, ho', e0]
   go_simp
  ·refine flow3_step _ (some 8) rfl rfl rfl h1 h2 gI gB hstab fun ac xs W Dn he hni hG hS K hK => ?_
   have e0 := (he 7).trans (hS 3 (by kernel_rfl))
   refine op_any (.fieldAddr 66 (.tmp 7) 0) rfl (.pointer (some ⟨g, 0, none⟩)) (fun o' ho' => ?_) (hK _ _ rfl bR nA)
   simp only [execOp, ho', e0]
   go_simp
  ·refine flow3_step _ (some 9) rfl rfl rfl h1 h2 gI gB hstab fun ac xs W Dn he hni hG hS K hK => ?_
   have e0 := (he 8).trans (hS 4 (by kernel_rfl))
   have e1 := (he 6).trans (hS 2 (by kernel_rfl))
   refine op_any (.indexAddr 60 (.tmp 8) (.tmp 6)) rfl (.pointer (some ⟨g, s, none⟩)) (fun o' ho' => ?_) (hK _ _ rfl bR nA)
   simp only [execOp, ho', e0, e1]
   go_simp
  ·refine flow3_step _ (some 10) rfl rfl rfl h1 h2 gI gB hstab fun ac xs W Dn he hni hG hS K hK => ?_
   have e0 := (he 9).trans (hS 5 (by kernel_rfl))
   refine op_any (.load 3 (.tmp 9)) rfl (.int .i64 (q : Nat)) (fun o' ho' => ?_) (hK _ _ rfl bR nA)
   simp only [execOp, ho', e0]
   have hc := HC.out W hG
   go_simp
  ·refine flow3_step _ (some 11) rfl rfl rfl h1 h2 gI gB hstab fun ac xs W Dn he hni hG hS K hK => ?_
   have e0 := (he 10).trans (hS 6 (by kernel_rfl))
   refine op_any (.binOp .add 3 (.tmp 10) (.const (.int .i64 1)) 3) rfl (.int .i64 ((q : Int) + 1)) (fun o' ho' => ?_) (hK _ _ rfl bR nA)
   simp only [execOp, ho', e0]
   go_simp
  ·refine flow3_step _ (some 12) rfl rfl rfl h1 h2 gI gB hstab fun ac xs W Dn he hni hG hS K hK => ?_
   have e0 := (he 4).trans (hS 0 (by kernel_rfl))
   refine op_any (.nilCheck (.tmp 4)) rfl (.pointer (some ⟨g, 0, none⟩)) (fun o' ho' => ?_) (hK _ _ rfl bR nA)
   simp only [execOp, ho', e0]
   go_simp
  ·refine flow3_step _ (some 13) rfl rfl rfl h1 h2 gI gB hstab fun ac xs W Dn he hni hG hS K hK => ?_
   have e0 := (he 12).trans (hS 8 (by kernel_rfl))
   refine op_any (.fieldAddr 66 (.tmp 12) 0) rfl (.pointer (some ⟨g, 0, none⟩)) (fun o' ho' => ?_) (hK _ _ rfl bR nA)
   simp only [execOp, ho', e0]
   go_simp
  ·refine flow3_step _ (some 14) rfl rfl rfl h1 h2 gI gB hstab fun ac xs W Dn he hni hG hS K hK => ?_
   have e0 := (he 13).trans (hS 9 (by kernel_rfl))
   have e1 := (he 6).trans (hS 2 (by kernel_rfl))
   refine op_any (.indexAddr 60 (.tmp 13) (.tmp 6)) rfl (.pointer (some ⟨g, s, none⟩)) (fun o' ho' => ?_) (hK _ _ rfl bR nA)
   simp only [execOp, ho', e0, e1]
   go_simp
 ·intro xs w3 Dn hall hG hS hD
  have s11 : xs 7 = _ := hS 7 (by decide)
  have s14 : xs 10 = _ := hS 10 (by decide)
  have HGB : Hid (Below w.heap.size w w3) := hG
  simp only [layAll, s11, s14, List.setIfInBounds_toArray, List.set_cons_succ, List.set_cons_zero]
  clear hS hD hall hstab S hG h1 h2
  generalize xs 0 = x0 at *
  generalize xs 1 = x1 at *
  generalize xs 2 = x2 at *
  generalize xs 3 = x3 at *
  generalize xs 4 = x4 at *
  generalize xs 5 = x5 at *
  generalize xs 6 = x6 at *
  generalize xs 8 = x8 at *
  generalize xs 9 = x9 at *
  refine docL_bump rfl 3 (.tmp 14) (.tmp 11) rfl (by kernel_rfl) g (cntT T) (sumT T) s (q + 1) hs5 rfl rfl (DocRow.below HA.out HGB.out) ?_
  intro w4 e1 e2
  show wpList Tryz.prog _ _ [] _ _
  have HB4 : Hid (But g w w4) := (But.of g HGB.out).trans e2
  obtain ⟨nb, NN, sa, sm, sc, eV, q4, n4⟩ := id e1
  have hg4 : g < w4.heap.size := blk_lt q4
  have HIW : Hid (∀ W, Below w4.heap.size w4 W → DInt W (.agg #[.bool nb, .slice sa sm sc]) (sumT T)) := fun W hW => ⟨nb, NN, sa, sm, sc, rfl, n4.below (Nat.le_refl _) hW, eV⟩
  have HC4 : Hid (∀ W, Below w4.heap.size w4 W → W.cell? ⟨g, 5, none⟩ = some (.bool nb) ∧ W.cell? ⟨g, 6, none⟩ = some (.slice sa sm sc)) := fun W hW => ⟨cell_of_row _ g 5 _ _ _ (hW.blk q4 hg4), cell_of_row _ g 6 _ _ _ (hW.blk q4 hg4)⟩
  have HA4 : Hid (DocRow w4 g (upd (cntT T) s (q + 1)) (sumT T)) := e1
  clear e1 e2 q4 n4 hg4 eV s11 s14 hw2
  go_upto_region 1 with fail
  have h1 : once [(15, 0), (16, 1), (17, 2), (18, 3), (19, 4), (20, 5), (21, 6), (22, 7), (23, 8), (24, 9)] = true := by kernel_rfl
  have h2 : within [(15, 0), (16, 1), (17, 2), (18, 3), (19, 4), (20, 5), (21, 6), (22, 7), (23, 8), (24, 9)] 25 = true := by kernel_rfl
  let S : Nat → (Nat → Value) → World → Prop := fun i xs W => match i with
   | 0 => xs 0 = .pointer (some ⟨g, 0, none⟩)
   | 1 => xs 1 = .pointer (some ⟨g, 0, none⟩)
   | 2 => xs 2 = .pointer (some ⟨g, 0, none⟩)
   | 3 => xs 3 = .pointer (some ⟨g, 5, none⟩)
   | 4 => xs 4 = .agg #[.bool nb, .slice sa sm sc]
   | 5 => xs 5 = .int .u64 (b : Nat)
   | 6 => DInt W (xs 6) (vN b)
   | 7 => DInt W (xs 7) (sumT T + vN b)
   | 8 => xs 8 = .pointer (some ⟨g, 0, none⟩)
   | 9 => xs 9 = .pointer (some ⟨g, 5, none⟩)
   | _ => True
  have hstab : ∀ j ys W W', S j ys W → Below W.heap.size W W' → S j ys W' := by
   intro j ys W W' h hb
   match j, h with
   | 0, h => exact h
   | 1, h => exact h
   | 2, h => exact h
   | 3, h => exact h
   | 4, h => exact h
   | 5, h => exact h
   | 6, h => exact h.below hb
   | 7, h => exact h.below hb
   | 8, h => exact h
   | 9, h => exact h
   | _ + 10, h => exact trivial
  refine wp_region_flow3T 10 11 4 [(15, 0), (16, 1), (17, 2), (18, 3), (19, 4), (20, 5), (21, 6), (22, 7), (23, 8), (24, 9)] [] S (fun _ W => Below w4.heap.size w4 W) ((Below.refl _ _).drew) (by kernel_rfl) (by kernel_rfl) (by kernel_rfl) (by decide) (by kernel_rfl) h1 (by kernel_rfl) ?_ ?_ ?_ ?_
  ·exact fun j hj => by cases hj
  ·intro j xs ys W e h
   match j, e, h with
   | 0, e, h => exact c_ (e 0 (.inl rfl)) h
   | 1, e, h => exact c_ (e 1 (.inl rfl)) h
   | 2, e, h => exact c_ (e 2 (.inl rfl)) h
   | 3, e, h => exact c_ (e 3 (.inl rfl)) h
   | 4, e, h => exact c_ (e 4 (.inl rfl)) h
   | 5, e, h => exact c_ (e 5 (.inl rfl)) h
   | 6, e, h => exact (congrArg (fun z => DInt W z _) (e 6 (.inl rfl))).mp h
   | 7, e, h => exact (congrArg (fun z => DInt W z _) (e 7 (.inl rfl))).mp h
   | 8, e, h => exact c_ (e 8 (.inl rfl)) h
   | 9, e, h => exact c_ (e 9 (.inl rfl)) h
   | _ + 10, e, h => exact trivial
  ·refine ⟨⟨⟨⟨⟨⟨⟨⟨⟨⟨trivial, ?_⟩, ?_⟩, ?_⟩, ?_⟩, ?_⟩, ?_⟩, ?_⟩, ?_⟩, ?_⟩, ?_⟩
   ·refine flow3_step _ (some 15) rfl rfl rfl h1 h2 gI gB hstab fun ac xs W Dn he hni hG hS K hK => ?_
    exact op_move (.tmp 0) (.inl rfl) (hK _ _ (he 0) bR nA)
   ·refine flow3_step _ (some 16) rfl rfl rfl h1 h2 gI gB hstab fun ac xs W Dn he hni hG hS K hK => ?_
    exact op_move (.tmp 0) (.inl rfl) (hK _ _ (he 0) bR nA)
   ·refine flow3_step _ (some 17) rfl rfl rfl h1 h2 gI gB hstab fun ac xs W Dn he hni hG hS K hK => ?_
    have e0 := (he 16).trans (hS 1 (by kernel_rfl))
    refine op_any (.nilCheck (.tmp 16)) rfl (.pointer (some ⟨g, 0, none⟩)) (fun o' ho' => ?_) (hK _ _ rfl bR nA)
    simp only [execOp, ho', e0]
    go_simp
   ·refine flow3_step _ (some 18) rfl rfl rfl h1 h2 gI gB hstab fun ac xs W Dn he hni hG hS K hK => ?_
    have e0 := (he 17).trans (hS 2 (by kernel_rfl))
    refine op_any (.fieldAddr 66 (.tmp 17) 1) rfl (.pointer (some ⟨g, 5, none⟩)) (fun o' ho' => ?_) (hK _ _ rfl bR nA)
    simp only [execOp, ho', e0]
    go_simp
   ·refine flow3_step _ (some 19) rfl rfl rfl h1 h2 gI gB hstab fun ac xs W Dn he hni hG hS K hK => ?_
    have hc5 := (HC4.out W hG).1
    have hc6 := (HC4.out W hG).2
    have e0 := (he 18).trans (hS 3 (by kernel_rfl))
    refine op_any (.load 64 (.tmp 18)) rfl (.agg #[.bool nb, .slice sa sm sc]) (fun o' ho' => ?_) (hK _ _ rfl bR nA)
    simp only [execOp, ho', e0]
    go_simp
   ·refine flow3_step _ (some 20) rfl rfl rfl h1 h2 gI gB hstab fun ac xs W Dn he hni hG hS K hK => ?_
    exact op_move (.tmp 1) (.inl rfl) (hK _ _ (he 1) bR nA)
   ·refine flow3_step _ (some 21) rfl rfl rfl h1 h2 gI gB hstab fun ac xs W Dn he hni hG hS K hK => ?_
    have e0 := (he 20).trans (hS 5 (by kernel_rfl))
    refine op_call 90 _ _ rfl _ (by simp only [List.map, e0]) (by go_simp) (HO1.out W) ?_
    rintro e' W' ⟨u, rfl, hi', hb'⟩
    exact ⟨_, rfl, hK _ _ hi' hb' nA⟩
   ·refine flow3_step _ (some 22) rfl rfl rfl h1 h2 gI gB hstab fun ac xs W Dn he hni hG hS K hK => ?_
    have e0 := (he 19).trans (hS 4 (by kernel_rfl))
    have e1 : ac.eval (.tmp 21) = xs 6 := he 21
    refine op_call 47 _ _ rfl _ (by simp only [List.map, e0, e1]) (by go_simp) (HAD.out W _ _ (HIW.out W hG) (hS 6 (by kernel_rfl))) ?_
    rintro e' W' ⟨u, rfl, hi', hb'⟩
    exact ⟨_, rfl, hK _ _ hi' hb' nA⟩
   ·refine flow3_step _ (some 23) rfl rfl rfl h1 h2 gI gB hstab fun ac xs W Dn he hni hG hS K hK => ?_
    have e0 := (he 15).trans (hS 0 (by kernel_rfl))
    refine op_any (.nilCheck (.tmp 15)) rfl (.pointer (some ⟨g, 0, none⟩)) (fun o' ho' => ?_) (hK _ _ rfl bR nA)
    simp only [execOp, ho', e0]
    go_simp
   ·refine flow3_step _ (some 24) rfl rfl rfl h1 h2 gI gB hstab fun ac xs W Dn he hni hG hS K hK => ?_
    have e0 := (he 23).trans (hS 8 (by kernel_rfl))
    refine op_any (.fieldAddr 66 (.tmp 23) 1) rfl (.pointer (some ⟨g, 5, none⟩)) (fun o' ho' => ?_) (hK _ _ rfl bR nA)
    simp only [execOp, ho', e0]
    go_simp
  ·intro xs w5 Dn hall hG hS hD
   have HV : Hid (DInt w5 (xs 7) (sumT T + vN b)) := hS 7 (by decide)
   have sp : xs 9 = _ := hS 9 (by decide)
   have HG5 : Hid (Below w4.heap.size w4 w5) := hG
   simp only [layAll, sp, List.setIfInBounds_toArray, List.set_cons_succ, List.set_cons_zero]
   clear hS hD hall hstab S hG h1 h2
   generalize xs 0 = x0 at *
   generalize xs 1 = x1 at *
   generalize xs 2 = x2 at *
   generalize xs 3 = x3 at *
   generalize xs 4 = x4 at *
   generalize xs 5 = x5 at *
   generalize xs 6 = x6 at *
   generalize xs 7 = x7 at *
   generalize xs 8 = x8 at *
   obtain ⟨ds, dn, da, dm, dc, hx, hn5, hV5⟩ := HV.out
   refine docL_lay rfl 64 (.tmp 24) (.tmp 22) rfl (by kernel_rfl) g _ _ ds dn (.slice da dm dc) rfl hx hn5 (DocRow.below HA4.out HG5.out) ?_
   intro w6 e1 e2
   show wpList Tryz.prog _ _ [] _ _
   rw [← hV5] at e1
   have HB6 : Hid (But g w w6) := HB4.out.trans ((But.of g HG5.out).trans e2)
   have HA6 : Hid (DocT w6 g (T ++ [tmS b])) := HEND.out _ e1
   clear e1 e2
   go_wp2
   exact bodyPost_end (d_void rfl _ _ _) rfl ⟨rfl, HA6.out, HB6.out⟩
end Go.Proofs.YtlffojopfilfeaaGreatDoor
