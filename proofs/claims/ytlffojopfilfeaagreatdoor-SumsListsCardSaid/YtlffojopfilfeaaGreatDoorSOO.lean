import Derived.Test.YtlffojopfilfeaaGreatDoorSOK
import Derived.Test.YtlffojopfilfeaaGreatDoorSQR
import Derived.Test.YtlffojopfilfeaaGreatDoorSQU
import Derived.Test.YtlffojopfilfeaaGreatDoorSBJ
import Derived.Test.YtlffojopfilfeaaGreatDoorSOA
set_option maxRecDepth 100000
namespace Go.Proofs.YtlffojopfilfeaaGreatDoor
open Go Go.RowKit Go.Lib
def DcR (W : World) (g : Nat) : Prop := ∃ (b : Bool) (s : ByteArray) (e : Int), W.heap[g]? = some (.cells #[.bool b, .string s, .int .i64 e] 115 (0, 0))
theorem DcR.below {W W' : World} {g : Nat} (h : DcR W g) (hb : Below W.heap.size W W') : DcR W' g := by obtain ⟨b, s, e, h1⟩ := h; exact ⟨b, s, e, hb.blk h1 (blk_lt h1)⟩
theorem DcR.set {W : World} {g g' : Nat} {b : Bool} {s : ByteArray} {e : Int} (h : DcR W g) (h' : DcR W g') : DcR (W.setRow g' #[.bool b, .string s, .int .i64 e]) g := by
 by_cases hg : g = g'
 ·subst hg; obtain ⟨b', s', e', h1⟩ := h; exact ⟨_, _, _, setRow_heap W g _ _ _ _ h1⟩
 ·obtain ⟨b', s', e', h1⟩ := h; exact ⟨_, _, _, (setRow_other W g' g _ hg).trans h1⟩
theorem DcR.clear {W : World} {g : Nat} (h : DcR W g) : Clear W g := by
 obtain ⟨b, s, e, h1⟩ := h
 intro o k z hc
 rw [cell_of_row _ _ _ _ _ _ h1] at hc
 match o with
 | 0 | 1 => simp at hc
 | 2 => simp at hc; exact hc.1.symm
 | _ + 3 => simp at hc
theorem row_stay {W : World} {g g1 : Nat} {cs : Array Value} {t : TypeId} {fr : Nat × Nat} (h : W.heap[g1]? = some (.cells cs t fr)) : (W.setRow g cs).heap[g1]? = some (.cells cs t fr) := by
 by_cases hg : g1 = g
 ·subst hg; exact setRow_heap W g1 _ _ _ _ h
 ·exact (setRow_other W g g1 _ hg).trans h
theorem made_n (ng : Bool) (N : Nat) (e : Int) (W : World) {bt : Nat} (hN : N < 2 ^ bt) (hbt : bt ≤ 4294967296) : Calls Tryz.prog 72 #[.bool ng, .string (bs (Lib.decDigits N)), .int .i64 e] W (DcQ ⟨madeS ng N e, madeL N e, madeE N e⟩ (madeX N e) W) := by
 have hd : allDig (bl (bs (Lib.decDigits N))) := dec_all _
 have hs : (bs (Lib.decDigits N)).size ≤ 4611686018427387904 := by
  show (Lib.decDigits N).length ≤ _
  by_cases h0 : N = 0
  ·rw [h0, Go.Lib.decDigits, dif_pos (by decide)]; decide
  ·rw [dec_bare (by omega)]
   have := bare_len_bits hN
   omega
 refine (Made_any ng (bs (Lib.decDigits N)) e W hd hs).mono ?_
 rintro en w' ⟨rfl, hb⟩
 refine ⟨?_, hb⟩
 rw [bl_bs, dval_dec]
 rfl
theorem five_pow_lt {i j : Nat} (h : i ≤ j) : 5 ^ i < 2 ^ (3 * j + 1) := by
 refine Nat.lt_of_le_of_lt (Nat.pow_le_pow_right (by decide) h) ?_
 rw [Nat.pow_succ, Nat.pow_mul]
 have : 5 ^ j ≤ (2 ^ 3) ^ j := Nat.pow_le_pow_left (by decide) j
 have := Nat.two_pow_pos (3 * j)
 rw [Nat.pow_mul] at this
 omega
set_option maxHeartbeats 4000000 in
theorem decimal_v (x : Value) (U : Int) (j m : Nat) (w : World) (h : WideI w x U) (hU : U.natAbs < 2 ^ m) (hm : m + j ≤ 8000) (htab : Tab w) :
  Calls Tryz.prog 75 #[x, .int .i64 (-(j : Int))] w fun e w' => e = .returned (dcV (mkD (U * 5 ^ j) (-(j : Int)))) ∧ Below w.heap.size w w' := by
 obtain ⟨D, hD⟩ : ∃ D, D = mkD (U * 5 ^ j) (-(j : Int)) := ⟨_, rfl⟩
 rw [← hD]
 obtain ⟨N, hN⟩ : ∃ N, N = U.natAbs := ⟨_, rfl⟩
 obtain ⟨M, hM⟩ : ∃ M, M = N * 5 ^ j := ⟨_, rfl⟩
 obtain ⟨z, hz⟩ : ∃ z : Int, z = if U = 0 then 0 else if U < 0 then -1 else 1 := ⟨_, rfl⟩
 obtain ⟨ng, hng⟩ : ∃ b, b = decide (U < 0) := ⟨_, rfl⟩
 obtain ⟨bt, hbt⟩ : ∃ b, b = 30000 := ⟨_, rfl⟩
 have hNb : N < 2 ^ bt := by rw [hN]; exact Nat.lt_of_lt_of_le hU (Nat.pow_le_pow_right (by decide) (by omega))
 have h5b : 5 ^ j < 2 ^ bt := Nat.lt_of_lt_of_le (five_pow_lt (Nat.le_refl j)) (Nat.pow_le_pow_right (by decide) (by omega))
 have hMb : M < 2 ^ bt := by
  rw [hM]
  refine Nat.lt_of_lt_of_le (Nat.mul_lt_mul'' (show N < 2 ^ m by rw [hN]; exact hU) (five_pow_lt (Nat.le_refl j))) ?_
  rw [← Nat.pow_add]
  exact Nat.pow_le_pow_right (by decide) (by omega)
 have hzn : decide (z < 0) = ng := by
  rw [hz, hng]
  by_cases h0 : U = 0
  ·rw [if_pos h0, h0]
  ·rw [if_neg h0]
   by_cases h1 : U < 0
   ·rw [if_pos h1, decide_eq_true h1]; rfl
   ·rw [if_neg h1, decide_eq_false h1]; rfl
 have hDD : D = ⟨madeS ng M (-(j : Int)), madeL M (-(j : Int)), madeE M (-(j : Int))⟩ := by
  rw [hD]
  unfold mkD
  rw [neg_scale (Int.pow_pos (by decide)), ← hng, Int.natAbs_mul, Int.natAbs_pow, ← hN]
  show (⟨madeS ng (N * 5 ^ j) _, madeL (N * 5 ^ j) _, madeE (N * 5 ^ j) _⟩ : Dc) = _
  rw [← hM]
 obtain ⟨X, hX⟩ : ∃ X, X = madeX M (-(j : Int)) := ⟨_, rfl⟩
 have HX : Hid (∀ W, Below w.heap.size w W → WideI W x U) := fun W hW => h.below hW
 obtain ⟨a, k, c, rfl, -⟩ := id h
 rw [← hng] at HX ⊢
 have HSG : Hid (∀ W, WideI W (.agg #[.bool ng, .slice a k c]) U → Calls Tryz.prog 44 #[.agg #[.bool ng, .slice a k c]] W fun e w' => e = .returned (.int .i64 z) ∧ Below W.heap.size W w') := fun W hW => by rw [hz]; exact sign_s _ _ W hW
 have HAB : Hid (∀ W, WideI W (.agg #[.bool ng, .slice a k c]) U → Calls Tryz.prog 98 #[.agg #[.bool ng, .slice a k c]] W (WideR (N : Int) W)) := fun W hW => by
  rw [hN]
  have := iabs_any ng (.slice a k c) U.natAbs W hW.num0
  exact this.mono fun e w' hq => hq.nat rfl
 have HPW : Hid (∀ W, Calls Tryz.prog 108 #[.int .u64 5, .int .i64 (j : Nat)] W (WideR ((5 ^ j : Nat) : Int) W)) := fun W => power_v 5 j W (by decide) (bb := bt) (fun i hi => Nat.lt_of_lt_of_le (five_pow_lt hi) (Nat.pow_le_pow_right (by decide) (by omega))) (by omega) (by omega)
 have HML : Hid (∀ W u v, WideI W u (N : Int) → WideI W v ((5 ^ j : Nat) : Int) → Calls Tryz.prog 42 #[u, v] W (WideR (M : Int) W)) := fun W u v hu hv => by rw [hM]; exact mul_n u v _ _ W hu hv hNb h5b (by omega)
 have HTX : Hid (∀ W v, Below w.heap.size w W → WideI W v (M : Int) → Calls Tryz.prog 73 #[v] W fun e w' => e = .returned (.string (bs (Lib.decDigits M))) ∧ Below W.heap.size W w') := fun W v hW hv => by
  obtain ⟨a', m', c', rfl, hn⟩ := hv.nat
  exact itext_any _ M W hn hMb (by omega) (htab.below hW)
 have HMD : Hid (∀ W, Calls Tryz.prog 72 #[.bool ng, .string (bs (Lib.decDigits M)), .int .i64 (-(j : Int))] W fun e w' => e = .returned (.tuple #[dcV D, .int .i64 X]) ∧ Below W.heap.size W w') := fun W => by
  rw [hDD, hX]; exact made_n ng M _ W hMb (by omega)
 have hw1 : IntKind.i64.wrap (j : Int) = (j : Int) := by rw [IntWalk.i64_in _ (by omega)]
 obtain ⟨w2, hw2⟩ : ∃ W, W = (w.alloc (.cells #[.bool ng, .slice a k c] 73)).alloc (.cells #[.bool false, .string ⟨#[]⟩, .int .i64 0] 115) := ⟨_, rfl⟩
 have HB2 : Hid (Below w.heap.size w w2) := by show Below _ _ _; rw [hw2]; exact ((Below.refl _ _).alloc (Nat.le_refl _) _).alloc (by simp) _
 have q0 : w2.heap[w.heap.size]? = some (.cells #[.bool ng, .slice a k c] 73 (0, 0)) := by rw [hw2]; exact (heap_alloc_old _ _ (by simp)).trans (heap_alloc_new _ _)
 have q1 : w2.heap[w.heap.size + 1]? = some (.cells #[.bool false, .string ⟨#[]⟩, .int .i64 0] 115 (0, 0)) := by
  rw [hw2]
  have := heap_alloc_new (w.alloc (.cells #[.bool ng, .slice a k c] 73)) (.cells #[.bool false, .string ⟨#[]⟩, .int .i64 0] 115)
  rwa [show (w.alloc (.cells #[.bool ng, .slice a k c] 73)).heap.size = w.heap.size + 1 by simp] at this
 have HC : Hid (∀ W, Below w2.heap.size w2 W → W.heap[w.heap.size]? = some (.cells #[.bool ng, .slice a k c] 73 (0, 0)) ∧ W.heap[w.heap.size + 1]? = some (.cells #[.bool false, .string ⟨#[]⟩, .int .i64 0] 115 (0, 0))) := fun W hW => ⟨hW.blk q0 (blk_lt q0), hW.blk q1 (blk_lt q1)⟩
 clear h hU hm htab hD hN hM hz hng hbt hNb h5b hMb hDD hX q0 q1
 obtain ⟨db, ds, de⟩ := D
 go_enter Tryz.func75, Tryz.ntmps75
 go_upto_region 1 with fail
 rw [← hw2]
 clear hw2
 have h1 : once [(8, 0), (9, 1), (10, 2), (11, 3), (12, 4), (13, 5), (14, 6), (15, 7), (16, 8), (17, 9), (18, 10), (19, 11), (7, 12), (20, 13), (21, 14), (5, 15), (6, 17)] = true := by kernel_rfl
 have h2 : within [(8, 0), (9, 1), (10, 2), (11, 3), (12, 4), (13, 5), (14, 6), (15, 7), (16, 8), (17, 9), (18, 10), (19, 11), (7, 12), (20, 13), (21, 14), (5, 15), (6, 17)] 23 = true := by kernel_rfl
 let S : Nat → (Nat → Value) → World → Prop := fun i xs W => match i with
  | 0 => xs 0 = .agg #[.bool ng, .slice a k c]
  | 1 => xs 1 = .int .i64 z
  | 2 => xs 2 = .bool ng
  | 3 => xs 3 = .agg #[.bool ng, .slice a k c]
  | 4 => WideI W (xs 4) ((N : Int))
  | 5 => xs 5 = .int .i64 (-(j : Int))
  | 6 => xs 6 = .int .i64 (j : Int)
  | 7 => WideI W (xs 7) (((5 ^ j : Nat) : Int))
  | 8 => WideI W (xs 8) ((M : Int))
  | 9 => xs 9 = .string (bs (Lib.decDigits M))
  | 10 => xs 10 = .int .i64 (-(j : Int))
  | 11 => xs 11 = .tuple #[.agg #[.bool db, .string (bs ds), .int .i64 de], .int .i64 X]
  | 12 => xs 12 = .tuple #[.agg #[.bool db, .string (bs ds), .int .i64 de], .int .i64 X]
  | 13 => xs 13 = .agg #[.bool db, .string (bs ds), .int .i64 de]
  | 14 => xs 14 = .int .i64 X
  | 15 => ∃ g, (xs 15) = .pointer (some ⟨g, 0, none⟩) ∧ w2.heap.size ≤ g ∧ g < W.heap.size ∧ DcR W g
  | 16 => ∃ g, xs 15 = .pointer (some ⟨g, 0, none⟩) ∧ w2.heap.size ≤ g ∧ W.heap[g]? = some (.cells #[.bool db, .string (bs ds), .int .i64 de] 115 (0, 0))
  | 17 => xs 17 = .int .i64 X
  | _ => True
 have hstab : ∀ j ys W W', S j ys W → Below W.heap.size W W' → S j ys W' := by
  intro j ys W W' h hb
  match j, h with
  | 0, h => exact h
  | 1, h => exact h
  | 2, h => exact h
  | 3, h => exact h
  | 4, h => exact h.below hb
  | 5, h => exact h
  | 6, h => exact h
  | 7, h => exact h.below hb
  | 8, h => exact h.below hb
  | 9, h => exact h
  | 10, h => exact h
  | 11, h => exact h
  | 12, h => exact h
  | 13, h => exact h
  | 14, h => exact h
  | 15, ⟨g, s1, s2, s3, s4⟩ => exact ⟨g, s1, s2, Nat.lt_of_lt_of_le s3 hb.size, s4.below hb⟩
  | 16, ⟨g, s1, s2, s4⟩ => exact ⟨g, s1, s2, hb.blk s4 (blk_lt s4)⟩
  | 17, h => exact h
  | _ + 18, h => exact trivial
 refine wp_region_flow3T 18 18 4 [(8, 0), (9, 1), (10, 2), (11, 3), (12, 4), (13, 5), (14, 6), (15, 7), (16, 8), (17, 9), (18, 10), (19, 11), (7, 12), (20, 13), (21, 14), (5, 15), (6, 17)] [15] S (fun _ W => Below w2.heap.size w2 W) ((Below.refl _ _).drew) (by kernel_rfl) (by kernel_rfl) (by kernel_rfl) (by decide) (by kernel_rfl) h1 (by kernel_rfl) ?_ ?_ ?_ ?_
 ·intro j hj xs W h
  simp only [List.mem_cons, List.not_mem_nil, or_false] at hj
  rcases hj with rfl
  ·obtain ⟨g, s1, s2, s3, s4⟩ := h; exact ⟨g, s1, s3⟩
 ·intro j xs ys W e h
  match j, e, h with
  | 0, e, h => exact c_ (e 0 (.inl rfl)) h
  | 1, e, h => exact c_ (e 1 (.inl rfl)) h
  | 2, e, h => exact c_ (e 2 (.inl rfl)) h
  | 3, e, h => exact c_ (e 3 (.inl rfl)) h
  | 4, e, h => exact (congrArg (fun z => WideI W z _) (e 4 (.inl rfl))).mp h
  | 5, e, h => exact c_ (e 5 (.inl rfl)) h
  | 6, e, h => exact c_ (e 6 (.inl rfl)) h
  | 7, e, h => exact (congrArg (fun z => WideI W z _) (e 7 (.inl rfl))).mp h
  | 8, e, h => exact (congrArg (fun z => WideI W z _) (e 8 (.inl rfl))).mp h
  | 9, e, h => exact c_ (e 9 (.inl rfl)) h
  | 10, e, h => exact c_ (e 10 (.inl rfl)) h
  | 11, e, h => exact c_ (e 11 (.inl rfl)) h
  | 12, e, h => exact c_ (e 12 (.inl rfl)) h
  | 13, e, h => exact c_ (e 13 (.inl rfl)) h
  | 14, e, h => exact c_ (e 14 (.inl rfl)) h
  | 15, e, ⟨g, s1, r⟩ => exact ⟨g, (e 15 (.inl rfl)).symm.trans s1, r⟩
  | 16, e, ⟨g, s1, r⟩ => exact ⟨g, (e 15 (.inr (by kernel_rfl))).symm.trans s1, r⟩
  | 17, e, h => exact c_ (e 17 (.inl rfl)) h
  | _ + 18, e, h => exact trivial
 ·refine ⟨⟨⟨⟨⟨⟨⟨⟨⟨⟨⟨⟨⟨⟨⟨⟨⟨⟨trivial, ?_⟩, ?_⟩, ?_⟩, ?_⟩, ?_⟩, ?_⟩, ?_⟩, ?_⟩, ?_⟩, ?_⟩, ?_⟩, ?_⟩, ?_⟩, ?_⟩, ?_⟩, ?_⟩, ?_⟩, ?_⟩
  ·refine flow3_step _ (some 8) rfl rfl rfl h1 h2 gI gB hstab fun ac xs W Dn he hni hG hS K hK => ?_
   exact wp_load_row 73 (.tmp 2) rfl w.heap.size (he 2) _ _ _ _ ((HC.out W hG).1) Tryz.underlying73 rfl (by kernel_rfl) (hK _ _ rfl bR (fun h => absurd h (by decide)))
  ·refine flow3_step _ (some 9) rfl rfl rfl h1 h2 gI gB hstab fun ac xs W Dn he hni hG hS K hK => ?_
   have e0 := (he 8).trans (hS 0 (by kernel_rfl))
   refine op_call 44 _ _ rfl _ (by simp only [List.map, e0]) (by go_simp) (HSG.out W (HX.out W (HB2.out.thru hG))) ?_
   rintro e' W' ⟨rfl, hb'⟩
   exact ⟨_, rfl, hK _ _ (rfl) hb' (fun h => absurd h (by decide))⟩
  ·refine flow3_step _ (some 10) rfl rfl rfl h1 h2 gI gB hstab fun ac xs W Dn he hni hG hS K hK => ?_
   have e0 := (he 9).trans (hS 1 (by kernel_rfl))
   refine op_any (.binOp .lss 3 (.tmp 9) (.const (.int .i64 0)) 3) rfl (.bool ng) (fun o' ho' => ?_) (hK _ _ rfl bR (fun h => absurd h (by decide)))
   simp only [execOp, ho', e0]
   go_simp
  ·refine flow3_step _ (some 11) rfl rfl rfl h1 h2 gI gB hstab fun ac xs W Dn he hni hG hS K hK => ?_
   exact wp_load_row 73 (.tmp 2) rfl w.heap.size (he 2) _ _ _ _ ((HC.out W hG).1) Tryz.underlying73 rfl (by kernel_rfl) (hK _ _ rfl bR (fun h => absurd h (by decide)))
  ·refine flow3_step _ (some 12) rfl rfl rfl h1 h2 gI gB hstab fun ac xs W Dn he hni hG hS K hK => ?_
   have e0 := (he 11).trans (hS 3 (by kernel_rfl))
   refine op_call 98 _ _ rfl _ (by simp only [List.map, e0]) (by go_simp) (HAB.out W (HX.out W (HB2.out.thru hG))) ?_
   rintro e' W' ⟨u, rfl, hi', hb'⟩
   exact ⟨_, rfl, hK _ _ hi' hb' (fun h => absurd h (by decide))⟩
  ·refine flow3_step _ (some 13) rfl rfl rfl h1 h2 gI gB hstab fun ac xs W Dn he hni hG hS K hK => ?_
   exact op_move (.tmp 1) (.inl rfl) (hK _ _ (he 1) bR (fun h => absurd h (by decide)))
  ·refine flow3_step _ (some 14) rfl rfl rfl h1 h2 gI gB hstab fun ac xs W Dn he hni hG hS K hK => ?_
   have e0 := (he 13).trans (hS 5 (by kernel_rfl))
   refine op_any (.unOp .neg 3 (.tmp 13)) rfl (.int .i64 (j : Int)) (fun o' ho' => ?_) (hK _ _ rfl bR (fun h => absurd h (by decide)))
   simp only [execOp, ho', e0]
   go_simp
  ·refine flow3_step _ (some 15) rfl rfl rfl h1 h2 gI gB hstab fun ac xs W Dn he hni hG hS K hK => ?_
   have e0 := (he 14).trans (hS 6 (by kernel_rfl))
   refine op_call 108 _ _ rfl _ (by simp only [List.map, eval_const, e0]) (by go_simp) (HPW.out W) ?_
   rintro e' W' ⟨u, rfl, hi', hb'⟩
   exact ⟨_, rfl, hK _ _ hi' hb' (fun h => absurd h (by decide))⟩
  ·refine flow3_step _ (some 16) rfl rfl rfl h1 h2 gI gB hstab fun ac xs W Dn he hni hG hS K hK => ?_
   have e0 : ac.eval (.tmp 12) = xs 4 := he 12
   have e1 : ac.eval (.tmp 15) = xs 7 := he 15
   refine op_call 42 _ _ rfl _ (by simp only [List.map, e0, e1]) (by go_simp) (HML.out W _ _ (hS 4 (by kernel_rfl)) (hS 7 (by kernel_rfl))) ?_
   rintro e' W' ⟨u, rfl, hi', hb'⟩
   exact ⟨_, rfl, hK _ _ hi' hb' (fun h => absurd h (by decide))⟩
  ·refine flow3_step _ (some 17) rfl rfl rfl h1 h2 gI gB hstab fun ac xs W Dn he hni hG hS K hK => ?_
   have e0 : ac.eval (.tmp 16) = xs 8 := he 16
   refine op_call 73 _ _ rfl _ (by simp only [List.map, e0]) (by go_simp) (HTX.out W _ (HB2.out.thru hG) (hS 8 (by kernel_rfl))) ?_
   rintro e' W' ⟨rfl, hb'⟩
   exact ⟨_, rfl, hK _ _ (rfl) hb' (fun h => absurd h (by decide))⟩
  ·refine flow3_step _ (some 18) rfl rfl rfl h1 h2 gI gB hstab fun ac xs W Dn he hni hG hS K hK => ?_
   exact op_move (.tmp 1) (.inl rfl) (hK _ _ (he 1) bR (fun h => absurd h (by decide)))
  ·refine flow3_step _ (some 19) rfl rfl rfl h1 h2 gI gB hstab fun ac xs W Dn he hni hG hS K hK => ?_
   have e0 := (he 10).trans (hS 2 (by kernel_rfl))
   have e1 := (he 17).trans (hS 9 (by kernel_rfl))
   have e2 := (he 18).trans (hS 10 (by kernel_rfl))
   refine op_call 72 _ _ rfl _ (by simp only [List.map, e0, e1, e2]) (by go_simp) (HMD.out W) ?_
   rintro e' W' ⟨rfl, hb'⟩
   exact ⟨_, rfl, hK _ _ (rfl) hb' (fun h => absurd h (by decide))⟩
  ·refine flow3_step _ (some 7) rfl rfl rfl h1 h2 gI gB hstab fun ac xs W Dn he hni hG hS K hK => ?_
   exact op_move (.tmp 19) (.inl rfl) (hK _ _ ((he 19).trans (hS 11 (by kernel_rfl))) bR (fun h => absurd h (by decide)))
  ·refine flow3_step _ (some 20) rfl rfl rfl h1 h2 gI gB hstab fun ac xs W Dn he hni hG hS K hK => ?_
   have e0 := (he 7).trans (hS 12 (by kernel_rfl))
   refine op_any (.extract (.tmp 7) 0) rfl (.agg #[.bool db, .string (bs ds), .int .i64 de]) (fun o' ho' => ?_) (hK _ _ rfl bR (fun h => absurd h (by decide)))
   simp only [execOp, ho', e0]
   go_simp
  ·refine flow3_step _ (some 21) rfl rfl rfl h1 h2 gI gB hstab fun ac xs W Dn he hni hG hS K hK => ?_
   have e0 := (he 7).trans (hS 12 (by kernel_rfl))
   refine op_any (.extract (.tmp 7) 1) rfl (.int .i64 X) (fun o' ho' => ?_) (hK _ _ rfl bR (fun h => absurd h (by decide)))
   simp only [execOp, ho', e0]
   go_simp
  ·refine flow3_step _ (some 5) rfl rfl rfl h1 h2 gI gB hstab fun ac xs W Dn he hni hG hS K hK => ?_
   have hsz := hG.size
   refine op_anyw (.alloc 115) rfl (.pointer (some ⟨W.heap.size, 0, none⟩)) (W.alloc (.cells #[.bool false, .string ⟨#[]⟩, .int .i64 0] 115)) ?_ ?_
   ·intro o' ho'
    simp only [execOp, ho']
    go_simp
   ·exact hK _ _ ⟨_, rfl, by omega, by simp, ⟨_, _, _, heap_alloc_new _ _⟩⟩ (bR.alloc (Nat.le_refl _) _) (fun _ => rfl)
  ·refine flow3_store _ rfl rfl rfl h1 h2 (by decide) fun ac xs W Dn he hni hG hS K hK => ?_
   obtain ⟨g, s1, s2, s3, s4⟩ := hS 15 (by kernel_rfl)
   obtain ⟨x1, x2, x3, s5⟩ := id s4
   refine wp_store_row 115 (.tmp 5) (.tmp 20) rfl g #[.bool db, .string (bs ds), .int .i64 de] ((he 5).trans s1) ((he 20).trans (hS 13 (by kernel_rfl))) _ _ s5 (by kernel_rfl) rfl (by simp [Value.oneCell']) ?_
   have hself0 := setRow_heap W g _ #[.bool db, .string (bs ds), .int .i64 de] _ _ s5
   have hself : ∃ g', xs 15 = .pointer (some ⟨g', 0, none⟩) ∧ w2.heap.size ≤ g' ∧ (W.setRow g #[.bool db, .string (bs ds), .int .i64 de]).heap[g']? = some (.cells #[.bool db, .string (bs ds), .int .i64 de] 115 (0, 0)) := ⟨g, s1, s2, hself0⟩
   have hG2 : Below w2.heap.size w2 (W.setRow g #[.bool db, .string (bs ds), .int .i64 de]) := below_setRow hG s2 _
   refine hK _ hself hG2 ?_
   intro j ys h
   match j, h with
   | 0, h => exact h
   | 1, h => exact h
   | 2, h => exact h
   | 3, h => exact h
   | 4, h => exact h.but (s4.clear) (.set _)
   | 5, h => exact h
   | 6, h => exact h
   | 7, h => exact h.but (s4.clear) (.set _)
   | 8, h => exact h.but (s4.clear) (.set _)
   | 9, h => exact h
   | 10, h => exact h
   | 11, h => exact h
   | 12, h => exact h
   | 13, h => exact h
   | 14, h => exact h
   | 15, ⟨g1, u1, u2, u3, u4⟩ => exact ⟨g1, u1, u2, by rw [Go.Proofs.YtlffojopfilfeaaGreatDoor.setRow_size]; exact u3, u4.set s4⟩
   | 16, ⟨g1, u1, u2, u4⟩ => exact ⟨g1, u1, u2, row_stay u4⟩
   | 17, h => exact h
   | _ + 18, h => exact trivial
  ·refine flow3_step _ (some 6) rfl rfl rfl h1 h2 gI gB hstab fun ac xs W Dn he hni hG hS K hK => ?_
   exact op_move (.tmp 21) (.inr rfl) (hK _ _ ((he 21).trans (hS 14 (by kernel_rfl))) bR (fun h => absurd h (by decide)))
 ·intro xs w3 Dn hall hG hS hD
  obtain ⟨g5, s5, hg5, r5⟩ := hS 16 (by decide)
  have HGB : Hid (Below w2.heap.size w2 w3) := hG
  simp only [layAll, s5, List.setIfInBounds_toArray, List.set_cons_succ, List.set_cons_zero]
  clear hS hD hall hstab S hG h1 h2
  generalize xs 0 = x0 at *
  generalize xs 1 = x1 at *
  generalize xs 2 = x2 at *
  generalize xs 3 = x3 at *
  generalize xs 4 = x4 at *
  generalize xs 5 = x5 at *
  generalize xs 6 = x6 at *
  generalize xs 7 = x7 at *
  generalize xs 8 = x8 at *
  generalize xs 9 = x9 at *
  generalize xs 10 = x10 at *
  generalize xs 11 = x11 at *
  generalize xs 12 = x12 at *
  generalize xs 13 = x13 at *
  generalize xs 14 = x14 at *
  generalize xs 17 = x17 at *
  clear s5
  show wpList Tryz.prog _ _ [] _ _
  obtain ⟨-, q6⟩ := HC.out w3 HGB.out
  have HB3 : Hid (Below w.heap.size w w3) := HB2.out.thru HGB.out
  have k0 := cell_of_row _ g5 0 _ _ _ r5
  have k1 := cell_of_row _ g5 1 _ _ _ r5
  have k2 := cell_of_row _ g5 2 _ _ _ r5
  obtain ⟨f0, c0, f1, c1, f2, c2, r3⟩ := rw3 q6
  have HR3 : Hid _ := r3
  clear r3 q6 r5
  go_wp2
  exact bodyPost_ret (results_cell_row rfl _ _ (w.heap.size + 1) 115 _ _ _ rfl (HR3.out _ _ _) Tryz.underlying115 rfl (by kernel_rfl)) rfl ⟨rfl, below_row3 HB3.out (by omega) _ _ _⟩
def FgS (W : World) (g : Nat) : Prop := ∃ (b s e : Bool), W.heap[g]? = some (.cells #[.bool b, .bool s, .bool e] 90 (0, 0))
theorem FgS.below {W W' : World} {g : Nat} (h : FgS W g) (hb : Below W.heap.size W W') : FgS W' g := by obtain ⟨b, s, e, h1⟩ := h; exact ⟨b, s, e, hb.blk h1 (blk_lt h1)⟩
theorem FgS.set {W : World} {g g' : Nat} {b s e : Bool} (h : FgS W g) (h' : FgS W g') : FgS (W.setRow g' #[.bool b, .bool s, .bool e]) g := by
 by_cases hg : g = g'
 ·subst hg; obtain ⟨b', s', e', h1⟩ := h; exact ⟨_, _, _, setRow_heap W g _ _ _ _ h1⟩
 ·obtain ⟨b', s', e', h1⟩ := h; exact ⟨_, _, _, (setRow_other W g' g _ hg).trans h1⟩
theorem quo_says {V U : Int} {k n m : Nat} (hV : V = U * ((2 ^ k : Nat) : Int)) (hV0 : V ≠ 0) (hm : V.natAbs < 2 ^ m) (hm2 : m ≤ 5800) (hk : k ≤ LU) (hn : 0 < n) (hn2 : n < 2 ^ 100) :
  ∃ i u, ratioA (mkD (U * 5 ^ (LU - k)) (-((LU - k : Nat) : Int))) (mkD (n : Int) 0) 1 = ⟨bits64 (decide (V < 0)) (sumO V n), i, (sumO V n).ov, u, 0⟩ := by
 have hLU := LU_eq
 have hU0 : U ≠ 0 := by rintro rfl; rw [Int.zero_mul] at hV; exact hV0 hV
 have hUb : U.natAbs < 2 ^ m := by
  refine Nat.lt_of_le_of_lt ?_ hm
  rw [hV, Int.natAbs_mul, Int.natAbs_natCast]
  exact Nat.le_mul_of_pos_right _ (Nat.two_pow_pos _)
 obtain ⟨i, u, h⟩ := sum_ratio (N := U) (j := LU - k) (n := n) (m := m) hU0 hUb (by omega) hn hn2 (Nat.sub_le _ _)
 have e : U * 2 ^ (LU - (LU - k)) = V := by
  rw [hV, show LU - (LU - k) = k by omega]
  push_cast
  rfl
 rw [e] at h
 have hs : decide (U < 0) = decide (V < 0) := by
  rw [hV, neg_scale (by have := Nat.two_pow_pos k; omega)]
 rw [hs] at h
 exact ⟨i, u, h⟩
set_option maxHeartbeats 4000000 in
theorem quo8_v (x y : Value) (V : Int) (n m : Nat) (w : World) (h : WideI w x V) (h' : WideI w y (n : Int)) (hV0 : V ≠ 0) (hm : V.natAbs < 2 ^ m) (hm2 : m ≤ 5800) (hn : 0 < n) (hn2 : n < 2 ^ 100) (htab : Tab w) (hT : TabW w) :
  Calls Tryz.prog 45 #[x, .int .i64 (-2148), y] w fun e w' => e = .returned (.tuple #[.float .f64 (totB V n), .int .i64 (totX V n)]) ∧ Below w.heap.size w w' := by
 have hLU := LU_eq
 have HX : Hid (∀ W, Below w.heap.size w W → WideI W x V ∧ WideI W y (n : Int)) := fun W hW => ⟨h.below hW, h'.below hW⟩
 have HTR : Hid (∀ W, Below w.heap.size w W → Calls Tryz.prog 70 #[x, .int .i64 (-2148)] W (TrimQ V W)) := fun W hW => trimmed_v x V W (h.below hW) hm (by omega) (hT.below hW)
 have HTX : Hid (∀ W, Below w.heap.size w W → Calls Tryz.prog 73 #[y] W fun e w' => e = .returned (.string (bs (Lib.decDigits n))) ∧ Below W.heap.size W w') := fun W hW => by
  have hy := h'.below hW
  obtain ⟨a', m', c', rfl, hnn⟩ := hy.nat
  exact itext_any _ n W hnn hn2 (by decide) (htab.below hW)
 obtain ⟨B, hB⟩ : ∃ B, B = mkD (n : Int) 0 := ⟨_, rfl⟩
 obtain ⟨X2, hX2⟩ : ∃ X, X = madeX n 0 := ⟨_, rfl⟩
 have hBB : B = ⟨madeS false n 0, madeL n 0, madeE n 0⟩ := by rw [hB]; unfold mkD; rw [decide_eq_false (by omega), Int.natAbs_natCast]
 have HMD : Hid (∀ W, Calls Tryz.prog 72 #[.bool false, .string (bs (Lib.decDigits n)), .int .i64 0] W fun e w' => e = .returned (.tuple #[dcV B, .int .i64 X2]) ∧ Below W.heap.size W w') := fun W => by
  rw [hBB, hX2]; exact made_n false n 0 W hn2 (by decide)
 have HDE : Hid (∀ W v U (k : Nat), Below w.heap.size w W → WideI W v U → V = U * ((2 ^ k : Nat) : Int) → Calls Tryz.prog 75 #[v, .int .i64 (-((LU - k : Nat) : Int))] W fun e w' => e = .returned (dcV (mkD (U * 5 ^ (LU - k)) (-((LU - k : Nat) : Int)))) ∧ Below W.heap.size W w') := fun W v U k hW hv hVU => by
  refine decimal_v v U (LU - k) m W hv ?_ (by omega) (htab.below hW)
  refine Nat.lt_of_le_of_lt ?_ hm
  rw [hVU, Int.natAbs_mul, Int.natAbs_natCast]
  exact Nat.le_mul_of_pos_right _ (Nat.two_pow_pos _)
 obtain ⟨BT, hBT⟩ : ∃ b, b = bits64 (decide (V < 0)) (sumO V n) := ⟨_, rfl⟩
 obtain ⟨OV, hOV⟩ : ∃ b, b = (sumO V n).ov := ⟨_, rfl⟩
 have hBO : totB V n = if OV = true then 0 else BT := by unfold totB; rw [← hOV, ← hBT]
 have hXO : totX V n = if OV = true then 15 else 0 := by unfold totX; rw [← hOV]
 have HRA : Hid (∀ U (k : Nat), V = U * ((2 ^ k : Nat) : Int) → k ≤ LU → ∃ i u, ∀ W, Calls Tryz.prog 74 #[dcV (mkD (U * 5 ^ (LU - k)) (-((LU - k : Nat) : Int))), dcV B, .int .i64 1] W fun e w' => e = .returned (.tuple #[.float .f64 BT, .agg #[.bool i, .bool OV, .bool u], .int .i64 0]) ∧ Below W.heap.size W w') := fun U k hVU hk => by
  obtain ⟨i, u, hr⟩ := quo_says hVU hV0 hm hm2 hk hn hn2
  refine ⟨i, u, fun W => ?_⟩
  have l1 : ∀ d : Dc, d.ok → d.s.length ≤ 9223372036854775807 := fun d hd => by have := ok_len hd; omega
  obtain ⟨A, hA⟩ : ∃ A, A = mkD (U * 5 ^ (LU - k)) (-((LU - k : Nat) : Int)) := ⟨_, rfl⟩
  rw [← hA, ← hB, ← hBT, ← hOV] at hr
  rw [← hA]
  have := ratio_v A B 1 W (l1 A (by rw [hA]; exact mkD_ok _ _)) (l1 B (by rw [hB]; exact mkD_ok _ _))
  rw [hr] at this
  exact this
 rw [hBO, hXO]
 obtain ⟨xa, xm, xc, rfl, -⟩ := id h
 obtain ⟨ya, ym, yc, rfl, -⟩ := id h'.nat
 obtain ⟨ng, hng⟩ : ∃ b, b = decide (V < 0) := ⟨_, rfl⟩
 rw [← hng] at HX HTR ⊢
 obtain ⟨w2, hw2⟩ : ∃ W, W = (w.alloc (.cells #[.bool ng, .slice xa xm xc] 73)).alloc (.cells #[.bool false, .slice ya ym yc] 73) := ⟨_, rfl⟩
 have HB2 : Hid (Below w.heap.size w w2) := by show Below _ _ _; rw [hw2]; exact ((Below.refl _ _).alloc (Nat.le_refl _) _).alloc (by simp) _
 have q0 : w2.heap[w.heap.size]? = some (.cells #[.bool ng, .slice xa xm xc] 73 (0, 0)) := by rw [hw2]; exact (heap_alloc_old _ _ (by simp)).trans (heap_alloc_new _ _)
 have q1 : w2.heap[w.heap.size + 1]? = some (.cells #[.bool false, .slice ya ym yc] 73 (0, 0)) := by
  rw [hw2]
  have := heap_alloc_new (w.alloc (.cells #[.bool ng, .slice xa xm xc] 73)) (.cells #[.bool false, .slice ya ym yc] 73)
  rwa [show (w.alloc (.cells #[.bool ng, .slice xa xm xc] 73)).heap.size = w.heap.size + 1 by simp] at this
 have HQ1 : Hid _ := q1
 have c0 := cell_of_row _ _ 0 _ _ _ q0
 have c1 := cell_of_row _ _ 1 _ _ _ q0
 have HQ0 : Hid _ := q0
 clear h h' hV0 hm hm2 hn hn2 htab hT hB hX2 hBB hBT hOV hBO hXO hng q0 q1
 obtain ⟨db, ds, de⟩ := B
 go_enter Tryz.func45, Tryz.ntmps45
 go_upto_region 1 with fail
 rw [← hw2]
 clear hw2
 go_wp2_with fail
 (with_reducible refine (HTR.out _ HB2.out).mono ?_)
 rintro e w3 ⟨k, U, ua, um, uc, rfl, hk, hVU, hu, hb⟩
 have HB3 : Hid (Below w.heap.size w w3) := HB2.out.thru hb
 have HVU : Hid (V = U * ((2 ^ k : Nat) : Int) ∧ k ≤ LU) := ⟨hVU, hk⟩
 have HU3 : Hid (WideI w3 (.agg #[.bool (decide (U < 0)), .slice ua um uc]) U) := hu
 have q0 := hb.blk HQ0.out (blk_lt HQ0.out)
 have HQ3 : Hid _ := q0
 have HQ13 : Hid _ := hb.blk HQ1.out (blk_lt HQ1.out)
 obtain ⟨j, hj⟩ : ∃ j, j = LU - k := ⟨_, rfl⟩
 have hjk : -2148 + (k : Int) = -(j : Int) := by omega
 rw [hjk]
 have HJ : Hid (j = LU - k) := hj
 have hj0 : (j : Int) ≤ 2148 := by omega
 obtain ⟨ub, hub⟩ : ∃ b, b = decide (U < 0) := ⟨_, rfl⟩
 rw [← hub] at HU3 ⊢
 obtain ⟨f0, f1, e0, e1, f2, e2⟩ := row2 q0
 clear c0 c1 hk hVU hu hb q0 hj hjk hub
 go_upto_region 4 with fail
 obtain ⟨w4, hw4⟩ : ∃ W, W = (w3.setCell ⟨w.heap.size, 0, none⟩ (.bool ub)).setCell ⟨w.heap.size, 1, none⟩ (.slice ua um uc) := ⟨_, rfl⟩
 have q0 : w4.heap[w.heap.size]? = some (.cells #[.bool ub, .slice ua um uc] 73 (0, 0)) := by rw [hw4]; exact row2_set HQ3.out _ _
 have q1 : w4.heap[w.heap.size + 1]? = some (.cells #[.bool false, .slice ya ym yc] 73 (0, 0)) := by rw [hw4]; exact row2_other HQ13.out (by omega) _ _
 have HU4 : Hid (WideI w4 (.agg #[.bool ub, .slice ua um uc]) U) := by show WideI _ _ _; rw [hw4]; exact HU3.out.set2 HQ3.out _ _
 have HB4 : Hid (Below w.heap.size w w4) := by show Below _ _ _; rw [hw4]; exact (HB3.out.setCell (by exact Nat.le_refl _) _).setCell (by exact Nat.le_refl _) _
 rw [← hw4]
 have k0 := cell_of_row _ _ 0 _ _ _ q1
 have k1 := cell_of_row _ _ 1 _ _ _ q1
 have HQ4 : Hid _ := q0
 clear f0 f1 e0 e1 f2 e2 hw4 HU3 HB3 HQ3 HQ13 HQ1 HQ0 HTR q0 q1
 go_wp2_with fail
 (with_reducible refine (HTX.out _ HB4.out).mono ?_)
 rintro e w5 ⟨rfl, hb⟩
 have HB5 : Hid (Below w.heap.size w w5) := HB4.out.thru hb
 have HU5 : Hid (WideI w5 (.agg #[.bool ub, .slice ua um uc]) U) := HU4.out.below hb
 have HQ5 : Hid _ := hb.blk HQ4.out (blk_lt HQ4.out)
 clear hb k0 k1 HU4 HB4 HQ4
 go_wp2_with fail
 (with_reducible refine (HMD.out _).mono ?_)
 rintro e w6 ⟨rfl, hb⟩
 have HB6 : Hid (Below w.heap.size w w6) := HB5.out.thru hb
 have HU6 : Hid (WideI w6 (.agg #[.bool ub, .slice ua um uc]) U) := HU5.out.below hb
 have q0 := hb.blk HQ5.out (blk_lt HQ5.out)
 have HQ6 : Hid _ := q0
 clear hb HU5 HB5 HQ5 q0
 simp only [dcV]
 go_upto_region 5 with fail
 obtain ⟨w7, hw7⟩ : ∃ W, W = w6.alloc (.cells #[.bool db, .string (bs ds), .int .i64 de] 115) := ⟨_, rfl⟩
 obtain ⟨g8, hg8⟩ : ∃ g, g = w6.heap.size := ⟨_, rfl⟩
 have hb7 : Below w6.heap.size w6 w7 := by rw [hw7]; exact (Below.refl _ _).alloc (Nat.le_refl _) _
 have r8 : w7.heap[g8]? = some (.cells #[.bool db, .string (bs ds), .int .i64 de] 115 (0, 0)) := by rw [hw7, hg8]; exact heap_alloc_new _ _
 have q7 := hb7.blk HQ6.out (blk_lt HQ6.out)
 have HB7 : Hid (Below w.heap.size w w7) := HB6.out.thru hb7
 have HU7 : Hid (WideI w7 (.agg #[.bool ub, .slice ua um uc]) U) := HU6.out.below hb7
 rw [← hw7, ← hg8]
 have HC7 : Hid (∀ W, Below w7.heap.size w7 W → W.heap[w.heap.size]? = some (.cells #[.bool ub, .slice ua um uc] 73 (0, 0)) ∧ W.heap[g8]? = some (.cells #[.bool db, .string (bs ds), .int .i64 de] 115 (0, 0))) := fun W hW => ⟨hW.blk q7 (blk_lt q7), hW.blk r8 (blk_lt r8)⟩
 obtain ⟨A, hA⟩ : ∃ A, A = mkD (U * 5 ^ j) (-(j : Int)) := ⟨_, rfl⟩
 have HDA : Hid (∀ W, Below w7.heap.size w7 W → Calls Tryz.prog 75 #[.agg #[.bool ub, .slice ua um uc], .int .i64 (-(j : Int))] W fun e w' => e = .returned (dcV A) ∧ Below W.heap.size W w') := fun W hW => by
  have := HDE.out W _ U k (HB7.out.thru hW) (HU7.out.below hW) HVU.out.1
  rw [← HJ.out, ← hA] at this
  exact this
 obtain ⟨fi, fu, hra⟩ := HRA.out U k HVU.out.1 HVU.out.2
 rw [← HJ.out, ← hA] at hra
 have HRB : Hid (∀ W, Calls Tryz.prog 74 #[dcV A, dcV ⟨db, ds, de⟩, .int .i64 1] W fun e w' => e = .returned (.tuple #[.float .f64 BT, .agg #[.bool fi, .bool OV, .bool fu], .int .i64 0]) ∧ Below W.heap.size W w') := hra
 clear hra hA hb7 hw7 hg8 q7 r8 HDE HRA HU6 HB6 HQ6 HU7 HJ HVU HMD HTX HX HB2
 obtain ⟨ab, az, ae⟩ := A
 have HRC : Hid (∀ W, Calls Tryz.prog 74 #[.agg #[.bool ab, .string (bs az), .int .i64 ae], .agg #[.bool db, .string (bs ds), .int .i64 de], .int .i64 1] W fun e w' => e = .returned (.tuple #[.float .f64 BT, .agg #[.bool fi, .bool OV, .bool fu], .int .i64 0]) ∧ Below W.heap.size W w') := HRB.out
 have h1 : once [(31, 0), (32, 1), (33, 2), (34, 3), (35, 4), (30, 5), (36, 6), (37, 7), (38, 8), (11, 9), (10, 10), (12, 12)] = true := by kernel_rfl
 have h2 : within [(31, 0), (32, 1), (33, 2), (34, 3), (35, 4), (30, 5), (36, 6), (37, 7), (38, 8), (11, 9), (10, 10), (12, 12)] 47 = true := by kernel_rfl
 let S : Nat → (Nat → Value) → World → Prop := fun i xs W => match i with
  | 0 => xs 0 = .agg #[.bool ub, .slice ua um uc]
  | 1 => xs 1 = .int .i64 (-(j : Int))
  | 2 => xs 2 = .agg #[.bool ab, .string (bs az), .int .i64 ae]
  | 3 => xs 3 = .agg #[.bool db, .string (bs ds), .int .i64 de]
  | 4 => xs 4 = .tuple #[.float .f64 BT, .agg #[.bool fi, .bool OV, .bool fu], .int .i64 0]
  | 5 => xs 5 = .tuple #[.float .f64 BT, .agg #[.bool fi, .bool OV, .bool fu], .int .i64 0]
  | 6 => xs 6 = .float .f64 BT
  | 7 => xs 7 = .agg #[.bool fi, .bool OV, .bool fu]
  | 8 => xs 8 = .int .i64 0
  | 9 => ∃ g, (xs 9) = .pointer (some ⟨g, 0, none⟩) ∧ w7.heap.size ≤ g ∧ g < W.heap.size ∧ FgS W g
  | 10 => xs 10 = .float .f64 BT
  | 11 => ∃ g, xs 9 = .pointer (some ⟨g, 0, none⟩) ∧ w7.heap.size ≤ g ∧ W.heap[g]? = some (.cells #[.bool fi, .bool OV, .bool fu] 90 (0, 0))
  | 12 => xs 12 = .int .i64 0
  | _ => True
 have hstab : ∀ j ys W W', S j ys W → Below W.heap.size W W' → S j ys W' := by
  intro j ys W W' h hb
  match j, h with
  | 0, h => exact h
  | 1, h => exact h
  | 2, h => exact h
  | 3, h => exact h
  | 4, h => exact h
  | 5, h => exact h
  | 6, h => exact h
  | 7, h => exact h
  | 8, h => exact h
  | 9, ⟨g, s1, s2, s3, s4⟩ => exact ⟨g, s1, s2, Nat.lt_of_lt_of_le s3 hb.size, s4.below hb⟩
  | 10, h => exact h
  | 11, ⟨g, s1, s2, s4⟩ => exact ⟨g, s1, s2, hb.blk s4 (blk_lt s4)⟩
  | 12, h => exact h
  | _ + 13, h => exact trivial
 refine wp_region_flow3T 13 13 4 [(31, 0), (32, 1), (33, 2), (34, 3), (35, 4), (30, 5), (36, 6), (37, 7), (38, 8), (11, 9), (10, 10), (12, 12)] [9] S (fun _ W => Below w7.heap.size w7 W) ((Below.refl _ _).drew) (by kernel_rfl) (by kernel_rfl) (by kernel_rfl) (by decide) (by kernel_rfl) h1 (by kernel_rfl) ?_ ?_ ?_ ?_
 ·intro j hj xs W h
  simp only [List.mem_cons, List.not_mem_nil, or_false] at hj
  rcases hj with rfl
  ·obtain ⟨g, s1, s2, s3, s4⟩ := h; exact ⟨g, s1, s3⟩
 ·intro j xs ys W e h
  match j, e, h with
  | 0, e, h => exact c_ (e 0 (.inl rfl)) h
  | 1, e, h => exact c_ (e 1 (.inl rfl)) h
  | 2, e, h => exact c_ (e 2 (.inl rfl)) h
  | 3, e, h => exact c_ (e 3 (.inl rfl)) h
  | 4, e, h => exact c_ (e 4 (.inl rfl)) h
  | 5, e, h => exact c_ (e 5 (.inl rfl)) h
  | 6, e, h => exact c_ (e 6 (.inl rfl)) h
  | 7, e, h => exact c_ (e 7 (.inl rfl)) h
  | 8, e, h => exact c_ (e 8 (.inl rfl)) h
  | 9, e, ⟨g, s1, r⟩ => exact ⟨g, (e 9 (.inl rfl)).symm.trans s1, r⟩
  | 10, e, h => exact c_ (e 10 (.inl rfl)) h
  | 11, e, ⟨g, s1, r⟩ => exact ⟨g, (e 9 (.inr (by kernel_rfl))).symm.trans s1, r⟩
  | 12, e, h => exact c_ (e 12 (.inl rfl)) h
  | _ + 13, e, h => exact trivial
 ·refine ⟨⟨⟨⟨⟨⟨⟨⟨⟨⟨⟨⟨⟨trivial, ?_⟩, ?_⟩, ?_⟩, ?_⟩, ?_⟩, ?_⟩, ?_⟩, ?_⟩, ?_⟩, ?_⟩, ?_⟩, ?_⟩, ?_⟩
  ·refine flow3_step _ (some 31) rfl rfl rfl h1 h2 gI gB hstab fun ac xs W Dn he hni hG hS K hK => ?_
   exact wp_load_row 73 (.tmp 3) rfl w.heap.size (he 3) _ _ _ _ ((HC7.out W hG).1) Tryz.underlying73 rfl (by kernel_rfl) (hK _ _ rfl bR (fun h => absurd h (by decide)))
  ·refine flow3_step _ (some 32) rfl rfl rfl h1 h2 gI gB hstab fun ac xs W Dn he hni hG hS K hK => ?_
   exact op_move (.tmp 1) (.inl rfl) (hK _ _ (he 1) bR (fun h => absurd h (by decide)))
  ·refine flow3_step _ (some 33) rfl rfl rfl h1 h2 gI gB hstab fun ac xs W Dn he hni hG hS K hK => ?_
   have e0 := (he 31).trans (hS 0 (by kernel_rfl))
   have e1 := (he 32).trans (hS 1 (by kernel_rfl))
   refine op_call 75 _ _ rfl _ (by simp only [List.map, e0, e1]) (by go_simp) (HDA.out W hG) ?_
   rintro e' W' ⟨rfl, hb'⟩
   exact ⟨_, rfl, hK _ _ (rfl) hb' (fun h => absurd h (by decide))⟩
  ·refine flow3_step _ (some 34) rfl rfl rfl h1 h2 gI gB hstab fun ac xs W Dn he hni hG hS K hK => ?_
   exact wp_load_row 115 (.tmp 8) rfl g8 (he 8) _ _ _ _ ((HC7.out W hG).2) Tryz.underlying115 rfl (by kernel_rfl) (hK _ _ rfl bR (fun h => absurd h (by decide)))
  ·refine flow3_step _ (some 35) rfl rfl rfl h1 h2 gI gB hstab fun ac xs W Dn he hni hG hS K hK => ?_
   have e0 := (he 33).trans (hS 2 (by kernel_rfl))
   have e1 := (he 34).trans (hS 3 (by kernel_rfl))
   refine op_call 74 _ _ rfl _ (by simp only [List.map, eval_const, e0, e1]) (by go_simp) (HRC.out W) ?_
   rintro e' W' ⟨rfl, hb'⟩
   exact ⟨_, rfl, hK _ _ (rfl) hb' (fun h => absurd h (by decide))⟩
  ·refine flow3_step _ (some 30) rfl rfl rfl h1 h2 gI gB hstab fun ac xs W Dn he hni hG hS K hK => ?_
   exact op_move (.tmp 35) (.inl rfl) (hK _ _ ((he 35).trans (hS 4 (by kernel_rfl))) bR (fun h => absurd h (by decide)))
  ·refine flow3_step _ (some 36) rfl rfl rfl h1 h2 gI gB hstab fun ac xs W Dn he hni hG hS K hK => ?_
   have e0 := (he 30).trans (hS 5 (by kernel_rfl))
   refine op_any (.extract (.tmp 30) 0) rfl (.float .f64 BT) (fun o' ho' => ?_) (hK _ _ rfl bR (fun h => absurd h (by decide)))
   simp only [execOp, ho', e0]
   go_simp
  ·refine flow3_step _ (some 37) rfl rfl rfl h1 h2 gI gB hstab fun ac xs W Dn he hni hG hS K hK => ?_
   have e0 := (he 30).trans (hS 5 (by kernel_rfl))
   refine op_any (.extract (.tmp 30) 1) rfl (.agg #[.bool fi, .bool OV, .bool fu]) (fun o' ho' => ?_) (hK _ _ rfl bR (fun h => absurd h (by decide)))
   simp only [execOp, ho', e0]
   go_simp
  ·refine flow3_step _ (some 38) rfl rfl rfl h1 h2 gI gB hstab fun ac xs W Dn he hni hG hS K hK => ?_
   have e0 := (he 30).trans (hS 5 (by kernel_rfl))
   refine op_any (.extract (.tmp 30) 2) rfl (.int .i64 0) (fun o' ho' => ?_) (hK _ _ rfl bR (fun h => absurd h (by decide)))
   simp only [execOp, ho', e0]
   go_simp
  ·refine flow3_step _ (some 11) rfl rfl rfl h1 h2 gI gB hstab fun ac xs W Dn he hni hG hS K hK => ?_
   have hsz := hG.size
   refine op_anyw (.alloc 90) rfl (.pointer (some ⟨W.heap.size, 0, none⟩)) (W.alloc (.cells #[.bool false, .bool false, .bool false] 90)) ?_ ?_
   ·intro o' ho'
    simp only [execOp, ho']
    go_simp
   ·exact hK _ _ ⟨_, rfl, by omega, by simp, ⟨_, _, _, heap_alloc_new _ _⟩⟩ (bR.alloc (Nat.le_refl _) _) (fun _ => rfl)
  ·refine flow3_step _ (some 10) rfl rfl rfl h1 h2 gI gB hstab fun ac xs W Dn he hni hG hS K hK => ?_
   exact op_move (.tmp 36) (.inr rfl) (hK _ _ ((he 36).trans (hS 6 (by kernel_rfl))) bR (fun h => absurd h (by decide)))
  ·refine flow3_store _ rfl rfl rfl h1 h2 (by decide) fun ac xs W Dn he hni hG hS K hK => ?_
   obtain ⟨g, s1, s2, s3, s4⟩ := hS 9 (by kernel_rfl)
   obtain ⟨x1, x2, x3, s5⟩ := id s4
   refine wp_store_row 90 (.tmp 11) (.tmp 37) rfl g #[.bool fi, .bool OV, .bool fu] ((he 11).trans s1) ((he 37).trans (hS 7 (by kernel_rfl))) _ _ s5 (by kernel_rfl) rfl (by simp [Value.oneCell']) ?_
   have hself0 := setRow_heap W g _ #[.bool fi, .bool OV, .bool fu] _ _ s5
   have hself : ∃ g', xs 9 = .pointer (some ⟨g', 0, none⟩) ∧ w7.heap.size ≤ g' ∧ (W.setRow g #[.bool fi, .bool OV, .bool fu]).heap[g']? = some (.cells #[.bool fi, .bool OV, .bool fu] 90 (0, 0)) := ⟨g, s1, s2, hself0⟩
   have hG2 : Below w7.heap.size w7 (W.setRow g #[.bool fi, .bool OV, .bool fu]) := below_setRow hG s2 _
   refine hK _ hself hG2 ?_
   intro j ys h
   match j, h with
   | 0, h => exact h
   | 1, h => exact h
   | 2, h => exact h
   | 3, h => exact h
   | 4, h => exact h
   | 5, h => exact h
   | 6, h => exact h
   | 7, h => exact h
   | 8, h => exact h
   | 9, ⟨g1, u1, u2, u3, u4⟩ => exact ⟨g1, u1, u2, by rw [Go.Proofs.YtlffojopfilfeaaGreatDoor.setRow_size]; exact u3, u4.set s4⟩
   | 10, h => exact h
   | 11, ⟨g1, u1, u2, u4⟩ => exact ⟨g1, u1, u2, row_stay u4⟩
   | 12, h => exact h
   | _ + 13, h => exact trivial
  ·refine flow3_step _ (some 12) rfl rfl rfl h1 h2 gI gB hstab fun ac xs W Dn he hni hG hS K hK => ?_
   exact op_move (.tmp 38) (.inr rfl) (hK _ _ ((he 38).trans (hS 8 (by kernel_rfl))) bR (fun h => absurd h (by decide)))
 ·intro xs w8 Dn hall hG hS hD
  have s10 : xs 10 = _ := hS 10 (by decide)
  have s12 : xs 12 = _ := hS 12 (by decide)
  obtain ⟨g11, s11, hg11, r11⟩ := hS 11 (by decide)
  have HGB : Hid (Below w7.heap.size w7 w8) := hG
  simp only [layAll, s10, s12, s11, List.setIfInBounds_toArray, List.set_cons_succ, List.set_cons_zero]
  clear hS hD hall hstab S hG h1 h2
  generalize xs 0 = x0 at *
  generalize xs 1 = x1 at *
  generalize xs 2 = x2 at *
  generalize xs 3 = x3 at *
  generalize xs 4 = x4 at *
  generalize xs 5 = x5 at *
  generalize xs 6 = x6 at *
  generalize xs 7 = x7 at *
  generalize xs 8 = x8 at *
  clear s10 s12 s11
  show wpList Tryz.prog _ _ [] _ _
  have HB8 : Hid (Below w.heap.size w w8) := HB7.out.thru HGB.out
  have k1 := cell_of_row _ g11 1 _ _ _ r11
  clear r11 hg11
  cases OV
  ·go_wp2
   exact bodyPost_ret (results_tmp2 rfl _ _ _) rfl ⟨rfl, HB8.out⟩
  ·go_wp2
   exact bodyPost_ret (results_tmp2 rfl _ _ _) rfl ⟨rfl, HB8.out⟩
end Go.Proofs.YtlffojopfilfeaaGreatDoor
