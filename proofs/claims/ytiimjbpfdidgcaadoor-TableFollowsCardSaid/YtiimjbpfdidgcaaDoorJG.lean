/- Parts Yd of the proof, in one text. -/
import Derived.Test.YtiimjbpfdidgcaaDoorJF
import Derived.Deep.DeepCutAuto

/- Walks: the law TableFollows. -/
namespace Go.Proofs.YtiimjbpfdidgcaaDoor
open Go.RowKit

set_option maxHeartbeats 4000000 in
set_option maxRecDepth 100000 in
theorem law_follows (a b : Nat) (w : World) (ha0 : W64 a) (hb0 : W64 b) (hT : Tab9 w 1 totZ) (hQ : Tab9 w 4 quoZ) (hP : Tab9 w 2 prodZ) (hE : Tab9 w 3 restZ) :
    Calls Tryd.prog 7 #[.int .u64 (a : Nat), .int .u64 (b : Nat)] w fun e w' => e = .returned (.bool true) ∧ Below w.heap.size w w' := by
  have HAW : Hid (Calls Tryd.prog 8 #[] w fun e w' => e = .returned (.bool true) ∧ Below w.heap.size w w') := awake7_any w hT hQ
  obtain ⟨x, hx⟩ : ∃ x, x = oneB a := ⟨_, rfl⟩
  obtain ⟨y, hy⟩ : ∃ y, y = oneB b := ⟨_, rfl⟩
  have ha : W64 x := by rw [hx]; exact one_W a ha0
  have hb : W64 y := by rw [hy]; exact one_W b hb0
  have HO1 : Hid (∀ W, Calls Tryd.prog 29 #[.int .u64 (a : Nat)] W fun e w' => e = .returned (.int .u64 (x : Nat)) ∧ W = w') := fun W => by rw [hx]; exact ref_one a W ha0
  have HO2 : Hid (∀ W, Calls Tryd.prog 29 #[.int .u64 (b : Nat)] W fun e w' => e = .returned (.int .u64 (y : Nat)) ∧ W = w') := fun W => by rw [hy]; exact ref_one b W hb0
  clear hx hy ha0 hb0
  obtain ⟨R, hR⟩ := addR x y ha hb
  obtain ⟨S, hS⟩ := addR x (negR y) ha (negR_W y hb)
  obtain ⟨Z, hZ⟩ := mulR x y ha hb
  obtain ⟨Q, hQQ⟩ := mulR x x ha ha
  obtain ⟨r, V, hV⟩ := lmod_ex x y
  have hz : W64 (mulB x x Q) := mulB_W x x Q
  obtain ⟨U, hU⟩ := lroot_ex (mulB x x Q) hz
  have hnz : W64 9223372036854775808 := by unfold W64; decide
  have hone : W64 4607182418800017408 := by unfold W64; decide
  obtain ⟨s1, hs1⟩ : ∃ s, s = addB x y R := ⟨_, rfl⟩
  obtain ⟨s2, hs2⟩ : ∃ s, s = addX x y R := ⟨_, rfl⟩
  obtain ⟨p1, hp1⟩ : ∃ s, s = mulB x y Z := ⟨_, rfl⟩
  obtain ⟨p2, hp2⟩ : ∃ s, s = mulX x y Z := ⟨_, rfl⟩
  obtain ⟨d1, hd1⟩ : ∃ s, s = addB x (negR y) S := ⟨_, rfl⟩
  obtain ⟨d2, hd2⟩ : ∃ s, s = addX x (negR y) S := ⟨_, rfl⟩
  obtain ⟨m1, hm1⟩ : ∃ s, s = mdB x y r V := ⟨_, rfl⟩
  obtain ⟨m2, hm2⟩ : ∃ s, s = mdX x y := ⟨_, rfl⟩
  obtain ⟨z1, hz1⟩ : ∃ s, s = mulB x x Q := ⟨_, rfl⟩
  obtain ⟨z2, hz2⟩ : ∃ s, s = mulX x x Q := ⟨_, rfl⟩
  have H1 : Hid (∀ W, Below w.heap.size w W → Calls Tryd.prog 19 #[.float .f64 x, .float .f64 y] W fun e w' => e = .returned (.tuple #[.float .f64 s1, .int .i64 s2]) ∧ Below W.heap.size W w') := fun W hW => by rw [hs1, hs2]; exact tadd_any x y R W ha hb (hT.below (Nat.le_refl _) hW) hR
  have H1b : Hid (∀ W, Below w.heap.size w W → Calls Tryd.prog 19 #[.float .f64 y, .float .f64 x] W fun e w' => e = .returned (.tuple #[.float .f64 s1, .int .i64 s2]) ∧ Below W.heap.size W w') := fun W hW => by
    have h := addB_comm x y R ha hb
    rw [hs1, hs2, ← h.1, ← h.2]; exact tadd_any y x R W hb ha (hT.below (Nat.le_refl _) hW) (fun h1 h2 => by rw [Int.add_comm]; exact hR h2 h1)
  have H2 : Hid (∀ W, Below w.heap.size w W → Calls Tryd.prog 23 #[.float .f64 x, .float .f64 y] W fun e w' => e = .returned (.tuple #[.float .f64 p1, .int .i64 p2]) ∧ Below W.heap.size W w') := fun W hW => by rw [hp1, hp2]; exact tmul_any x y Z W ha hb (hP.below (Nat.le_refl _) hW) hZ
  have H2b : Hid (∀ W, Below w.heap.size w W → Calls Tryd.prog 23 #[.float .f64 y, .float .f64 x] W fun e w' => e = .returned (.tuple #[.float .f64 p1, .int .i64 p2]) ∧ Below W.heap.size W w') := fun W hW => by
    have h := mulB_comm x y Z
    rw [hp1, hp2, ← h.1, ← h.2]; exact tmul_any y x Z W hb ha (hP.below (Nat.le_refl _) hW) (fun h1 h2 => by rw [Nat.mul_comm]; exact hZ h2 h1)
  have H3 : Hid (∀ W, Calls Tryd.prog 13 #[.float .f64 x, .float .f64 4607182418800017408, .float .f64 y] W fun e w' => e = .returned (.tuple #[.float .f64 s1, .int .i64 s2]) ∧ Below W.heap.size W w') := fun W => by
    have h := fus_one x y R ha
    rw [hs1, hs2, ← h.1, ← h.2]; exact tfused_any x 4607182418800017408 y R W ha hone hb (fun hf => near_one x y R (by unfold fusFin at hf; simp at hf; exact hR hf.1.1 hf.2))
  have H4 : Hid (∀ W, Calls Tryd.prog 13 #[.float .f64 x, .float .f64 y, .float .f64 9223372036854775808] W fun e w' => e = .returned (.tuple #[.float .f64 p1, .int .i64 p2]) ∧ Below W.heap.size W w') := fun W => by
    have h := fus_nought x y Z
    rw [hp1, hp2, ← h.1, ← h.2]; exact tfused_any x y 9223372036854775808 Z W ha hb hnz (fun hf => near_nought x y Z (by unfold fusFin at hf; simp at hf; exact hZ hf.1.1 hf.1.2))
  have H4b : Hid (∀ W, Calls Tryd.prog 13 #[.float .f64 y, .float .f64 x, .float .f64 9223372036854775808] W fun e w' => e = .returned (.tuple #[.float .f64 p1, .int .i64 p2]) ∧ Below W.heap.size W w') := fun W => by
    have h := fus_nought y x Z
    have h' := mulB_comm x y Z
    rw [hp1, hp2, ← h'.1, ← h'.2, ← h.1, ← h.2]; exact tfused_any y x 9223372036854775808 Z W hb ha hnz (fun hf => near_nought y x Z (by unfold fusFin at hf; simp at hf; rw [Nat.mul_comm]; exact hZ hf.1.2 hf.1.1))
  have HCS : Hid (∀ W, Calls Tryd.prog 31 #[.float .f64 0, .float .f64 13830554455654793216] W fun e w' => e = .returned (.float .f64 9223372036854775808) ∧ W = w') := fun W => copysign_any 0 13830554455654793216 W (by unfold W64; decide) (by unfold W64; decide)
  have HSU : Hid (∀ W, Below w.heap.size w W → Calls Tryd.prog 21 #[.float .f64 x, .float .f64 y] W fun e w' => e = .returned (.tuple #[.float .f64 d1, .int .i64 d2]) ∧ Below W.heap.size W w') := fun W hW => by rw [hd1, hd2]; exact tsub_any x y S W ha hb (hT.below (Nat.le_refl _) hW) hS
  have HMO : Hid (∀ W, Below w.heap.size w W → Calls Tryd.prog 37 #[.float .f64 x, .float .f64 y] W fun e w' => e = .returned (.tuple #[.float .f64 m1, .int .i64 m2]) ∧ Below W.heap.size W w') := fun W hW => by rw [hm1, hm2]; exact tmod_any x y r V W ha hb (hE.below (Nat.le_refl _) hW) hV
  have HSQ : Hid (∀ W, Below w.heap.size w W → Calls Tryd.prog 23 #[.float .f64 x, .float .f64 x] W fun e w' => e = .returned (.tuple #[.float .f64 z1, .int .i64 z2]) ∧ Below W.heap.size W w') := fun W hW => by rw [hz1, hz2]; exact tmul_any x x Q W ha ha (hP.below (Nat.le_refl _) hW) hQQ
  have HIS : Hid (∀ c W, Calls Tryd.prog 12 #[.float .f64 c, .int .u64 (c : Nat)] W fun e w' => e = .returned (.bool true) ∧ W = w') := fun c W => by have := is7_any c c W; simpa using this
  have HFAC : Hid (finB x = true → finB y = true → (∃ (q : Nat) (g : Nat) (l : Int),
      (∀ W, Tab9 W 1 totZ → Calls Tryd.prog 27 #[.float .f64 x, .float .f64 y] W fun e w' => e = .returned (.tuple #[.float .f64 g, .float .f64 q, .int .i64 l]) ∧ Below W.heap.size W w') ∧
      (l = 15 ∨ l = 0 ∧ g = s1 ∧ W64 g ∧ finB g = true ∧ W64 q ∧ finB q = true ∧ valB q = valB x + valB y - valB g)) ∧
    (NearL x y → d2 = 0 ∧ W64 d1 ∧ finB d1 = true ∧ valB d1 = valB x - valB y) ∧
    (zeroB y = false → m2 = 0 ∧ W64 m1 ∧ finB m1 = true ∧ ∃ t, t ≤ rv 52 (absB y) ∧ valB m1 = sg (sgnB y) t) ∧
    (W64 z1 ∧ z1 < 9218868437227405312 ∧ (z2 = 0 → 4503599627370496 ≤ z1 → 4503599627370496 ≤ absB x → ∀ W, Calls Tryd.prog 38 #[.float .f64 z1] W fun e w' => e = .returned (.tuple #[.float .f64 (absB x), .int .i64 0]) ∧ Below W.heap.size W w'))) := fun fx fy => by
    obtain ⟨nf, nv⟩ := neg_val y fy
    refine ⟨?_, ?_, ?_, ?_⟩
    · rw [hs1]; exact split_ex x y R ha hb fx fy (hR fx fy)
    · rintro ⟨h1, hx, hy, g1, g2, g3, g4⟩
      obtain ⟨k1, k2⟩ := near_sub x y hx hy S fx fy h1 g1 g2 g3 g4 (hS fx nf) nv
      obtain ⟨j1, j2, j3, j4⟩ := add_exact x (negR y) S fx nf (hS fx nf) k1 (by rw [k2, nv, Int.sub_eq_add_neg])
      rw [hd1, hd2]
      exact ⟨j4, j1, j2, by rw [j3, nv, Int.sub_eq_add_neg]⟩
    · intro zy
      obtain ⟨j1, j2, j3, j4⟩ := mod_between x y r V fx fy zy (hV fx fy zy)
      rw [hm1, hm2]
      exact ⟨j3, j1, j2, j4⟩
    · obtain ⟨j1, j2⟩ := sqr_root x Q U fx (hQQ fx fx) hU
      rw [hz1, hz2]
      refine ⟨hz, j1, fun h1 h2 h3 W => ?_⟩
      have := troot_any (mulB x x Q) U W hz hU
      rwa [(j2 h1 h2 h3).1, (j2 h1 h2 h3).2] at this
  have HTT : Hid (∀ W, Below w.heap.size w W → Tab9 W 1 totZ) := fun W hW => hT.below (Nat.le_refl _) hW
  have HX : Hid (W64 x) := ha
  have HY : Hid (W64 y) := hb
  clear hR hS hZ hQQ hV hz hU hnz hone hs1 hs2 hp1 hp2 hd1 hd2 hm1 hm2 hz1 hz2 hT hQ hP hE ha hb
  go_enter Tryd.func7, Tryd.ntmps7
  go_wp2_with fail
  refine HAW.out.mono ?_
  rintro e w1 ⟨rfl, hb1⟩
  clear HAW
  go_wp2_with (first | (go_at_call 29; with_reducible refine (HO1.out _).mono ?_; rintro e w' ⟨rfl, rfl⟩) | (go_at_call 29; with_reducible refine (HO2.out _).mono ?_; rintro e w' ⟨rfl, rfl⟩))
  refine (H1.out _ hb1).mono ?_
  rintro e w2 ⟨rfl, hb2⟩
  have c2 := hb1.thru hb2
  go_wp2_with fail
  refine (H1b.out _ c2).mono ?_
  rintro e w3 ⟨rfl, hb3⟩
  have c3 := c2.thru hb3
  go_wp2_with fail
  refine (H2.out _ c3).mono ?_
  rintro e w4 ⟨rfl, hb4⟩
  have c4 := c3.thru hb4
  go_wp2_with fail
  refine (H2b.out _ c4).mono ?_
  rintro e w5 ⟨rfl, hb5⟩
  have c5 := c4.thru hb5
  clear hb1 hb2 hb3 hb4 hb5 c2 c3 c4
  go_wp2_with (go_at_call 12; with_reducible refine (HIS.out _ _).mono ?_; rintro e w' ⟨rfl, rfl⟩)
  refine (H3.out _).mono ?_
  rintro e w6 ⟨rfl, hb6⟩
  have c6 := c5.thru hb6
  go_wp2_with (go_at_call 31; with_reducible refine (HCS.out _).mono ?_; rintro e w' ⟨rfl, rfl⟩)
  refine (H4.out _).mono ?_
  rintro e w7 ⟨rfl, hb7⟩
  have c7 := c6.thru hb7
  go_wp2_with (go_at_call 31; with_reducible refine (HCS.out _).mono ?_; rintro e w' ⟨rfl, rfl⟩)
  refine (H4b.out _).mono ?_
  rintro e w8 ⟨rfl, hb8⟩
  have c8 := c7.thru hb8
  clear hb6 hb7 hb8 c5 c6 c7 H1 H1b H2 H2b H3 H4 H4b HCS HO1 HO2
  go_wp2_with (go_at_call 12; with_reducible refine (HIS.out _ _).mono ?_; rintro e w' ⟨rfl, rfl⟩)
  have B8 : Hid (Below w.heap.size w w8) := c8
  clear c8
  cases fx : finB x
  · clear HFAC HSU HMO HSQ HTT
    refine (exact_not x _ HX.out fx).mono ?_
    rintro e w9 ⟨n1, E1, a1, k1, c1, rfl, hb9⟩
    go_wp2_with fail
    refine (exact_any y _ HY.out).mono ?_
    rintro e w10 ⟨n2, s, E2, rfl, ⟨a2, k2, c2, rfl⟩, -, hb10⟩
    go_wp2_with fail
    refine (tsplit_not x y _ HX.out HY.out (by rw [fx]; rfl)).mono ?_
    rintro e w11 ⟨rfl, rfl⟩
    go_wp2_with fail
    go_ret
    exact ⟨rfl, B8.out.thru (((hb9.alloc hb9.size _).trans (hb10.mono (by have := hb9.size; simp; omega))).alloc (by have := hb9.size; have := hb10.size; simp at this; omega) _)⟩
  cases fy : finB y
  · clear HFAC HSU HMO HSQ HTT
    refine (exact_any x _ HX.out).mono ?_
    rintro e w9 ⟨n1, s, E1, rfl, ⟨a1, k1, c1, rfl⟩, -, hb9⟩
    rw [fx]
    go_wp2_with fail
    refine (exact_not y _ HY.out fy).mono ?_
    rintro e w10 ⟨n2, E2, a2, k2, c2, rfl, hb10⟩
    go_wp2_with fail
    refine (tsplit_not x y _ HX.out HY.out (by rw [fy, Bool.and_false])).mono ?_
    rintro e w11 ⟨rfl, rfl⟩
    go_wp2_with fail
    go_ret
    exact ⟨rfl, B8.out.thru (((hb9.alloc hb9.size _).trans (hb10.mono (by have := hb9.size; simp; omega))).alloc (by have := hb9.size; have := hb10.size; simp at this; omega) _)⟩
  obtain ⟨⟨q1, g1, l1, HSP, HL⟩, HNR, HMD, HRT⟩ := HFAC.out fx fy
  clear HFAC
  obtain ⟨nx, ex, mx, HEX, hcx⟩ := exact_fin x HX.out fx
  obtain ⟨ny, ey, my, HEY, hcy⟩ := exact_fin y HY.out fy
  have HCX : Hid _ := hcx
  have HCY : Hid _ := hcy
  have HEXF : Hid (ExF x nx ex mx) := HEX
  have HEYF : Hid (ExF y ny ey my) := HEY
  have HSPL : Hid _ := HSP
  have HLL : Hid _ := HL
  have HNRR : Hid _ := HNR
  have HMDD : Hid _ := HMD
  have HRTT : Hid _ := HRT
  have FX : Hid (finB x = true) := fx
  have FY : Hid (finB y = true) := fy
  clear hcx hcy HEX HEY HSP HL HNR HMD HRT fx fy
  refine (HCX.out _).mono ?_
  rintro e w9 ⟨a1, k1, c1, rfl, hn1, hb9⟩
  go_wp2_with fail
  refine (HCY.out _).mono ?_
  rintro e w10 ⟨a2, k2, c2, rfl, hn2, hb10⟩
  go_wp2_with fail
  have hr1 : w10.heap[w9.heap.size]? = some (.cells #[.bool nx, .slice a1 k1 c1, .int .i64 ex] 48 (0, 0)) := hb10.blk (heap_alloc_new w9 _) (by simp)
  have hb10w : Below w.heap.size w w10 := B8.out.thru ((hb9.alloc hb9.size _).trans (hb10.mono (by have := hb9.size; simp; omega)))
  have hs9 : w9.heap.size < w10.heap.size := by have := hb10.size; simp at this; omega
  have hn1' : Num .u32 4294967296 w10 (.slice a1 k1 c1) mx := (hn1.below (Nat.le_refl _) ((Below.refl w9.heap.size w9).alloc (Nat.le_refl _) _)).below (Nat.le_refl _) hb10
  have hba : Below w10.heap.size w10 (w10.alloc (.cells #[.bool ny, .slice a2 k2 c2, .int .i64 ey] 48)) := (Below.refl _ _).alloc (Nat.le_refl _) _
  have hr2 := heap_alloc_new w10 (.cells #[.bool ny, .slice a2 k2 c2, .int .i64 ey] 48)
  have hr1a := hba.blk hr1 hs9
  have hn1a := hn1'.below (Nat.le_refl _) hba
  have hn2a := hn2.below (Nat.le_refl _) hba
  have hb11 : Below w.heap.size w (w10.alloc (.cells #[.bool ny, .slice a2 k2 c2, .int .i64 ey] 48)) := hb10w.thru hba
  have hs11 : w10.heap.size < (w10.alloc (.cells #[.bool ny, .slice a2 k2 c2, .int .i64 ey] 48)).heap.size := by simp
  generalize w10.alloc (.cells #[.bool ny, .slice a2 k2 c2, .int .i64 ey] 48) = w11 at *
  refine (HSPL.out _ (HTT.out _ hb11)).mono ?_
  rintro e w12 ⟨rfl, hb12⟩
  generalize hg1 : w9.heap.size = u1 at *
  generalize hg2 : w10.heap.size = u2 at *
  have R1 : Hid (∀ W, Below w12.heap.size w12 W → W.heap[u1]? = some (.cells #[.bool nx, .slice a1 k1 c1, .int .i64 ex] 48 (0, 0)) ∧ Num .u32 4294967296 W (.slice a1 k1 c1) mx ∧ u1 < W.heap.size) := fun W hW =>
    ⟨hW.blk (hb12.blk hr1a (by omega)) (by have := hb12.size; omega), (hn1a.below (Nat.le_refl _) hb12).below (Nat.le_refl _) hW, by have := hb12.size; have := hW.size; omega⟩
  have R2 : Hid (∀ W, Below w12.heap.size w12 W → W.heap[u2]? = some (.cells #[.bool ny, .slice a2 k2 c2, .int .i64 ey] 48 (0, 0)) ∧ Num .u32 4294967296 W (.slice a2 k2 c2) my ∧ u2 < W.heap.size) := fun W hW =>
    ⟨hW.blk (hb12.blk hr2 (by omega)) (by have := hb12.size; omega), (hn2a.below (Nat.le_refl _) hb12).below (Nat.le_refl _) hW, by have := hb12.size; have := hW.size; omega⟩
  have B12 : Hid (Below w.heap.size w w12) := hb11.thru hb12
  clear hn1 hn2 hb9 hb10 hr1 hb10w hs9 hn1' hba hr2 hr1a hn1a hn2a hb11 hs11 hb12 HCX HCY HTT HSPL B8 hg1 hg2
  go_upto_if 179 with fail
  refine wp_cut333 (fun fr wx => fr.getD 6 undef = .float .f64 x ∧ fr.getD 7 undef = .float .f64 y ∧ fr.getD 22 undef = .pointer (some ⟨u1, 0, none⟩) ∧ fr.getD 24 undef = .pointer (some ⟨u2, 0, none⟩) ∧ Below w12.heap.size w12 wx) (fun J HJ => ?_) (fun fr wc hcut => ?_)
  ·
    obtain hl | ⟨rfl, rfl, wg, fg, wq, fq, hv⟩ := HLL.out
    · subst hl
      go_wp2_with fail
      exact HJ.out _ _ rfl ⟨rfl, rfl, rfl, rfl, Below.refl _ _⟩
    · obtain ⟨n3, e3, m3, HE3, hc3⟩ := exact_fin g1 wg fg
      obtain ⟨n4, e4, m4, HE4, hc4⟩ := exact_fin q1 wq fq
      have VS : Hid (∀ i, (([valB x, valB y, -valB g1, -valB q1] : List Int).getD i 0).natAbs < 2^BQ) := fun i => by
        match i with
        | 0 => exact val_lt x FX.out
        | 1 => exact val_lt y FY.out
        | 2 => show (-valB g1).natAbs < _; rw [Int.natAbs_neg]; exact val_lt g1 fg
        | 3 => show (-valB q1).natAbs < _; rw [Int.natAbs_neg]; exact val_lt q1 fq
        | i + 4 => show (0 : Int).natAbs < _; exact Nat.two_pow_pos _
      have HC3 : Hid _ := hc3
      have HC4 : Hid _ := hc4
      have HE3H : Hid (ExF g1 n3 e3 m3) := HE3
      have HE4H : Hid (ExF q1 n4 e4 m4) := HE4
      have HVQ : Hid (valB q1 = valB x + valB y - valB g1) := hv
      clear hc3 hc4 HE3 HE4 HLL HNRR HMDD HRTT HSU HMO HSQ wg fg wq fq hv
      go_wp2_with fail
      refine (HC3.out _).mono ?_
      rintro e w13 ⟨a3, k3, c3, rfl, hn3, hb13⟩
      go_wp2_with fail
      refine (HC4.out _).mono ?_
      rintro e w14 ⟨a4, k4, c4, rfl, hn4, hb14⟩
      clear HC3 HC4
      go_upto_region 23 with fail
      have hr3 : w14.heap[w13.heap.size]? = some (.cells #[.bool n3, .slice a3 k3 c3, .int .i64 e3] 48 (0, 0)) := hb14.blk (heap_alloc_new w13 _) (by simp)
      have hs13 : w13.heap.size < w14.heap.size := by have := hb14.size; simp at this; omega
      have hn3' : Num .u32 4294967296 w14 (.slice a3 k3 c3) m3 := (hn3.below (Nat.le_refl _) ((Below.refl w13.heap.size w13).alloc (Nat.le_refl _) _)).below (Nat.le_refl _) hb14
      have hba : Below w14.heap.size w14 (w14.alloc (.cells #[.bool n4, .slice a4 k4 c4, .int .i64 e4] 48)) := (Below.refl _ _).alloc (Nat.le_refl _) _
      have hr4 := heap_alloc_new w14 (.cells #[.bool n4, .slice a4 k4 c4, .int .i64 e4] 48)
      have hr3a := hba.blk hr3 hs13
      have hn3a := hn3'.below (Nat.le_refl _) hba
      have hn4a := hn4.below (Nat.le_refl _) hba
      have hb14w : Below w12.heap.size w12 w14 := (hb13.alloc hb13.size _).trans (hb14.mono (by have := hb13.size; simp; omega))
      have hb15 : Below w12.heap.size w12 (w14.alloc (.cells #[.bool n4, .slice a4 k4 c4, .int .i64 e4] 48)) := hb14w.thru hba
      have hs15 : w14.heap.size < (w14.alloc (.cells #[.bool n4, .slice a4 k4 c4, .int .i64 e4] 48)).heap.size := by simp
      generalize w14.alloc (.cells #[.bool n4, .slice a4 k4 c4, .int .i64 e4] 48) = w15 at *
      generalize hg3 : w13.heap.size = u3 at *
      generalize hg4 : w14.heap.size = u4 at *
      have HC : Hid (∀ W, Below w15.heap.size w15 W → Below w15.heap.size w15 W ∧
          (W.cell? ⟨u1, 0, none⟩ = some (.bool nx) ∧ W.cell? ⟨u1, 1, none⟩ = some (.slice a1 k1 c1) ∧ W.cell? ⟨u1, 2, none⟩ = some (.int .i64 ex)) ∧
          (W.cell? ⟨u2, 0, none⟩ = some (.bool ny) ∧ W.cell? ⟨u2, 1, none⟩ = some (.slice a2 k2 c2) ∧ W.cell? ⟨u2, 2, none⟩ = some (.int .i64 ey)) ∧
          (W.cell? ⟨u3, 0, none⟩ = some (.bool n3) ∧ W.cell? ⟨u3, 1, none⟩ = some (.slice a3 k3 c3) ∧ W.cell? ⟨u3, 2, none⟩ = some (.int .i64 e3)) ∧
          (W.cell? ⟨u4, 0, none⟩ = some (.bool n4) ∧ W.cell? ⟨u4, 1, none⟩ = some (.slice a4 k4 c4) ∧ W.cell? ⟨u4, 2, none⟩ = some (.int .i64 e4))) := fun W hW => by
        have q1 := (R1.out W (hb15.thru hW)).1
        have q2 := (R2.out W (hb15.thru hW)).1
        have q3 := hW.blk hr3a (by omega)
        have q4 := hW.blk hr4 (by omega)
        exact ⟨hW, ⟨cell_of_row W _ 0 _ _ _ q1, cell_of_row W _ 1 _ _ _ q1, cell_of_row W _ 2 _ _ _ q1⟩, ⟨cell_of_row W _ 0 _ _ _ q2, cell_of_row W _ 1 _ _ _ q2, cell_of_row W _ 2 _ _ _ q2⟩,
          ⟨cell_of_row W _ 0 _ _ _ q3, cell_of_row W _ 1 _ _ _ q3, cell_of_row W _ 2 _ _ _ q3⟩, cell_of_row W _ 0 _ _ _ q4, cell_of_row W _ 1 _ _ _ q4, cell_of_row W _ 2 _ _ _ q4⟩
      have HNO : Hid (∀ W, Below w15.heap.size w15 W → Calls Tryd.prog 33 #[.slice (some ⟨W.heap.size, 0, none⟩) 4 4] (W.alloc (.cells #[.bool nx, .slice a1 k1 c1, .int .i64 ex, .bool ny, .slice a2 k2 c2, .int .i64 ey, .bool (!n3), .slice a3 k3 c3, .int .i64 e3, .bool (!n4), .slice a4 k4 c4, .int .i64 e4] 48))
          fun e w' => e = .returned (.bool true) ∧ Below W.heap.size W w') := fun W hW => by
        have hal : Below W.heap.size W (W.alloc (.cells #[.bool nx, .slice a1 k1 c1, .int .i64 ex, .bool ny, .slice a2 k2 c2, .int .i64 ey, .bool (!n3), .slice a3 k3 c3, .int .i64 e3, .bool (!n4), .slice a4 k4 c4, .int .i64 e4] 48)) := (Below.refl _ _).alloc (Nat.le_refl _) _
        have hnew := heap_alloc_new W (.cells #[.bool nx, .slice a1 k1 c1, .int .i64 ex, .bool ny, .slice a2 k2 c2, .int .i64 ey, .bool (!n3), .slice a3 k3 c3, .int .i64 e3, .bool (!n4), .slice a4 k4 c4, .int .i64 e4] 48)
        refine (nothing_any (fun i => ([valB x, valB y, -valB g1, -valB q1] : List Int).getD i 0) W.heap.size 4 4 BQ _ (fun i hi => ?_) VS.out (by simp) (by decide) (by decide) (by decide) (by rw [BQ_eq]; decide)).mono ?_
        · match i with
          | 0 => exact term_at hnew rfl rfl rfl (((R1.out W (hb15.thru hW)).2.1).below (Nat.le_refl _) hal) ⟨HEXF.out.1, HEXF.out.2.1⟩ HEXF.out.2.2
          | 1 => exact term_at hnew rfl rfl rfl (((R2.out W (hb15.thru hW)).2.1).below (Nat.le_refl _) hal) ⟨HEYF.out.1, HEYF.out.2.1⟩ HEYF.out.2.2
          | 2 => exact term_at hnew rfl rfl rfl ((hn3a.below (Nat.le_refl _) hW).below (Nat.le_refl _) hal) ⟨HE3H.out.1, HE3H.out.2.1⟩ (by rw [sg_not', HE3H.out.2.2]; rfl)
          | 3 => exact term_at hnew rfl rfl rfl ((hn4a.below (Nat.le_refl _) hW).below (Nat.le_refl _) hal) ⟨HE4H.out.1, HE4H.out.2.1⟩ (by rw [sg_not', HE4H.out.2.2]; rfl)
        · rintro e w' ⟨rfl, hb⟩
          refine ⟨?_, hal.thru hb⟩
          have h0 : sumV (fun i => ([valB x, valB y, -valB g1, -valB q1] : List Int).getD i 0) 4 = 0 := by
            show (((0 : Int) + valB x) + valB y + -valB g1) + -valB q1 = 0
            rw [HVQ.out]; omega
          rw [h0]; rfl
      have HB15 : Hid (Below w12.heap.size w12 w15) := hb15
      have hbs : Below w15.heap.size w15 w15 := Below.refl _ _
      clear hn3 hn4 hb13 hb14 hr3 hs13 hn3' hba hr4 hr3a hn3a hn4a hb14w hb15 hs15 hg3 hg4 R1 R2 HE3H HE4H HVQ VS HEXF HEYF FX FY
      go_region_held3 (fun W => Below w15.heap.size w15 W ∧
          (W.cell? ⟨u1, 0, none⟩ = some (.bool nx) ∧ W.cell? ⟨u1, 1, none⟩ = some (.slice a1 k1 c1) ∧ W.cell? ⟨u1, 2, none⟩ = some (.int .i64 ex)) ∧
          (W.cell? ⟨u2, 0, none⟩ = some (.bool ny) ∧ W.cell? ⟨u2, 1, none⟩ = some (.slice a2 k2 c2) ∧ W.cell? ⟨u2, 2, none⟩ = some (.int .i64 ey)) ∧
          (W.cell? ⟨u3, 0, none⟩ = some (.bool n3) ∧ W.cell? ⟨u3, 1, none⟩ = some (.slice a3 k3 c3) ∧ W.cell? ⟨u3, 2, none⟩ = some (.int .i64 e3)) ∧
          (W.cell? ⟨u4, 0, none⟩ = some (.bool n4) ∧ W.cell? ⟨u4, 1, none⟩ = some (.slice a4 k4 c4) ∧ W.cell? ⟨u4, 2, none⟩ = some (.int .i64 e4)))
        (first | exact HC.out _ ‹Below w15.heap.size w15 _› | exact HC.out _ (‹Below w15.heap.size w15 _›).drew | exact HC.out _ ((‹Below w15.heap.size w15 _›).alloc (Below.size ‹Below w15.heap.size w15 _›) _))
        (first | (go_at_call 34; (with_reducible refine (lminus_any _ _ _ _ _ _).mono ?_); rintro e w7 ⟨rfl, hb⟩; have hB2 : Below w15.heap.size w15 w7 := Below.thru (by first | assumption | exact Below.drew (by assumption)) hb; clear hb) | (go_at_call 33; (with_reducible refine (HNO.out _ (by first | assumption | exact Below.drew (by assumption))).mono ?_); rintro e w8 ⟨rfl, hb⟩; have hB3 : Below w15.heap.size w15 w8 := Below.thru (by first | assumption | exact Below.drew (by assumption)) hb; have HB3 : Hid (Below w15.heap.size w15 w8) := hB3; clear hb))
      all_goals
        go_wp2_with (go_at_call 12; with_reducible refine (HIS.out _ _).mono ?_; rintro e w' ⟨rfl, rfl⟩)
        exact HJ.out _ _ rfl ⟨rfl, rfl, rfl, rfl, HB15.out.thru HB3.out⟩
  obtain ⟨f6, f7, f22, f24, hcut⟩ := hcut
  simp only [f6, f7, f22, f24]
  clear f6 f7 f22 f24
  clear HLL
  have BC : Hid (Below w12.heap.size w12 wc) := hcut
  have BWC : Hid (Below w.heap.size w wc) := B12.out.thru hcut
  clear hcut
  go_wp2_with fail
  refine (HSU.out _ BWC.out).mono ?_
  rintro e w20 ⟨rfl, hb20⟩
  have B20 : Hid (Below w12.heap.size w12 w20) := BC.out.thru hb20
  have BW20 : Hid (Below w.heap.size w w20) := BWC.out.thru hb20
  clear hb20 BC BWC HSU
  go_upto_region 27 with fail
  refine wp_cut333 (fun fr wx => fr.getD 6 undef = .float .f64 x ∧ fr.getD 7 undef = .float .f64 y ∧ fr.getD 22 undef = .pointer (some ⟨u1, 0, none⟩) ∧ fr.getD 24 undef = .pointer (some ⟨u2, 0, none⟩) ∧ fr.getD 34 undef = .float .f64 d1 ∧ fr.getD 28 undef = .int .i64 d2 ∧ ∃ g : Bool, fr.getD 241 undef = .bool g ∧ (g = true → NearL x y) ∧ w20 = wx) (fun J HJ => ?_) (fun fr wc hcut => ?_)
  ·
    obtain ⟨hx, x1, x2, x3⟩ := half_any (absB x) (finB_lt' x FX.out)
    obtain ⟨hy, y1, y2, y3⟩ := half_any (absB y) (finB_lt' y FY.out)
    have qx := fun (w : World) => run_float_arith (P := Tryd.prog) w .quo 24 .f64 _ _ _ x1
    have qy := fun (w : World) => run_float_arith (P := Tryd.prog) w .quo 24 .f64 _ _ _ y1
    have gx := pos_le hx (absB y) x2 (finB_lt' y FY.out)
    have gy := pos_le hy (absB x) y2 (finB_lt' x FX.out)
    have SGX : Hid (∀ W, Calls Tryd.prog 35 #[.float .f64 x] W fun e w' => e = .returned (.bool (sgnB x)) ∧ W = w') := fun W => signbit_any x W HX.out
    have SGY : Hid (∀ W, Calls Tryd.prog 35 #[.float .f64 y] W fun e w' => e = .returned (.bool (sgnB y)) ∧ W = w') := fun W => signbit_any y W HY.out
    have ABX : Hid (∀ W, Calls Tryd.prog 36 #[.float .f64 x] W fun e w' => e = .returned (.float .f64 (absB x)) ∧ W = w') := fun W => abs_any x W HX.out
    have ABY : Hid (∀ W, Calls Tryd.prog 36 #[.float .f64 y] W fun e w' => e = .returned (.float .f64 (absB y)) ∧ W = w') := fun W => abs_any y W HY.out
    have HN : Hid (sgnB x = sgnB y → hx ≤ absB y → hy ≤ absB x → NearL x y) := fun h1 h2 h3 => ⟨h1, hx, hy, x3, y3, h2, h3⟩
    clear x1 x2 x3 y1 y2 y3 B20 BW20 R1 R2 HNRR HMDD HRTT HMO HSQ HEXF HEYF FX FY HX HY HIS
    obtain ⟨c1, h1⟩ : ∃ c, c = decide (hx ≤ absB y) := ⟨_, rfl⟩
    obtain ⟨c2, h2⟩ : ∃ c, c = decide (hy ≤ absB x) := ⟨_, rfl⟩
    obtain ⟨t1, k1⟩ : ∃ c, c = sgnB x := ⟨_, rfl⟩
    obtain ⟨t2, k2⟩ : ∃ c, c = sgnB y := ⟨_, rfl⟩
    obtain ⟨c0, h0⟩ : ∃ c, (t1 == t2) = c := ⟨_, rfl⟩
    rw [← h1] at gx
    rw [← h2] at gy
    rw [← k1] at SGX
    rw [← k2] at SGY
    have H12 : Hid (c0 = true → c1 = true → c2 = true → NearL x y) := fun e1 e2 e3 => HN.out (by rw [← k1, ← k2]; rw [e1] at h0; simpa using h0) (by rw [h1] at e2; simpa using e2) (by rw [h2] at e3; simpa using e3)
    clear h1 h2 k1 k2 HN
    generalize absB x = ax at *
    generalize absB y = ay at *
    have key : c0 = false ∨ (c0 = true ∧ c1 = false) ∨ (c0 = true ∧ c1 = true ∧ c2 = false) ∨ (c0 = true ∧ c1 = true ∧ c2 = true) := by cases c0 <;> cases c1 <;> cases c2 <;> decide
    rcases key with rfl | ⟨rfl, rfl⟩ | ⟨rfl, rfl, rfl⟩ | ⟨rfl, rfl, rfl⟩
    all_goals
      go_wp2_with (first | (go_at_call 35; with_reducible refine (SGX.out _).mono ?_; rintro e w' ⟨rfl, rfl⟩) | (go_at_call 35; with_reducible refine (SGY.out _).mono ?_; rintro e w' ⟨rfl, rfl⟩) | (go_at_call 36; with_reducible refine (ABX.out _).mono ?_; rintro e w' ⟨rfl, rfl⟩) | (go_at_call 36; with_reducible refine (ABY.out _).mono ?_; rintro e w' ⟨rfl, rfl⟩))
      first
        | exact HJ.out _ _ rfl ⟨rfl, rfl, rfl, rfl, rfl, rfl, false, rfl, (fun h => by cases h), rfl⟩
        | exact HJ.out _ _ rfl ⟨rfl, rfl, rfl, rfl, rfl, rfl, true, rfl, (fun _ => by first | exact H12.out rfl rfl rfl | exact H12.out trivial trivial trivial), rfl⟩
  obtain ⟨f6, f7, f22, f24, f34, f28, g, f241, hgn, rfl⟩ := hcut
  simp only [f6, f7, f22, f24, f34, f28, f241]
  clear f6 f7 f22 f24 f34 f28 f241
  have HG : Hid (g = true → NearL x y) := hgn
  clear hgn
  go_upto_if 241 with fail
  refine wp_cut333 (fun fr wx => fr.getD 6 undef = .float .f64 x ∧ fr.getD 7 undef = .float .f64 y ∧ Below w12.heap.size w12 wx) (fun J HJ => ?_) (fun fr wc hcut => ?_)
  ·
    cases g
    · go_wp2_with fail
      exact HJ.out _ _ rfl ⟨rfl, rfl, B20.out⟩
    · obtain ⟨e0, wd, fd, vd⟩ := HNRR.out (HG.out rfl)
      subst e0
      obtain ⟨n5, e5, m5, HE5, hc5⟩ := exact_fin d1 wd fd
      have VS : Hid (∀ i, (([valB x, -valB y, -valB d1] : List Int).getD i 0).natAbs < 2^BQ) := fun i => by
        match i with
        | 0 => exact val_lt x FX.out
        | 1 => show (-valB y).natAbs < _; rw [Int.natAbs_neg]; exact val_lt y FY.out
        | 2 => show (-valB d1).natAbs < _; rw [Int.natAbs_neg]; exact val_lt d1 fd
        | i + 3 => show (0 : Int).natAbs < _; exact Nat.two_pow_pos _
      have HC5 : Hid _ := hc5
      have HE5H : Hid (ExF d1 n5 e5 m5) := HE5
      have HVD : Hid (valB d1 = valB x - valB y) := vd
      clear hc5 HE5 wd fd vd HNRR HMDD HRTT HMO HSQ HG HIS
      go_wp2_with fail
      refine (HC5.out _).mono ?_
      rintro e w21 ⟨a5, k5, c5, rfl, hn5, hb21⟩
      clear HC5
      go_upto_region 29 with fail
      have hba : Below w21.heap.size w21 (w21.alloc (.cells #[.bool n5, .slice a5 k5 c5, .int .i64 e5] 48)) := (Below.refl _ _).alloc (Nat.le_refl _) _
      have hr5 := heap_alloc_new w21 (.cells #[.bool n5, .slice a5 k5 c5, .int .i64 e5] 48)
      have hn5a := hn5.below (Nat.le_refl _) hba
      have hb22 : Below w12.heap.size w12 (w21.alloc (.cells #[.bool n5, .slice a5 k5 c5, .int .i64 e5] 48)) := (B20.out.thru hb21).thru hba
      have hs22 : w21.heap.size < (w21.alloc (.cells #[.bool n5, .slice a5 k5 c5, .int .i64 e5] 48)).heap.size := by simp
      generalize w21.alloc (.cells #[.bool n5, .slice a5 k5 c5, .int .i64 e5] 48) = w22 at *
      generalize hg5 : w21.heap.size = u5 at *
      have HC : Hid (∀ W, Below w22.heap.size w22 W → Below w22.heap.size w22 W ∧
          (W.cell? ⟨u1, 0, none⟩ = some (.bool nx) ∧ W.cell? ⟨u1, 1, none⟩ = some (.slice a1 k1 c1) ∧ W.cell? ⟨u1, 2, none⟩ = some (.int .i64 ex)) ∧
          (W.cell? ⟨u2, 0, none⟩ = some (.bool ny) ∧ W.cell? ⟨u2, 1, none⟩ = some (.slice a2 k2 c2) ∧ W.cell? ⟨u2, 2, none⟩ = some (.int .i64 ey)) ∧
          (W.cell? ⟨u5, 0, none⟩ = some (.bool n5) ∧ W.cell? ⟨u5, 1, none⟩ = some (.slice a5 k5 c5) ∧ W.cell? ⟨u5, 2, none⟩ = some (.int .i64 e5))) := fun W hW => by
        have q1 := (R1.out W (hb22.thru hW)).1
        have q2 := (R2.out W (hb22.thru hW)).1
        have q3 := hW.blk hr5 (by omega)
        exact ⟨hW, ⟨cell_of_row W _ 0 _ _ _ q1, cell_of_row W _ 1 _ _ _ q1, cell_of_row W _ 2 _ _ _ q1⟩, ⟨cell_of_row W _ 0 _ _ _ q2, cell_of_row W _ 1 _ _ _ q2, cell_of_row W _ 2 _ _ _ q2⟩,
          cell_of_row W _ 0 _ _ _ q3, cell_of_row W _ 1 _ _ _ q3, cell_of_row W _ 2 _ _ _ q3⟩
      have HNO : Hid (∀ W, Below w22.heap.size w22 W → Calls Tryd.prog 33 #[.slice (some ⟨W.heap.size, 0, none⟩) 3 3] (W.alloc (.cells #[.bool nx, .slice a1 k1 c1, .int .i64 ex, .bool (!ny), .slice a2 k2 c2, .int .i64 ey, .bool (!n5), .slice a5 k5 c5, .int .i64 e5] 48))
          fun e w' => e = .returned (.bool true) ∧ Below W.heap.size W w') := fun W hW => by
        have hal : Below W.heap.size W (W.alloc (.cells #[.bool nx, .slice a1 k1 c1, .int .i64 ex, .bool (!ny), .slice a2 k2 c2, .int .i64 ey, .bool (!n5), .slice a5 k5 c5, .int .i64 e5] 48)) := (Below.refl _ _).alloc (Nat.le_refl _) _
        have hnew := heap_alloc_new W (.cells #[.bool nx, .slice a1 k1 c1, .int .i64 ex, .bool (!ny), .slice a2 k2 c2, .int .i64 ey, .bool (!n5), .slice a5 k5 c5, .int .i64 e5] 48)
        refine (nothing_any (fun i => ([valB x, -valB y, -valB d1] : List Int).getD i 0) W.heap.size 3 3 BQ _ (fun i hi => ?_) VS.out (by simp) (by decide) (by decide) (by decide) (by rw [BQ_eq]; decide)).mono ?_
        · match i with
          | 0 => exact term_at hnew rfl rfl rfl (((R1.out W (hb22.thru hW)).2.1).below (Nat.le_refl _) hal) ⟨HEXF.out.1, HEXF.out.2.1⟩ HEXF.out.2.2
          | 1 => exact term_at hnew rfl rfl rfl (((R2.out W (hb22.thru hW)).2.1).below (Nat.le_refl _) hal) ⟨HEYF.out.1, HEYF.out.2.1⟩ (by rw [sg_not', HEYF.out.2.2]; rfl)
          | 2 => exact term_at hnew rfl rfl rfl ((hn5a.below (Nat.le_refl _) hW).below (Nat.le_refl _) hal) ⟨HE5H.out.1, HE5H.out.2.1⟩ (by rw [sg_not', HE5H.out.2.2]; rfl)
        · rintro e w' ⟨rfl, hb⟩
          refine ⟨?_, hal.thru hb⟩
          have h0 : sumV (fun i => ([valB x, -valB y, -valB d1] : List Int).getD i 0) 3 = 0 := by
            show ((0 : Int) + valB x) + -valB y + -valB d1 = 0
            rw [HVD.out]; omega
          rw [h0]; rfl
      have HB22 : Hid (Below w12.heap.size w12 w22) := hb22
      have hbs : Below w22.heap.size w22 w22 := Below.refl _ _
      clear hn5 hb21 hba hr5 hn5a hb22 hs22 hg5 R1 R2 HE5H HVD VS HEXF HEYF FX FY
      go_region_held3 (fun W => Below w22.heap.size w22 W ∧
          (W.cell? ⟨u1, 0, none⟩ = some (.bool nx) ∧ W.cell? ⟨u1, 1, none⟩ = some (.slice a1 k1 c1) ∧ W.cell? ⟨u1, 2, none⟩ = some (.int .i64 ex)) ∧
          (W.cell? ⟨u2, 0, none⟩ = some (.bool ny) ∧ W.cell? ⟨u2, 1, none⟩ = some (.slice a2 k2 c2) ∧ W.cell? ⟨u2, 2, none⟩ = some (.int .i64 ey)) ∧
          (W.cell? ⟨u5, 0, none⟩ = some (.bool n5) ∧ W.cell? ⟨u5, 1, none⟩ = some (.slice a5 k5 c5) ∧ W.cell? ⟨u5, 2, none⟩ = some (.int .i64 e5)))
        (first | exact HC.out _ ‹Below w22.heap.size w22 _› | exact HC.out _ (‹Below w22.heap.size w22 _›).drew | exact HC.out _ ((‹Below w22.heap.size w22 _›).alloc (Below.size ‹Below w22.heap.size w22 _›) _))
        (first | (go_at_call 34; (with_reducible refine (lminus_any _ _ _ _ _ _).mono ?_); rintro e w7 ⟨rfl, hb⟩; have hB2 : Below w22.heap.size w22 w7 := Below.thru (by first | assumption | exact Below.drew (by assumption)) hb; clear hb) | (go_at_call 33; (with_reducible refine (HNO.out _ (by first | assumption | exact Below.drew (by assumption))).mono ?_); rintro e w8 ⟨rfl, hb⟩; have hB3 : Below w22.heap.size w22 w8 := Below.thru (by first | assumption | exact Below.drew (by assumption)) hb; have HB3 : Hid (Below w22.heap.size w22 w8) := hB3; clear hb))
      all_goals
        go_wp2_with fail
        exact HJ.out _ _ rfl ⟨rfl, rfl, HB22.out.thru HB3.out⟩
  obtain ⟨f6, f7, hcut⟩ := hcut
  simp only [f6, f7]
  clear f6 f7
  have BWC2 : Hid (Below w.heap.size w wc) := B12.out.thru hcut
  clear hcut HG HNRR R1 R2 B20 BW20 B12 HEXF HEYF HIS
  go_wp2_with fail
  refine (HMO.out _ BWC2.out).mono ?_
  rintro e w30 ⟨rfl, hb30⟩
  have BW30 : Hid (Below w.heap.size w w30) := BWC2.out.thru hb30
  clear hb30 BWC2 HMO
  go_upto_region 33 with fail
  refine wp_cut333 (fun fr wx => fr.getD 6 undef = .float .f64 x ∧ fr.getD 301 undef = .bool false ∧ w30 = wx) (fun J HJ => ?_) (fun fr wc hcut => ?_)
  ·
    cases zy : zeroB y
    · obtain ⟨e0, wm, fm, t, ht, hv⟩ := HMDD.out zy
      obtain ⟨t1, t2, t3, t4⟩ := mod_tests y m1 t HY.out wm FY.out fm zy ht hv
      have o0 := ord_val y 0 HY.out (by unfold W64; decide) FY.out (by decide)
      obtain ⟨o, ho⟩ : ∃ o, o = compare (valB y) (valB 0) := ⟨_, rfl⟩
      rw [← ho] at o0
      rw [o0] at t1 t2
      subst e0
      clear wm fm ht hv zy HY HX FX FY HMDD HRTT HSQ BW30 ho
      cases sy : sgnB y
      · obtain ⟨t5, t6⟩ := t3 sy
        rw [sy] at t1
        obtain rfl : o = Ordering.gt := by revert t1; cases o <;> decide
        clear t1 t2 t3 t4 sy
        go_wp2_with fail
        exact HJ.out _ _ rfl ⟨rfl, rfl, rfl⟩
      · obtain ⟨t5, t6⟩ := t4 sy
        rw [sy] at t2
        obtain rfl : o = Ordering.lt := by revert t2; cases o <;> decide
        clear t1 t2 t3 t4 sy
        go_wp2_with fail
        exact HJ.out _ _ rfl ⟨rfl, rfl, rfl⟩
    · have t0 := w_eq_zero y HY.out
      rw [zy, beq_iff_eq] at t0
      clear zy HY HX FX FY HMDD HRTT HSQ BW30
      go_wp2_with fail
      exact HJ.out _ _ rfl ⟨rfl, rfl, rfl⟩
  obtain ⟨f6, f301, rfl⟩ := hcut
  simp only [f6, f301]
  clear f6 f301
  clear HMDD HY FY
  go_wp2_with fail
  refine (HSQ.out _ BW30.out).mono ?_
  rintro e w31 ⟨rfl, hb31⟩
  have BW31 : Hid (Below w.heap.size w w31) := BW30.out.thru hb31
  have ABX : Hid (∀ W, Calls Tryd.prog 36 #[.float .f64 x] W fun e w' => e = .returned (.float .f64 (absB x)) ∧ W = w') := fun W => abs_any x W HX.out
  have HAX : Hid (absB x < 9218868437227405312) := finB_lt' x FX.out
  clear hb31 BW30 HSQ HX FX
  generalize absB x = ax at *
  go_upto_region 36 with fail
  refine wp_cut333 (fun fr wx => fr.getD 6 undef = .float .f64 x ∧ fr.getD 39 undef = .float .f64 z1 ∧ ∃ g : Bool, fr.getD 319 undef = .bool g ∧ (g = true → z2 = 0 ∧ 4503599627370496 ≤ z1 ∧ 4503599627370496 ≤ ax) ∧ w31 = wx) (fun J HJ => ?_) (fun fr wc hcut => ?_)
  ·
    obtain ⟨wz, lz, -⟩ := HRTT.out
    have ABZ : Hid (∀ W, Calls Tryd.prog 36 #[.float .f64 z1] W fun e w' => e = .returned (.float .f64 z1) ∧ W = w') := fun W => by
      have h := abs_any z1 W wz
      rwa [show absB z1 = z1 by unfold absB; omega] at h
    have gz := pos_ge z1 4503599627370496 lz (by decide)
    have gx := pos_ge ax 4503599627370496 HAX.out (by decide)
    have HZ : Hid (z2 = 0 → decide (4503599627370496 ≤ z1) = true → decide (4503599627370496 ≤ ax) = true → z2 = 0 ∧ 4503599627370496 ≤ z1 ∧ 4503599627370496 ≤ ax) := fun h1 h2 h3 => ⟨h1, of_decide_eq_true h2, of_decide_eq_true h3⟩
    obtain ⟨v1, hv1⟩ : ∃ v, v = decide (4503599627370496 ≤ z1) := ⟨_, rfl⟩
    obtain ⟨v2, hv2⟩ : ∃ v, v = decide (4503599627370496 ≤ ax) := ⟨_, rfl⟩
    obtain ⟨v3, hv3⟩ : ∃ v, v = (z2 == 0) := ⟨_, rfl⟩
    rw [← hv1] at gz HZ
    rw [← hv2] at gx HZ
    have HZ3 : Hid (v3 = true → v1 = true → v2 = true → z2 = 0 ∧ 4503599627370496 ≤ z1 ∧ 4503599627370496 ≤ ax) := fun h => HZ.out (by rw [hv3] at h; simpa using h)
    have hv4 := hv3.symm
    clear hv1 hv2 hv3 wz lz HZ HRTT BW31 HAX
    have key : v3 = false ∨ (v3 = true ∧ v1 = false) ∨ (v3 = true ∧ v1 = true ∧ v2 = false) ∨ (v3 = true ∧ v1 = true ∧ v2 = true) := by cases v3 <;> cases v1 <;> cases v2 <;> decide
    rcases key with rfl | ⟨rfl, rfl⟩ | ⟨rfl, rfl, rfl⟩ | ⟨rfl, rfl, rfl⟩
    all_goals
      go_wp2_with (first | (go_at_call 36; with_reducible refine (ABX.out _).mono ?_; rintro e w' ⟨rfl, rfl⟩) | (go_at_call 36; with_reducible refine (ABZ.out _).mono ?_; rintro e w' ⟨rfl, rfl⟩))
      first
        | exact HJ.out _ _ rfl ⟨rfl, rfl, false, rfl, (fun h => by cases h), rfl⟩
        | exact HJ.out _ _ rfl ⟨rfl, rfl, true, rfl, (fun _ => by first | exact HZ3.out rfl rfl rfl | exact HZ3.out trivial trivial trivial), rfl⟩
  obtain ⟨f6, f39, g, f319, hgg, rfl⟩ := hcut
  simp only [f6, f39, f319]
  clear f6 f39 f319
  cases g
  · clear hgg HRTT HAX ABX
    go_wp2_with fail
    go_ret
    exact ⟨rfl, BW31.out⟩
  · obtain ⟨h1, h2, h3⟩ := hgg rfl
    have HRC : Hid _ := HRTT.out.2.2 h1 h2 h3
    have hnan : nanB ax = false := by have := HAX.out; unfold nanB absB; simp; omega
    clear hgg h1 h2 h3 HRTT HAX
    go_wp2_with fail
    refine (HRC.out _).mono ?_
    rintro e w32 ⟨rfl, hb32⟩
    have HB32 : Hid _ := hb32
    clear hb32
    go_wp2_with (go_at_call 36; with_reducible refine (ABX.out _).mono ?_; rintro e w' ⟨rfl, rfl⟩)
    go_ret
    exact ⟨rfl, BW31.out.thru HB32.out⟩
end Go.Proofs.YtiimjbpfdidgcaaDoor
