import Derived.Test.YtlbokicainimnaaGreatDoorPIA
import Derived.Test.YtlbokicainimnaaGreatDoorPJR
import Derived.Test.YtlbokicainimnaaGreatDoorPIH
namespace Go.Proofs.YtlbokicainimnaaGreatDoor
open Go Go.RowKit
open Go.Lib hiding intOf
theorem share_in {l : List Nat} {p : Nat} (hok : nanB p = false ∧ 0 ≤ valB p ∧ valB p ≤ 2 ^ LP) (h0 : 0 < l.length) (hmax : l.length < 9007199254740992) :
  shQ l p < l.length ∧ (shR l p ≠ 0 → shQ l p + 1 < l.length) ∧ shR l p < 2 ^ LP ∧ Rep (shF l p) ((shR l p * 5 ^ LP : Nat) : Int) (-(LP : Int)) := by
 have fp := shOk_fin hok
 obtain ⟨np, p0, p1⟩ := hok
 obtain ⟨V, hV⟩ : ∃ V : Nat, valB p = V := ⟨(valB p).toNat, by omega⟩
 have hVt : (valB p).toNat = V := by rw [hV]; rfl
 have e2 : ((2 ^ LP : Nat) : Int) = 2 ^ LP := by rw [Int.natCast_pow]; rfl
 obtain ⟨-, -, -, -, rF, q1, q2⟩ := share_facts (K := l.length - 1) fp hV (by omega) (by omega)
 have eQ : shQ l p = V * (l.length - 1) / 2 ^ LP := by unfold shQ; rw [hVt]
 have eR : shR l p = V * (l.length - 1) % 2 ^ LP := by unfold shR; rw [hVt]
 have eF : shF l p = addD (mulD (ofD p) (mkD ((l.length - 1 : Nat) : Int) 0)) (negD (mkD ((V * (l.length - 1) / 2 ^ LP : Nat) : Int) 0)) := by unfold shF; rw [eQ]
 rw [eF, eQ, eR]
 refine ⟨by omega, fun h => ?_, Nat.mod_lt _ (Nat.two_pow_pos _), rF⟩
 have := q2 h
 omega
theorem share_nil {l : List Nat} {p : Nat} (hv : valB p = 0) : shQ l p = 0 ∧ shR l p = 0 := by
 unfold shQ shR
 rw [hv, show (0 : Int).toNat = 0 from rfl, Nat.zero_mul]
 exact ⟨Nat.zero_div _, Nat.zero_mod _⟩
theorem share_full {l : List Nat} : shQ l 4607182418800017408 = l.length - 1 ∧ shR l 4607182418800017408 = 0 := by
 have e : (valB 4607182418800017408).toNat = 2 ^ LP := by
  rw [val_one9]
  have e2 : ((2 ^ LP : Nat) : Int) = 2 ^ LP := by rw [Int.natCast_pow]; rfl
  rw [← e2]
  exact Int.toNat_natCast _
 unfold shQ shR
 rw [e]
 exact ⟨Nat.mul_div_cancel_left _ (Nat.two_pow_pos _), Nat.mul_mod_right _ _⟩
theorem ordL_fin {l : List Nat} (h : ∀ x ∈ l, finB x = true) : ∀ x ∈ ordL l, finB x = true := fun x hx => by
 obtain ⟨y, hy, rfl⟩ := List.mem_map.1 ((ordL_perm l).mem_iff.1 hx)
 have hf := h y hy
 have hn : nanB y = false := by rw [finB_eq] at hf; revert hf; cases nanB y <;> simp
 unfold oneB
 rw [if_neg (by rw [hn]; decide)]
 exact hf
theorem share_rises {l : List Nat} {p q : Nat} (hp : nanB p = false ∧ 0 ≤ valB p ∧ valB p ≤ 2 ^ LP) (hq : nanB q = false ∧ 0 ≤ valB q ∧ valB q ≤ 2 ^ LP) (h0 : 0 < l.length) (hmax : l.length < 9007199254740992) (hfin : ∀ x ∈ l, finB x = true) (hle : valB p ≤ valB q) :
  keyB (shB (ordL l) (shQ l p) (shR l p) (shF l p)) ≤ keyB (shB (ordL l) (shQ l q) (shR l q) (shF l q)) := by
 obtain ⟨a1, a2, a3, a4⟩ := share_in hp h0 hmax
 obtain ⟨b1, b2, b3, b4⟩ := share_in hq h0 hmax
 refine shB_rises (ordL_ord l) (ordL_fin hfin) (by rw [ordL_len]; exact a1) (by rw [ordL_len]; exact a2) a3 a4 (by rw [ordL_len]; exact b1) (by rw [ordL_len]; exact b2) b3 b4 ?_
 have hV : (valB p).toNat ≤ (valB q).toNat := by omega
 have hVK := Nat.mul_le_mul_right (l.length - 1) hV
 have hd : shQ l p ≤ shQ l q := Nat.div_le_div_right hVK
 rcases Nat.lt_or_eq_of_le hd with h | h
 ·exact .inl h
 ·refine .inr ⟨h, ?_⟩
  have e1 := Nat.div_add_mod ((valB p).toNat * (l.length - 1)) (2 ^ LP)
  have e2 := Nat.div_add_mod ((valB q).toNat * (l.length - 1)) (2 ^ LP)
  unfold shQ at h
  unfold shR
  rw [h] at e1
  omega
theorem share_ends {l : List Nat} {p : Nat} (hp : nanB p = false ∧ 0 ≤ valB p ∧ valB p ≤ 2 ^ LP) (h0 : 0 < l.length) (hmax : l.length < 9007199254740992) (hfin : ∀ x ∈ l, finB x = true) :
  keyB ((ordL l).getD 0 0) ≤ keyB (shB (ordL l) (shQ l p) (shR l p) (shF l p)) ∧ keyB (shB (ordL l) (shQ l p) (shR l p) (shF l p)) ≤ keyB ((ordL l).getD (l.length - 1) 0) := by
 obtain ⟨a1, a2, a3, a4⟩ := share_in hp h0 hmax
 have hs := ordL_ord l
 have hsl := ordL_len l
 obtain ⟨c1, c2, -⟩ := shB_in hs (ordL_fin hfin) (by rw [hsl]; exact a1) (by rw [hsl]; exact a2) a3 a4
 refine ⟨Int.le_trans (ord_le hs (Nat.zero_le _) (by omega)) c1, ?_⟩
 by_cases hr : shR l p = 0
 ·unfold shB
  rw [if_pos hr]
  exact ord_le hs (by omega) (by omega)
 ·exact Int.le_trans (c2 hr) (ord_le hs (by have := a2 hr; omega) (by omega))
theorem shB_W {l : List Nat} {p : Nat} (hp : nanB p = false ∧ 0 ≤ valB p ∧ valB p ≤ 2 ^ LP) (h0 : 0 < l.length) (hmax : l.length < 9007199254740992) (hfin : ∀ x ∈ l, finB x = true) (hl : ∀ x ∈ l, W64 x) :
  W64 (shB (ordL l) (shQ l p) (shR l p) (shF l p)) := by
 obtain ⟨a1, a2, a3, a4⟩ := share_in hp h0 hmax
 have hsl := ordL_len l
 have hel : ∀ j, j < l.length → finB ((ordL l).getD j 0) = true ∧ W64 ((ordL l).getD j 0) := fun j hj => by
  rw [List.getD_eq_getElem?_getD, List.getElem?_eq_getElem (by omega)]
  exact ⟨ordL_fin hfin _ (List.getElem_mem _), (ordL_oned hl _ (List.getElem_mem _)).1⟩
 unfold shB
 by_cases hr : shR l p = 0
 ·rw [if_pos hr]
  exact (hel _ a1).2
 ·rw [if_neg hr]
  have fa := hel _ a1
  have fb := hel _ (a2 hr)
  generalize (ordL l).getD (shQ l p) 0 = A at *
  generalize (ordL l).getD (shQ l p + 1) 0 = B at *
  generalize shR l p = r at *
  obtain ⟨R, hN⟩ := near_ex 52 (btT A B r).natAbs (2 ^ LP) (Nat.two_pow_pos _)
  rw [btwA_fin fa.1 fb.1 a3 a4 hN]
  split
  ·exact fa.2
  ·exact (nearK_W (btw_room fa.1 fb.1 a3 hN)).1
theorem ord_ngt {a b : Nat} (h : keyB a ≤ keyB b) : orderB a b ≤ 0 := by
 unfold orderB
 split
 ·omega
 ·rw [if_neg (by omega)]; omega
theorem shares_of {l : List Nat} (hl : ∀ x ∈ l, W64 x) (hfin : ∀ x ∈ l, finB x = true) (h0 : 0 < l.length) (hmax : l.length < 9007199254740992) :
  ∃ lo hi, W64 lo ∧ W64 hi ∧ shareA l 0 = (lo, 0) ∧ shareA l 4607182418800017408 = (hi, 0) ∧ nthA l 1 = (lo, 0) ∧ nthA l (l.length : Nat) = (hi, 0) ∧
   (∀ p, (∃ x, W64 x ∧ shareA l p = (x, 0) ∧ keyB lo ≤ keyB x ∧ keyB x ≤ keyB hi) ∨ shareA l p = (0, 1)) ∧
   ∀ p q x y, W64 p → W64 q → shareA l p = (x, 0) → shareA l q = (y, 0) → ((Go.FloatKind.f64.format.order p q == some .gt) = false → keyB x ≤ keyB y) ∧ ((Go.FloatKind.f64.format.order p q == some .gt) = true → keyB y ≤ keyB x) := by
 have hsl := ordL_len l
 have hel : ∀ j, j < l.length → W64 ((ordL l).getD j 0) := fun j hj => by
  rw [List.getD_eq_getElem?_getD, List.getElem?_eq_getElem (by omega)]
  exact (ordL_oned hl _ (List.getElem_mem _)).1
 have p2 : (0 : Int) < 2 ^ LP := Int.pow_pos (by decide)
 have v0 : valB 0 = 0 := by decide +kernel
 have hsh : ∀ p, (nanB p = false ∧ 0 ≤ valB p ∧ valB p ≤ 2 ^ LP) → shareA l p = (shB (ordL l) (shQ l p) (shR l p) (shF l p), 0) := fun p hp => by
  unfold shareA
  rw [if_neg (by omega), if_pos hp]
 have hno : ∀ p, ¬ (nanB p = false ∧ 0 ≤ valB p ∧ valB p ≤ 2 ^ LP) → shareA l p = (0, 1) := fun p hp => by
  unfold shareA
  rw [if_neg (by omega), if_neg hp]
 refine ⟨(ordL l).getD 0 0, (ordL l).getD (l.length - 1) 0, hel 0 h0, hel _ (by omega), ?_, ?_, ?_, ?_, fun p => ?_, fun p q x y wp wq hx hy => ?_⟩
 ·rw [hsh 0 ⟨by decide, by omega, by omega⟩]
  obtain ⟨e1, e2⟩ := share_nil (l := l) v0
  rw [e1, e2]
  unfold shB
  rw [if_pos rfl]
 ·rw [hsh 4607182418800017408 ⟨by decide, by rw [val_one9]; omega, by rw [val_one9]; omega⟩]
  obtain ⟨e1, e2⟩ := share_full (l := l)
  rw [e1, e2]
  unfold shB
  rw [if_pos rfl]
 ·exact nthA_at (k := 1) (by decide) (by omega)
 ·exact nthA_at h0 (Nat.le_refl _)
 ·by_cases hp : nanB p = false ∧ 0 ≤ valB p ∧ valB p ≤ 2 ^ LP
  ·obtain ⟨k1, k2⟩ := share_ends hp h0 hmax hfin
   exact .inl ⟨_, shB_W hp h0 hmax hfin hl, hsh p hp, k1, k2⟩
  ·exact .inr (hno p hp)
 ·have hp : nanB p = false ∧ 0 ≤ valB p ∧ valB p ≤ 2 ^ LP := Classical.byContradiction fun h => by
   rw [hno p h] at hx; cases hx
  have hq : nanB q = false ∧ 0 ≤ valB q ∧ valB q ≤ 2 ^ LP := Classical.byContradiction fun h => by
   rw [hno q h] at hy; cases hy
  rw [hsh p hp] at hx
  rw [hsh q hq] at hy
  obtain rfl := congrArg Prod.fst hx
  obtain rfl := congrArg Prod.fst hy
  have ho : Go.FloatKind.f64.format.order p q = some (compare (valB p) (valB q)) := ord_D p q wp wq hp.1 hq.1
  rw [ho]
  refine ⟨fun h => share_rises hp hq h0 hmax hfin ?_, fun h => share_rises hq hp h0 hmax hfin ?_⟩
  ·refine Int.not_lt.1 fun hlt => ?_
   rw [Int.compare_eq_gt.2 hlt] at h
   cases h
  ·rcases Int.lt_trichotomy (valB p) (valB q) with g | g | g
   ·rw [Int.compare_eq_lt.2 g] at h; cases h
   ·omega
   ·omega
end Go.Proofs.YtlbokicainimnaaGreatDoor
set_option maxRecDepth 100000
namespace Go.Proofs.YtlbokicainimnaaGreatDoor
open Go Go.RowKit
open Go.Lib hiding intOf
theorem ulo_next {l : List Nat} {k : Nat} (h : k < l.length) : (l.take (k + 1)).filter finB = (l.take k).filter finB ++ (if finB (l.getD k 0) = true then [l.getD k 0] else []) := by
 rw [List.take_succ_eq_append_getElem h, List.filter_append]
 congr 1
 rw [List.getD_eq_getElem?_getD, List.getElem?_eq_getElem h]
 show List.filter finB [l[k]] = if finB l[k] = true then [l[k]] else []
 cases hf : finB l[k] <;> simp [hf]
theorem uin_of {w : World} {base m : Nat} {v : Value} {K : List Nat} (h : UOn w base v m K) : ∃ a c, v = .slice a m c ∧ UIn w a m K := by
 rcases h.2 with ⟨h1, h2⟩ | ⟨g, c, cur, rfl, h3⟩
 ·subst h2
  exact ⟨none, 0, h1, fun h => absurd h (Nat.lt_irrefl 0)⟩
 ·exact ⟨_, c, rfl, fun _ => ⟨g, 0, rfl, UOn.lt (c := c) h |>.2, fun k hk => by rw [Nat.zero_add]; exact UOn.cell h hk⟩⟩
set_option maxHeartbeats 16000000 in
theorem orderRises_walk {a : Option Addr} {n c : Nat} {l : List Nat} (p q : Nat) (w : World) (hn : l.length = n) (hmax : n * 8 ≤ 140737488351232) (hl : ∀ x ∈ l, W64 x) (hcell : UIn w a n l) (hp : W64 p) (hq : W64 q) (htab : Tab w) :
  Calls Tryz.prog 6 #[.slice a n c, .int .u64 (p : Nat), .int .u64 (q : Nat)] w fun e w' => e = .returned (.bool true) ∧ Below w.heap.size w w' := by
 have HAW : Hid (Calls Tryz.prog 18 #[] w fun e w' => e = .returned (.bool true) ∧ Below w.heap.size w w') := awake9_v w htab
 have HCELL : Hid (UIn w a n l ∧ Tab w ∧ W64 p ∧ W64 q) := ⟨hcell, htab, hp, hq⟩
 have HW : Hid (∀ j, j < n → W64 (l.getD j 0)) := fun j hj => by
  rw [List.getD_eq_getElem?_getD, List.getElem?_eq_getElem (by omega)]
  exact hl _ (List.getElem_mem _)
 have HL : Hid (l.length = n ∧ (∀ x ∈ l, W64 x)) := ⟨hn, hl⟩
 obtain ⟨i0, hi, hz0, hz1, hz2⟩ := info_parts Tryz.infoU9
 clear hcell htab hl hn hp hq
 go_enter Tryz.func6, Tryz.ntmps6
 go_wp2_with fail
 refine Calls.mono HAW.out ?_
 rintro e w1 ⟨rfl, hb1⟩
 have HB1 : Hid (Below w.heap.size w w1) := hb1
 clear hb1 HAW
 go_wp2_with fail
 go_loopw [8, 9] (fun v i wr => ∃ k : Nat, k ≤ n ∧ i = .int .i64 (k : Nat) ∧ UOn wr w1.heap.size v ((l.take k).filter finB).length ((l.take k).filter finB) ∧ Below w1.heap.size w1 wr) (fun _ i _ => n - (intOf i).toNat)
 case atStart => exact ⟨0, Nat.zero_le _, rfl, World.ownsRow_nil _ _ _ _, Below.refl _ _⟩
 case round =>
  obtain ⟨k, hk, rfl, hown, hbk⟩ := hrel
  have HBK : Hid (Below w1.heap.size w1 wr) := hbk
  by_cases hkn : k < n
  ·have HOW : Hid _ := hown
   obtain ⟨b, o, rfl, hb, hcc⟩ := HCELL.out.1 (by omega)
   obtain ⟨x, hx⟩ : ∃ x, x = l.getD k 0 := ⟨_, rfl⟩
   have hck := ((HB1.out.thru hbk).cell (p := ⟨b, o + k, none⟩) hb).trans (hcc k hkn)
   rw [← hx] at hck
   have hnx := ulo_next (l := l) (k := k) (by have := HL.out.1; omega)
   rw [← hx] at hnx
   have hxw : W64 x := by rw [hx]; exact HW.out k hkn
   have hw1 : IntKind.i64.wrap ((k : Int) + 1) = ((k + 1 : Nat) : Int) := by rw [IntWalk.i64_in _ (by omega)]; omega
   have g1 : (k : Int) < (n : Int) := by omega
   have g3 : (0 : Int) ≤ (k : Int) := by omega
   obtain ⟨L, hL⟩ : ∃ L, L = (l.take k).filter finB := ⟨_, rfl⟩
   have hLk : L.length ≤ k := by
    rw [hL]
    exact Nat.le_trans (List.length_filter_le _ _) (by simp; omega)
   obtain ⟨m, hm⟩ : ∃ m, m = L.length := ⟨_, rfl⟩
   rw [← hm] at hLk
   rw [← hL] at HOW hnx
   rw [← hm] at HOW
   have HLM : Hid (m = L.length) := hm
   clear hcc hown hbk hx hL hm hb
   cases hf : finB x
   ·rw [hf, if_neg (by decide), List.append_nil] at hnx
    have HN1 : Hid ((l.take (k + 1)).filter finB = L) := hnx
    clear hnx
    go_wp2_with (go_at_call 16; with_reducible refine (ref_finite x _ hxw).mono ?_; rintro e w' ⟨rfl, rfl⟩)
    go_roundw
    case rel => exact ⟨k + 1, by omega, by first | rfl | rw [hw1] | go_num, by rw [HN1.out, ← HLM.out]; exact HOW.out, HBK.out⟩
    case measure => simp [intOf]; omega
   ·rw [hf, if_pos rfl] at hnx
    have HN1 : Hid ((l.take (k + 1)).filter finB = L ++ [x]) := hnx
    clear hnx
    go_wp2_with (first | (go_at_call 16; with_reducible refine (ref_finite x _ hxw).mono ?_; rintro e w' ⟨rfl, rfl⟩) | (at_builtin; (refine wpList_append_own _ rfl _ _ 39 rfl w1.heap.size 22 i0 (.int .u64 0) 1 8 Tryz.underlying39 hi hz0 hz1 hz2 rfl (by decide) _ _ _ rfl (World.ownsRow.alloc HOW.out _) ⟨wr.heap.size, 0, none⟩ 1 1 [.int .u64 (x : Nat)] rfl rfl (by intro j z hj; match j with | 0 => (obtain rfl : z = .int .u64 (x : Nat) := by simpa using hj.symm); exact cell_of_row _ _ _ _ _ _ (heap_alloc_new _ _) | j + 1 => simp at hj) (by intro z hz; simp at hz; subst hz; rfl) (by unfold maxLen; omega) (by omega) (by have := HBK.out.size; simp at this ⊢; omega) ?_; intro v' w2 hown' hgrow _; have HOW2 : Hid (UOn w2 w1.heap.size v' (m + 1) (L ++ [x])) := (by show World.ownsRow _ _ _ _ _ _ _; rw [← ulo_push]; exact hown'); have HB2 : Hid (Below w1.heap.size w1 w2) := (HBK.out.alloc HBK.out.size _).grown hgrow (by have := HBK.out.size; simp at this ⊢; omega) (fun k hk => (World.ownsRow.lt HOW.out k hk).1); clear hown' hgrow)))
    go_roundw
    case rel => exact ⟨k + 1, by omega, by first | rfl | rw [hw1] | go_num, by rw [HN1.out, show (L ++ [x]).length = m + 1 by rw [HLM.out]; simp]; exact HOW2.out, HB2.out⟩
    case measure => simp [intOf]; omega
  ·obtain rfl : k = n := by omega
   have hle : (l.take k).filter finB = l.filter finB := by rw [List.take_of_length_le (by have := HL.out.1; omega)]
   rw [hle] at hown
   obtain ⟨K, hK⟩ : ∃ K, K = l.filter finB := ⟨_, rfl⟩
   rw [← hK] at hown
   have hKW : ∀ x ∈ K, W64 x := fun x hx => HL.out.2 x (by rw [hK] at hx; exact (List.mem_filter.1 hx).1)
   have hKF : ∀ x ∈ K, finB x = true := fun x hx => by rw [hK] at hx; exact (List.mem_filter.1 hx).2
   obtain ⟨m, hm⟩ : ∃ m, K.length = m := ⟨_, rfl⟩
   have hmk : m ≤ k := by rw [← hm, hK, ← HL.out.1]; exact List.length_filter_le _ _
   rw [hm] at hown
   obtain ⟨a', c', rfl, hu⟩ := uin_of hown
   obtain ⟨w2, hw2⟩ : ∃ W, W = wr := ⟨_, rfl⟩
   rw [← hw2] at hbk hu ⊢
   have HUK : Hid (UIn w2 a' m K) := hu
   have HBW1 : Hid (Below w.heap.size w w2) := HB1.out.thru hbk
   have hmax2 : m * 8 ≤ 140737488351232 := by omega
   clear hown hbk hk hkn hle HBK hw2 hu hK HB1 HW HL hi hz0 hz1 hz2 hmax
   have HIS : Hid (∀ x W, Calls Tryz.prog 25 #[.float .f64 x, .int .u64 (x : Nat)] W fun e w' => e = .returned (.bool true) ∧ W = w') := fun x W => by
    have := is9_v x x W
    rwa [decide_eq_true rfl] at this
   have HI0 : Hid (∀ W, Calls Tryz.prog 25 #[.float .f64 0, .int .u64 0] W fun e w' => e = .returned (.bool true) ∧ W = w') := fun W => HIS.out 0 W
   have HFL : Hid (Calls Tryz.prog 19 #[.slice a' m c'] w2 fun e w' => (∃ g cp, e = .returned (.tuple #[.slice (some ⟨g, 0, none⟩) m cp, .slice (some ⟨g, 0, none⟩) (m + 8 : Nat) cp]) ∧ FOn w' w2.heap.size (.slice (some ⟨g, 0, none⟩) (m + 8 : Nat) cp) (m + 8) (K ++ List.replicate 8 mark9)) ∧ Below w2.heap.size w2 w') := floats9_v w2 hm hmax2 HUK.out
   go_wp2_with fail
   refine Calls.mono HFL.out ?_
   rintro e w3 ⟨⟨g, cp, rfl, ho⟩, hb⟩
   have HIN : Hid (∀ W, Below w3.heap.size w3 W → FIn W (some ⟨g, 0, none⟩) m K) := fun W hW => (ho.fin (l := K) (r := List.replicate 8 mark9) hm.symm (by omega)).below hW
   have HBW : Hid (Below w.heap.size w w3) := HBW1.out.thru hb
   have HB3 : Hid (Below w3.heap.size w3 w3) := Below.refl _ _
   have HTW : Hid (∀ W, Below w3.heap.size w3 W → Tab W) := fun W hW => HCELL.out.2.1.below (HBW.out.thru hW)
   have HPQ : Hid (W64 p ∧ W64 q) := HCELL.out.2.2
   clear ho hb HFL HBW1 HUK
   have C1 : Hid (∀ W, Below w3.heap.size w3 W → Calls Tryz.prog 20 #[.slice (some ⟨g, 0, none⟩) m cp, .float .f64 p] W fun e w' => e = .returned (.tuple #[.float .f64 (shareA K p).1, .int .i64 (shareA K p).2]) ∧ Below W.heap.size W w') := fun W hW => share9_v (c := cp) p W hm (by omega : m * 8 ≤ 140737488355328) hKW (HIN.out W hW) HPQ.out.1 (HTW.out W hW)
   have C2 : Hid (∀ W, Below w3.heap.size w3 W → Calls Tryz.prog 20 #[.slice (some ⟨g, 0, none⟩) m cp, .float .f64 q] W fun e w' => e = .returned (.tuple #[.float .f64 (shareA K q).1, .int .i64 (shareA K q).2]) ∧ Below W.heap.size W w') := fun W hW => share9_v (c := cp) q W hm (by omega : m * 8 ≤ 140737488355328) hKW (HIN.out W hW) HPQ.out.2 (HTW.out W hW)
   have C3 : Hid (∀ W, Below w3.heap.size w3 W → Calls Tryz.prog 20 #[.slice (some ⟨g, 0, none⟩) m cp, .float .f64 0] W fun e w' => e = .returned (.tuple #[.float .f64 (shareA K 0).1, .int .i64 (shareA K 0).2]) ∧ Below W.heap.size W w') := fun W hW => share9_v (c := cp) 0 W hm (by omega : m * 8 ≤ 140737488355328) hKW (HIN.out W hW) (by unfold W64; decide) (HTW.out W hW)
   have C4 : Hid (∀ W, Below w3.heap.size w3 W → Calls Tryz.prog 20 #[.slice (some ⟨g, 0, none⟩) m cp, .float .f64 4607182418800017408] W fun e w' => e = .returned (.tuple #[.float .f64 (shareA K 4607182418800017408).1, .int .i64 (shareA K 4607182418800017408).2]) ∧ Below W.heap.size W w') := fun W hW => share9_v (c := cp) 4607182418800017408 W hm (by omega : m * 8 ≤ 140737488355328) hKW (HIN.out W hW) (by unfold W64; decide) (HTW.out W hW)
   have C5 : Hid (∀ W, Below w3.heap.size w3 W → Calls Tryz.prog 26 #[.slice (some ⟨g, 0, none⟩) m cp] W fun e w' => e = .returned (.tuple #[.float .f64 (nthA K 1).1, .int .i64 (nthA K 1).2]) ∧ Below W.heap.size W w') := fun W hW => least9_v (c := cp) W hm (by omega : m * 8 ≤ 140737488355328) hKW (HIN.out W hW)
   have C6 : Hid (∀ W, Below w3.heap.size w3 W → Calls Tryz.prog 27 #[.slice (some ⟨g, 0, none⟩) m cp] W fun e w' => e = .returned (.tuple #[.float .f64 (nthA K (m : Nat)).1, .int .i64 (nthA K (m : Nat)).2]) ∧ Below W.heap.size W w') := fun W hW => greatest9_v (c := cp) W hm (by omega : m * 8 ≤ 140737488355328) hKW (HIN.out W hW)
   by_cases hm0 : m = 0
   ·have z1 : ∀ p, shareA K p = (0, 4) := fun p => by unfold shareA; rw [if_pos (by omega)]
    have z2 : ∀ k, nthA K k = (0, 4) := fun k => by unfold nthA; rw [if_pos (by omega)]
    rw [z1] at C1 C2 C3 C4
    rw [z2] at C5 C6
    clear z1 z2 hm0 hm hKW hKF hmk hmax2 HIN HTW HPQ
    go_wp2_with fail
    refine (C1.out _ HB3.out).mono ?_
    rintro e w4 ⟨rfl, hb⟩
    have HB4 : Hid (Below w3.heap.size w3 w4) := HB3.out.thru hb
    clear hb HB3 C1
    go_wp2_with fail
    refine (C2.out _ HB4.out).mono ?_
    rintro e w5 ⟨rfl, hb⟩
    have HB5 : Hid (Below w3.heap.size w3 w5) := HB4.out.thru hb
    clear hb HB4 C2
    go_wp2_with fail
    refine (C3.out _ HB5.out).mono ?_
    rintro e w6 ⟨rfl, hb⟩
    have HB6 : Hid (Below w3.heap.size w3 w6) := HB5.out.thru hb
    clear hb HB5 C3
    go_wp2_with fail
    refine (C4.out _ HB6.out).mono ?_
    rintro e w7 ⟨rfl, hb⟩
    have HB7 : Hid (Below w3.heap.size w3 w7) := HB6.out.thru hb
    clear hb HB6 C4
    go_wp2_with fail
    refine (C5.out _ HB7.out).mono ?_
    rintro e w8 ⟨rfl, hb⟩
    have HB8 : Hid (Below w3.heap.size w3 w8) := HB7.out.thru hb
    clear hb HB7 C5
    go_wp2_with fail
    refine (C6.out _ HB8.out).mono ?_
    rintro e w9 ⟨rfl, hb⟩
    have HB9 : Hid (Below w3.heap.size w3 w9) := HB8.out.thru hb
    clear hb HB8 C6
    go_wp2_with (first | (go_at_call 25; with_reducible refine (HIS.out _ _).mono ?_; rintro e w' ⟨rfl, rfl⟩) | (go_at_call 25; with_reducible refine (HI0.out _).mono ?_; rintro e w' ⟨rfl, rfl⟩))
    go_ret
    exact ⟨by simp, HBW.out.thru HB9.out⟩
   ·obtain ⟨lo, hi2, wlo, whi, s1, s2, s3, s4, s5, s6⟩ := shares_of hKW hKF (by omega) (by omega)
    rw [hm] at s4
    rw [s1] at C3
    rw [s2] at C4
    rw [s3] at C5
    rw [s4] at C6
    have s6 := s6 p q
    rcases s5 p with ⟨x, wx, ex, x1, x2⟩ | ex
    ·rw [ex] at C1
     rcases s5 q with ⟨y, wy, ey, y1, y2⟩ | ey
     ·rw [ey] at C2
      obtain ⟨o1, o2⟩ := s6 x y HPQ.out.1 HPQ.out.2 ex ey
      have HOR : Hid (∀ u v, W64 u → W64 v → keyB u ≤ keyB v → ∀ W, Calls Tryz.prog 29 #[.float .f64 u, .float .f64 v] W fun e w' => (∃ o : Int, e = .returned (.int .i64 o) ∧ o ≤ 0) ∧ W = w') := fun u v hu hv h W => (order_any u v W hu hv).mono fun e w' ⟨h1, h2⟩ => ⟨⟨_, h1, ord_ngt h⟩, h2⟩
      cases hG : (Go.FloatKind.f64.format.order p q == some .gt)
      ·have K1 : Hid _ := HOR.out x y wx wy (o1 hG)
       have K2 : Hid _ := HOR.out lo x wlo wx x1
       have K3 : Hid _ := HOR.out y hi2 wy whi y2
       clear o1 o2 x1 x2 y1 y2 s1 s2 s3 s4 s5 s6 HOR ex ey hm hKW hKF hmk hmax2 HIN HTW HPQ hm0 wx wy wlo whi
       go_wp2_with fail
       refine (C1.out _ HB3.out).mono ?_
       rintro e w4 ⟨rfl, hb⟩
       have HB4 : Hid (Below w3.heap.size w3 w4) := HB3.out.thru hb
       clear hb HB3 C1
       go_wp2_with fail
       refine (C2.out _ HB4.out).mono ?_
       rintro e w5 ⟨rfl, hb⟩
       have HB5 : Hid (Below w3.heap.size w3 w5) := HB4.out.thru hb
       clear hb HB4 C2
       go_wp2_with fail
       refine (C3.out _ HB5.out).mono ?_
       rintro e w6 ⟨rfl, hb⟩
       have HB6 : Hid (Below w3.heap.size w3 w6) := HB5.out.thru hb
       clear hb HB5 C3
       go_wp2_with fail
       refine (C4.out _ HB6.out).mono ?_
       rintro e w7 ⟨rfl, hb⟩
       have HB7 : Hid (Below w3.heap.size w3 w7) := HB6.out.thru hb
       clear hb HB6 C4
       go_wp2_with fail
       refine (C5.out _ HB7.out).mono ?_
       rintro e w8 ⟨rfl, hb⟩
       have HB8 : Hid (Below w3.heap.size w3 w8) := HB7.out.thru hb
       clear hb HB7 C5
       go_wp2_with fail
       refine (C6.out _ HB8.out).mono ?_
       rintro e w9 ⟨rfl, hb⟩
       have HB9 : Hid (Below w3.heap.size w3 w9) := HB8.out.thru hb
       clear hb HB8 C6
       go_wp2_with (first | (first | (go_at_call 25; with_reducible refine (HIS.out _ _).mono ?_; rintro e w' ⟨rfl, rfl⟩) | (go_at_call 25; with_reducible refine (HI0.out _).mono ?_; rintro e w' ⟨rfl, rfl⟩)) | (go_at_call 29; with_reducible refine (K1.out _).mono ?_; rintro e w' ⟨⟨o1, rfl, q1⟩, rfl⟩) | (go_at_call 29; with_reducible refine (K2.out _).mono ?_; rintro e w' ⟨⟨o2, rfl, q2⟩, rfl⟩) | (go_at_call 29; with_reducible refine (K3.out _).mono ?_; rintro e w' ⟨⟨o3, rfl, q3⟩, rfl⟩))
       go_ret
       exact ⟨by simp, HBW.out.thru HB9.out⟩
      ·have K1 : Hid _ := HOR.out y x wy wx (o2 hG)
       have K2 : Hid _ := HOR.out lo y wlo wy y1
       have K3 : Hid _ := HOR.out x hi2 wx whi x2
       clear o1 o2 x1 x2 y1 y2 s1 s2 s3 s4 s5 s6 HOR ex ey hm hKW hKF hmk hmax2 HIN HTW HPQ hm0 wx wy wlo whi
       go_wp2_with fail
       refine (C1.out _ HB3.out).mono ?_
       rintro e w4 ⟨rfl, hb⟩
       have HB4 : Hid (Below w3.heap.size w3 w4) := HB3.out.thru hb
       clear hb HB3 C1
       go_wp2_with fail
       refine (C2.out _ HB4.out).mono ?_
       rintro e w5 ⟨rfl, hb⟩
       have HB5 : Hid (Below w3.heap.size w3 w5) := HB4.out.thru hb
       clear hb HB4 C2
       go_wp2_with fail
       refine (C3.out _ HB5.out).mono ?_
       rintro e w6 ⟨rfl, hb⟩
       have HB6 : Hid (Below w3.heap.size w3 w6) := HB5.out.thru hb
       clear hb HB5 C3
       go_wp2_with fail
       refine (C4.out _ HB6.out).mono ?_
       rintro e w7 ⟨rfl, hb⟩
       have HB7 : Hid (Below w3.heap.size w3 w7) := HB6.out.thru hb
       clear hb HB6 C4
       go_wp2_with fail
       refine (C5.out _ HB7.out).mono ?_
       rintro e w8 ⟨rfl, hb⟩
       have HB8 : Hid (Below w3.heap.size w3 w8) := HB7.out.thru hb
       clear hb HB7 C5
       go_wp2_with fail
       refine (C6.out _ HB8.out).mono ?_
       rintro e w9 ⟨rfl, hb⟩
       have HB9 : Hid (Below w3.heap.size w3 w9) := HB8.out.thru hb
       clear hb HB8 C6
       go_wp2_with (first | (first | (go_at_call 25; with_reducible refine (HIS.out _ _).mono ?_; rintro e w' ⟨rfl, rfl⟩) | (go_at_call 25; with_reducible refine (HI0.out _).mono ?_; rintro e w' ⟨rfl, rfl⟩)) | (go_at_call 29; with_reducible refine (K1.out _).mono ?_; rintro e w' ⟨⟨o1, rfl, q1⟩, rfl⟩) | (go_at_call 29; with_reducible refine (K2.out _).mono ?_; rintro e w' ⟨⟨o2, rfl, q2⟩, rfl⟩) | (go_at_call 29; with_reducible refine (K3.out _).mono ?_; rintro e w' ⟨⟨o3, rfl, q3⟩, rfl⟩))
       go_ret
       exact ⟨by simp, HBW.out.thru HB9.out⟩
     ·rw [ey] at C2
      clear x1 x2 s1 s2 s3 s4 s5 s6 ex ey hm hKW hKF hmk hmax2 HIN HTW HPQ hm0 wx wlo whi
      go_wp2_with fail
      refine (C1.out _ HB3.out).mono ?_
      rintro e w4 ⟨rfl, hb⟩
      have HB4 : Hid (Below w3.heap.size w3 w4) := HB3.out.thru hb
      clear hb HB3 C1
      go_wp2_with fail
      refine (C2.out _ HB4.out).mono ?_
      rintro e w5 ⟨rfl, hb⟩
      have HB5 : Hid (Below w3.heap.size w3 w5) := HB4.out.thru hb
      clear hb HB4 C2
      go_wp2_with fail
      refine (C3.out _ HB5.out).mono ?_
      rintro e w6 ⟨rfl, hb⟩
      have HB6 : Hid (Below w3.heap.size w3 w6) := HB5.out.thru hb
      clear hb HB5 C3
      go_wp2_with fail
      refine (C4.out _ HB6.out).mono ?_
      rintro e w7 ⟨rfl, hb⟩
      have HB7 : Hid (Below w3.heap.size w3 w7) := HB6.out.thru hb
      clear hb HB6 C4
      go_wp2_with fail
      refine (C5.out _ HB7.out).mono ?_
      rintro e w8 ⟨rfl, hb⟩
      have HB8 : Hid (Below w3.heap.size w3 w8) := HB7.out.thru hb
      clear hb HB7 C5
      go_wp2_with fail
      refine (C6.out _ HB8.out).mono ?_
      rintro e w9 ⟨rfl, hb⟩
      have HB9 : Hid (Below w3.heap.size w3 w9) := HB8.out.thru hb
      clear hb HB8 C6
      go_wp2_with (first | (go_at_call 25; with_reducible refine (HIS.out _ _).mono ?_; rintro e w' ⟨rfl, rfl⟩) | (go_at_call 25; with_reducible refine (HI0.out _).mono ?_; rintro e w' ⟨rfl, rfl⟩))
      go_ret
      exact ⟨by simp, HBW.out.thru HB9.out⟩
    ·rw [ex] at C1
     obtain ⟨y, f, ey, hf⟩ : ∃ y f, shareA K q = (y, f) ∧ (f = 0 ∨ f = 1) := by
      rcases s5 q with ⟨y, -, ey, -⟩ | ey
      ·exact ⟨y, 0, ey, .inl rfl⟩
      ·exact ⟨0, 1, ey, .inr rfl⟩
     rw [ey] at C2
     clear s1 s2 s3 s4 s5 s6 ex ey hm hKW hKF hmk hmax2 HIN HTW HPQ hm0 wlo whi
     rcases hf with rfl | rfl
     all_goals
      go_wp2_with fail
      refine (C1.out _ HB3.out).mono ?_
      rintro e w4 ⟨rfl, hb⟩
      have HB4 : Hid (Below w3.heap.size w3 w4) := HB3.out.thru hb
      clear hb HB3 C1
      go_wp2_with fail
      refine (C2.out _ HB4.out).mono ?_
      rintro e w5 ⟨rfl, hb⟩
      have HB5 : Hid (Below w3.heap.size w3 w5) := HB4.out.thru hb
      clear hb HB4 C2
      go_wp2_with fail
      refine (C3.out _ HB5.out).mono ?_
      rintro e w6 ⟨rfl, hb⟩
      have HB6 : Hid (Below w3.heap.size w3 w6) := HB5.out.thru hb
      clear hb HB5 C3
      go_wp2_with fail
      refine (C4.out _ HB6.out).mono ?_
      rintro e w7 ⟨rfl, hb⟩
      have HB7 : Hid (Below w3.heap.size w3 w7) := HB6.out.thru hb
      clear hb HB6 C4
      go_wp2_with fail
      refine (C5.out _ HB7.out).mono ?_
      rintro e w8 ⟨rfl, hb⟩
      have HB8 : Hid (Below w3.heap.size w3 w8) := HB7.out.thru hb
      clear hb HB7 C5
      go_wp2_with fail
      refine (C6.out _ HB8.out).mono ?_
      rintro e w9 ⟨rfl, hb⟩
      have HB9 : Hid (Below w3.heap.size w3 w9) := HB8.out.thru hb
      clear hb HB8 C6
      go_wp2_with (first | (go_at_call 25; with_reducible refine (HIS.out _ _).mono ?_; rintro e w' ⟨rfl, rfl⟩) | (go_at_call 25; with_reducible refine (HI0.out _).mono ?_; rintro e w' ⟨rfl, rfl⟩))
      go_ret
      exact ⟨by simp, HBW.out.thru HB9.out⟩
end Go.Proofs.YtlbokicainimnaaGreatDoor
