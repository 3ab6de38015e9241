import Derived.Test.YtlffojopfilfeaaGreatDoorSOP
set_option maxRecDepth 100000
namespace Go.Proofs.YtlffojopfilfeaaGreatDoor
open Go Go.RowKit
open Go.Lib hiding intOf
theorem right_val {l : List Nat} (h : allF l) (x : Value) (W : World) (hx : WideI W x (sumT (tmL l))) (hl : l.length ≤ 65536) : Calls Tryz.prog 40 #[x, .int .i64 1074] W (WideR (valL l) W) := by
 have e := sum_valL h
 obtain ⟨U, hU, hR⟩ := right_s x (sumT (tmL l)) LP W hx (by rw [e, Int.natAbs_mul, Int.natAbs_natCast]; exact Nat.dvd_mul_left _ _) (bb := 64 + LQ) (sum_room (small_L l) (by rw [tmL_len]; omega)) lq_room (by rw [LP_eq]; decide)
 rw [e] at hU
 have hp : ((2 ^ LP : Nat) : Int) ≠ 0 := by have := Nat.two_pow_pos LP; omega
 have hUV : U = valL l := (Int.eq_of_mul_eq_mul_right hp hU).symm
 rw [hUV, show ((LP : Nat) : Int) = 1074 by rw [LP_eq]; rfl] at hR
 exact hR
set_option maxHeartbeats 8000000 in
theorem variance8_v {a : Option Addr} {n c : Nat} {l : List Nat} (s : Bool) (w : World) (hn : l.length = n) (hmax : n < 4611686018427387904) (hl : ∀ x ∈ l, W64 x) (hcell : FCells w a n l) (htab : Tab w) (htw : TabW w) :
  Calls Tryz.prog 18 #[.slice a n c, .bool s] w fun e w' => e = .returned (.tuple #[.float .f64 (vrB l s), .int .i64 (vrX l s)]) ∧ Below w.heap.size w w' := by
 unfold vrB vrX
 rw [hn]
 by_cases hlong : 65536 < n
 ·rw [if_pos hlong, if_pos hlong]
  have h1 : (65536 : Int) < (n : Int) := by omega
  clear hcell htab htw hl hn
  go_enter Tryz.func18, Tryz.ntmps18
  go_wp2
  exact bodyPost_ret (results_tmp2 rfl _ _ _) rfl ⟨rfl, Below.refl _ _⟩
 rw [if_neg hlong, if_neg hlong]
 have h1 : ¬ (65536 : Int) < (n : Int) := by omega
 by_cases h0 : n = 0
 ·subst h0
  rw [if_pos rfl, if_pos rfl]
  clear hcell htab htw hl hn
  go_enter Tryz.func18, Tryz.ntmps18
  go_wp2
  exact bodyPost_ret (results_tmp2 rfl _ _ _) rfl ⟨rfl, Below.refl _ _⟩
 rw [if_neg h0, if_neg h0]
 have h2 : ((n : Int) == 0) = false := by simp; omega
 by_cases hone : n = 1 ∧ s = true
 ·obtain ⟨rfl, rfl⟩ := hone
  rw [if_pos ⟨rfl, rfl⟩, if_pos ⟨rfl, rfl⟩]
  clear hcell htab htw hl hn
  go_enter Tryz.func18, Tryz.ntmps18
  go_wp2
  exact bodyPost_ret (results_tmp2 rfl _ _ _) rfl ⟨rfl, Below.refl _ _⟩
 rw [if_neg hone, if_neg hone]
 have HN : Hid (∀ W, Calls Tryz.prog 24 #[] W fun e w' => ∃ g, e = .returned (.pointer (some ⟨g, 0, none⟩)) ∧ W.heap.size ≤ g ∧ AccT w' g [] ∧ Below W.heap.size W w') := fun W => new8_v W
 have HAD : Hid (∀ W g, Below w.heap.size w W → w.heap.size ≤ g → AccT W g [] → Calls Tryz.prog 25 #[.pointer (some ⟨g, 0, none⟩), .slice a n c] W fun e w' => e = .returned (.tuple #[]) ∧ AccT w' g (tmL l) ∧ But g W w') := fun W g hW hg hA => by
  have := add8_v (g := g) (T := []) (a := a) (n := n) (cap := c) (l := l) W hA (by rw [List.nil_append]; exact fit_L (by omega)) hn hl (fun h0 => by
   obtain ⟨b, o, h1, h2, h3⟩ := hcell h0
   exact ⟨b, o, h1, Nat.lt_of_lt_of_le h2 hW.size, by omega, fun k hk => (hW.cell (p := ⟨b, o + k, none⟩) h2).trans (h3 k hk)⟩)
  rw [List.nil_append] at this
  exact this
 obtain ⟨S, hS⟩ : ∃ S : Nat → List Term1, ∀ k, S k = tmD (l.take k) (l.take k) := ⟨_, fun _ => rfl⟩
 have HSL : Hid (∀ k, k ≤ n → Fit (S k)) := fun k hk => by rw [hS]; exact fit_D (by rw [List.length_take]; omega)
 have HS0 : Hid (S 0 = []) := by show _ = _; rw [hS]; simp [tmD]
 have HSN : Hid (S n = tmD l l) := by
  have e1 : l.take n = l := by rw [← hn]; exact List.take_length
  show _ = _; rw [hS, e1]
 obtain ⟨x, hx⟩ : ∃ x : Nat → Nat, ∀ k, x k = l.getD k 0 := ⟨_, fun _ => rfl⟩
 have HPR : Hid (∀ W g k, k < n → AccT W g (S k) → Calls Tryz.prog 31 #[.pointer (some ⟨g, 0, none⟩), .float .f64 (x k), .float .f64 (x k)] W fun e w' => e = .returned (.tuple #[]) ∧ AccT w' g (S (k + 1)) ∧ But g W w') := fun W g k hk hA => by
  have e : S (k + 1) = S k ++ [tmP (l.getD k 0) (l.getD k 0)] := by rw [hS, hS]; exact tmD_take (by omega) (by omega)
  have hf := HSL.out (k + 1) (by omega)
  rw [e] at hf ⊢
  rw [hx]
  exact prod8_v W hA hf (get_W hl k) (get_W hl k)
 have HCE : Hid (0 < n → ∃ b o, a = some ⟨b, o, none⟩ ∧ b < w.heap.size ∧ ∀ k, k < n → w.cell? ⟨b, o + k, none⟩ = some (.float .f64 (x k))) := fun h => by
  obtain ⟨b, o, h1, h2, h3⟩ := hcell h
  exact ⟨b, o, h1, h2, fun k hk => by rw [h3 k hk, hx]⟩
 have HNA : Hid (∀ W, Calls Tryz.prog 39 #[] W fun e w' => e = .returned (.float .f64 theNaN) ∧ W = w') := fun W => nan_any W
 obtain ⟨T1, hT1⟩ : ∃ T, T = tmL l := ⟨_, rfl⟩
 have hfit := fit_L (l := l) (by omega)
 rw [← hT1] at hfit
 have hcb := cnt_all hfit.1
 rw [hT1, tmL_len, hn, ← hT1] at hcb
 have HF : Hid (spcI (cntT T1) = false → allF l ∧ (sumT T1 = valL l * ((2 ^ LP : Nat) : Int)) ∧ sumT (S n) = sqL l) := fun h => by
  have := (spc_iff l).1 (by rw [← hT1]; exact h)
  exact ⟨this, by rw [hT1]; exact sum_valL this, by rw [HSN.out]; exact sum_sqL this⟩
 have HRT : Hid (∀ W v, allF l → WideI W v (sumT T1) → Calls Tryz.prog 40 #[v, .int .i64 1074] W (WideR (valL l) W)) := fun W v hf hv => right_val hf v W (by rw [← hT1]; exact hv) (by omega)
 have HOF : Hid (∀ W (k : Nat), k ≤ 4294967296 → Calls Tryz.prog 41 #[.int .i64 (k : Nat)] W (WideR (k : Int) W)) := fun W k hk => iof_v k W (by omega) (by omega)
 have HM1 : Hid (∀ W u v, allF l → WideI W u (n : Int) → WideI W v (sqL l) → Calls Tryz.prog 42 #[u, v] W (WideR ((n : Int) * sqL l) W)) := fun W u v hf hu hv =>
  imul_v u v _ _ W hu hv (bb := 64 + LQ) (by rw [Int.natAbs_natCast]; exact Nat.lt_of_lt_of_le (show n < 2 ^ 64 by omega) (Nat.pow_le_pow_right (by decide) (by omega))) (var_bd hf (by omega)).2.2 lq_room
 have HM2 : Hid (∀ W u v, allF l → WideI W u (valL l) → WideI W v (valL l) → Calls Tryz.prog 42 #[u, v] W (WideR (valL l * valL l) W)) := fun W u v hf hu hv =>
  imul_v u v _ _ W hu hv (var_bd2 hf (by omega)).2.2 (var_bd2 hf (by omega)).2.2 lq_room
 have HSU : Hid (∀ W u v, allF l → WideI W u ((n : Int) * sqL l) → WideI W v (valL l * valL l) → Calls Tryz.prog 43 #[u, v] W (WideR (varV l) W)) := fun W u v hf hu hv => by
  have hb2 := var_bd2 hf (by omega)
  rw [hn] at hb2
  have := isub_v u v _ _ W hu hv hb2.1 hb2.2.1 (by rw [LQ_eq]; decide)
  rw [show varV l = (n : Int) * sqL l - valL l * valL l by unfold varV; rw [hn]]
  exact this
 have HSG : Hid (∀ W v, WideI W v (varV l) → Calls Tryz.prog 44 #[v] W fun e w' => e = .returned (.int .i64 (if varV l = 0 then 0 else if varV l < 0 then -1 else 1)) ∧ Below W.heap.size W w') := fun W v hv => sign_s v _ W hv
 obtain ⟨D, hD⟩ : ∃ D, D = varN l s := ⟨_, rfl⟩
 have hDN : D = n * (if s = true then n - 1 else n) := by rw [hD]; unfold varN; rw [hn]
 have hDb := var_den (l := l) (s := s) (by omega) (by rw [hn]; exact hone) (by omega)
 rw [← hD] at hDb
 have HQU : Hid (∀ W u v, Below w.heap.size w W → allF l → varV l ≠ 0 → WideI W u (varV l) → WideI W v (D : Int) → Calls Tryz.prog 45 #[u, .int .i64 (-2148), v] W fun e w' => e = .returned (.tuple #[.float .f64 (totB (varV l) D), .int .i64 (totX (varV l) D)]) ∧ Below W.heap.size W w') := fun W u v hW hf hv0 hu hv =>
  quo8_v u v (varV l) D (81 + LQ) W hu hv hv0 (var_bd hf (by omega)).2.1 (by rw [LQ_eq]; decide) hDb.1 (Nat.lt_of_le_of_lt hDb.2 (by decide)) (htab.below hW) (htw.below hW)
 have HD : Hid (D = n * (if s = true then n - 1 else n) ∧ D ≤ 4294967296) := ⟨hDN, hDb.2⟩
 have HNB : Hid (n ≤ 65536 ∧ n ≠ 0 ∧ ¬ (n = 1 ∧ s = true)) := ⟨by omega, h0, hone⟩
 have hFT : Hid (Fit T1) := hfit
 rw [← hT1] at HAD ⊢
 rw [← hD]
 obtain ⟨SQ, hSQ⟩ : ∃ x, x = sqL l := ⟨_, rfl⟩
 obtain ⟨VL, hVL⟩ : ∃ x, x = valL l := ⟨_, rfl⟩
 obtain ⟨VV, hVV⟩ : ∃ x, x = varV l := ⟨_, rfl⟩
 obtain ⟨AF, hAF⟩ : ∃ x, x = allF l := ⟨_, rfl⟩
 rw [← hSQ] at HF HM1 HSU
 rw [← hVL] at HF HRT HM2 HSU
 rw [← hVV] at HSU HSG HQU ⊢
 rw [← hAF] at HF HRT HM1 HM2 HSU HQU
 have hcb2 : cntT T1 0 + cntT T1 1 + cntT T1 2 ≤ 65536 := by omega
 obtain ⟨BB, hBB⟩ : ∃ x, x = if spcI (cntT T1) = true then 9221120237041090560 else if VV = 0 then 0 else totB VV D := ⟨_, rfl⟩
 obtain ⟨XX, hXX⟩ : ∃ x, x = if spcI (cntT T1) = true then 0 else if VV = 0 then 0 else totX VV D := ⟨_, rfl⟩
 rw [← hBB, ← hXX]
 have HE1 : Hid (spcI (cntT T1) = true → BB = theNaN ∧ XX = 0) := fun h => by rw [hBB, hXX, if_pos h, if_pos h]; exact ⟨rfl, rfl⟩
 have HE2 : Hid (spcI (cntT T1) = false → VV = 0 → BB = 0 ∧ XX = 0) := fun h h0 => by rw [hBB, hXX, h]; simp [h0]
 have HE3 : Hid (spcI (cntT T1) = false → VV ≠ 0 → totB VV D = BB ∧ totX VV D = XX) := fun h h0 => by rw [hBB, hXX, h]; simp [h0]
 clear hcell htab htw hl hn hS HSN hlong hone hD hDN hDb hfit hT1 hcb hSQ hVL hVV hAF hx hBB hXX
 have hcs : (((n : Int) == 1) = true ∧ s = false) ∨ ((n : Int) == 1) = false := by
  by_cases hn1 : n = 1
  ·exact .inl ⟨by simp; omega, by cases hs : s; rfl; exact absurd ⟨hn1, hs⟩ HNB.out.2.2⟩
  ·exact .inr (by simp; omega)
 rcases hcs with ⟨h3, h4⟩ | h3
 all_goals
  go_enter Tryz.func18, Tryz.ntmps18
  go_wp2_with fail
  (with_reducible refine (HN.out _).mono ?_)
  rintro e w1 ⟨g1, rfl, hg, hacc, hb⟩
  have HG1 : Hid (w.heap.size ≤ g1) := hg
  have HA1 : Hid (AccT w1 g1 []) := hacc
  have HB1 : Hid (Below w.heap.size w w1) := hb
  clear hg hacc hb
  go_wp2_with fail
  (with_reducible refine (HN.out _).mono ?_)
  rintro e w2 ⟨g2, rfl, hg, hacc, hb⟩
  have HG2 : Hid (w.heap.size ≤ g2 ∧ g1 ≠ g2) := ⟨Nat.le_trans HB1.out.size hg, by have := HA1.out.lt; omega⟩
  have HA2 : Hid (AccT w2 g2 [] ∧ AccT w2 g1 []) := ⟨hacc, HA1.out.below hb⟩
  have HB2 : Hid (Below w.heap.size w w2) := HB1.out.thru hb
  clear hg hacc hb
  go_wp2_with fail
  (with_reducible refine (HAD.out _ _ HB2.out HG1.out HA2.out.2).mono ?_)
  rintro e w3 ⟨rfl, hacc, hbut⟩
  have HA3 : Hid (AccT w3 g1 T1 ∧ AccT w3 g2 []) := ⟨hacc, HA2.out.1.but (Ne.symm HG2.out.2) (AccRow.clear HA2.out.2) hbut⟩
  have HB3 : Hid (Below w.heap.size w w3) := But.over HB2.out hbut HG1.out HB2.out.size
  clear hacc hbut HA1 HA2 HB1 HB2 HAD HN
  go_wp2_with fail
  go_loopw [10, 35] (fun u i wr => ∃ k : Nat, k ≤ n ∧ i = .int .i64 (k : Nat) ∧ (AccT wr g1 T1 ∧ AccT wr g2 (S k)) ∧ Below w.heap.size w wr) (fun _ i _ => n - (intOf i).toNat)
  case atStart => exact ⟨0, Nat.zero_le _, rfl, ⟨HA3.out.1, by rw [HS0.out]; exact HA3.out.2⟩, HB3.out⟩
  case round =>
   obtain ⟨k, hk, rfl, hacc, hbk⟩ := hrel
   have HA : Hid (AccT wr g1 T1 ∧ AccT wr g2 (S k)) := hacc
   have HB : Hid (Below w.heap.size w wr) := hbk
   clear hacc hbk HA3 HB3
   by_cases hkn : k < n
   ·obtain ⟨b, o, rfl, hb, hcc⟩ := HCE.out (by omega)
    have hck := (HB.out.cell (p := ⟨b, o + k, none⟩) hb).trans (hcc k hkn)
    have HK : Hid (k < n) := hkn
    have hkn2 : (k : Int) < (n : Int) := by omega
    have hk0 : (0 : Int) ≤ (k : Int) := by omega
    clear hcc hb
    go_wp2_with fail
    (with_reducible refine (HPR.out _ _ _ HK.out HA.out.2).mono ?_)
    rintro e w4 ⟨rfl, hacc, hbut⟩
    have HA4 : Hid (AccT w4 g1 T1 ∧ AccT w4 g2 (S (k + 1))) := ⟨HA.out.1.but HG2.out.2 (AccRow.clear HA.out.2) hbut, hacc⟩
    have HB4 : Hid (Below w.heap.size w w4) := But.over HB.out hbut HG2.out.1 HB.out.size
    have hw1 : IntKind.i64.wrap ((k : Int) + 1) = ((k + 1 : Nat) : Int) := by rw [IntWalk.i64_in _ (by omega)]; omega
    clear hacc hbut
    go_wp2
    go_roundw
    case rel => exact ⟨k + 1, by omega, by first | rfl | rw [hw1], HA4.out, HB4.out⟩
    case measure => simp [intOf]; omega
   ·obtain rfl : k = n := by omega
    obtain ⟨ra, rm, rq, hrow, hnum⟩ := id HA.out.1
    obtain ⟨ca, cm, cq, hrow2, hnum2⟩ := id HA.out.2
    obtain ⟨c0, e0⟩ : ∃ c, c = cntT T1 0 := ⟨_, rfl⟩
    obtain ⟨c1, e1⟩ : ∃ c, c = cntT T1 1 := ⟨_, rfl⟩
    obtain ⟨c2, e2⟩ : ∃ c, c = cntT T1 2 := ⟨_, rfl⟩
    have hsp : spcI (cntT T1) = (decide (0 < c0) || decide (0 < c1) || decide (0 < c2)) := by unfold spcI; rw [← e0, ← e1, ← e2]
    rw [← e0, ← e1, ← e2] at hrow hcb2
    have k0 := cell_of_row _ g1 0 _ _ _ hrow
    have k1 := cell_of_row _ g1 1 _ _ _ hrow
    have k2 := cell_of_row _ g1 2 _ _ _ hrow
    obtain ⟨nb, hnb⟩ : ∃ b, b = decide (sumT T1 < 0) := ⟨_, rfl⟩
    obtain ⟨mb, hmb⟩ : ∃ b, b = decide (sumT (S k) < 0) := ⟨_, rfl⟩
    have hI1 : WideI wr (.agg #[.bool nb, .slice ra rm rq]) (sumT T1) := by rw [hnb]; exact ⟨ra, rm, rq, rfl, hnum⟩
    have hI2 : WideI wr (.agg #[.bool mb, .slice ca cm cq]) (sumT (S k)) := by rw [hmb]; exact ⟨ca, cm, cq, rfl, hnum2⟩
    rw [← hnb] at hrow
    rw [← hmb] at hrow2
    have HI : Hid (∀ W, Below wr.heap.size wr W → WideI W (.agg #[.bool nb, .slice ra rm rq]) (sumT T1) ∧ WideI W (.agg #[.bool mb, .slice ca cm cq]) (sumT (S k))) := fun W hW => ⟨hI1.below hW, hI2.below hW⟩
    have HCL : Hid (∀ W, Below wr.heap.size wr W → (W.cell? ⟨g1, 5, none⟩ = some (.bool nb) ∧ W.cell? ⟨g1, 6, none⟩ = some (.slice ra rm rq)) ∧ W.cell? ⟨g2, 5, none⟩ = some (.bool mb) ∧ W.cell? ⟨g2, 6, none⟩ = some (.slice ca cm cq)) := fun W hW =>
     ⟨⟨cell_of_row _ g1 5 _ _ _ (hW.blk hrow (blk_lt hrow)), cell_of_row _ g1 6 _ _ _ (hW.blk hrow (blk_lt hrow))⟩, cell_of_row _ g2 5 _ _ _ (hW.blk hrow2 (blk_lt hrow2)), cell_of_row _ g2 6 _ _ _ (hW.blk hrow2 (blk_lt hrow2))⟩
    clear hrow hrow2 hnum hnum2 hnb hmb hI1 hI2 hk hkn e0 e1 e2 HPR HS0 HSL
    by_cases hz : 0 < c0 ∨ 0 < c1 ∨ 0 < c2
    ·have hsp1 : spcI (cntT T1) = true := by rw [hsp]; simp; omega
     have HEE : Hid _ := HE1.out hsp1
     have hpos : (0 : Int) < (c0 : Int) + (c1 : Int) + (c2 : Int) := by omega
     clear hz hsp hsp1
     go_wp2_with fail
     go_quiet (fail)
     go_wp2_with (go_at_call 39; (with_reducible refine (HNA.out _).mono ?_); rintro e w' ⟨rfl, rfl⟩)
     refine bodyPost_ret (results_tmp2 rfl _ _ _) rfl ⟨?_, HB.out.drewM _⟩
     rw [HEE.out.1, HEE.out.2]
     rfl
    ·obtain rfl : c0 = 0 := by omega
     obtain rfl : c1 = 0 := by omega
     obtain rfl : c2 = 0 := by omega
     have hsp1 : spcI (cntT T1) = false := by rw [hsp]; rfl
     have HEN : Hid _ := HE2.out hsp1
     have HET : Hid _ := HE3.out hsp1
     obtain ⟨hAF, hs1, hs2⟩ := HF.out hsp1
     have HAF : Hid AF := hAF
     rw [hs2] at HI
     clear hz hsp hsp1 hAF hs1 hs2 HF
     go_wp2_with fail
     go_quiet (fail)
     obtain ⟨w5, hw5⟩ : ∃ W, W = wr.drewN nq := ⟨_, rfl⟩
     have hb5 : Below wr.heap.size wr w5 := by rw [hw5]; exact (Below.refl _ _).drewM _
     rw [← hw5]
     obtain ⟨⟨k5, k6⟩, -⟩ := HCL.out w5 hb5
     have HB5 : Hid (Below wr.heap.size wr w5) := hb5
     clear hw5 hb5 k0 k1 k2
     go_wp2_with fail
     (with_reducible refine (HRT.out _ _ HAF.out (HI.out _ HB5.out).1).mono ?_)
     rintro e w6 ⟨v, rfl, hv, hb⟩
     have HB6 : Hid (Below wr.heap.size wr w6) := HB5.out.thru hb
     obtain ⟨va, vm, vc, rfl, hv2⟩ := hv.agg
     obtain ⟨vb, hvb⟩ : ∃ b, b = decide (VL < 0) := ⟨_, rfl⟩
     rw [← hvb] at hv2 ⊢
     clear hv hb hvb k5 k6
     go_upto_region 18 with fail
     obtain ⟨w7, hw7⟩ : ∃ W, W = w6.alloc (.cells #[.bool vb, .slice va vm vc] 73) := ⟨_, rfl⟩
     obtain ⟨g11, hg11⟩ : ∃ k, k = w6.heap.size := ⟨_, rfl⟩
     have hb7 : Below w6.heap.size w6 w7 := by rw [hw7]; exact (Below.refl _ _).alloc (Nat.le_refl _) _
     have q7 : w7.heap[g11]? = some (.cells #[.bool vb, .slice va vm vc] 73 (0, 0)) := by rw [hw7, hg11]; exact heap_alloc_new _ _
     rw [← hw7, ← hg11]
     have HB7 : Hid (Below wr.heap.size wr w7) := HB6.out.thru hb7
     have hI7 := hv2.below hb7
     have HI7 : Hid (∀ W, Below w7.heap.size w7 W → WideI W (.agg #[.bool vb, .slice va vm vc]) VL ∧ WideI W (.agg #[.bool mb, .slice ca cm cq]) SQ) := fun W hW => ⟨hI7.below hW, (HI.out _ (HB7.out.thru hW)).2⟩
     have HC7 : Hid (∀ W, Below w7.heap.size w7 W → (W.cell? ⟨g11, 0, none⟩ = some (.bool vb) ∧ W.cell? ⟨g11, 1, none⟩ = some (.slice va vm vc)) ∧ W.cell? ⟨g2, 5, none⟩ = some (.bool mb) ∧ W.cell? ⟨g2, 6, none⟩ = some (.slice ca cm cq)) := fun W hW =>
      ⟨⟨cell_of_row _ g11 0 _ _ _ (hW.blk q7 (blk_lt q7)), cell_of_row _ g11 1 _ _ _ (hW.blk q7 (blk_lt q7))⟩, (HCL.out _ (HB7.out.thru hW)).2⟩
     have hNK : k ≤ 4294967296 := by have := HNB.out.1; omega
     have HNK : Hid (k ≤ 4294967296) := hNK
     clear hw7 hg11 hb7 q7 hI7 hv2 hNK HCL HI HB5 HB6
     have h1 : once [(68, 0), (69, 1), (70, 2), (71, 3), (72, 4), (73, 5), (74, 6), (75, 7), (76, 8), (77, 9), (78, 10), (12, 11)] = true := by kernel_rfl
     have h2 : within [(68, 0), (69, 1), (70, 2), (71, 3), (72, 4), (73, 5), (74, 6), (75, 7), (76, 8), (77, 9), (78, 10), (12, 11)] 94 = true := by kernel_rfl
     let S : Nat → (Nat → Value) → World → Prop := fun i xs W => match i with
      | 0 => xs 0 = .int .i64 (k : Nat)
      | 1 => WideI W (xs 1) ((k : Int))
      | 2 => xs 2 = .pointer (some ⟨g2, 0, none⟩)
      | 3 => xs 3 = .pointer (some ⟨g2, 0, none⟩)
      | 4 => xs 4 = .pointer (some ⟨g2, 5, none⟩)
      | 5 => xs 5 = .agg #[.bool mb, .slice ca cm cq]
      | 6 => WideI W (xs 6) ((k : Int) * SQ)
      | 7 => xs 7 = .agg #[.bool vb, .slice va vm vc]
      | 8 => xs 8 = .agg #[.bool vb, .slice va vm vc]
      | 9 => WideI W (xs 9) (VL * VL)
      | 10 => WideI W (xs 10) (VV)
      | 11 => ∃ g, (xs 11) = .pointer (some ⟨g, 0, none⟩) ∧ w7.heap.size ≤ g ∧ g < W.heap.size ∧ IntRow W g
      | _ => True
     have hstab : ∀ j ys W W', S j ys W → Below W.heap.size W W' → S j ys W' := by
      intro j ys W W' h hb
      match j, h with
      | 0, h => exact h
      | 1, h => exact h.below hb
      | 2, h => exact h
      | 3, h => exact h
      | 4, h => exact h
      | 5, h => exact h
      | 6, h => exact h.below hb
      | 7, h => exact h
      | 8, h => exact h
      | 9, h => exact h.below hb
      | 10, h => exact h.below hb
      | 11, ⟨g, s1, s2, s3, s4⟩ => exact ⟨g, s1, s2, Nat.lt_of_lt_of_le s3 hb.size, s4.below hb⟩
      | _ + 12, h => exact trivial
     refine wp_region_flow3T 12 13 4 [(68, 0), (69, 1), (70, 2), (71, 3), (72, 4), (73, 5), (74, 6), (75, 7), (76, 8), (77, 9), (78, 10), (12, 11)] [11] S (fun _ W => Below w7.heap.size w7 W) ((Below.refl _ _).drew) (by kernel_rfl) (by kernel_rfl) (by kernel_rfl) (by decide) (by kernel_rfl) h1 (by kernel_rfl) ?_ ?_ ?_ ?_
     ·intro j hj xs W h
      simp only [List.mem_cons, List.not_mem_nil, or_false] at hj
      rcases hj with rfl
      ·obtain ⟨g, s1, s2, s3, s4⟩ := h; exact ⟨g, s1, s3⟩
     ·intro j xs ys W e h
      match j, e, h with
      | 0, e, h => exact c_ (e 0 (.inl rfl)) h
      | 1, e, h => exact (congrArg (fun z => WideI W z _) (e 1 (.inl rfl))).mp h
      | 2, e, h => exact c_ (e 2 (.inl rfl)) h
      | 3, e, h => exact c_ (e 3 (.inl rfl)) h
      | 4, e, h => exact c_ (e 4 (.inl rfl)) h
      | 5, e, h => exact c_ (e 5 (.inl rfl)) h
      | 6, e, h => exact (congrArg (fun z => WideI W z _) (e 6 (.inl rfl))).mp h
      | 7, e, h => exact c_ (e 7 (.inl rfl)) h
      | 8, e, h => exact c_ (e 8 (.inl rfl)) h
      | 9, e, h => exact (congrArg (fun z => WideI W z _) (e 9 (.inl rfl))).mp h
      | 10, e, h => exact (congrArg (fun z => WideI W z _) (e 10 (.inl rfl))).mp h
      | 11, e, ⟨g, s1, r⟩ => exact ⟨g, (e 11 (.inl rfl)).symm.trans s1, r⟩
      | _ + 12, e, h => exact trivial
     ·refine ⟨⟨⟨⟨⟨⟨⟨⟨⟨⟨⟨⟨trivial, ?_⟩, ?_⟩, ?_⟩, ?_⟩, ?_⟩, ?_⟩, ?_⟩, ?_⟩, ?_⟩, ?_⟩, ?_⟩, ?_⟩
      ·refine flow3_step _ (some 68) rfl rfl rfl h1 h2 gI gB hstab fun ac xs W Dn he hni hG hS K hK => ?_
       exact op_move (.tmp 6) (.inl rfl) (hK _ _ (he 6) bR (fun h => absurd h (by decide)))
      ·refine flow3_step _ (some 69) rfl rfl rfl h1 h2 gI gB hstab fun ac xs W Dn he hni hG hS K hK => ?_
       have e0 := (he 68).trans (hS 0 (by kernel_rfl))
       refine op_call 41 _ _ rfl _ (by simp only [List.map, e0]) (by go_simp) (HOF.out W _ HNK.out) ?_
       rintro e' W' ⟨u, rfl, hi', hb'⟩
       exact ⟨_, rfl, hK _ _ hi' hb' (fun h => absurd h (by decide))⟩
      ·refine flow3_step _ (some 70) rfl rfl rfl h1 h2 gI gB hstab fun ac xs W Dn he hni hG hS K hK => ?_
       exact op_move (.tmp 8) (.inl rfl) (hK _ _ (he 8) bR (fun h => absurd h (by decide)))
      ·refine flow3_step _ (some 71) rfl rfl rfl h1 h2 gI gB hstab fun ac xs W Dn he hni hG hS K hK => ?_
       have e0 := (he 70).trans (hS 2 (by kernel_rfl))
       refine op_any (.nilCheck (.tmp 70)) rfl (.pointer (some ⟨g2, 0, none⟩)) (fun o' ho' => ?_) (hK _ _ rfl bR (fun h => absurd h (by decide)))
       simp only [execOp, ho', e0]
       go_simp
      ·refine flow3_step _ (some 72) rfl rfl rfl h1 h2 gI gB hstab fun ac xs W Dn he hni hG hS K hK => ?_
       have e0 := (he 71).trans (hS 3 (by kernel_rfl))
       refine op_any (.fieldAddr 75 (.tmp 71) 1) rfl (.pointer (some ⟨g2, 5, none⟩)) (fun o' ho' => ?_) (hK _ _ rfl bR (fun h => absurd h (by decide)))
       simp only [execOp, ho', e0]
       go_simp
      ·refine flow3_step _ (some 73) rfl rfl rfl h1 h2 gI gB hstab fun ac xs W Dn he hni hG hS K hK => ?_
       have hc5 := (HC7.out W hG).2.1
       have hc6 := (HC7.out W hG).2.2
       have e0 := (he 72).trans (hS 4 (by kernel_rfl))
       refine op_any (.load 73 (.tmp 72)) rfl (.agg #[.bool mb, .slice ca cm cq]) (fun o' ho' => ?_) (hK _ _ rfl bR (fun h => absurd h (by decide)))
       simp only [execOp, ho', e0]
       go_simp
      ·refine flow3_step _ (some 74) rfl rfl rfl h1 h2 gI gB hstab fun ac xs W Dn he hni hG hS K hK => ?_
       have e0 : ac.eval (.tmp 69) = xs 1 := he 69
       have e1 := (he 73).trans (hS 5 (by kernel_rfl))
       refine op_call 42 _ _ rfl _ (by simp only [List.map, e0, e1]) (by go_simp) (HM1.out W _ _ HAF.out (hS 1 (by kernel_rfl)) (HI7.out W hG).2) ?_
       rintro e' W' ⟨u, rfl, hi', hb'⟩
       exact ⟨_, rfl, hK _ _ hi' hb' (fun h => absurd h (by decide))⟩
      ·refine flow3_step _ (some 75) rfl rfl rfl h1 h2 gI gB hstab fun ac xs W Dn he hni hG hS K hK => ?_
       have hc5 := (HC7.out W hG).1.1
       have hc6 := (HC7.out W hG).1.2
       have e0 : ac.eval (.tmp 11) = .pointer (some ⟨g11, 0, none⟩) := he 11
       refine op_any (.load 73 (.tmp 11)) rfl (.agg #[.bool vb, .slice va vm vc]) (fun o' ho' => ?_) (hK _ _ rfl bR (fun h => absurd h (by decide)))
       simp only [execOp, ho', e0]
       go_simp
      ·refine flow3_step _ (some 76) rfl rfl rfl h1 h2 gI gB hstab fun ac xs W Dn he hni hG hS K hK => ?_
       have hc5 := (HC7.out W hG).1.1
       have hc6 := (HC7.out W hG).1.2
       have e0 : ac.eval (.tmp 11) = .pointer (some ⟨g11, 0, none⟩) := he 11
       refine op_any (.load 73 (.tmp 11)) rfl (.agg #[.bool vb, .slice va vm vc]) (fun o' ho' => ?_) (hK _ _ rfl bR (fun h => absurd h (by decide)))
       simp only [execOp, ho', e0]
       go_simp
      ·refine flow3_step _ (some 77) rfl rfl rfl h1 h2 gI gB hstab fun ac xs W Dn he hni hG hS K hK => ?_
       have e0 := (he 75).trans (hS 7 (by kernel_rfl))
       have e1 := (he 76).trans (hS 8 (by kernel_rfl))
       refine op_call 42 _ _ rfl _ (by simp only [List.map, e0, e1]) (by go_simp) (HM2.out W _ _ HAF.out (HI7.out W hG).1 (HI7.out W hG).1) ?_
       rintro e' W' ⟨u, rfl, hi', hb'⟩
       exact ⟨_, rfl, hK _ _ hi' hb' (fun h => absurd h (by decide))⟩
      ·refine flow3_step _ (some 78) rfl rfl rfl h1 h2 gI gB hstab fun ac xs W Dn he hni hG hS K hK => ?_
       have e0 : ac.eval (.tmp 74) = xs 6 := he 74
       have e1 : ac.eval (.tmp 77) = xs 9 := he 77
       refine op_call 43 _ _ rfl _ (by simp only [List.map, e0, e1]) (by go_simp) (HSU.out W _ _ HAF.out (hS 6 (by kernel_rfl)) (hS 9 (by kernel_rfl))) ?_
       rintro e' W' ⟨u, rfl, hi', hb'⟩
       exact ⟨_, rfl, hK _ _ hi' hb' (fun h => absurd h (by decide))⟩
      ·refine flow3_step _ (some 12) rfl rfl rfl h1 h2 gI gB hstab fun ac xs W Dn he hni hG hS K hK => ?_
       have hsz := hG.size
       refine op_anyw (.alloc 73) rfl (.pointer (some ⟨W.heap.size, 0, none⟩)) (W.alloc (.cells #[.bool false, .slice none 0 0] 73)) ?_ ?_
       ·intro o' ho'
        simp only [execOp, ho']
        go_simp
       ·exact hK _ _ ⟨_, rfl, by omega, by simp, intRow_new _⟩ (bR.alloc (Nat.le_refl _) _) (fun _ => rfl)
     ·intro xs w8 Dn hall hG hS hD
      have HV : Hid (WideI w8 (xs 10) VV) := hS 10 (by decide)
      obtain ⟨g12, s12, hg12, hlt12, r12⟩ := hS 11 (by decide)
      have HGB : Hid (Below w7.heap.size w7 w8) := hG
      simp only [layAll, s12, List.setIfInBounds_toArray, List.set_cons_succ, List.set_cons_zero]
      clear hS hD hall hstab S hG h1 h2
      generalize xs 0 = x0 at *
      generalize xs 1 = x1 at *
      generalize xs 2 = x2 at *
      generalize xs 3 = x3 at *
      generalize xs 4 = x4 at *
      generalize xs 5 = x5 at *
      generalize xs 6 = x6 at *
      generalize xs 7 = x7 at *
      generalize xs 8 = x8 at *
      generalize xs 9 = x9 at *
      generalize xs 10 = x10 at *
      clear s12 hlt12
      obtain ⟨ta, tm, tc, rfl, hv3⟩ := HV.out.agg
      obtain ⟨tb, htb⟩ : ∃ b, b = decide (VV < 0) := ⟨_, rfl⟩
      rw [← htb] at hv3 ⊢
      obtain ⟨z1, z2, z3, z4, z5⟩ := id r12
      refine wpList_store_row rfl 73 (.tmp 12) (.tmp 78) rfl g12 #[.bool tb, .slice ta tm tc] rfl rfl _ _ z5 (by kernel_rfl) rfl (by simp [Value.oneCell']) ?_
      show wpList Tryz.prog _ _ [] _ _
      obtain ⟨w9, hw9⟩ : ∃ W, W = w8.setRow g12 #[.bool tb, .slice ta tm tc] := ⟨_, rfl⟩
      have q9 : w9.heap[g12]? = some (.cells #[.bool tb, .slice ta tm tc] 73 (0, 0)) := by rw [hw9]; exact setRow_heap w8 g12 _ _ _ _ z5
      have HI9 : Hid (∀ W, Below w9.heap.size w9 W → WideI W (.agg #[.bool tb, .slice ta tm tc]) VV) := fun W hW => by
       have h1 : WideI w9 (.agg #[.bool tb, .slice ta tm tc]) VV := by rw [hw9]; exact hv3.set r12
       exact h1.below hW
      have HB9 : Hid (Below w.heap.size w w9) := by show Below _ _ _; rw [hw9]; exact (HB.out.thru (HB7.out.trans ((below_setRow HGB.out hg12 _).mono HB7.out.size))) 
      have HC9 : Hid (∀ W, Below w9.heap.size w9 W → W.cell? ⟨g12, 0, none⟩ = some (.bool tb) ∧ W.cell? ⟨g12, 1, none⟩ = some (.slice ta tm tc)) := fun W hW => ⟨cell_of_row _ g12 0 _ _ _ (hW.blk q9 (blk_lt q9)), cell_of_row _ g12 1 _ _ _ (hW.blk q9 (blk_lt q9))⟩
      rw [← hw9]
      obtain ⟨k5, k6⟩ := HC9.out w9 (Below.refl _ _)
      clear hw9 q9 z1 z2 z3 z4 z5 r12 hv3 htb hg12 HI7 HC7
      cases hs : s
      ·obtain ⟨zs, hzs⟩ : ∃ z : Int, z = if VV = 0 then 0 else if VV < 0 then -1 else 1 := ⟨_, rfl⟩
       have HSG2 : Hid (∀ W v, WideI W v VV → Calls Tryz.prog 44 #[v] W fun e w' => e = .returned (.int .i64 zs) ∧ Below W.heap.size W w') := by rw [hzs]; exact HSG.out
       have HZS : Hid (zs = if VV = 0 then 0 else if VV < 0 then -1 else 1) := hzs
       have hD := HD.out.1
       rw [hs] at hD
       have hkk := HNB.out.1
       have hk0 := HNB.out.2.1
       have hDk : D = k * k := hD
       have hDi : (k : Int) * (k : Int) = (D : Int) := by rw [hDk]; push_cast; rfl
       have hDb := HD.out.2
       have hw2 : IntKind.i64.wrap ((k : Int) * (k : Int)) = (D : Int) := by rw [hDi, IntWalk.i64_in _ (by omega)]
       have HDb : Hid (D ≤ 4294967296) := hDb
       clear hzs hD hkk hk0 hDk hDi hDb
       go_wp2_with fail
       (with_reducible refine (HSG2.out _ _ (HI9.out _ (Below.refl _ _))).mono ?_)
       rintro e w10 ⟨rfl, hb⟩
       have HB10 : Hid (Below w.heap.size w w10) := HB9.out.thru hb
       have HB90 : Hid (Below w9.heap.size w9 w10) := hb
       obtain ⟨k5, k6⟩ := HC9.out w10 hb
       clear hb
       by_cases hvz : VV = 0
       ·have hz0 : zs = 0 := by rw [HZS.out, if_pos hvz]
        subst hz0
        go_wp2
        have HZE : Hid _ := HEN.out hvz
        refine bodyPost_ret (results_tmp2 rfl _ _ _) rfl ⟨?_, HB10.out⟩
        rw [HZE.out.1, HZE.out.2]
        rfl
       ·have hz0 : (zs == 0) = false := by
         rw [HZS.out, if_neg hvz]
         split <;> rfl
        have HVZ : Hid (VV ≠ 0) := hvz
        have HEZ : Hid _ := HET.out hvz
        clear hvz
        go_upto_region 24 with fail
        have h1 : once [(86, 0), (87, 1), (88, 2), (89, 3), (90, 4), (91, 5), (92, 6), (93, 7), (4, 8), (5, 9)] = true := by kernel_rfl
        have h2 : within [(86, 0), (87, 1), (88, 2), (89, 3), (90, 4), (91, 5), (92, 6), (93, 7), (4, 8), (5, 9)] 94 = true := by kernel_rfl
        let S : Nat → (Nat → Value) → World → Prop := fun i xs W => match i with
         | 0 => xs 0 = .agg #[.bool tb, .slice ta tm tc]
         | 1 => xs 1 = .int .i64 (k : Nat)
         | 2 => xs 2 = .int .i64 (k : Nat)
         | 3 => xs 3 = .int .i64 (D : Nat)
         | 4 => WideI W (xs 4) ((D : Int))
         | 5 => xs 5 = .tuple #[.float .f64 (totB VV D), .int .i64 (totX VV D)]
         | 6 => xs 6 = .float .f64 (totB VV D)
         | 7 => xs 7 = .int .i64 (totX VV D)
         | 8 => xs 8 = .float .f64 (totB VV D)
         | 9 => xs 9 = .int .i64 (totX VV D)
         | _ => True
        have hstab : ∀ j ys W W', S j ys W → Below W.heap.size W W' → S j ys W' := by
         intro j ys W W' h hb
         match j, h with
         | 0, h => exact h
         | 1, h => exact h
         | 2, h => exact h
         | 3, h => exact h
         | 4, h => exact h.below hb
         | 5, h => exact h
         | 6, h => exact h
         | 7, h => exact h
         | 8, h => exact h
         | 9, h => exact h
         | _ + 10, h => exact trivial
        refine wp_region_flow3T 10 10 4 [(86, 0), (87, 1), (88, 2), (89, 3), (90, 4), (91, 5), (92, 6), (93, 7), (4, 8), (5, 9)] [] S (fun _ W => Below w10.heap.size w10 W) ((Below.refl _ _).drew) (by kernel_rfl) (by kernel_rfl) (by kernel_rfl) (by decide) (by kernel_rfl) h1 (by kernel_rfl) ?_ ?_ ?_ ?_
        ·exact fun j hj => by cases hj
        ·intro j xs ys W e h
         match j, e, h with
         | 0, e, h => exact c_ (e 0 (.inl rfl)) h
         | 1, e, h => exact c_ (e 1 (.inl rfl)) h
         | 2, e, h => exact c_ (e 2 (.inl rfl)) h
         | 3, e, h => exact c_ (e 3 (.inl rfl)) h
         | 4, e, h => exact (congrArg (fun z => WideI W z _) (e 4 (.inl rfl))).mp h
         | 5, e, h => exact c_ (e 5 (.inl rfl)) h
         | 6, e, h => exact c_ (e 6 (.inl rfl)) h
         | 7, e, h => exact c_ (e 7 (.inl rfl)) h
         | 8, e, h => exact c_ (e 8 (.inl rfl)) h
         | 9, e, h => exact c_ (e 9 (.inl rfl)) h
         | _ + 10, e, h => exact trivial
        ·refine ⟨⟨⟨⟨⟨⟨⟨⟨⟨⟨trivial, ?_⟩, ?_⟩, ?_⟩, ?_⟩, ?_⟩, ?_⟩, ?_⟩, ?_⟩, ?_⟩, ?_⟩
         ·refine flow3_step _ (some 86) rfl rfl rfl h1 h2 gI gB hstab fun ac xs W Dn he hni hG hS K hK => ?_
          have hc5 := (HC9.out W (HB90.out.thru hG)).1
          have hc6 := (HC9.out W (HB90.out.thru hG)).2
          have e0 : ac.eval (.tmp 12) = .pointer (some ⟨g12, 0, none⟩) := he 12
          refine op_any (.load 73 (.tmp 12)) rfl (.agg #[.bool tb, .slice ta tm tc]) (fun o' ho' => ?_) (hK _ _ rfl bR nA)
          simp only [execOp, ho', e0]
          go_simp
         ·refine flow3_step _ (some 87) rfl rfl rfl h1 h2 gI gB hstab fun ac xs W Dn he hni hG hS K hK => ?_
          exact op_move (.tmp 6) (.inl rfl) (hK _ _ (he 6) bR nA)
         ·refine flow3_step _ (some 88) rfl rfl rfl h1 h2 gI gB hstab fun ac xs W Dn he hni hG hS K hK => ?_
          have e0 : ac.eval (.tmp 13) = .int .i64 (k : Nat) := he 13
          refine op_any (.move (.tmp 13)) rfl (.int .i64 (k : Nat)) (fun o' ho' => ?_) (hK _ _ rfl bR nA)
          simp only [execOp, ho', e0]
          go_simp
         ·refine flow3_step _ (some 89) rfl rfl rfl h1 h2 gI gB hstab fun ac xs W Dn he hni hG hS K hK => ?_
          have e0 := (he 87).trans (hS 1 (by kernel_rfl))
          have e1 := (he 88).trans (hS 2 (by kernel_rfl))
          refine op_any (.binOp .mul 2 (.tmp 87) (.tmp 88) 2) rfl (.int .i64 (D : Nat)) (fun o' ho' => ?_) (hK _ _ rfl bR nA)
          simp only [execOp, ho', e0, e1]
          go_simp
         ·refine flow3_step _ (some 90) rfl rfl rfl h1 h2 gI gB hstab fun ac xs W Dn he hni hG hS K hK => ?_
          have e0 := (he 89).trans (hS 3 (by kernel_rfl))
          refine op_call 41 _ _ rfl _ (by simp only [List.map, e0]) (by go_simp) (HOF.out W _ HDb.out) ?_
          rintro e' W' ⟨u, rfl, hi', hb'⟩
          exact ⟨_, rfl, hK _ _ hi' hb' nA⟩
         ·refine flow3_step _ (some 91) rfl rfl rfl h1 h2 gI gB hstab fun ac xs W Dn he hni hG hS K hK => ?_
          have e0 := (he 86).trans (hS 0 (by kernel_rfl))
          have e1 : ac.eval (.tmp 90) = xs 4 := he 90
          refine op_call 45 _ _ rfl _ (by simp only [List.map, eval_const, e0, e1]) (by go_simp) (HQU.out W _ _ (HB10.out.thru hG) HAF.out HVZ.out (HI9.out W (HB90.out.thru hG)) (hS 4 (by kernel_rfl))) ?_
          rintro e' W' ⟨rfl, hb'⟩
          exact ⟨_, rfl, hK _ _ (rfl) hb' nA⟩
         ·refine flow3_step _ (some 92) rfl rfl rfl h1 h2 gI gB hstab fun ac xs W Dn he hni hG hS K hK => ?_
          have e0 := (he 91).trans (hS 5 (by kernel_rfl))
          refine op_any (.extract (.tmp 91) 0) rfl (.float .f64 (totB VV D)) (fun o' ho' => ?_) (hK _ _ rfl bR nA)
          simp only [execOp, ho', e0]
          go_simp
         ·refine flow3_step _ (some 93) rfl rfl rfl h1 h2 gI gB hstab fun ac xs W Dn he hni hG hS K hK => ?_
          have e0 := (he 91).trans (hS 5 (by kernel_rfl))
          refine op_any (.extract (.tmp 91) 1) rfl (.int .i64 (totX VV D)) (fun o' ho' => ?_) (hK _ _ rfl bR nA)
          simp only [execOp, ho', e0]
          go_simp
         ·refine flow3_step _ (some 4) rfl rfl rfl h1 h2 gI gB hstab fun ac xs W Dn he hni hG hS K hK => ?_
          exact op_move (.tmp 92) (.inr rfl) (hK _ _ ((he 92).trans (hS 6 (by kernel_rfl))) bR nA)
         ·refine flow3_step _ (some 5) rfl rfl rfl h1 h2 gI gB hstab fun ac xs W Dn he hni hG hS K hK => ?_
          exact op_move (.tmp 93) (.inr rfl) (hK _ _ ((he 93).trans (hS 7 (by kernel_rfl))) bR nA)
        ·intro xs w11 Dn hall hG hS hD
         have s4 : xs 8 = _ := hS 8 (by decide)
         have s5 : xs 9 = _ := hS 9 (by decide)
         have HGC : Hid (Below w10.heap.size w10 w11) := hG
         simp only [layAll, s4, s5, List.setIfInBounds_toArray, List.set_cons_succ, List.set_cons_zero]
         clear hS hD hall hstab S hG h1 h2
         generalize xs 0 = x0 at *
         generalize xs 1 = x1 at *
         generalize xs 2 = x2 at *
         generalize xs 3 = x3 at *
         generalize xs 4 = x4 at *
         generalize xs 5 = x5 at *
         generalize xs 6 = x6 at *
         generalize xs 7 = x7 at *
         clear s4 s5
         show wpList Tryz.prog _ _ [] _ _
         go_wp2
         refine bodyPost_ret (results_tmp2 rfl _ _ _) rfl ⟨?_, HB10.out.thru HGC.out⟩
         rw [← HEZ.out.1, ← HEZ.out.2]
         rfl
      ·first
       | exact absurd (h4.symm.trans hs) (by decide)
       | obtain ⟨zs, hzs⟩ : ∃ z : Int, z = if VV = 0 then 0 else if VV < 0 then -1 else 1 := ⟨_, rfl⟩
         have HSG2 : Hid (∀ W v, WideI W v VV → Calls Tryz.prog 44 #[v] W fun e w' => e = .returned (.int .i64 zs) ∧ Below W.heap.size W w') := by rw [hzs]; exact HSG.out
         have HZS : Hid (zs = if VV = 0 then 0 else if VV < 0 then -1 else 1) := hzs
         have hD := HD.out.1
         rw [hs] at hD
         have hkk := HNB.out.1
         have hk0 := HNB.out.2.1
         have hDk : D = k * (k - 1) := hD
         obtain ⟨y, hy⟩ : ∃ y, y = k - 1 := ⟨_, rfl⟩
         rw [← hy] at hDk
         have hw1 : IntKind.i64.wrap ((k : Int) - 1) = (y : Int) := by rw [IntWalk.i64_in _ (by omega)]; omega
         have hDi : (k : Int) * (y : Int) = (D : Int) := by rw [hDk]; push_cast; rfl
         have hDb := HD.out.2
         have hw2 : IntKind.i64.wrap ((k : Int) * (y : Int)) = (D : Int) := by rw [hDi, IntWalk.i64_in _ (by omega)]
         have HDb : Hid (D ≤ 4294967296) := hDb
         clear hzs hD hkk hk0 hDk hDi hDb hy
         go_wp2_with fail
         (with_reducible refine (HSG2.out _ _ (HI9.out _ (Below.refl _ _))).mono ?_)
         rintro e w10 ⟨rfl, hb⟩
         have HB10 : Hid (Below w.heap.size w w10) := HB9.out.thru hb
         have HB90 : Hid (Below w9.heap.size w9 w10) := hb
         obtain ⟨k5, k6⟩ := HC9.out w10 hb
         clear hb
         by_cases hvz : VV = 0
         ·have hz0 : zs = 0 := by rw [HZS.out, if_pos hvz]
          subst hz0
          go_wp2
          have HZE : Hid _ := HEN.out hvz
          refine bodyPost_ret (results_tmp2 rfl _ _ _) rfl ⟨?_, HB10.out⟩
          rw [HZE.out.1, HZE.out.2]
          rfl
         ·have hz0 : (zs == 0) = false := by
           rw [HZS.out, if_neg hvz]
           split <;> rfl
          have HVZ : Hid (VV ≠ 0) := hvz
          have HEZ : Hid _ := HET.out hvz
          clear hvz
          go_upto_region 24 with fail
          have h1 : once [(86, 0), (87, 1), (88, 2), (89, 3), (90, 4), (91, 5), (92, 6), (93, 7), (4, 8), (5, 9)] = true := by kernel_rfl
          have h2 : within [(86, 0), (87, 1), (88, 2), (89, 3), (90, 4), (91, 5), (92, 6), (93, 7), (4, 8), (5, 9)] 94 = true := by kernel_rfl
          let S : Nat → (Nat → Value) → World → Prop := fun i xs W => match i with
           | 0 => xs 0 = .agg #[.bool tb, .slice ta tm tc]
           | 1 => xs 1 = .int .i64 (k : Nat)
           | 2 => xs 2 = .int .i64 (y : Nat)
           | 3 => xs 3 = .int .i64 (D : Nat)
           | 4 => WideI W (xs 4) ((D : Int))
           | 5 => xs 5 = .tuple #[.float .f64 (totB VV D), .int .i64 (totX VV D)]
           | 6 => xs 6 = .float .f64 (totB VV D)
           | 7 => xs 7 = .int .i64 (totX VV D)
           | 8 => xs 8 = .float .f64 (totB VV D)
           | 9 => xs 9 = .int .i64 (totX VV D)
           | _ => True
          have hstab : ∀ j ys W W', S j ys W → Below W.heap.size W W' → S j ys W' := by
           intro j ys W W' h hb
           match j, h with
           | 0, h => exact h
           | 1, h => exact h
           | 2, h => exact h
           | 3, h => exact h
           | 4, h => exact h.below hb
           | 5, h => exact h
           | 6, h => exact h
           | 7, h => exact h
           | 8, h => exact h
           | 9, h => exact h
           | _ + 10, h => exact trivial
          refine wp_region_flow3T 10 10 4 [(86, 0), (87, 1), (88, 2), (89, 3), (90, 4), (91, 5), (92, 6), (93, 7), (4, 8), (5, 9)] [] S (fun _ W => Below w10.heap.size w10 W) ((Below.refl _ _).drew) (by kernel_rfl) (by kernel_rfl) (by kernel_rfl) (by decide) (by kernel_rfl) h1 (by kernel_rfl) ?_ ?_ ?_ ?_
          ·exact fun j hj => by cases hj
          ·intro j xs ys W e h
           match j, e, h with
           | 0, e, h => exact c_ (e 0 (.inl rfl)) h
           | 1, e, h => exact c_ (e 1 (.inl rfl)) h
           | 2, e, h => exact c_ (e 2 (.inl rfl)) h
           | 3, e, h => exact c_ (e 3 (.inl rfl)) h
           | 4, e, h => exact (congrArg (fun z => WideI W z _) (e 4 (.inl rfl))).mp h
           | 5, e, h => exact c_ (e 5 (.inl rfl)) h
           | 6, e, h => exact c_ (e 6 (.inl rfl)) h
           | 7, e, h => exact c_ (e 7 (.inl rfl)) h
           | 8, e, h => exact c_ (e 8 (.inl rfl)) h
           | 9, e, h => exact c_ (e 9 (.inl rfl)) h
           | _ + 10, e, h => exact trivial
          ·refine ⟨⟨⟨⟨⟨⟨⟨⟨⟨⟨trivial, ?_⟩, ?_⟩, ?_⟩, ?_⟩, ?_⟩, ?_⟩, ?_⟩, ?_⟩, ?_⟩, ?_⟩
           ·refine flow3_step _ (some 86) rfl rfl rfl h1 h2 gI gB hstab fun ac xs W Dn he hni hG hS K hK => ?_
            have hc5 := (HC9.out W (HB90.out.thru hG)).1
            have hc6 := (HC9.out W (HB90.out.thru hG)).2
            have e0 : ac.eval (.tmp 12) = .pointer (some ⟨g12, 0, none⟩) := he 12
            refine op_any (.load 73 (.tmp 12)) rfl (.agg #[.bool tb, .slice ta tm tc]) (fun o' ho' => ?_) (hK _ _ rfl bR nA)
            simp only [execOp, ho', e0]
            go_simp
           ·refine flow3_step _ (some 87) rfl rfl rfl h1 h2 gI gB hstab fun ac xs W Dn he hni hG hS K hK => ?_
            exact op_move (.tmp 6) (.inl rfl) (hK _ _ (he 6) bR nA)
           ·refine flow3_step _ (some 88) rfl rfl rfl h1 h2 gI gB hstab fun ac xs W Dn he hni hG hS K hK => ?_
            have e0 : ac.eval (.tmp 13) = .int .i64 (y : Nat) := he 13
            refine op_any (.move (.tmp 13)) rfl (.int .i64 (y : Nat)) (fun o' ho' => ?_) (hK _ _ rfl bR nA)
            simp only [execOp, ho', e0]
            go_simp
           ·refine flow3_step _ (some 89) rfl rfl rfl h1 h2 gI gB hstab fun ac xs W Dn he hni hG hS K hK => ?_
            have e0 := (he 87).trans (hS 1 (by kernel_rfl))
            have e1 := (he 88).trans (hS 2 (by kernel_rfl))
            refine op_any (.binOp .mul 2 (.tmp 87) (.tmp 88) 2) rfl (.int .i64 (D : Nat)) (fun o' ho' => ?_) (hK _ _ rfl bR nA)
            simp only [execOp, ho', e0, e1]
            go_simp
           ·refine flow3_step _ (some 90) rfl rfl rfl h1 h2 gI gB hstab fun ac xs W Dn he hni hG hS K hK => ?_
            have e0 := (he 89).trans (hS 3 (by kernel_rfl))
            refine op_call 41 _ _ rfl _ (by simp only [List.map, e0]) (by go_simp) (HOF.out W _ HDb.out) ?_
            rintro e' W' ⟨u, rfl, hi', hb'⟩
            exact ⟨_, rfl, hK _ _ hi' hb' nA⟩
           ·refine flow3_step _ (some 91) rfl rfl rfl h1 h2 gI gB hstab fun ac xs W Dn he hni hG hS K hK => ?_
            have e0 := (he 86).trans (hS 0 (by kernel_rfl))
            have e1 : ac.eval (.tmp 90) = xs 4 := he 90
            refine op_call 45 _ _ rfl _ (by simp only [List.map, eval_const, e0, e1]) (by go_simp) (HQU.out W _ _ (HB10.out.thru hG) HAF.out HVZ.out (HI9.out W (HB90.out.thru hG)) (hS 4 (by kernel_rfl))) ?_
            rintro e' W' ⟨rfl, hb'⟩
            exact ⟨_, rfl, hK _ _ (rfl) hb' nA⟩
           ·refine flow3_step _ (some 92) rfl rfl rfl h1 h2 gI gB hstab fun ac xs W Dn he hni hG hS K hK => ?_
            have e0 := (he 91).trans (hS 5 (by kernel_rfl))
            refine op_any (.extract (.tmp 91) 0) rfl (.float .f64 (totB VV D)) (fun o' ho' => ?_) (hK _ _ rfl bR nA)
            simp only [execOp, ho', e0]
            go_simp
           ·refine flow3_step _ (some 93) rfl rfl rfl h1 h2 gI gB hstab fun ac xs W Dn he hni hG hS K hK => ?_
            have e0 := (he 91).trans (hS 5 (by kernel_rfl))
            refine op_any (.extract (.tmp 91) 1) rfl (.int .i64 (totX VV D)) (fun o' ho' => ?_) (hK _ _ rfl bR nA)
            simp only [execOp, ho', e0]
            go_simp
           ·refine flow3_step _ (some 4) rfl rfl rfl h1 h2 gI gB hstab fun ac xs W Dn he hni hG hS K hK => ?_
            exact op_move (.tmp 92) (.inr rfl) (hK _ _ ((he 92).trans (hS 6 (by kernel_rfl))) bR nA)
           ·refine flow3_step _ (some 5) rfl rfl rfl h1 h2 gI gB hstab fun ac xs W Dn he hni hG hS K hK => ?_
            exact op_move (.tmp 93) (.inr rfl) (hK _ _ ((he 93).trans (hS 7 (by kernel_rfl))) bR nA)
          ·intro xs w11 Dn hall hG hS hD
           have s4 : xs 8 = _ := hS 8 (by decide)
           have s5 : xs 9 = _ := hS 9 (by decide)
           have HGC : Hid (Below w10.heap.size w10 w11) := hG
           simp only [layAll, s4, s5, List.setIfInBounds_toArray, List.set_cons_succ, List.set_cons_zero]
           clear hS hD hall hstab S hG h1 h2
           generalize xs 0 = x0 at *
           generalize xs 1 = x1 at *
           generalize xs 2 = x2 at *
           generalize xs 3 = x3 at *
           generalize xs 4 = x4 at *
           generalize xs 5 = x5 at *
           generalize xs 6 = x6 at *
           generalize xs 7 = x7 at *
           clear s4 s5
           show wpList Tryz.prog _ _ [] _ _
           go_wp2
           refine bodyPost_ret (results_tmp2 rfl _ _ _) rfl ⟨?_, HB10.out.thru HGC.out⟩
           rw [← HEZ.out.1, ← HEZ.out.2]
           rfl
end Go.Proofs.YtlffojopfilfeaaGreatDoor
