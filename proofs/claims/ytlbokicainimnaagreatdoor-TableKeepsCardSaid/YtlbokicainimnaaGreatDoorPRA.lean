import Derived.Test.YtlbokicainimnaaGreatDoorPQW
import Derived.Test.YtlbokicainimnaaGreatDoorPQS
import Derived.Test.YtlbokicainimnaaGreatDoorPQT
import Derived.Test.YtlbokicainimnaaGreatDoorPQC
namespace Go.Proofs.YtlbokicainimnaaGreatDoor
open Go.RowKit
structure LiftG (w : World) (a b : Dc) (g7 g8 : Nat) (ba bb : Bool) (s t : Value) (W : World) : Prop where
 bel : Below w.heap.size w W
 ra : W.heap[w.heap.size]? = some (.cells #[.bool a.neg, .string (bs a.s), .int .i64 a.e] 35 (0, 0))
 rb : W.heap[w.heap.size + 1]? = some (.cells #[.bool b.neg, .string (bs b.s), .int .i64 b.e] 35 (0, 0))
 r7 : W.heap[g7]? = some (.cells #[.bool ba, s] 123 (0, 0))
 r8 : W.heap[g8]? = some (.cells #[.bool bb, t] 123 (0, 0))
 n7 : Num .u64 18446744073709551616 W s a.v.natAbs
 n8 : Num .u64 18446744073709551616 W t b.v.natAbs
 r4 : ∃ x a m c, W.heap[w.heap.size + 2]? = some (.cells #[.bool x, .slice a m c] 123 (0, 0))
 r5 : ∃ x a m c, W.heap[w.heap.size + 3]? = some (.cells #[.bool x, .slice a m c] 123 (0, 0))
 d7 : w.heap.size + 4 ≤ g7
 d8 : w.heap.size + 4 ≤ g8
end Go.Proofs.YtlbokicainimnaaGreatDoor
set_option maxRecDepth 100000
namespace Go.Proofs.YtlbokicainimnaaGreatDoor
open Go.RowKit
def ofN (b : Nat) : Nat := if 0 ≤ spE b then spM b * 2 ^ (spE b).toNat else spM b * 5 ^ (-spE b).toNat
def ofE (b : Nat) : Int := if 0 ≤ spE b then 0 else spE b
def ofD (b : Nat) : Dc := if spX b = 0 then ⟨madeS (spS b) (ofN b) (ofE b), madeL (ofN b) (ofE b), madeE (ofN b) (ofE b)⟩ else Dc.none
def ofX (b : Nat) : Int := if spX b = 0 then madeX (ofN b) (ofE b) else 10
theorem sp_bd (b : Nat) : -1074 ≤ spE b ∧ spE b ≤ 972 ∧ spM b < 9007199254740992 := by
 have h1 := expB_le b
 have h2 : fracB b < 4503599627370496 := Nat.mod_lt _ (by decide)
 unfold spE spM mantB
 by_cases ha : (nanB b || infB b) = true
 ·rw [if_pos ha, if_pos ha]; omega
 ·rw [if_neg ha, if_neg ha]
  by_cases hz : zeroB b = true
  ·rw [if_pos hz, if_pos hz]; omega
  ·rw [if_neg hz, if_neg hz]
   by_cases hl : lowB b = true
   ·rw [if_pos hl, if_pos hl]; omega
   ·rw [if_neg hl, if_neg hl]
    have h3 : 1 ≤ expB b := by
     unfold lowB absB at hl
     simp at hl
     unfold expB
     omega
    omega
theorem spX_cases (b : Nat) : spX b = 0 ∨ spX b = 10 := by
 unfold spX; split
 ·exact .inr rfl
 ·exact .inl rfl
theorem five_lt {i k bb : Nat} (h : i ≤ k) (hk : 3 * k + 1 ≤ bb) : 5 ^ i < 2 ^ bb := by
 have h1 : (5 : Nat) ^ i ≤ 5 ^ k := Nat.pow_le_pow_right (by decide) h
 have h2 : (5 : Nat) ^ k ≤ (2 ^ 3) ^ k := Nat.pow_le_pow_left (by decide) k
 rw [← Nat.pow_mul] at h2
 have h3 : (2 : Nat) ^ (3 * k + 1) ≤ 2 ^ bb := Nat.pow_le_pow_right (by decide) hk
 rw [Nat.pow_succ] at h3
 have h4 : 0 < (2 : Nat) ^ (3 * k) := Nat.pow_pos (by decide)
 omega
theorem of_scale (neg : Bool) (m0 m n k : Nat) (hk : k ≤ n) (hm : m0 = m * 2 ^ k) :
  madeX (m0 * 5 ^ n) (-(n : Int)) = madeX (m * 5 ^ (n - k)) (-(n : Int) + k) ∧ madeS neg (m0 * 5 ^ n) (-(n : Int)) = madeS neg (m * 5 ^ (n - k)) (-(n : Int) + k) ∧ madeL (m0 * 5 ^ n) (-(n : Int)) = madeL (m * 5 ^ (n - k)) (-(n : Int) + k) ∧ madeE (m0 * 5 ^ n) (-(n : Int)) = madeE (m * 5 ^ (n - k)) (-(n : Int) + k) := by
 have e : m0 * 5 ^ n = m * 5 ^ (n - k) * 10 ^ k := by
  have h5 : (5 : Nat) ^ n = 5 ^ (n - k) * 5 ^ k := by rw [← Nat.pow_add]; congr 1; omega
  have h10 : (10 : Nat) ^ k = 2 ^ k * 5 ^ k := by rw [← Nat.mul_pow]
  rw [hm, h5, h10]
  simp only [Nat.mul_comm, Nat.mul_left_comm, Nat.mul_assoc]
 rw [e]
 exact made_scale neg _ k _
set_option maxHeartbeats 2000000 in
theorem of_v (b : Nat) (hb : W64 b) (w : World) (htab : Tab w) : Calls Tryz.prog 47 #[.float .f64 b] w (DcQ (ofD b) (ofX b) w) := by
 have HS : Hid (∀ W, Calls Tryz.prog 98 #[.float .f64 b] W fun e w' => e = .returned (.tuple #[.bool (spS b), .int .u64 (spM b), .int .i64 (spE b), .int .i64 (spX b)]) ∧ W = w') := fun W => split_any b W hb
 obtain ⟨D, hD⟩ : ∃ D, D = ofD b := ⟨_, rfl⟩
 obtain ⟨X, hX⟩ : ∃ X, X = ofX b := ⟨_, rfl⟩
 rw [← hD, ← hX]
 have HB0 : Hid (Below w.heap.size w (w.alloc (.cells #[.bool false, .string ⟨#[]⟩, .int .i64 0] 35))) := (Below.refl _ _).alloc (Nat.le_refl _) _
 have HQ0 : Hid _ := new_blk w (.cells #[.bool false, .string ⟨#[]⟩, .int .i64 0] 35)
 obtain ⟨k1, k2, k3⟩ := sp_bd b
 rcases spX_cases b with hx | hx
 ·have hD' : D = ⟨madeS (spS b) (ofN b) (ofE b), madeL (ofN b) (ofE b), madeE (ofN b) (ofE b)⟩ := by rw [hD]; unfold ofD; rw [if_pos hx]
  have hX' : X = madeX (ofN b) (ofE b) := by rw [hX]; unfold ofX; rw [if_pos hx]
  rw [hx] at HS
  obtain ⟨bt, hbt, hbt2⟩ : ∃ bt, 10000 ≤ bt ∧ bt ≤ 4294967296 := ⟨10000, by decide, by decide⟩
  have HWD : Hid (∀ W (m : Nat), m < 9007199254740992 → Calls Tryz.prog 103 #[.int .u64 m] W (WideQ false m W)) := fun W m hm => word_any m W (by omega)
  have HTX : Hid (∀ W s N, Below w.heap.size w W → Num .u64 18446744073709551616 W s N → N < 2 ^ bt → Calls Tryz.prog 105 #[.agg #[.bool false, s]] W fun e w' => e = .returned (.string (bs (Lib.decDigits N))) ∧ Below W.heap.size W w') := fun W s N hW hs hN => itext_any s N W hs hN hbt2 (htab.below hW)
  have HMD : Hid (∀ W (N : Nat) (e : Int), N < 2 ^ bt → Calls Tryz.prog 102 #[.bool (spS b), .string (bs (Lib.decDigits N)), .int .i64 e] W (DcQ ⟨madeS (spS b) N e, madeL N e, madeE N e⟩ (madeX N e) W)) := fun W N e hN => by
   have hd : allDig (bl (bs (Lib.decDigits N))) := dec_all _
   have hs : (bs (Lib.decDigits N)).size ≤ 4611686018427387904 := by
    show (Lib.decDigits N).length ≤ _
    by_cases h0 : N = 0
    ·rw [h0, Go.Lib.decDigits, dif_pos (by decide)]; decide
    ·rw [dec_bare (by omega)]
     have := bare_len_bits hN
     omega
   refine (dmade_any (spS b) (bs (Lib.decDigits N)) e W hd hs).mono ?_
   rintro en w' ⟨rfl, hb⟩
   refine ⟨?_, hb⟩
   rw [bl_bs, dval_dec]; rfl
  obtain ⟨m, hm⟩ : ∃ m, m = spM b := ⟨_, rfl⟩
  obtain ⟨ee, hee⟩ : ∃ e, e = spE b := ⟨_, rfl⟩
  obtain ⟨ng, hng⟩ : ∃ x, x = spS b := ⟨_, rfl⟩
  rw [← hm, ← hee, ← hng] at HS
  rw [← hng] at HMD hD'
  rw [← hm] at k3
  rw [← hee] at k1 k2
  by_cases he : 0 ≤ ee
  ·have hN : ofN b = m * 2 ^ ee.toNat := by unfold ofN; rw [← hee, ← hm, if_pos he]
   have hE : ofE b = 0 := by unfold ofE; rw [← hee, if_pos he]
   obtain ⟨n, hn⟩ : ∃ n, n = ee.toNat := ⟨_, rfl⟩
   obtain ⟨q, hq⟩ : ∃ q, q = n / 64 := ⟨_, rfl⟩
   obtain ⟨r, hr⟩ : ∃ r, r = n % 64 := ⟨_, rfl⟩
   have hqr : 64 * q + r = n := by omega
   rw [← hn] at hN
   rw [hN, hE] at hD' hX'
   have hbig : m * 2 ^ n < 2 ^ bt := by
    have h1 : m * 2 ^ n < 2 ^ 53 * 2 ^ n := Nat.mul_lt_mul_of_pos_right (by omega) (Nat.pow_pos (by decide))
    rw [← Nat.pow_add] at h1
    exact Nat.lt_of_lt_of_le h1 (Nat.pow_le_pow_right (by decide) (by omega))
   have HLF : Hid (∀ W s, Num .u64 18446744073709551616 W s m → Calls Tryz.prog 104 #[.agg #[.bool false, s], .int .i64 ee] W (WideQ false (m * 2 ^ n) W)) := fun W s hs => by
    have := left_any false s m q r ee W hs (by omega) (by omega) (by omega) (bb := 64) (by omega) (by decide)
    rwa [hqr, Bool.false_and] at this
   have HDD : Hid (D = ⟨madeS ng (m * 2 ^ n) 0, madeL (m * 2 ^ n) 0, madeE (m * 2 ^ n) 0⟩ ∧ X = madeX (m * 2 ^ n) 0) := ⟨hD', hX'⟩
   have HBG : Hid (m * 2 ^ n < 2 ^ bt ∧ m < 9007199254740992) := ⟨hbig, k3⟩
   clear hD hX hx hD' hX' hm hee hng k1 k2 k3 hN hE hn hq hr hqr hbig htab hbt hbt2 hb
   go_enter Tryz.func47, Tryz.ntmps47
   go_wp2_with (first | (go_at_call 98; refine (HS.out _).mono ?_; rintro e w' ⟨rfl, rfl⟩) | fail)
   refine (HWD.out _ m HBG.out.2).mono ?_
   rintro e w1 ⟨v, rfl, ⟨s, rfl, hs, -⟩, hb⟩
   have HB1 : Hid (Below w.heap.size w w1) := HB0.out.thru hb
   have HQ1 : Hid _ := hb.blk HQ0.out (blk_lt HQ0.out)
   have HN1 : Hid (Num .u64 18446744073709551616 w1 s m) := hs
   clear hb hs
   go_wp2_with fail
   refine (HLF.out _ s HN1.out).mono ?_
   rintro e w2 ⟨v, rfl, ⟨s2, rfl, hs, -⟩, hb⟩
   have HB2 : Hid (Below w.heap.size w w2) := HB1.out.thru hb
   have HQ2 : Hid _ := hb.blk HQ1.out (blk_lt HQ1.out)
   have HN2 : Hid (Num .u64 18446744073709551616 w2 s2 (m * 2 ^ n)) := hs
   clear hb hs
   go_wp2_with fail
   refine (HTX.out _ s2 _ HB2.out HN2.out HBG.out.1).mono ?_
   rintro e w3 ⟨rfl, hb⟩
   have HB3 : Hid (Below w.heap.size w w3) := HB2.out.thru hb
   have HQ3 : Hid _ := hb.blk HQ2.out (blk_lt HQ2.out)
   clear hb
   go_wp2_with fail
   refine (HMD.out _ _ _ HBG.out.1).mono ?_
   rintro e w4 ⟨rfl, hb⟩
   have r2 := hb.blk HQ3.out (blk_lt HQ3.out)
   obtain ⟨f0, c0, f1, c1, f2, c2, r3⟩ := rw3 r2
   have HR : Hid _ := r3
   have HBB : Hid (Below w.heap.size w w4) := HB3.out.thru hb
   clear r2 r3 hb
   simp only [dcV]
   go_wp2
   exact dc_end rfl rfl rfl (HR.out _ _ _) HDD.out.1 HDD.out.2.symm (below_row3 HBB.out (Nat.le_refl _) _ _ _)
  ·have hN : ofN b = m * 5 ^ (-ee).toNat := by unfold ofN; rw [← hee, ← hm, if_neg he]
   have hE : ofE b = ee := by unfold ofE; rw [← hee, if_neg he]
   obtain ⟨n, hn⟩ : ∃ n, n = (-ee).toNat := ⟨_, rfl⟩
   rw [← hn] at hN
   have hen : ee = -(n : Int) := by omega
   rw [hN, hE, hen] at hD' hX'
   rw [hen] at HS
   have hn0 : n ≤ 1074 := by omega
   have hn1 : 0 < n := by omega
   have hnn : ¬ 0 ≤ -(n : Int) := by omega
   obtain ⟨ex, hex⟩ : ∃ ex, ex = 4000 := ⟨_, rfl⟩
   have HBG : Hid (∀ m' k, m' < 9007199254740992 → k ≤ n → m' * 5 ^ k < 2 ^ bt) := fun m' k h1 h2 => by
    have h3 : 5 ^ k < 2 ^ ex := five_lt h2 (by omega)
    have h4 : m' * 5 ^ k < 2 ^ 53 * 2 ^ ex := Nat.lt_of_le_of_lt (Nat.mul_le_mul_left _ (Nat.le_of_lt h3)) (Nat.mul_lt_mul_of_pos_right (by omega) (Nat.pow_pos (by decide)))
    rw [← Nat.pow_add] at h4
    exact Nat.lt_of_lt_of_le h4 (Nat.pow_le_pow_right (by decide) (by omega))
   have HPW : Hid (∀ W (k : Nat), k ≤ n → Calls Tryz.prog 99 #[.int .u64 5, .int .i64 (k : Nat)] W (WideQ false (5 ^ k) W)) := fun W k hk => wpower_any 5 k W (by decide) (bb := ex) (fun i hi => five_lt hi (by omega)) (by omega) (by omega)
   have HML : Hid (∀ W s t (m' k : Nat), Num .u64 18446744073709551616 W s m' → Num .u64 18446744073709551616 W t (5 ^ k) → m' < 9007199254740992 → k ≤ n → Calls Tryz.prog 106 #[.agg #[.bool false, s], .agg #[.bool false, t]] W (WideQ false (m' * 5 ^ k) W)) := fun W s t m' k h1 h2 h3 h4 => by
    have hx : m' < 2 ^ ex := by have := Nat.pow_le_pow_right (show 0 < 2 by decide) (show 53 ≤ ex by omega); have e : (2 : Nat) ^ 53 = 9007199254740992 := rfl; omega
    have := mul_any false false s t m' (5 ^ k) W h1 h2 (bb := ex) hx (five_lt h4 (by omega)) (by omega)
    simpa using this
   have HDD : Hid (D = ⟨madeS ng (m * 5 ^ n) (-(n : Int)), madeL (m * 5 ^ n) (-(n : Int)), madeE (m * 5 ^ n) (-(n : Int))⟩ ∧ X = madeX (m * 5 ^ n) (-(n : Int))) := ⟨hD', hX'⟩
   have HM3 : Hid (m < 9007199254740992) := k3
   clear hD hX hx hD' hX' hm hee hng k1 k2 k3 hN hE hn hbt hbt2 hb hex hen he htab
   go_enter Tryz.func47, Tryz.ntmps47
   go_wp2_with (first | (go_at_call 98; refine (HS.out _).mono ?_; rintro e w' ⟨rfl, rfl⟩) | fail)
   have hdz : decide (n = 0) = false := decide_eq_false (by omega)
   simp only [hdz]
   clear hdz
   go_loopw [5, 6, 32] (fun mv ev iv wr => ∃ m' k i : Nat, mv = .int .u64 (m' : Nat) ∧ ev = .int .i64 (-(n : Int) + k) ∧ iv = .int .i64 (i : Nat) ∧ k ≤ i ∧ i ≤ n ∧ m = m' * 2 ^ k ∧ m' < 9007199254740992 ∧ wr.heap[w.heap.size]? = some (.cells #[.bool false, .string ⟨#[]⟩, .int .i64 0] 35 (0, 0)) ∧ Below w.heap.size w wr) (fun _ _ iv _ => n - (intOf iv).toNat)
   case atStart => exact ⟨m, 0, 0, rfl, by simp, rfl, Nat.le_refl _, Nat.zero_le _, by rw [Nat.pow_zero, Nat.mul_one], HM3.out, HQ0.out, HB0.out⟩
   case round =>
    obtain ⟨m', k, i, rfl, rfl, rfl, hki, hin, hmm, hm', hrow, hbel⟩ := hrel
    have HMM : Hid (m = m' * 2 ^ k) := hmm
    have HROW : Hid _ := hrow
    have HBEL : Hid (Below w.heap.size w wr) := hbel
    have HM' : Hid (m' < 9007199254740992) := hm'
    clear hmm hrow hbel
    by_cases hlt : i < n
    ·by_cases h2 : m' % 2 = 0
     ·by_cases h0 : m' = 0
      ·subst h0
       go_wp2
       go_roundw
       case rel => exact ⟨0, k, i + 1, rfl, rfl, by go_num, by omega, by omega, HMM.out, by decide, HROW.out, HBEL.out⟩
       case measure => simp [intOf]; omega
      ·have h2' : (m' : Int) % 2 = 0 := by omega
       have h2'' : (m' : Int).tmod 2 = 0 := by show ((m' % 2 : Nat) : Int) = 0; omega
       have h0' : 0 < m' := Nat.pos_of_ne_zero h0
       obtain ⟨h, hh⟩ : ∃ h, h = m' / 2 := ⟨_, rfl⟩
       have hd1 : (m' : Int).tdiv 2 = (h : Int) := by rw [hh]; rfl
       have hd2 : (m' : Int) / 2 = (h : Int) := by omega
       have hhb : h < 9007199254740992 := by omega
       have HH : Hid (m' = h * 2) := by show _ = _; omega
       have hw1 : IntKind.i64.wrap (-(n : Int) + (k : Int) + 1) = -(n : Int) + ((k + 1 : Nat) : Int) := by rw [IntWalk.i64_in _ (by omega)]; omega
       clear hh h0 h2
       go_wp2
       go_roundw
       case rel =>
        refine ⟨h, k + 1, i + 1, rfl, rfl, by go_num, by omega, by omega, ?_, hhb, HROW.out, HBEL.out⟩
        rw [HMM.out, HH.out, Nat.pow_succ, Nat.mul_assoc, Nat.mul_comm 2]
       case measure => simp [intOf]; omega
     ·have h2' : ¬ (m' : Int) % 2 = 0 := by omega
      have h2'' : ¬ (m' : Int).tmod 2 = 0 := by show ¬ ((m' % 2 : Nat) : Int) = 0; omega
      clear h2
      go_wp2
      go_roundw
      case rel => exact ⟨m', k, i + 1, rfl, rfl, by go_num, by omega, by omega, HMM.out, hm', HROW.out, HBEL.out⟩
      case measure => simp [intOf]; omega
    ·have hkn : k ≤ n := by omega
     have HS4 : Hid (D = ⟨madeS ng (m' * 5 ^ (n - k)) (-(n : Int) + k), madeL (m' * 5 ^ (n - k)) (-(n : Int) + k), madeE (m' * 5 ^ (n - k)) (-(n : Int) + k)⟩ ∧ X = madeX (m' * 5 ^ (n - k)) (-(n : Int) + k)) := by
      obtain ⟨e1, e2, e3, e4⟩ := of_scale ng m m' n k hkn HMM.out
      rw [← e1, ← e2, ← e3, ← e4]; exact HDD.out
     obtain ⟨u, hu⟩ : ∃ u, u = n - k := ⟨_, rfl⟩
     rw [← hu] at HS4
     have HU : Hid (u ≤ n) := by show _ ≤ _; omega
     have hneg : IntKind.i64.wrap (-(-(n : Int) + (k : Int))) = (u : Int) := by rw [IntWalk.i64_in _ (by omega)]; omega
     clear hu
     have HBGu : Hid (m' * 5 ^ u < 2 ^ bt) := HBG.out m' u HM'.out HU.out
     go_wp2_with fail
     with_reducible refine (HWD.out _ m' HM'.out).mono ?_
     rintro e w1 ⟨v, rfl, ⟨s, rfl, hs, -⟩, hb⟩
     have HB1 : Hid (Below w.heap.size w w1) := HBEL.out.thru hb
     have HQ1 : Hid _ := hb.blk HROW.out (blk_lt HROW.out)
     have HN1 : Hid (Num .u64 18446744073709551616 w1 s m') := hs
     clear hb hs
     go_wp2_with fail
     with_reducible refine (HPW.out _ u HU.out).mono ?_
     rintro e w2 ⟨v, rfl, ⟨s2, rfl, hs, -⟩, hb⟩
     have HB2 : Hid (Below w.heap.size w w2) := HB1.out.thru hb
     have HQ2 : Hid _ := hb.blk HQ1.out (blk_lt HQ1.out)
     have HN2 : Hid (Num .u64 18446744073709551616 w2 s2 (5 ^ u)) := hs
     have HN1' : Hid (Num .u64 18446744073709551616 w2 s m') := HN1.out.below (Nat.le_refl _) hb
     clear hb hs
     go_wp2_with fail
     with_reducible refine (HML.out _ s s2 m' u HN1'.out HN2.out HM'.out HU.out).mono ?_
     rintro e w3 ⟨v, rfl, ⟨s3, rfl, hs, -⟩, hb⟩
     have HB3 : Hid (Below w.heap.size w w3) := HB2.out.thru hb
     have HQ3 : Hid _ := hb.blk HQ2.out (blk_lt HQ2.out)
     have HN3 : Hid (Num .u64 18446744073709551616 w3 s3 (m' * 5 ^ u)) := hs
     clear hb hs
     go_wp2_with fail
     with_reducible refine (HTX.out _ s3 _ HB3.out HN3.out HBGu.out).mono ?_
     rintro e w4 ⟨rfl, hb⟩
     have HB4 : Hid (Below w.heap.size w w4) := HB3.out.thru hb
     have HQ4 : Hid _ := hb.blk HQ3.out (blk_lt HQ3.out)
     clear hb
     go_wp2_with fail
     with_reducible refine (HMD.out _ _ _ HBGu.out).mono ?_
     rintro e w5 ⟨rfl, hb⟩
     have r2 := hb.blk HQ4.out (blk_lt HQ4.out)
     obtain ⟨f0, c0, f1, c1, f2, c2, r3⟩ := rw3 r2
     have HR : Hid _ := r3
     have HBB : Hid (Below w.heap.size w w5) := HB4.out.thru hb
     clear r2 r3 hb
     simp only [dcV]
     go_wp2
     exact dc_end rfl rfl rfl (HR.out _ _ _) HS4.out.1 HS4.out.2.symm (below_row3 HBB.out (Nat.le_refl _) _ _ _)
 ·have hD' : D = Dc.none := by rw [hD]; unfold ofD; rw [if_neg (by omega)]
  have hX' : X = 10 := by rw [hX]; unfold ofX; rw [if_neg (by omega)]
  rw [hx] at HS
  rw [hD', hX']
  obtain ⟨f0, c0, f1, c1, f2, c2, -⟩ := rw3 HQ0.out
  clear hD hX hx hD' hX' k1 k2 k3 hb htab
  go_enter Tryz.func47, Tryz.ntmps47
  go_wp2_with (go_at_call 98; refine (HS.out _).mono ?_; rintro e w' ⟨rfl, rfl⟩)
  exact dc_end rfl rfl rfl HQ0.out rfl rfl HB0.out
end Go.Proofs.YtlbokicainimnaaGreatDoor
