import Derived.Test.YtlbokicainimnaaGreatDoorPCC
import Derived.Test.YtlbokicainimnaaGreatDoorPAA
import Derived.Test.YtlbokicainimnaaGreatDoorPBU
import Derived.Test.YtlbokicainimnaaGreatDoorPCA
import Derived.Test.YtlbokicainimnaaGreatDoorPRG
import Derived.Test.YtlbokicainimnaaGreatDoorPQC
namespace Go.Proofs.YtlbokicainimnaaGreatDoor
open Go Go.RowKit Go.Lib
def tplA (ov : Int) (b : Nat) (n m : Int) : Nat × Int :=
 if ¬ (-400 ≤ n ∧ n ≤ 400 ∧ 1 ≤ m ∧ m ≤ 6) then (0, 1) else if finB b = false then (0, 10) else
 if (to64A (placesA (ofD b) n m).1 1).ov = true then (0, ov) else (sgnW b + absB (to64A (placesA (ofD b) n m).1 1).bits, 0)
def dP : Nat := 16 + LP
theorem dP_eq : dP = 1090 := by unfold dP; rw [LP_eq]
theorem ofN_pow (b : Nat) : ofN b < 10 ^ dP := by
 obtain ⟨h1, h2, h3⟩ := sp_bd b
 have hL := LP_eq
 have key : ∀ k i : Nat, k ≤ 10 → i ≤ LP → spM b * k ^ i < 10 ^ dP := fun k i hk hi => by
  have h4 : k ^ i ≤ 10 ^ LP := Nat.le_trans (Nat.pow_le_pow_left hk i) (Nat.pow_le_pow_right (by decide) hi)
  calc spM b * k ^ i ≤ spM b * 10 ^ LP := Nat.mul_le_mul_left _ h4
   _ < 10 ^ 16 * 10 ^ LP := Nat.mul_lt_mul_of_pos_right (Nat.lt_of_lt_of_le h3 (by decide)) (Nat.pow_pos (by decide))
   _ = 10 ^ dP := by rw [← Nat.pow_add]; rfl
 unfold ofN
 split
 ·exact key 2 _ (by decide) (by omega)
 ·exact key 5 _ (by decide) (by omega)
theorem ofD_ok (b : Nat) : (ofD b).ok := by
 unfold ofD
 split
 ·have := mkD_ok (sg (spS b) (ofN b)) (ofE b)
  rw [(mkD_sg _ _ _).1] at this
  exact this
 ·exact none_ok
theorem ofD_val (b : Nat) : dval (ofD b).s < 10 ^ dP := by
 unfold ofD
 split
 ·show dval (madeL _ _) < _
  unfold madeL
  split
  ·exact Nat.pow_pos (by decide)
  ·rw [dval_bare]
   exact Nat.lt_of_le_of_lt (by have h := strip_mul (ofN b); have h2 : 0 < 10 ^ tz (ofN b) := Nat.pow_pos (by decide); exact Nat.le_trans (Nat.le_mul_of_pos_right _ h2) (Nat.le_of_eq h)) (ofN_pow b)
 ·exact Nat.pow_pos (by decide)
theorem place_err {N K k : Nat} {n : Int} (hN : N < 10 ^ dP) (hK : K ≤ N / 10 ^ k + 1) (hn : -400 ≤ n ∧ n ≤ 400) : madeX K (-n) = 0 := by
 have hlt : K < 10 ^ (dP + 1) := by
  have h1 : N / 10 ^ k ≤ N := Nat.div_le_self _ _
  have h2 : (10 : Nat) ^ (dP + 1) = 10 ^ dP * 10 := by rw [Nat.pow_succ]
  have h3 : 0 < (10 : Nat) ^ dP := Nat.pow_pos (by decide)
  rw [h2]
  generalize (10 : Nat) ^ dP = P at *
  omega
 have hP := dP_eq
 unfold madeX
 by_cases h0 : K = 0
 ·rw [if_pos h0]
 ·rw [if_neg h0]
  have h1 := strip_len hlt
  have h2 := bare_len_tz K (by omega)
  have h3 := bare_len_le K (dP + 1) hlt
  rw [if_neg (by omega), if_neg (by omega)]
theorem places_of (b : Nat) {n m : Int} (hn : -400 ≤ n ∧ n ≤ 400) (hm : 1 ≤ m ∧ m ≤ 6) :
  placesA (ofD b) n m = (if (ofD b).s = [] then (ofD b, 0) else placesC (ofD b) n m) ∧ (placesA (ofD b) n m).2 = 0 ∧ (placesA (ofD b) n m).1.ok ∧ ((placesA (ofD b) n m).1.s ≠ [] → (placesA (ofD b) n m).1.neg = (ofD b).neg) ∧
  ((ofD b).s ≠ [] → 0 < -n - (ofD b).e → Rep (placesA (ofD b) n m).1 (sg (ofD b).neg (unitK (ofD b) n m)) (-n)) := by
 have e : placesA (ofD b) n m = (if (ofD b).s = [] then (ofD b, 0) else placesC (ofD b) n m) := by
  unfold placesA
  rw [if_neg (fun h => h ⟨ofD_ok b, hm.1, hm.2, by omega, by omega⟩)]
 refine ⟨e, ?_⟩
 rw [e]
 by_cases h0 : (ofD b).s = []
 ·rw [if_pos h0]
  exact ⟨rfl, ofD_ok b, fun _ => rfl, fun h => absurd h0 h⟩
 ·rw [if_neg h0]
  unfold placesC
  by_cases hd : -n - (ofD b).e ≤ 0
  ·rw [if_pos hd]
   exact ⟨rfl, ofD_ok b, fun _ => rfl, fun _ h => absurd hd (by omega)⟩
  ·rw [if_neg hd]
   have hx : madeX (unitK (ofD b) n m) (-n) = 0 := place_err (ofD_val b) kW_le.2 hn
   obtain ⟨q1, q2⟩ := mkD_sg (ofD b).neg (unitK (ofD b) n m) (-n)
   refine ⟨hx, ?_, fun h => ?_, fun _ _ => ?_⟩
   ·have := mkD_ok (sg (ofD b).neg (unitK (ofD b) n m)) (-n)
    rw [q1] at this
    exact this
   ·have h : madeL (unitK (ofD b) n m) (-n) ≠ [] := h
    show madeS _ _ _ = _
    unfold madeL at h
    unfold madeS
    split
    ·rename_i g; rw [if_pos g] at h; exact absurd rfl h
    ·rfl
   ·have := rep_mk (W := sg (ofD b).neg (unitK (ofD b) n m)) (e := -n) (by rw [q2]; exact hx)
    rw [q1] at this
    exact this
theorem to64_back {b : Nat} (hb : W64 b) (hf : finB b = true) : (absB b = 0 ∧ (ofD b).s = [] ∧ to64A (ofD b) 1 = RA.no 0) ∨ (absB b ≠ 0 ∧ (ofD b).s ≠ [] ∧ (ofD b).neg = sgnB b ∧ to64A (ofD b) 1 = ⟨b, false, false, false, 0⟩) := by
 have hfl : absB b < 9218868437227405312 := of_decide_eq_true hf
 obtain ⟨mm, ee, hc, hr⟩ := fin_form hfl
 have hj := bits_join hb
 rw [hr] at hj
 by_cases h0 : absB b = 0
 ·left
  have hz : ofD b = Dc.none := by
   have := of_zero (sgnB b)
   have h1 : rungN 0 (-1074) = 0 := by decide
   rw [h1] at this
   rw [bits_join hb, h0]; exact this
  refine ⟨h0, by rw [hz]; rfl, ?_⟩
  rw [hz]; unfold to64A ratioA
  rw [if_neg (fun h => h ⟨none_ok, oneD_ok, by decide, by decide⟩), if_neg oneD_s, if_pos (show Dc.none.s = [] from rfl)]
 ·right
  have hm0 : mm ≠ 0 := by
   rintro rfl
   refine h0 ?_
   rw [hr]; unfold rungN
   have h1 : ee = -1074 := by have := hc.2.2.2; omega
   rw [h1]; decide
  have b1 := back64 (sgnB b) hc hm0 (mode := 1) (by decide)
  rw [← hj] at b1
  have hs : (ofD b).s ≠ [] := fun h => by
   unfold to64A ratioA at b1
   rw [if_neg (fun h => h ⟨ofD_ok b, oneD_ok, by decide, by decide⟩), if_neg oneD_s, if_pos h] at b1
   have : (0 : Nat) = b := congrArg RA.bits b1
   rw [← this] at h0
   exact h0 (by decide)
  refine ⟨h0, hs, ?_, b1⟩
  have h2 := (to64_bits (ofD_ok b) (m := 1) (by decide)).1
  have h3 : (to64A (ofD b) 1).bits = b := by rw [b1]
  obtain ⟨-, s2, -, -⟩ := side_bits (ofD b).neg (rung64_le (ofD b) 1)
  rw [← h2, h3] at s2
  exact s2.symm
theorem tpl_doc {b : Nat} (hb : W64 b) (hf : finB b = true) {n m : Int} (hn : -400 ≤ n ∧ n ≤ 400) (hm : 1 ≤ m ∧ m ≤ 6) {F : Dc} {x : Int} {R : RA} (hF : placesA (ofD b) n m = (F, x)) (hR : R = to64A F 1) :
  x = 0 ∧ R.err = 0 ∧ F.s.length ≤ 8192 ∧ W64 R.bits ∧ (F.s = [] → R.ov = false ∧ R.bits = 0) ∧ (F.s ≠ [] → sgnW b + absB R.bits = R.bits) := by
 obtain ⟨-, p1, p2, p3, -⟩ := places_of b hn hm
 rw [hF] at p1 p2 p3
 obtain ⟨h1, h2⟩ := to64_bits p2 (m := 1) (by decide)
 obtain ⟨s1, s2, -, s4⟩ := side_bits F.neg (rung64_le F 1)
 rw [← hR] at h1 h2
 rw [← h1] at s1 s2 s4
 refine ⟨p1, h2, ok_len p2, s4, fun h => ?_, fun h => ?_⟩
 ·rw [hR]; unfold to64A ratioA
  rw [if_neg (fun h => h ⟨p2, oneD_ok, by decide, by decide⟩), if_neg oneD_s, if_pos h]
  exact ⟨rfl, rfl⟩
 ·have hs : (ofD b).s ≠ [] := fun g => by
   obtain ⟨e, -⟩ := places_of b hn hm
   rw [if_pos g, hF] at e
   exact h (by rw [(Prod.mk.inj e).1]; exact g)
  rcases to64_back hb hf with ⟨-, g, -⟩ | ⟨-, -, g, -⟩
  ·exact absurd g hs
  ·have hn2 : F.neg = sgnB b := (p3 h).trans g
   rw [s1, h1, hn2]
   unfold sgnW
   cases sgnB b <;> rfl
end Go.Proofs.YtlbokicainimnaaGreatDoor
set_option maxRecDepth 100000
namespace Go.Proofs.YtlbokicainimnaaGreatDoor
open Go.RowKit
theorem of_dlen (b : Nat) : (ofD b).s.length ≤ 8192 := ok_len (ofD_ok b)
set_option maxHeartbeats 4000000 in
theorem tplaces_v (b : Nat) (n m : Int) (w : World) (hb : W64 b) (htab : Tab w) :
  Calls Tryz.prog 12 #[.float .f64 b, .int .i64 n, .int .i64 m] w fun e w' => e = .returned (.tuple #[.float .f64 (tplA 15 b n m).1, .int .i64 (tplA 15 b n m).2]) ∧ Below w.heap.size w w' := by
 obtain ⟨T, hT⟩ : ∃ T, T = tplA 15 b n m := ⟨_, rfl⟩
 rw [← hT]
 have HT : Hid (T = tplA 15 b n m) := hT
 clear hT
 by_cases hr : -400 ≤ n ∧ n ≤ 400 ∧ 1 ≤ m ∧ m ≤ 6
 ·obtain ⟨D, hD⟩ : ∃ D, D = ofD b := ⟨_, rfl⟩
  obtain ⟨X, hX⟩ : ∃ X, X = ofX b := ⟨_, rfl⟩
  have H1 : Hid (Calls Tryz.prog 47 #[.float .f64 b] w (fun e w' => e = .returned (.tuple #[.agg #[.bool D.neg, .string (bs D.s), .int .i64 D.e], .int .i64 X]) ∧ Below w.heap.size w w')) := by rw [hD, hX]; exact of_v b hb w htab
  obtain ⟨F, hF⟩ : ∃ F, F = placesA D n m := ⟨_, rfl⟩
  have hdl : D.s.length ≤ 8192 := by rw [hD]; exact of_dlen b
  have H2 : Hid (∀ W, Below w.heap.size w W → Calls Tryz.prog 48 #[.agg #[.bool D.neg, .string (bs D.s), .int .i64 D.e], .int .i64 n, .int .i64 m] W (DcQ F.1 F.2 W)) := fun W hW => by rw [hF]; exact rplaces_v D n m W (htab.below hW) (by omega)
  have HFL : F.1.s.length ≤ 8192 := by rw [hF, hD]; exact placesA_len (ofD_ok b)
  obtain ⟨R, hR⟩ : ∃ R, R = to64A F.1 1 := ⟨_, rfl⟩
  have H3 : Hid (∀ W, Below w.heap.size w W → Calls Tryz.prog 49 #[.agg #[.bool F.1.neg, .string (bs F.1.s), .int .i64 F.1.e], .int .i64 1] W (RatioQ R W)) := fun W hW => by rw [hR]; exact to64_v F.1 1 W (htab.below hW) (by omega)
  have HTF : Hid (T = if finB b = false then (0, 10) else if R.ov = true then (0, 15) else (sgnW b + absB R.bits, 0)) := by
   show _ = _
   rw [HT.out, hR, hF, hD]; unfold tplA
   rw [if_neg (fun h => h hr)]
  have HX : Hid (finB b = true → X = 0 ∧ F.2 = 0 ∧ R.err = 0 ∧ W64 R.bits) := fun hf => by
   rw [hX, hR, hF, hD]
   obtain ⟨-, p1, -, -⟩ := places_of b (n := n) (m := m) (by omega) (by omega)
   obtain ⟨-, q2, -, q4, -⟩ := tpl_doc hb hf (n := n) (m := m) (by omega) (by omega) rfl rfl
   exact ⟨of_room hf, p1, q2, q4⟩
  have HX2 : Hid (finB b = false → X = 10) := fun hf => by
   rw [hX]; unfold ofX
   have h1 : spX b ≠ 0 := by
    intro h
    have := of_fin h
    rw [hf] at this
    cases this
   rw [if_neg h1]
  have HB : Hid (W64 b) := hb
  obtain ⟨F, fe⟩ := F
  obtain ⟨rb, ri, ro, ru, re⟩ := R
  unfold DcQ dcV at H2
  unfold RatioQ at H3
  have g1 : ¬ n < -400 := by omega
  have g2 : ¬ 400 < n := by omega
  have g3 : ¬ m < 1 := by omega
  have g4 : ¬ 6 < m := by omega
  clear hD hX hF hR HFL hdl htab HT hr
  go_enter Tryz.func12, Tryz.ntmps12
  go_wp2_with fail
  refine H1.out.mono ?_
  rintro e w1 ⟨rfl, hb1⟩
  cases hf : finB b
  ·obtain rfl := HX2.out hf
   have ht := HTF.out
   rw [if_pos hf] at ht
   subst ht
   clear HX HX2 H1 H2 H3 HTF g1 g2 g3 g4
   go_wp2
   go_ret2
   exact ⟨rfl, hb1.alloc hb1.size _⟩
  ·obtain ⟨rfl, h2, h3, h4⟩ := HX.out hf
   subst h2 h3
   have ht := HTF.out
   rw [if_neg (by rw [hf]; decide)] at ht
   have HT : Hid _ := ht
   have HRB : Hid (W64 rb) := h4
   have HB1 : Hid (Below w.heap.size w (w1.alloc (.cells #[.bool D.neg, .string (bs D.s), .int .i64 D.e] 35))) := hb1.alloc hb1.size _
   have HK1 : Hid (Kept _ (w1.alloc (.cells #[.bool D.neg, .string (bs D.s), .int .i64 D.e] 35))) := (Kept.nil w1).dec D
   clear hb1 HX HX2 H1 HTF ht h4 g1 g2 g3 g4 hf
   obtain ⟨a0, a1, a2⟩ := HK1.out.decs (d := D) (.head _)
   go_wp2_with fail
   refine (H2.out _ HB1.out).mono ?_
   rintro e w2 ⟨rfl, hb2⟩
   have HB2 : Hid (Below w.heap.size w (w2.alloc (.cells #[.bool F.neg, .string (bs F.s), .int .i64 F.e] 35))) := (HB1.out.thru hb2).alloc (HB1.out.thru hb2).size _
   have HK2 : Hid (Kept _ (w2.alloc (.cells #[.bool F.neg, .string (bs F.s), .int .i64 F.e] 35))) := (Kept.nil w2).dec F
   clear hb2 HB1 HK1 a0 a1 a2 H2
   obtain ⟨a0, a1, a2⟩ := HK2.out.decs (d := F) (.head _)
   go_wp2_with fail
   refine (H3.out _ HB2.out).mono ?_
   rintro e w3 ⟨rfl, hb3⟩
   have HB3 : Hid (Below w.heap.size w (w3.alloc (.cells #[.bool ri, .bool ro, .bool ru] 76))) := (HB2.out.thru hb3).alloc (HB2.out.thru hb3).size _
   clear hb3 HB2 HK2 a0 a1 a2 H3
   cases ro
   ·have ht := HT.out
    rw [if_neg (by decide)] at ht
    subst ht
    clear HT
    go_wp2_with (go_at_call 50; with_reducible refine (copysign_any _ _ _ HRB.out HB.out).mono ?_; rintro e w' ⟨rfl, rfl⟩)
    go_ret2
    exact ⟨rfl, HB3.out⟩
   ·have ht := HT.out
    rw [if_pos rfl] at ht
    subst ht
    clear HT
    go_wp2
    go_ret2
    exact ⟨rfl, HB3.out⟩
 ·have ht := HT.out
  unfold tplA at ht
  rw [if_pos hr] at ht
  subst ht
  have hc : n < -400 ∨ (¬ n < -400 ∧ 400 < n) ∨ (¬ n < -400 ∧ ¬ 400 < n ∧ m < 1) ∨ (¬ n < -400 ∧ ¬ 400 < n ∧ ¬ m < 1 ∧ 6 < m) := by omega
  clear HT htab hb hr
  rcases hc with g1 | ⟨g1, g2⟩ | ⟨g1, g2, g3⟩ | ⟨g1, g2, g3, g4⟩
  all_goals
   go_enter Tryz.func12, Tryz.ntmps12
   go_wp2
   go_ret2
   exact ⟨rfl, Below.refl _ _⟩
end Go.Proofs.YtlbokicainimnaaGreatDoor
