import Derived.Test.YtlbokicainimnaaGreatDoorPCE
import Derived.Test.YtlbokicainimnaaGreatDoorPCA
import Derived.Test.YtlbokicainimnaaGreatDoorPAD
import Derived.Test.YtlbokicainimnaaGreatDoorPBM
set_option maxRecDepth 100000
namespace Go.Proofs.YtlbokicainimnaaGreatDoor
open Go.RowKit
theorem toList_loop (b : ByteArray) : ∀ (n i : Nat) (r : List UInt8), b.size - i = n → ByteArray.toList.loop b i r = r.reverse ++ (bl b).drop i := by
 intro n
 induction n with
 | zero =>
   intro i r h
   unfold ByteArray.toList.loop
   have hl : (bl b).length = b.size := rfl
   rw [if_neg (by omega), List.drop_eq_nil_of_le (by omega), List.append_nil]
 | succ n ih =>
   intro i r h
   unfold ByteArray.toList.loop
   have hl : (bl b).length = b.size := rfl
   rw [if_pos (by omega), ih (i + 1) _ (by omega), List.reverse_cons, List.append_assoc]
   congr 1
   rw [List.drop_eq_getElem_cons (i := i) (by omega)]
   show [_] ++ _ = _
   rw [List.singleton_append]
   congr 1
   have : b.get! i = b.data[i]! := rfl
   rw [this]
   have hi : i < b.data.size := by show i < b.size; omega
   rw [getElem!_pos b.data i hi]
   show _ = b.data.toList[i]
   rw [Array.getElem_toList]
theorem toList_bs (l : List UInt8) : (bs l).toList = l := by
 show ByteArray.toList.loop (bs l) 0 [] = l
 rw [toList_loop (bs l) _ 0 [] rfl, bl_bs]; rfl
def halfR (r : List UInt8) (k : Nat) : Int :=
 if r.length ≤ k - 1 then -1 else if 53 < (r.headD 0).toNat then 1 else if (r.headD 0).toNat = 53 then (if 1 < r.length then 1 else 0) else -1
theorem half_rest {r : List UInt8} {k : Nat} (hd : allDig r) (h0 : r ≠ []) (hl : dval r % 10 ≠ 0) (hk : r.length ≤ k) (hk0 : 0 < k) : halfR r k = ncmp (2 * dval r) (10 ^ k) := by
 have hlt := dval_lt r hd
 have hp : 0 < dval r := by
  rcases Nat.eq_zero_or_pos (dval r) with h | h
  ·rw [h] at hl; exact absurd rfl hl
  ·exact h
 unfold halfR
 by_cases c1 : r.length ≤ k - 1
 ·rw [if_pos c1]
  have h1 : 10 ^ r.length ≤ 10 ^ (k - 1) := Nat.pow_le_pow_right (by decide) c1
  have h2 : 10 ^ k = 10 ^ (k - 1) * 10 := by rw [← Nat.pow_succ]; congr 1; omega
  unfold ncmp
  rw [if_pos (by omega)]
 ·rw [if_neg c1]
  have hk' : k = r.length := by omega
  subst hk'
  cases r with
  | nil => exact absurd rfl h0
  | cons c t =>
    have hc : 48 ≤ c.toNat ∧ c.toNat ≤ 57 := by
     have := hd c (by simp)
     unfold isDig at this
     simp at this
     exact ⟨this.1, this.2⟩
    have ht : dval t < 10 ^ t.length := dval_lt t (fun x hx => hd x (List.mem_cons_of_mem _ hx))
    have hv : dval (c :: t) = (c.toNat - 48) * 10 ^ t.length + dval t := dval_cons c t
    have hpw : 10 ^ (c :: t).length = 10 * 10 ^ t.length := by rw [List.length_cons, Nat.pow_succ, Nat.mul_comm]
    show (if 53 < c.toNat then (1 : Int) else if c.toNat = 53 then (if 1 < (c :: t).length then 1 else 0) else -1) = _
    rw [hv] at hl ⊢
    rw [hpw]
    obtain ⟨P, hP⟩ : ∃ P, P = 10 ^ t.length := ⟨_, rfl⟩
    obtain ⟨x, hx⟩ : ∃ x, x = c.toNat - 48 := ⟨_, rfl⟩
    rw [← hP] at ht hl ⊢
    rw [← hx] at hl ⊢
    unfold ncmp
    by_cases c2 : 53 < c.toNat
    ·rw [if_pos c2]
     have : 6 * P ≤ x * P := Nat.mul_le_mul_right _ (by omega)
     rw [if_neg (by omega), if_pos (by omega)]
    ·rw [if_neg c2]
     by_cases c3 : c.toNat = 53
     ·rw [if_pos c3]
      have hx5 : x = 5 := by omega
      subst x
      by_cases c4 : 1 < (c :: t).length
      ·rw [if_pos c4]
       have htl : 0 < t.length := by simpa using c4
       have : 0 < dval t := by
        rcases Nat.eq_zero_or_pos (dval t) with h | h
        ·exfalso; apply hl
         rw [h, hx5, hP, show t.length = (t.length - 1) + 1 by omega, Nat.pow_succ]
         omega
        ·exact h
       rw [hx5]
       rw [if_neg (by omega), if_pos (by omega)]
      ·rw [if_neg c4]
       have htl : t = [] := by
        cases t with
        | nil => rfl
        | cons => simp at c4
       subst htl
       rw [hx5, hP]; rfl
     ·rw [if_neg c3]
      have : x * P ≤ 4 * P := Nat.mul_le_mul_right _ (by omega)
      rw [if_pos (by omega)]
theorem split_val {l : List UInt8} {k : Nat} (hd : allDig l) : dval (l.take (l.length - k)) = dval l / 10 ^ k ∧ dval (l.drop (l.length - k)) = dval l % 10 ^ k := by
 obtain ⟨A, hA⟩ : ∃ A, A = l.take (l.length - k) := ⟨_, rfl⟩
 obtain ⟨B, hB⟩ : ∃ B, B = l.drop (l.length - k) := ⟨_, rfl⟩
 have hl : l = A ++ B := by rw [hA, hB, List.take_append_drop]
 have hBl : B.length = min k l.length := by rw [hB, List.length_drop]; omega
 have hBd : allDig B := fun c h => hd c (by rw [hl]; exact List.mem_append_right _ h)
 have h1 := dval_lt B hBd
 rw [← hA, ← hB]
 have hv : dval l = dval A * 10 ^ B.length + dval B := by conv => lhs; rw [hl, dval_append]
 rcases Nat.le_total k l.length with h | h
 ·rw [hBl, Nat.min_eq_left h] at h1 hv
  rw [hv, Nat.mul_comm, Nat.mul_add_div (Nat.pow_pos (by decide)), Nat.div_eq_of_lt h1, Nat.mul_add_mod, Nat.mod_eq_of_lt h1]
  exact ⟨rfl, rfl⟩
 ·have hA0 : A = [] := by rw [hA, show l.length - k = 0 by omega]; rfl
  rw [hA0, dval_nil, Nat.zero_mul, Nat.zero_add] at hv
  have hlt : dval l < 10 ^ k := Nat.lt_of_lt_of_le (dval_lt l hd) (Nat.pow_le_pow_right (by decide) h)
  rw [hA0, dval_nil, Nat.div_eq_of_lt hlt, Nat.mod_eq_of_lt hlt, hv]
  exact ⟨rfl, rfl⟩
set_option maxHeartbeats 8000000 in
theorem rplaces3_v (a : Dc) (n m : Int) (w : World) (hl : a.s.length ≤ 8192) (hdg : allDig a.s) (hs : a.s ≠ []) (hlast : dval a.s % 10 ≠ 0) (he : -20000 ≤ a.e ∧ a.e ≤ 20000) (hn : -100000 ≤ n ∧ n ≤ 100000) (hm : 1 ≤ m ∧ m ≤ 6) :
  Calls Tryz.prog 112 #[.agg #[.bool a.neg, .string (bs a.s), .int .i64 a.e], .int .i64 n, .int .i64 m] w (DcQ (placesC a n m).1 (placesC a n m).2 w) := by
 obtain ⟨D, hD⟩ : ∃ D, D = (placesC a n m).1 := ⟨_, rfl⟩
 obtain ⟨X, hX⟩ : ∃ X, X = (placesC a n m).2 := ⟨_, rfl⟩
 rw [← hD, ← hX]
 obtain ⟨w1, hw1⟩ : ∃ W, W = ((w.alloc (.cells #[.bool a.neg, .string (bs a.s), .int .i64 a.e] 35)).alloc (.cells #[.bool false, .string ⟨#[]⟩, .int .i64 0] 35)) := ⟨_, rfl⟩
 have hpl : PL w a w1 := by
  rw [hw1]
  exact ⟨heap_alloc2_old w _ _, heap_alloc2_new w _ _, ((Below.refl _ _).alloc (Nat.le_refl _) _).alloc (by simp) _⟩
 have HPL1 : Hid (PL w a w1) := hpl
 have HA : Hid (a.s.length ≤ 8192 ∧ allDig a.s ∧ a.s ≠ [] ∧ dval a.s % 10 ≠ 0) := ⟨hl, hdg, hs, hlast⟩
 have HM : Hid (1 ≤ m ∧ m ≤ 6) := hm
 have i1 : IntKind.i64.wrap (-n) = -n := IntWalk.i64_in _ (by omega)
 obtain ⟨d, hd⟩ : ∃ d : Int, d = -n - a.e := ⟨_, rfl⟩
 have i2 : IntKind.i64.wrap (-n - a.e) = d := by rw [hd]; exact IntWalk.i64_in _ (by omega)
 have HNN : Hid (-100000 ≤ n ∧ n ≤ 100000 ∧ -20000 ≤ a.e ∧ a.e ≤ 20000) := ⟨hn.1, hn.2, he.1, he.2⟩
 obtain ⟨a0, a1, a2⟩ : w1.cell? ⟨w.heap.size, 0, none⟩ = some (.bool a.neg) ∧ w1.cell? ⟨w.heap.size, 1, none⟩ = some (.string (bs a.s)) ∧ w1.cell? ⟨w.heap.size, 2, none⟩ = some (.int .i64 a.e) := ⟨cell_of_row w1 w.heap.size 0 _ _ _ hpl.1, cell_of_row w1 w.heap.size 1 _ _ _ hpl.1, cell_of_row w1 w.heap.size 2 _ _ _ hpl.1⟩
 clear hpl hl hdg hs hm he hn hlast
 go_enter Tryz.func112, Tryz.ntmps112
 go_upto_region 1 with fail
 rw [← hw1]
 clear hw1
 by_cases h0 : d ≤ 0
 ·have h0' : -n - a.e ≤ 0 := by omega
  obtain ⟨f0, c0, f1, c1, f2, c2, r3⟩ := rw3 HPL1.out.2.1
  have HR : Hid _ := r3
  have hDX : D = a ∧ X = 0 := by
   rw [hD, hX]; unfold placesC; rw [if_pos h0']; exact ⟨rfl, rfl⟩
  obtain ⟨rfl, rfl⟩ := hDX
  clear r3 hD hX hd
  go_wp2
  exact dc_end rfl rfl rfl (HR.out _ _ _) rfl rfl (below_row3 HPL1.out.2.2 (Nat.le_add_right _ 1) _ _ _)
 ·have h0' : ¬ (-n - a.e ≤ 0) := by omega
  obtain ⟨k, hk⟩ : ∃ k : Nat, d = k := ⟨d.toNat, by omega⟩
  have hkt : (-n - a.e).toNat = k := by omega
  have hk0 : 0 < k := by omega
  obtain ⟨N, hN⟩ : ∃ N, N = unitK a n m := ⟨_, rfl⟩
  have HDX : Hid (D = ⟨madeS a.neg N (-n), madeL N (-n), madeE N (-n)⟩ ∧ X = madeX N (-n)) := by
   show _ ∧ _
   rw [hD, hX, hN]; unfold placesC; rw [if_neg h0']; exact ⟨rfl, rfl⟩
  obtain ⟨p, hp⟩ : ∃ p, p = a.s.length - k := ⟨_, rfl⟩
  obtain ⟨q, hq⟩ : ∃ q, q = a.s.take p := ⟨_, rfl⟩
  obtain ⟨r, hr⟩ : ∃ r, r = a.s.drop p := ⟨_, rfl⟩
  have hsv := split_val (l := a.s) (k := k) HA.out.2.1
  rw [← hp, ← hq, ← hr] at hsv
  have hal : 0 < a.s.length := List.length_pos_iff.2 HA.out.2.2.1
  have hrl : r.length = a.s.length - p := by rw [hr, List.length_drop]
  have hql : q.length = p := by rw [hq, List.length_take]; omega
  have hr0 : r ≠ [] := fun h => by rw [h] at hrl; simp at hrl; omega
  have hrd : allDig r := fun c h => HA.out.2.1 c (by rw [hr] at h; exact List.mem_of_mem_drop h)
  have hqd : allDig q := fun c h => HA.out.2.1 c (by rw [hq] at h; exact List.mem_of_mem_take h)
  have hrv : dval r % 10 ≠ 0 := by
   rw [hsv.2, show k = (k - 1) + 1 by omega, Nat.pow_succ, Nat.mul_comm, Nat.mod_mul_right_mod]
   exact HA.out.2.2.2
  obtain ⟨h, hh⟩ : ∃ h, h = halfR r k := ⟨_, rfl⟩
  have hhn : h = ncmp (2 * (dval a.s % 10 ^ k)) (10 ^ k) := by rw [hh, half_rest hrd hr0 hrv (by omega) hk0, hsv.2]
  obtain ⟨uu, huu⟩ : ∃ u, u = upW m a.neg (dval q % 2 == 1) h := ⟨_, rfl⟩
  have HUU : Hid (uu = upW m a.neg (dval q % 2 == 1) h) := huu
  have HN : Hid (N = if uu = true then dval q + 1 else dval q) := by
   show _ = _
   rw [hN, huu, hsv.1, hhn]; unfold unitK kW; rw [hkt]; rfl
  have HH3 : Hid (h = -1 ∨ h = 0 ∨ h = 1) := by
   rw [hhn]; unfold ncmp; split
   ·exact .inl rfl
   ·split
    ·exact .inr (.inr rfl)
    ·exact .inr (.inl rfl)
  have HH : Hid (h = halfR r k) := hh
  have HQR : Hid (p = a.s.length - k ∧ q = a.s.take p ∧ r = a.s.drop p ∧ allDig q ∧ allDig r ∧ r ≠ [] ∧ dval r % 10 ≠ 0 ∧ q.length = p ∧ r.length = a.s.length - p ∧ 0 < k ∧ 0 < a.s.length) := ⟨hp, hq, hr, hqd, hrd, hr0, hrv, hql, hrl, hk0, hal⟩
  have HNB : Hid (N < 10 ^ a.s.length) := by
   show _ < _
   have h1 : dval q < 10 ^ q.length := dval_lt q hqd
   have h2 : 10 ^ (q.length + 1) ≤ 10 ^ a.s.length := Nat.pow_le_pow_right (by decide) (by omega)
   rw [Nat.pow_succ] at h2
   rw [HN.out]
   generalize 10 ^ q.length = T at *
   split <;> omega
  subst hk
  clear hD hX hN hp hq hr hsv hal hrl hql hr0 hrd hqd hrv hh hhn huu hkt h0' hd hk0
  go_upto_if 31 with fail
  go_cut [9, 10] (fun qv rv wx => qv = .string (bs q) ∧ rv = .string (bs r) ∧ w1 = wx)
  case first => as_aux_lemma =>
   have hqr := HQR.out
   have hpe := hqr.1
   by_cases hlt : k < a.s.length
   ·have hif : ((k : Int) < ((bs a.s).size : Nat)) := by show (k : Int) < ((a.s.length : Nat) : Int); omega
    have hle : p ≤ (bs a.s).size := by show p ≤ a.s.length; omega
    have j1 : IntKind.i64.wrap (((bs a.s).size : Nat) - (k : Int)) = (p : Int) := by
     show IntKind.i64.wrap (((a.s.length : Nat) : Int) - (k : Int)) = (p : Int)
     rw [IntWalk.i64_in _ (by have := HA.out.1; omega)]; omega
    have e1 : (bs a.s).extract 0 p = bs q := by
     apply bl_inj
     rw [bl_extract, List.drop_zero, bl_bs, bl_bs, hqr.2.1]
    have e2 : (bs a.s).extract p (bs a.s).size = bs r := by
     apply bl_inj
     rw [bl_extract, bl_bs, bl_bs, hqr.2.2.1]
     show List.drop p (List.take a.s.length a.s) = _
     rw [List.take_of_length_le (Nat.le_refl _)]
    clear hqr hpe hlt
    go_wp2
    go_meet
    exact ⟨rfl, rfl, rfl⟩
   ·have hif : ¬ ((k : Int) < ((bs a.s).size : Nat)) := by show ¬ (k : Int) < ((a.s.length : Nat) : Int); omega
    have hp0 : p = 0 := by omega
    have e1 : bs q = ⟨#[]⟩ := by rw [hqr.2.1, hp0]; rfl
    have e2 : bs r = bs a.s := by rw [hqr.2.2.1, hp0]; rfl
    have HEE : Hid (bs q = ⟨#[]⟩ ∧ bs r = bs a.s) := ⟨e1, e2⟩
    clear hqr hpe hlt hp0 e1 e2
    go_wp2
    go_meet
    exact ⟨by rw [HEE.out.1], by rw [HEE.out.2], rfl⟩
  case rest =>
  obtain ⟨rfl, rfl, rfl⟩ := hcut
  go_upto_if 52 with fail
  go_cut [11] (fun hv wx => hv = .int .i64 h ∧ w1 = wx)
  case first => as_aux_lemma =>
   have hqr := HQR.out
   have hpe := hqr.1
   have hhr := HH.out
   by_cases hle : k ≤ a.s.length
   ·have hif : ((k : Int) ≤ ((bs a.s).size : Nat)) := by show (k : Int) ≤ ((a.s.length : Nat) : Int); omega
    have hrk : r.length = k := by omega
    unfold halfR at hhr
    rw [if_neg (by omega)] at hhr
    have hsz0 : 0 < (bs r).size := by show 0 < r.length; omega
    obtain ⟨cn, hcn⟩ : ∃ x : Nat, x = ((bs r)[0]'hsz0).toNat := ⟨_, rfl⟩
    have hhd : (r.headD 0).toNat = cn := by
     rw [hcn, bl_get]
     simp only [bl_bs]
     cases r with
     | nil => exact absurd rfl hqr.2.2.2.2.2.1
     | cons c t => rfl
    rw [hhd] at hhr
    have hrs : (bs r).size = r.length := rfl
    have hrc : r.length ≤ 1 → r = [r.headD 0] := fun h => by
     cases r with
     | nil => exact absurd rfl hqr.2.2.2.2.2.1
     | cons c t =>
       have : t = [] := List.eq_nil_of_length_eq_zero (by simp at h; rw [h]; rfl)
       rw [this]; rfl
    clear hqr hpe hle
    by_cases c1 : 53 < cn
    ·have HHR : Hid (h = 1) := by show _ = _; rw [hhr, if_pos c1]
     have g1 : (53 : Int) < (((bs r)[0]'hsz0).toNat : Nat) := by omega
     clear hhr hhd hcn c1 hrc hrs hrk
     go_wp2
     go_meet
     exact ⟨by rw [HHR.out], rfl⟩
    ·have g1 : ¬ (53 : Int) < (((bs r)[0]'hsz0).toNat : Nat) := by omega
     by_cases c2 : cn = 53
     ·have g2 : ((((bs r)[0]'hsz0).toNat : Nat) : Int) = 53 := by omega
      by_cases c3 : 1 < r.length
      ·have HHR : Hid (h = 1) := by show _ = _; rw [hhr, if_neg c1, if_pos c2, if_pos c3]
       have g3 : (1 : Int) < ((bs r).size : Nat) := by omega
       clear hhr hhd hcn c1 c2 c3 hrc hrs hrk
       go_wp2
       go_meet
       exact ⟨by rw [HHR.out], rfl⟩
      ·have HHR : Hid (h = 0) := by show _ = _; rw [hhr, if_neg c1, if_pos c2, if_neg c3]
       have g3 : ¬ (1 : Int) < ((bs r).size : Nat) := by omega
       have g4 : ((bs r).toList == [53]) = true := by
        rw [toList_bs, hrc (by omega)]
        have : r.headD 0 = 53 := UInt8.toNat_inj.1 (by rw [hhd, c2]; rfl)
        rw [this]; rfl
       clear hhr hhd hcn c1 c2 c3 hrc hrs hrk
       go_wp2
       go_meet
       exact ⟨by rw [HHR.out], rfl⟩
     ·have HHR : Hid (h = -1) := by show _ = _; rw [hhr, if_neg c1, if_neg c2]
      have g2 : ¬ ((((bs r)[0]'hsz0).toNat : Nat) : Int) = 53 := by omega
      have g4 : ((bs r).toList == [53]) = false := by
       rw [toList_bs, beq_eq_false_iff_ne]
       intro hr53
       rw [hr53] at hhd
       exact c2 (by rw [← hhd]; rfl)
      clear hhr hhd hcn c1 c2 hrc hrs hrk
      go_wp2
      go_meet
      exact ⟨by rw [HHR.out], rfl⟩
   ·have hif : ¬ ((k : Int) ≤ ((bs a.s).size : Nat)) := by show ¬ (k : Int) ≤ ((a.s.length : Nat) : Int); omega
    have hr1 : h = -1 := by rw [hhr]; unfold halfR; rw [if_pos (by omega)]
    have HR1 : Hid (h = -1) := hr1
    clear hqr hpe hle hhr hr1
    go_wp2
    go_meet
    exact ⟨by rw [HR1.out], rfl⟩
  case rest =>
  obtain ⟨rfl, rfl⟩ := hcut
  have hem : (bs r).toList.isEmpty = false := emp_not HQR.out.2.2.2.2.2.1
  clear a0 a1 a2 i1 i2
  go_wp2_with fail
  go_loopw [12, 13] (fun bv iv wr => ∃ (b : Bool) (j : Nat), bv = .bool b ∧ iv = .int .i64 (j : Nat) ∧ j ≤ r.length ∧ (∀ i (_ : i < j) (h' : i < r.length), r[i] = 48) ∧ w1 = wr) (fun _ iv _ => r.length - (intOf iv).toNat)
  case atStart => exact ⟨false, 0, by first | rfl | rw [hem], by first | rfl | go_num, Nat.zero_le _, fun i h => absurd h (Nat.not_lt_zero _), rfl⟩
  case round =>
   obtain ⟨b, j, rfl, rfl, hj, hz, rfl⟩ := hrel
   have HZ : Hid (∀ i (_ : i < j) (h' : i < r.length), r[i] = 48) := hz
   have HJ : Hid (j ≤ r.length ∧ r.length ≤ 8192) := ⟨hj, by have := HQR.out.2.2.2.2.2.2.2.2.1; have := HA.out.1; omega⟩
   clear hz hj hem
   by_cases hjl : j < r.length
   ·have hjs : j < (bs r).size := hjl
    have hget : (bs r)[j]'hjs = r[j] := by rw [bl_get]; simp only [bl_bs]; rfl
    by_cases hc : r[j] = 48
    ·have hc1 : ((((bs r)[j]'hjs).toNat : Nat) : Int) = 48 := by rw [hget, hc]; rfl
     have HC : Hid (r[j] = 48) := hc
     have j1 : IntKind.i64.wrap ((j : Int) + 1) = (j : Int) + 1 := IntWalk.i64_in _ (by have := HJ.out; omega)
     clear hget hc
     go_wp2
     go_roundw
     case rel =>
      refine ⟨true, j + 1, rfl, by go_num, hjl, fun i h h' => ?_, trivial⟩
      by_cases e : i = j
      ·subst e; exact HC.out
      ·exact HZ.out i (by omega) h'
     case measure => simp [intOf] <;> omega
    ·have hc1 : ¬ ((((bs r)[j]'hjs).toNat : Nat) : Int) = 48 := by
      rw [hget]; intro h
      exact hc (UInt8.toNat_inj.1 (by have : (48 : UInt8).toNat = 48 := rfl; omega))
     clear hget hc
     go_upto_region 22 with fail
     clear hc1
     go_cut [14] (fun v wx => v = .bool (dval q % 2 == 1) ∧ w1 = wx)
     case first => as_aux_lemma =>
      have hqr := HQR.out
      by_cases hq0 : q = []
      ·have he : (bs q).toList.isEmpty = true := emp_slice hq0
       have HOD : Hid ((dval q % 2 == 1) = false) := by show _ = _; rw [hq0]; rfl
       clear hqr hq0
       go_wp2
       go_meet
       exact ⟨by rw [HOD.out], rfl⟩
      ·have he : (bs q).toList.isEmpty = false := emp_not hq0
       have hq1 : 0 < q.length := List.length_pos_iff.2 hq0
       have hqs : (bs q).size = q.length := rfl
       have hlt : q.length - 1 < (bs q).size := by omega
       have j1 : wrap64 ((q.length : Int) - 1) = ((q.length - 1 : Nat) : Int) := by
        unfold wrap64
        have := HA.out.1; have := hqr.2.2.2.2.2.2.2.1; omega
       obtain ⟨x, hx⟩ : ∃ x : Nat, x = ((bs q)[q.length - 1]'hlt).toNat := ⟨_, rfl⟩
       have hsn := bl_snoc (s := bs q) hq1
       obtain ⟨pre, hpre⟩ : ∃ pre, pre = bl ((bs q).extract 0 ((bs q).size - 1)) := ⟨_, rfl⟩
       obtain ⟨lst, hls⟩ : ∃ c : UInt8, c = (bs q)[q.length - 1]'hlt := ⟨_, rfl⟩
       have hqe : q = pre ++ [lst] := by rw [hpre, hls]; exact hsn
       rw [← hls] at hx
       have hdl : dval q = 10 * dval pre + (x - 48) := by rw [hqe, dval_snoc, hx]
       have hxr : 48 ≤ x ∧ x ≤ 57 := by
        have := hqr.2.2.2.1 lst (by rw [hqe]; simp)
        unfold isDig at this
        simp at this
        rw [hx]; exact ⟨this.1, this.2⟩
       have HOD : Hid ((((x : Int) % 2) == 1) = (dval q % 2 == 1)) := by
        show _ = _
        rw [Bool.eq_iff_iff, beq_iff_eq, beq_iff_eq]; omega
       have k1 : ((((bs q)[q.length - 1]'hlt).toNat : Nat) : Int) = (x : Int) := by rw [← hls, hx]
       clear hqr hq0 hsn hdl hxr hqe hpre hls hx
       go_wp2
       go_meet
       exact ⟨by rw [← HOD.out], rfl⟩
     case rest =>
     obtain ⟨rfl, rfl⟩ := hcut
     obtain ⟨od, hod⟩ : ∃ o, o = (dval q % 2 == 1) := ⟨_, rfl⟩
     rw [← hod] at HUU ⊢
     have a0 := cell_of_row w1 w.heap.size 0 _ _ _ HPL1.out.1
     clear hod
     go_upto_region 23 with fail
     go_cut [102] (fun v wx => v = .bool uu ∧ w1 = wx)
     case first => as_aux_lemma =>
      go_wp2_with (go_at_call 170; refine (up_any m a.neg od h _ HH3.out HM.out).mono ?_; rintro e w' ⟨rfl, rfl⟩)
      go_meet
      exact ⟨by rw [HUU.out], rfl⟩
     case rest =>
     obtain ⟨rfl, rfl⟩ := hcut
     clear a0
     go_upto_if 102 with fail
     go_cut [9] (fun v wx => ∃ t : ByteArray, v = .string t ∧ allDig (bl t) ∧ dval (bl t) = N ∧ t.size ≤ 100000 ∧ Below w1.heap.size w1 wx)
     case first => as_aux_lemma =>
      have hqb : allDig (bl (bs q)) := HQR.out.2.2.2.1
      have hqz : (bs q).size ≤ 8192 := by
       show q.length ≤ 8192
       have := HQR.out; have := HA.out.1; omega
      cases uu
      ·have hn : N = dval q := HN.out
       have HF : Hid (allDig (bl (bs q)) ∧ dval (bl (bs q)) = N ∧ (bs q).size ≤ 100000) := ⟨hqb, hn.symm, by omega⟩
       clear hqb hqz hn
       go_wp2
       go_meet
       exact ⟨_, rfl, HF.out.1, HF.out.2.1, HF.out.2.2, Below.refl _ _⟩
      ·have hn : N = dval q + 1 := HN.out
       have HPV : Hid _ := plus_v (bs q) w1 hqb (by omega)
       have HF : Hid (dval (bl (bs q)) + 1 = N ∧ (bs q).size ≤ 8192) := ⟨hn.symm, hqz⟩
       clear hqb hqz hn
       go_wp2_with fail
       refine Calls.mono HPV.out ?_
       rintro e w' ⟨t, rfl, t1, t2, t3, hb⟩
       have HG : Hid (allDig (bl t) ∧ dval (bl t) = N ∧ t.size ≤ 100000 ∧ Below w1.heap.size w1 w') := ⟨t1, t2.trans HF.out.1, by have := HF.out.2; omega, hb⟩
       clear t1 t2 t3 hb
       go_wp2
       go_meet
       exact ⟨t, rfl, HG.out.1, HG.out.2.1, HG.out.2.2.1, HG.out.2.2.2⟩
     case rest =>
     obtain ⟨t, rfl, t1, t2, t3, hb⟩ := hcut
     obtain ⟨w5, hw5⟩ : ∃ W, W = wc := ⟨_, rfl⟩
     rw [← hw5] at hb ⊢
     have HP5 : Hid (PL w a w5) := HPL1.out.below hb
     have HMD : Hid (∀ W, Calls Tryz.prog 58 #[.bool a.neg, .string t, .int .i64 (-n)] W (MadeQ a.neg N (-n) W)) := fun W => by
      have := rmade3_v a.neg t (-n) W t1 t3 (by have := HNN.out; omega)
      rw [t2] at this
      exact this
     have a0 := cell_of_row w5 w.heap.size 0 _ _ _ HP5.out.1
     have i1 : IntKind.i64.wrap (-n) = -n := IntWalk.i64_in _ (by have := HNN.out; omega)
     clear hw5 hb t1 t2 t3
     go_wp2_with fail
     refine (HMD.out _).mono ?_
     rintro e w6 ⟨dd, ok, rfl, k1, k2, hb⟩
     have HKK : Hid _ := (⟨k1, k2⟩ : (ok = true → dd = ⟨madeS a.neg N (-n), madeL N (-n), madeE N (-n)⟩ ∧ madeX N (-n) = 0) ∧ (ok = false → madeX N (-n) ≠ 0))
     have HP6 : Hid (PL w a w6) := HP5.out.below hb
     have hal : Below w6.heap.size w6 (w6.alloc (.cells #[.bool dd.neg, .string (bs dd.s), .int .i64 dd.e] 35)) := (Below.refl _ _).alloc (Nat.le_refl _) _
     have HP7 : Hid (PL w a (w6.alloc (.cells #[.bool dd.neg, .string (bs dd.s), .int .i64 dd.e] 35))) := HP6.out.below hal
     obtain ⟨f0, c0, f1, c1, f2, c2, r3⟩ := rw3 HP7.out.2.1
     have HR : Hid _ := r3
     have hdr := new_blk w6 (.cells #[.bool dd.neg, .string (bs dd.s), .int .i64 dd.e] 35)
     have d0 := cell_of_row _ w6.heap.size 0 _ _ _ hdr
     have d1 := cell_of_row _ w6.heap.size 1 _ _ _ hdr
     have d2 := cell_of_row _ w6.heap.size 2 _ _ _ hdr
     simp only [dcV]
     clear k1 k2 hb a0 i1 hal r3 hdr
     cases ok
     ·have hx : madeX N (-n) ≠ 0 := HKK.out.2 rfl
      have hx11 : D = Dc.none ∧ X = 11 := by
       obtain ⟨m1, m2, m3⟩ := made_none (neg := a.neg) (N := N) (e := -n) (.inr hx)
       rw [HDX.out.1, HDX.out.2, m1, m2, m3]
       refine ⟨rfl, ?_⟩
       have hN0 : N ≠ 0 := fun h => hx (by rw [h]; exact (made_zero a.neg (-n)).1)
       have hlen : (bareD (strip N)).length ≤ a.s.length := by
        refine bare_len_le _ _ (Nat.lt_of_le_of_lt ?_ HNB.out)
        have := strip_mul N
        calc strip N ≤ strip N * 10 ^ tz N := Nat.le_mul_of_pos_right _ (Nat.pow_pos (by decide))
         _ = N := this
       unfold madeX at hx ⊢
       rw [if_neg hN0, if_neg (by have := HA.out.1; omega)] at hx ⊢
       split
       ·rfl
       ·rename_i hh; rw [if_neg hh] at hx; exact absurd rfl hx
      obtain ⟨rfl, rfl⟩ := hx11
      clear hx d0 d1 d2
      go_wp2
      exact dc_end rfl rfl rfl (HR.out _ _ _) rfl rfl (below_row3 HP7.out.2.2 (Nat.le_add_right _ 1) _ _ _)
     ·have hdx : dd = D ∧ X = 0 := ⟨(HKK.out.1 rfl).1.trans HDX.out.1.symm, HDX.out.2.trans (HKK.out.1 rfl).2⟩
      obtain ⟨rfl, rfl⟩ := hdx
      go_wp2
      exact dc_end rfl rfl rfl (HR.out _ _ _) rfl rfl (below_row3 HP7.out.2.2 (Nat.le_add_right _ 1) _ _ _)
   ·exfalso
    have h1 := last_mod HQR.out.2.2.2.2.1 HQR.out.2.2.2.2.2.1
    rw [decide_eq_false HQR.out.2.2.2.2.2.2.1] at h1
    have hrl : 0 < r.length := List.length_pos_iff.2 HQR.out.2.2.2.2.2.1
    have h2 := HZ.out (r.length - 1) (by omega) (by omega)
    have h3 : r.getLastD 0 = r[r.length - 1]'(by omega) := by
     rw [List.getLastD_eq_getLast?, List.getLast?_eq_getElem?, List.getElem?_eq_getElem (by omega)]; rfl
    rw [h3, h2] at h1
    exact absurd h1 (by decide)
theorem rmode_q (m : Int) (w : World) : Calls Tryz.prog 111 #[.int .i64 m] w fun e w' => e = .returned (.bool (decide (1 ≤ m ∧ m ≤ 6))) ∧ w' = w := by
 by_cases h1 : 1 ≤ m
 ·by_cases h2 : m ≤ 6
  ·have hd : decide (1 ≤ m ∧ m ≤ 6) = true := decide_eq_true ⟨h1, h2⟩
   rw [hd]
   clear hd
   go_enter Tryz.func111, Tryz.ntmps111
   go_wp2
   go_ret
   exact ⟨rfl, rfl⟩
  ·have hd : decide (1 ≤ m ∧ m ≤ 6) = false := decide_eq_false (by omega)
   rw [hd]
   clear hd
   go_enter Tryz.func111, Tryz.ntmps111
   go_wp2
   go_ret
   exact ⟨rfl, rfl⟩
 ·have hd : decide (1 ≤ m ∧ m ≤ 6) = false := decide_eq_false (by omega)
  rw [hd]
  clear hd
  go_enter Tryz.func111, Tryz.ntmps111
  go_wp2
  go_ret
  exact ⟨rfl, rfl⟩
set_option maxHeartbeats 4000000 in
theorem rplaces3_w (a : Dc) (n m : Int) (w : World) (hsa : a.s.length ≤ 9223372036854775807) :
  Calls Tryz.prog 51 #[.agg #[.bool a.neg, .string (bs a.s), .int .i64 a.e], .int .i64 n, .int .i64 m] w (DcQ (placesA a n m).1 (placesA a n m).2 w) := by
 obtain ⟨R, hR⟩ : ∃ R, R = placesA a n m := ⟨_, rfl⟩
 rw [← hR]
 have HR : Hid (R = placesA a n m) := hR
 obtain ⟨w4, hw4⟩ : ∃ W, W = ((w.alloc (.cells #[.bool a.neg, .string (bs a.s), .int .i64 a.e] 35)).alloc (.cells #[.bool false, .string ⟨#[]⟩, .int .i64 0] 35)) := ⟨_, rfl⟩
 have hba : Below w.heap.size w w4 := by rw [hw4]; exact ((Below.refl _ _).alloc (Nat.le_refl _) _).alloc (by simp) _
 have hsz : w4.heap.size = w.heap.size + 2 := by rw [hw4]; simp
 have q0 : w4.heap[w.heap.size]? = some (.cells #[.bool a.neg, .string (bs a.s), .int .i64 a.e] 35 (0, 0)) := by rw [hw4]; exact heap_alloc2_old w _ _
 have q1 : w4.heap[w.heap.size + 1]? = some (.cells #[.bool false, .string ⟨#[]⟩, .int .i64 0] 35 (0, 0)) := by rw [hw4]; exact heap_alloc2_new w _ _
 have HX : Hid (∀ W, Below w4.heap.size w4 W → W.heap[w.heap.size]? = some (.cells #[.bool a.neg, .string (bs a.s), .int .i64 a.e] 35 (0, 0)) ∧ W.heap[w.heap.size + 1]? = some (.cells #[.bool false, .string ⟨#[]⟩, .int .i64 0] 35 (0, 0)) ∧ Below w.heap.size w W) := fun W hW =>
  ⟨hW.blk q0 (by omega), hW.blk q1 (by omega), hba.trans (hW.mono hba.size)⟩
 obtain ⟨ok, hok⟩ : ∃ p, p = a.okB := ⟨_, rfl⟩
 obtain ⟨md, hmd⟩ : ∃ p, p = decide (1 ≤ m ∧ m ≤ 6) := ⟨_, rfl⟩
 have HVD : Hid (∀ W, Calls Tryz.prog 110 #[.agg #[.bool a.neg, .string (bs a.s), .int .i64 a.e]] W fun e w' => e = .returned (.bool ok) ∧ Below W.heap.size W w') := fun W => by rw [hok]; exact rvalid3_v a W hsa
 have HMO : Hid (∀ W, Calls Tryz.prog 111 #[.int .i64 m] W fun e w' => e = .returned (.bool md) ∧ w' = W) := fun W => by rw [hmd]; exact rmode_q m W
 have HP : Hid ((ok = true ↔ a.ok) ∧ (md = true ↔ (1 ≤ m ∧ m ≤ 6))) := by
  refine ⟨by rw [hok]; exact okB_iff a, by rw [hmd]; exact decide_eq_true_iff⟩
 have ka0 := cell_of_row w4 w.heap.size 0 _ _ _ q0
 have ka1 := cell_of_row w4 w.heap.size 1 _ _ _ q0
 have ka2 := cell_of_row w4 w.heap.size 2 _ _ _ q0
 clear hR hba hsz q0 q1 hok hmd hsa
 go_enter Tryz.func51, Tryz.ntmps51
 go_upto_region 1 with fail
 rw [← hw4]
 clear hw4
 go_wp2_with fail
 refine (HVD.out _).mono ?_
 rintro e w5 ⟨rfl, hb5⟩
 have HB5 : Hid (Below w4.heap.size w4 w5) := hb5
 obtain ⟨f0, c0, f1, c1, f2, c2, r3⟩ := rw3 (HX.out w5 hb5).2.1
 have HR3 : Hid _ := r3
 have HBW : Hid (Below w.heap.size w w5) := (HX.out w5 hb5).2.2
 clear ka0 ka1 ka2
 have ka0 := cell_of_row w5 w.heap.size 0 _ _ _ (HX.out w5 hb5).1
 have ka1 := cell_of_row w5 w.heap.size 1 _ _ _ (HX.out w5 hb5).1
 have ka2 := cell_of_row w5 w.heap.size 2 _ _ _ (HX.out w5 hb5).1
 clear hb5 r3 HVD
 by_cases hall : ok = true ∧ md = true ∧ -20000 ≤ n ∧ n ≤ 20000
 ·obtain ⟨rfl, rfl, l1, l2⟩ := hall
  have oa := HP.out.1.1 rfl
  obtain ⟨m1, m2⟩ := HP.out.2.1 rfl
  have g1 : ¬ n < -20000 := by omega
  have g2 : ¬ 20000 < n := by omega
  have HOA : Hid a.ok := oa
  have HLN : Hid (-20000 ≤ n ∧ n ≤ 20000 ∧ 1 ≤ m ∧ m ≤ 6) := ⟨l1, l2, m1, m2⟩
  have HRN : Hid (R = if a.s = [] then (a, 0) else placesC a (n) m) := by
   show _ = _
   rw [HR.out]; unfold placesA
   rw [if_neg (fun h => h ⟨oa, m1, m2, l1, l2⟩)]
  clear HP HR oa m1 m2 l1 l2
  by_cases ha0 : a.s = []
  ·have HRM : Hid (R = (a, 0)) := by show _ = _; rw [HRN.out, if_pos ha0]
   have hf := emp_slice ha0
   clear ha0 HRN
   go_wp2_with (go_at_call 111; refine (HMO.out _).mono ?_; rintro e w' ⟨rfl, rfl⟩)
   rw [HRM.out]
   exact dc_end rfl rfl rfl (HR3.out _ _ _) rfl rfl (below_row3 HBW.out (Nat.le_add_right _ 1) _ _ _)
  ·have hf := emp_not ha0
   have HOE : Hid (allDig a.s ∧ a.s.length ≤ 8192 ∧ -20000 ≤ a.e ∧ a.e ≤ 20000 ∧ dval a.s % 10 ≠ 0) := by
    rcases HOA.out with h | h
    ·exact absurd (by rw [h]; rfl) ha0
    ·exact ⟨h.1, h.2.1, h.2.2.2.2.2.1, h.2.2.2.2.2.2, h.2.2.2.1⟩
   have HRM : Hid (R = placesC a (n) m) := by show _ = _; rw [HRN.out, if_neg ha0]
   have HPC : Hid (Calls Tryz.prog 112 #[.agg #[.bool a.neg, .string (bs a.s), .int .i64 a.e], .int .i64 (n), .int .i64 m] w5 (DcQ R.1 R.2 w5)) := by
    rw [HRM.out]
    exact rplaces3_v a (n) m w5 HOE.out.2.1 HOE.out.1 ha0 HOE.out.2.2.2.2 ⟨HOE.out.2.2.1, HOE.out.2.2.2.1⟩ (by have := HOE.out; have := HLN.out; omega) HLN.out.2.2
   clear ha0 HRN f0 c0 f1 c1 f2 c2 HR3
   go_wp2_with (go_at_call 111; refine (HMO.out _).mono ?_; rintro e w' ⟨rfl, rfl⟩)
   refine Calls.mono HPC.out ?_
   rintro e w6 ⟨rfl, hb6⟩
   obtain ⟨f0, c0, f1, c1, f2, c2, r3⟩ := rw3 (HX.out w6 (HB5.out.thru hb6)).2.1
   have HR3 : Hid _ := r3
   have HB6 : Hid (Below w.heap.size w w6) := (HX.out w6 (HB5.out.thru hb6)).2.2
   obtain ⟨D, X⟩ := R
   simp only [dcV]
   clear hb6 r3 ka0 ka1 ka2
   go_wp2
   exact dc_end rfl rfl rfl (HR3.out _ _ _) rfl rfl (below_row3 HB6.out (Nat.le_add_right _ 1) _ _ _)
 ·have HRM : Hid (R = (Dc.none, 1)) := by
   show _ = _
   rw [HR.out]; unfold placesA
   rw [if_pos (fun h => hall ⟨HP.out.1.2 h.1, HP.out.2.2 ⟨h.2.1, h.2.2.1⟩, h.2.2.2.1, h.2.2.2.2⟩)]
  have hpq : ok = true → md = true → ¬ (-20000 ≤ n ∧ n ≤ 20000) := fun h1 h2 h' => hall ⟨h1, h2, h'⟩
  clear HP HR hall
  have hrm := HRM.out
  clear HRM
  subst hrm
  clear ka0 ka1 ka2
  cases ok
  ·clear hpq
   go_wp2
   exact dc_end rfl rfl rfl (HR3.out _ _ _) rfl rfl (below_row3 HBW.out (Nat.le_add_right _ 1) _ _ _)
  ·cases md
   ·clear hpq
    go_wp2_with (go_at_call 111; refine (HMO.out _).mono ?_; rintro e w' ⟨rfl, rfl⟩)
    exact dc_end rfl rfl rfl (HR3.out _ _ _) rfl rfl (below_row3 HBW.out (Nat.le_add_right _ 1) _ _ _)
   ·have hc : n < -20000 ∨ (¬ n < -20000 ∧ 20000 < n) := by
     have := hpq rfl rfl
     omega
    clear hpq
    rcases hc with g1 | ⟨g1, g2⟩
    ·go_wp2_with (go_at_call 111; refine (HMO.out _).mono ?_; rintro e w' ⟨rfl, rfl⟩)
     exact dc_end rfl rfl rfl (HR3.out _ _ _) rfl rfl (below_row3 HBW.out (Nat.le_add_right _ 1) _ _ _)
    ·go_wp2_with (go_at_call 111; refine (HMO.out _).mono ?_; rintro e w' ⟨rfl, rfl⟩)
     exact dc_end rfl rfl rfl (HR3.out _ _ _) rfl rfl (below_row3 HBW.out (Nat.le_add_right _ 1) _ _ _)
end Go.Proofs.YtlbokicainimnaaGreatDoor
