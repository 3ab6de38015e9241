import Derived.Test.YtlffojopfilfeaaGreatDoorSQA
import Derived.Test.YtlffojopfilfeaaGreatDoorSAA
import Derived.Test.YtlffojopfilfeaaGreatDoorSBU
namespace Go.Proofs.YtlffojopfilfeaaGreatDoor
open Go.RowKit
def srtB (b : Nat) : Nat := if nanB b = true then 0 else if infB b = true then (if sgnB b = true then 2 else 1) else if zeroB b = true then (if sgnB b = true then 3 else 4) else 4
def vN (b : Nat) : Int := if finB b = true then valB b * ((2 ^ LP : Nat) : Int) else 0
def psrt (x y : Nat) : Nat :=
 if (nanB x || nanB y || (infB x && zeroB y) || (zeroB x && infB y)) = true then 0
 else if (infB x || infB y) = true then (if (sgnB x != sgnB y) = true then 2 else 1)
 else if (zeroB x || zeroB y) = true then (if (sgnB x != sgnB y) = true then 3 else 4) else 4
def pN (x y : Nat) : Int := if (finB x && finB y) = true then valB x * valB y else 0
abbrev Term1 := Nat × Int
def tmS (b : Nat) : Term1 := (srtB b, vN b)
def tmP (x y : Nat) : Term1 := (psrt x y, pN x y)
def LQ : Nat := 4200
theorem LQ_eq : LQ = 4200 := rfl
attribute [irreducible] LQ
def cntT (T : List Term1) (k : Nat) : Nat := T.countP (fun t => t.1 == k)
def sumT (T : List Term1) : Int := (T.map (·.2)).sum
theorem cntT_snoc (T : List Term1) (t : Term1) (k : Nat) : cntT (T ++ [t]) k = cntT T k + (if t.1 = k then 1 else 0) := by
 unfold cntT
 rw [List.countP_append, List.countP_singleton]
 simp
theorem sumT_snoc (T : List Term1) (t : Term1) : sumT (T ++ [t]) = sumT T + t.2 := by unfold sumT; simp
theorem srtB_lt (b : Nat) : srtB b < 5 := by unfold srtB; repeat' split <;> try decide
theorem psrt_lt (x y : Nat) : psrt x y < 5 := by unfold psrt; repeat' split <;> try decide
theorem cntT_le (T : List Term1) (k : Nat) : cntT T k ≤ T.length := List.countP_le_length
def Five (T : List Term1) : Prop := ∀ t ∈ T, t.1 < 5
theorem cnt_all {T : List Term1} (h : Five T) : cntT T 0 + cntT T 1 + cntT T 2 + cntT T 3 + cntT T 4 = T.length := by
 induction T with
 | nil => rfl
 | cons t T ih =>
   have h1 : t.1 < 5 := h t (.head _)
   have h2 := ih (fun x hx => h x (.tail _ hx))
   have key : ∀ k, cntT (t :: T) k = cntT T k + (if t.1 = k then 1 else 0) := fun k => by
    unfold cntT
    rw [List.countP_cons]
    simp
   rw [key, key, key, key, key, List.length_cons]
   obtain ⟨a, b⟩ := t
   match a, h1 with
   | 0, _ => simp; omega
   | 1, _ => simp; omega
   | 2, _ => simp; omega
   | 3, _ => simp; omega
   | 4, _ => simp; omega
   | n + 5, h => exact absurd h (by omega)
theorem spM_bd (b : Nat) : spM b < 9007199254740992 := by
 have : fracB b < 4503599627370496 := fracB_lt b
 unfold spM mantB
 repeat' split
 all_goals omega
theorem rv_top {b : Nat} (h : finB b = true) : rv 52 (absB b) < 2 ^ (1024 + LP) := by
 rw [rv_sp b h]
 have h1 : spM b < 2 ^ 53 := by
  have : fracB b < 4503599627370496 := fracB_lt b
  unfold spM mantB
  repeat' split
  all_goals omega
 have h2 := spE_range b
 have h3 : spE b ≤ 971 := by
  have h4 : expB b ≤ 2046 := by
   have : absB b < 9218868437227405312 := by unfold finB at h; simpa using h
   unfold expB
   unfold absB at this
   omega
  unfold spE
  repeat' split
  all_goals omega
 rw [show 1024 + LP = 53 + (971 + LP) by omega, Nat.pow_add]
 exact Nat.mul_lt_mul_of_lt_of_le h1 (Nat.pow_le_pow_right (by decide) (by omega)) (Nat.two_pow_pos _)
theorem val_abs (b : Nat) : (valB b).natAbs = rv 52 (absB b) := by unfold valB; split <;> simp
theorem vN_bd (b : Nat) : (vN b).natAbs < 2 ^ (1024 + LP + LP) := by
 unfold vN
 split
 ·rename_i h
  rw [Int.natAbs_mul, val_abs, Int.natAbs_natCast, Nat.pow_add _ (1024 + LP) LP]
  exact Nat.mul_lt_mul_of_pos_right (rv_top h) (Nat.two_pow_pos _)
 ·exact Nat.two_pow_pos _
theorem pN_bd (x y : Nat) : (pN x y).natAbs < 2 ^ (2048 + LP + LP) := by
 unfold pN
 split
 ·rename_i h
  have h : finB x = true ∧ finB y = true := by simpa using h
  rw [Int.natAbs_mul, val_abs, val_abs, show 2048 + LP + LP = (1024 + LP) + (1024 + LP) by omega, Nat.pow_add]
  exact Nat.mul_lt_mul'' (rv_top h.1) (rv_top h.2)
 ·exact Nat.two_pow_pos _
theorem tmS_bd (b : Nat) : (tmS b).2.natAbs < 2 ^ LQ := Nat.lt_of_lt_of_le (vN_bd b) (Nat.pow_le_pow_right (by decide) (by rw [LP_eq, LQ_eq]; omega))
theorem tmP_bd (x y : Nat) : (tmP x y).2.natAbs < 2 ^ LQ := Nat.lt_of_lt_of_le (pN_bd x y) (Nat.pow_le_pow_right (by decide) (by rw [LP_eq, LQ_eq]; omega))
def Small (T : List Term1) : Prop := ∀ t ∈ T, t.2.natAbs < 2 ^ LQ
theorem sum_bd {T : List Term1} (h : Small T) : (sumT T).natAbs ≤ T.length * 2 ^ LQ := by
 induction T with
 | nil => simp [sumT]
 | cons t T ih =>
   have h1 := h t (.head _)
   have h2 := ih (fun x hx => h x (.tail _ hx))
   have e : sumT (t :: T) = t.2 + sumT T := by unfold sumT; simp
   rw [e, List.length_cons, Nat.add_mul, Nat.one_mul]
   have := Int.natAbs_add_le t.2 (sumT T)
   omega
theorem sum_room {T : List Term1} (h : Small T) (hl : T.length < 2 ^ 64) : (sumT T).natAbs < 2 ^ (64 + LQ) := by
 refine Nat.lt_of_le_of_lt (sum_bd h) ?_
 rw [Nat.pow_add]
 exact Nat.mul_lt_mul_of_pos_right hl (Nat.two_pow_pos _)
def tmL (l : List Nat) : List Term1 := l.map tmS
def tmD (l k : List Nat) : List Term1 := (l.zip k).map (fun p => tmP p.1 p.2)
theorem five_L (l : List Nat) : Five (tmL l) := by intro t ht; obtain ⟨b, -, rfl⟩ := List.mem_map.1 ht; exact srtB_lt b
theorem five_D (l k : List Nat) : Five (tmD l k) := by intro t ht; obtain ⟨b, -, rfl⟩ := List.mem_map.1 ht; exact psrt_lt _ _
theorem small_L (l : List Nat) : Small (tmL l) := by intro t ht; obtain ⟨b, -, rfl⟩ := List.mem_map.1 ht; exact tmS_bd b
theorem small_D (l k : List Nat) : Small (tmD l k) := by intro t ht; obtain ⟨b, -, rfl⟩ := List.mem_map.1 ht; exact tmP_bd _ _
theorem five_append {T U : List Term1} (h : Five T) (ht : Five U) : Five (T ++ U) := by
 intro x hx
 rcases List.mem_append.1 hx with h1 | h1
 ·exact h x h1
 ·exact ht x h1
theorem small_append {T U : List Term1} (h : Small T) (ht : Small U) : Small (T ++ U) := by
 intro x hx
 rcases List.mem_append.1 hx with h1 | h1
 ·exact h x h1
 ·exact ht x h1
theorem get_W {l : List Nat} (hl : ∀ x ∈ l, W64 x) (k : Nat) : W64 (l.getD k 0) := by
 by_cases h : k < l.length
 ·have e : l.getD k 0 = l[k] := by simp [List.getD, h]
  rw [e]; exact hl _ (List.getElem_mem h)
 ·have e : l.getD k 0 = 0 := by simp [List.getD, h]
  rw [e]; unfold W64; decide
theorem tmL_take {l : List Nat} {k : Nat} (h : k < l.length) : tmL (l.take (k + 1)) = tmL (l.take k) ++ [tmS (l.getD k 0)] := by
 unfold tmL
 rw [List.take_succ_eq_append_getElem h, List.map_append]
 simp [List.getD, h]
theorem tmD_take {l m : List Nat} {k : Nat} (h : k < l.length) (h' : k < m.length) : tmD (l.take (k + 1)) (m.take (k + 1)) = tmD (l.take k) (m.take k) ++ [tmP (l.getD k 0) (m.getD k 0)] := by
 unfold tmD
 rw [List.take_succ_eq_append_getElem h, List.take_succ_eq_append_getElem h', List.zip_append (by simp; omega), List.map_append]
 simp [List.getD, h, h']
end Go.Proofs.YtlffojopfilfeaaGreatDoor
namespace Go.Proofs.YtlffojopfilfeaaGreatDoor
open Go.RowKit Go.Lib
def LU : Nat := 2148
theorem LU_eq : LU = 2148 := rfl
theorem LU_two : LU = LP + LP := by rw [LP_eq, LU_eq]
attribute [irreducible] LU
theorem neg_scale {N p : Int} (hp : 0 < p) : decide (N * p < 0) = decide (N < 0) := by
 refine decide_eq_decide.2 ⟨fun h => ?_, fun h => Int.mul_neg_of_neg_of_pos h hp⟩
 rcases Int.lt_trichotomy N 0 with h' | h' | h'
 ·exact h'
 ·rw [h', Int.zero_mul] at h; omega
 ·have := Int.mul_pos h' hp; omega
theorem same_cross {A C A' C' : Nat} (hC : 0 < C) (hC' : 0 < C') (h : A * C' = A' * C) : A / C = A' / C' ∧ ncmp (A % C * 2) C = ncmp (A' % C' * 2) C' ∧ (A % C = 0 ↔ A' % C' = 0) := by
 obtain ⟨a1, a2⟩ := cut_le hC hC' (Nat.le_of_eq h)
 obtain ⟨b1, b2⟩ := cut_le hC' hC (Nat.le_of_eq h.symm)
 have hq : A / C = A' / C' := by omega
 obtain ⟨a3, a4⟩ := a2 hq
 obtain ⟨b3, b4⟩ := b2 hq.symm
 exact ⟨hq, by omega, b4, a4⟩
theorem rat_shift {M D : Nat} (hD : 0 < D) (l : Nat) (f : Int) : (ratMag M D (-(l : Int))).Q f = (ratMag M (D * 2 ^ l) 0).Q f ∧ (ratMag M D (-(l : Int))).H f = (ratMag M (D * 2 ^ l) 0).H f ∧ (ratMag M D (-(l : Int))).Z f = (ratMag M (D * 2 ^ l) 0).Z f := by
 have hx : toN M (-(l : Int)) f * toD (D * 2 ^ l) 0 f = toN M 0 f * toD D (-(l : Int)) f := by
  unfold toN toD
  have e : 2 ^ (-(l : Int) - f).toNat * (2 ^ l * 2 ^ (f - 0).toNat) = 2 ^ (0 - f).toNat * 2 ^ (f - -(l : Int)).toNat := by
   rw [← Nat.pow_add, ← Nat.pow_add, ← Nat.pow_add]; congr 1; omega
  calc M * 2 ^ (-(l : Int) - f).toNat * (D * 2 ^ l * 2 ^ (f - 0).toNat) = M * D * (2 ^ (-(l : Int) - f).toNat * (2 ^ l * 2 ^ (f - 0).toNat)) := by ac_rfl
   _ = M * 2 ^ (0 - f).toNat * (D * 2 ^ (f - -(l : Int)).toNat) := by rw [e]; ac_rfl
 obtain ⟨h1, h2, h3⟩ := same_cross (toD_pos hD _ f) (toD_pos (Nat.mul_pos hD (Nat.two_pow_pos _)) 0 f) hx
 refine ⟨h1, h2, ?_⟩
 show decide _ = decide _
 exact decide_eq_decide.2 h3
def sumG (V : Int) (n : Nat) : Mag := ratMag V.natAbs (n * 2 ^ LU) 0
def sumO (V : Int) (n : Nat) : Out := outG 53 (-1074) 971 (decide (V < 0)) 1 (sumG V n)
theorem sumG_ok (V : Int) {n : Nat} (hn : 0 < n) : (sumG V n).Ok := ratMag_ok (Nat.mul_pos hn (Nat.two_pow_pos _))
theorem sum_doc (V : Int) {n : Nat} (hn : 0 < n) (neg : Bool) (mode : Int) : outG 53 (-1074) 971 neg mode (ratMag V.natAbs n (-(LU : Int))) = outG 53 (-1074) 971 neg mode (sumG V n) :=
 out_same fun f => rat_shift hn LU f
theorem quo_dec {a b : Dc} {N : Int} {j n : Nat} (ha : Rep a (N * 5 ^ j) (-(j : Int))) (hb : Rep b (n : Int) 0) (hn : 0 < n) (hj : j ≤ LU) (f : Int) :
  (quoG a b).Q f = (sumG (N * 2 ^ (LU - j)) n).Q f ∧ (quoG a b).H f = (sumG (N * 2 ^ (LU - j)) n).H f ∧ (quoG a b).Z f = (sumG (N * 2 ^ (LU - j)) n).Z f := by
 obtain ⟨J, hJ⟩ : ∃ J : Nat, J = a.e.natAbs + b.e.natAbs + j := ⟨_, rfl⟩
 have h1 := congrArg Int.natAbs (ha.all J (by omega) (by omega))
 have h2 := congrArg Int.natAbs (hb.all J (by omega) (by omega))
 rw [Int.natAbs_mul, Int.natAbs_mul, v_abs, Int.natAbs_pow, Int.natAbs_pow, Int.natAbs_mul, Int.natAbs_pow] at h1
 rw [Int.natAbs_mul, Int.natAbs_mul, v_abs, Int.natAbs_pow, Int.natAbs_pow, Int.natAbs_natCast] at h2
 have h1 : dval a.s * 10 ^ (a.e + J).toNat = N.natAbs * 5 ^ j * 10 ^ (-(j : Int) + J).toNat := h1
 have h2 : dval b.s * 10 ^ (b.e + J).toNat = n * 10 ^ ((0 : Int) + J).toNat := h2
 have hb0 : 0 < dval b.s := by
  refine Nat.pos_of_ne_zero fun h0 => ?_
  rw [h0, Nat.zero_mul] at h2
  have := Nat.mul_pos hn (Nat.pow_pos (n := ((0 : Int) + J).toNat) (show 0 < 10 by decide))
  omega
 have hp : ∀ k, 0 < 10 ^ k := fun k => Nat.pow_pos (by decide)
 refine rat_eq (quoD_pos hb0 _) (Nat.mul_pos hn (Nat.two_pow_pos _)) ?_ f
 show dval a.s * 10 ^ (a.e - b.e).toNat * (n * 2 ^ LU) = (N * 2 ^ (LU - j)).natAbs * (dval b.s * 10 ^ (-(a.e - b.e)).toNat)
 rw [Int.natAbs_mul, Int.natAbs_pow]
 rw [show (-(j : Int) + J).toNat = J - j by omega] at h1
 rw [show ((0 : Int) + J).toNat = J by omega] at h2
 have e5 : 5 ^ j * 2 ^ j = 10 ^ j := by rw [← Nat.mul_pow]
 have e2 : (2 : Nat) ^ LU = 2 ^ (LU - j) * 2 ^ j := by rw [← Nat.pow_add]; congr 1; omega
 have e1 : 10 ^ (a.e - b.e).toNat * 10 ^ (b.e + J).toNat = 10 ^ (a.e + J).toNat * 10 ^ (-(a.e - b.e)).toNat := by rw [← Nat.pow_add, ← Nat.pow_add]; congr 1; omega
 have e3 : 10 ^ J = 10 ^ (J - j) * 10 ^ j := by rw [← Nat.pow_add]; congr 1; omega
 have hc : 0 < 10 ^ (b.e + J).toNat * 10 ^ J := Nat.mul_pos (hp _) (hp _)
 refine Nat.eq_of_mul_eq_mul_right hc ?_
 calc dval a.s * 10 ^ (a.e - b.e).toNat * (n * 2 ^ LU) * (10 ^ (b.e + J).toNat * 10 ^ J)
   = dval a.s * (10 ^ (a.e - b.e).toNat * 10 ^ (b.e + J).toNat) * (n * 10 ^ J) * 2 ^ LU := by ac_rfl
  _ = (dval a.s * 10 ^ (a.e + J).toNat) * 10 ^ (-(a.e - b.e)).toNat * (dval b.s * 10 ^ (b.e + J).toNat) * (2 ^ (LU - j) * 2 ^ j) := by rw [e1, ← h2, e2]; ac_rfl
  _ = N.natAbs * 2 ^ (LU - j) * (dval b.s * 10 ^ (-(a.e - b.e)).toNat) * (10 ^ (b.e + J).toNat * (10 ^ (J - j) * (5 ^ j * 2 ^ j))) := by rw [h1]; ac_rfl
  _ = N.natAbs * 2 ^ (LU - j) * (dval b.s * 10 ^ (-(a.e - b.e)).toNat) * (10 ^ (b.e + J).toNat * 10 ^ J) := by rw [e5, ← e3]
theorem five_room {N : Int} {j m : Nat} (hN : N.natAbs < 2 ^ m) (hm : m + j ≤ 8000) : mkX (N * 5 ^ j) (-(j : Int)) = 0 := by
 refine mk_room (m := m + j) ?_ (by omega) (by omega) (by omega)
 rw [Int.natAbs_mul, Int.natAbs_pow, Nat.pow_add]
 have h1 : N.natAbs < 10 ^ m := Nat.lt_of_lt_of_le hN (Nat.pow_le_pow_left (by decide) m)
 have h2 : Int.natAbs 5 ^ j ≤ 10 ^ j := Nat.pow_le_pow_left (by decide) j
 exact Nat.mul_lt_mul_of_lt_of_le h1 h2 (Nat.pow_pos (by decide))
theorem sum_ratio {N : Int} {j n m : Nat} (hN0 : N ≠ 0) (hN : N.natAbs < 2 ^ m) (hm : m + j ≤ 8000) (hn : 0 < n) (hn2 : n < 2 ^ 100) (hj : j ≤ LU) :
  ∃ i u, ratioA (mkD (N * 5 ^ j) (-(j : Int))) (mkD (n : Int) 0) 1 = ⟨bits64 (decide (N < 0)) (sumO (N * 2 ^ (LU - j)) n), i, (sumO (N * 2 ^ (LU - j)) n).ov, u, 0⟩ := by
 have hX := five_room hN hm
 have hY : mkX (n : Int) 0 = 0 := by
  refine mk_room (m := 100) ?_ (by decide) (by decide) (by decide)
  rw [Int.natAbs_natCast]
  exact Nat.lt_of_lt_of_le hn2 (Nat.pow_le_pow_left (by decide) 100)
 have ha := rep_mk hX
 have hb := rep_mk hY
 obtain ⟨a, hae⟩ : ∃ a, a = mkD (N * 5 ^ j) (-(j : Int)) := ⟨_, rfl⟩
 obtain ⟨b, hbe⟩ : ∃ b, b = mkD (n : Int) 0 := ⟨_, rfl⟩
 have sa : a.neg = decide (N < 0) ∧ a.s ≠ [] := by
  have h0 : 0 < (N * 5 ^ j).natAbs := by
   rw [Int.natAbs_mul, Int.natAbs_pow]
   exact Nat.mul_pos (Int.natAbs_pos.2 hN0) (Nat.pow_pos (by decide))
  obtain ⟨g1, g2, -⟩ := made_some (neg := decide (N * 5 ^ j < 0)) h0 hX
  refine ⟨by rw [hae]; exact g1.trans (neg_scale (Int.pow_pos (by decide))), ?_⟩
  ·rw [hae]
   show madeL _ _ ≠ []
   rw [g2]
   intro hnil
   have := strip_pos h0
   have h3 := bare_len_lt (strip (N * 5 ^ j).natAbs)
   rw [hnil] at h3
   simp only [List.length_nil, Nat.pow_zero] at h3
   omega
 have sb : b.neg = false ∧ b.s ≠ [] := by
  have h0 : 0 < ((n : Int)).natAbs := by omega
  obtain ⟨g1, g2, -⟩ := made_some (neg := decide ((n : Int) < 0)) h0 hY
  refine ⟨by rw [hbe]; exact g1.trans (decide_eq_false (by omega)), ?_⟩
  rw [hbe]
  show madeL _ _ ≠ []
  rw [g2]
  intro hnil
  have := strip_pos h0
  have h3 := bare_len_lt (strip ((n : Int)).natAbs)
  rw [hnil] at h3
  simp only [List.length_nil, Nat.pow_zero] at h3
  omega
 rw [← hae, ← hbe]
 rw [← hae] at ha
 rw [← hbe] at hb
 have hout : ∀ neg, outG 53 (-1074) 971 neg 1 (quoG a b) = outG 53 (-1074) 971 neg 1 (sumG (N * 2 ^ (LU - j)) n) := fun neg => out_same fun f => quo_dec ha hb hn hj f
 have hs : decide (N * 2 ^ (LU - j) < 0) = decide (N < 0) := neg_scale (Int.pow_pos (by decide))
 unfold ratioA
 rw [if_neg (by simp [ha.ok, hb.ok]), if_neg sb.2, if_neg sa.2, hout, sa.1, sb.1, Bool.bne_false]
 unfold sumO
 rw [hs]
 exact ⟨_, _, rfl⟩
end Go.Proofs.YtlffojopfilfeaaGreatDoor
namespace Go.Proofs.YtlffojopfilfeaaGreatDoor
open Go Go.RowKit Go.Lib
def spcI (c : Nat → Nat) : Bool := decide (0 < c 0) || decide (0 < c 1) || decide (0 < c 2)
def spcB (c : Nat → Nat) : Nat := if (decide (0 < c 0) || (decide (0 < c 1) && decide (0 < c 2))) = true then 9221120237041090560 else if 0 < c 1 then 9218868437227405312 else 18442240474082181120
def totB (V : Int) (n : Nat) : Nat := if (sumO V n).ov = true then 0 else bits64 (decide (V < 0)) (sumO V n)
def totX (V : Int) (n : Nat) : Int := if (sumO V n).ov = true then 15 else 0
def allC (c : Nat → Nat) : Nat := c 0 + c 1 + c 2 + c 3 + c 4
def nilB (c : Nat → Nat) : Nat := if (decide (0 < c 3) && decide (c 3 = allC c)) = true then 9223372036854775808 else 0
def ansB (c : Nat → Nat) (V : Int) (n : Nat) : Nat := if spcI c = true then spcB c else if V = 0 then nilB c else totB V n
def ansX (c : Nat → Nat) (V : Int) (n : Nat) : Int := if spcI c = true then 0 else if V = 0 then 0 else totX V n
theorem toNat_LP (e : Int) : (e + (LP : Nat)).toNat = (e + 1074).toNat := by rw [LP_eq]; rfl
def topV : Nat := rv 52 9218868437227405311 * 2 ^ LP
theorem mean_in {V : Int} {n : Nat} (hn : 0 < n) (h : V.natAbs ≤ n * topV) : (sumO V n).ov = false := by
 obtain ⟨m, e, hc, hr⟩ := fin_form (R := 9218868437227405311) (by decide)
 have hle : LeM (sumG V n) (numG m e) := by
  refine rat_le (Nat.mul_pos hn (Nat.two_pow_pos _)) (Nat.two_pow_pos _) ?_
  have e1 : 2 ^ (e + 1074).toNat * 2 ^ (-e).toNat = 2 ^ e.toNat * 2 ^ LP := by
   rw [← Nat.pow_add, ← Nat.pow_add]; congr 1; have := hc.2.1; rw [LP_eq]; omega
  calc V.natAbs * 2 ^ (-e).toNat ≤ n * topV * 2 ^ (-e).toNat := Nat.mul_le_mul_right _ h
   _ = n * m * (2 ^ (e + 1074).toNat * 2 ^ (-e).toNat) * 2 ^ LP := by unfold topV; rw [hr, hc.rv]; ac_rfl
   _ = m * 2 ^ e.toNat * (n * 2 ^ LU) := by rw [e1, LU_two, Nat.pow_add]; ac_rfl
 have hm := out_mono (b := 53) (L := -1074) (T := 971) (neg := decide (V < 0)) (mode := 1) (by decide) (by decide) (sumG_ok V hn) (numG_ok m e) hle
 rw [hc.out] at hm
 have hE := isE_of (b := 53) (L := -1074) (by decide) (sumG_ok V hn)
 obtain ⟨o1, o2⟩ := out_rung (b := 53) (L := -1074) (T := 971) (neg := decide (V < 0)) (mode := 1) (by decide) (by decide) hE
 unfold sumO
 have hx : (outG 53 (-1074) 971 (decide (V < 0)) 1 (sumG V n)).ov = decide (infR 53 (-1074) 971 ≤ rnR 53 (-1074) (decide (V < 0)) 1 (sumG V n) (eOf 53 (-1074) (sumG V n))) := o1
 rw [hx]
 refine decide_eq_false fun hi => ?_
 have o3 : (outG 53 (-1074) 971 (decide (V < 0)) 1 (sumG V n)).rung 53 (-1074) 971 = _ := o2
 rw [if_pos hi, if_neg (by unfold maxW; simp)] at o3
 rw [o3] at hm
 have h1 : infR 53 (-1074) 971 = 9218868437227405312 := by decide
 have h2 : (⟨false, m, e, false, false, false⟩ : Out).rung 53 (-1074) 971 = rungN m e := by unfold Out.rung rungN; simp
 rw [h1, h2, ← hr] at hm
 omega
theorem vN_top (b : Nat) : (vN b).natAbs ≤ topV := by
 unfold vN topV
 split
 ·rename_i h
  rw [Int.natAbs_mul, val_abs, Int.natAbs_natCast]
  refine Nat.mul_le_mul_right _ (rv_le ?_)
  unfold finB at h
  have : absB b < 9218868437227405312 := by simpa using h
  omega
 ·omega
theorem sum_top (l : List Nat) : (sumT (tmL l)).natAbs ≤ l.length * topV := by
 induction l with
 | nil => simp [sumT, tmL]
 | cons b l ih =>
   have e : sumT (tmL (b :: l)) = vN b + sumT (tmL l) := by unfold sumT tmL tmS; simp
   rw [e, List.length_cons, Nat.add_mul, Nat.one_mul]
   have := Int.natAbs_add_le (vN b) (sumT (tmL l))
   have := vN_top b
   omega
theorem cauchy_step {a S Q : Int} {k : Nat} (h0 : 0 ≤ Q) (h1 : k = 0 → S = 0) (ih : S * S ≤ (k : Int) * Q) : (a + S) * (a + S) ≤ ((k + 1 : Nat) : Int) * (a * a + Q) := by
 have key : 2 * (a * S) ≤ (k : Int) * (a * a) + Q := by
  by_cases hk : k = 0
  ·rw [h1 hk, hk]; simp; omega
  ·have e : (k : Int) * ((k : Int) * (a * a) + Q - 2 * (a * S)) = (k * a - S) * (k * a - S) + (k * Q - S * S) := by grind
   have hs : 0 ≤ (k * a - S) * (k * a - S) := by
    rcases Int.le_total 0 ((k : Int) * a - S) with h | h
    ·exact Int.mul_nonneg h h
    ·exact Int.mul_nonneg_of_nonpos_of_nonpos h h
   refine Decidable.byContradiction fun hc => ?_
   have hneg : (k : Int) * (a * a) + Q - 2 * (a * S) < 0 := by omega
   have := Int.mul_neg_of_pos_of_neg (show (0 : Int) < k by omega) hneg
   omega
 have e1 : (a + S) * (a + S) = a * a + 2 * (a * S) + S * S := by grind
 have e2 : ((k + 1 : Nat) : Int) * (a * a + Q) = (k : Int) * (a * a) + (k : Int) * Q + a * a + Q := by push_cast; grind
 omega
theorem cauchy (xs : List Int) : 0 ≤ (xs.map fun x => x * x).sum ∧ xs.sum * xs.sum ≤ (xs.length : Int) * (xs.map fun x => x * x).sum := by
 induction xs with
 | nil => simp
 | cons a xs ih =>
   have ha : 0 ≤ a * a := by
    rcases Int.le_total 0 a with h | h
    ·exact Int.mul_nonneg h h
    ·exact Int.mul_nonneg_of_nonpos_of_nonpos h h
   simp only [List.sum_cons, List.map_cons, List.length_cons]
   refine ⟨by have := ih.1; omega, cauchy_step ih.1 ?_ ih.2⟩
   intro h
   rw [List.length_eq_zero_iff.1 h]; rfl
def allF (l : List Nat) : Prop := ∀ b ∈ l, finB b = true
theorem spc_iff (l : List Nat) : spcI (cntT (tmL l)) = false ↔ allF l := by
 have key : ∀ k, 0 < cntT (tmL l) k ↔ ∃ b ∈ l, srtB b = k := fun k => by
  unfold cntT tmL
  rw [List.countP_pos_iff]
  simp only [List.mem_map, beq_iff_eq]
  constructor
  ·rintro ⟨_, ⟨b, hb, rfl⟩, h⟩; exact ⟨b, hb, h⟩
  ·rintro ⟨b, hb, h⟩; exact ⟨_, ⟨b, hb, rfl⟩, h⟩
 have hb : ∀ b, finB b = true ↔ ¬ (srtB b = 0 ∨ srtB b = 1 ∨ srtB b = 2) := fun b => by
  rw [finB_eq]
  unfold srtB
  cases nanB b <;> cases infB b <;> cases zeroB b <;> cases sgnB b <;> simp
 unfold spcI allF
 simp only [Bool.or_eq_false_iff, decide_eq_false_iff_not, key]
 constructor
 ·rintro ⟨⟨h0, h1⟩, h2⟩ b hm
  refine (hb b).2 ?_
  rintro (h | h | h)
  ·exact h0 ⟨b, hm, h⟩
  ·exact h1 ⟨b, hm, h⟩
  ·exact h2 ⟨b, hm, h⟩
 ·intro h
  refine ⟨⟨?_, ?_⟩, ?_⟩
  all_goals
   rintro ⟨b, hm, hs⟩
   have := (hb b).1 (h b hm)
   omega
def valL (l : List Nat) : Int := (l.map valB).sum
def sqL (l : List Nat) : Int := (l.map fun b => valB b * valB b).sum
theorem sum_valL {l : List Nat} (h : allF l) : sumT (tmL l) = valL l * ((2 ^ LP : Nat) : Int) := by
 induction l with
 | nil => simp [sumT, tmL, valL]
 | cons b l ih =>
   have e : sumT (tmL (b :: l)) = vN b + sumT (tmL l) := by unfold sumT tmL tmS; simp
   have e2 : valL (b :: l) = valB b + valL l := by unfold valL; simp
   rw [e, e2, ih fun x hx => h x (.tail _ hx), Int.add_mul]
   unfold vN
   rw [if_pos (h b (.head _))]
theorem sum_sqL {l : List Nat} (h : allF l) : sumT (tmD l l) = sqL l := by
 induction l with
 | nil => simp [sumT, tmD, sqL]
 | cons b l ih =>
   have e : sumT (tmD (b :: l) (b :: l)) = pN b b + sumT (tmD l l) := by unfold sumT tmD tmP; simp
   have e2 : sqL (b :: l) = valB b * valB b + sqL l := by unfold sqL; simp
   rw [e, e2, ih fun x hx => h x (.tail _ hx)]
   unfold pN
   rw [h b (.head _)]
   rfl
theorem var_pos (l : List Nat) : 0 ≤ sqL l ∧ valL l * valL l ≤ (l.length : Int) * sqL l := by
 have h := cauchy (l.map valB)
 rw [List.map_map, List.length_map] at h
 exact h
end Go.Proofs.YtlffojopfilfeaaGreatDoor
namespace Go.Proofs.YtlffojopfilfeaaGreatDoor
open Go Go.RowKit Ieee
theorem kindD (b : Nat) : (nanB b = true ∧ infB b = false ∧ finB b = false) ∨ (infB b = true ∧ nanB b = false ∧ finB b = false ∧ zeroB b = false) ∨ (nanB b = false ∧ infB b = false ∧ finB b = true) := by
 unfold nanB infB finB zeroB
 generalize absB b = r
 rcases Nat.lt_trichotomy r 9218868437227405312 with h | h | h
 ·refine .inr (.inr ⟨?_, ?_, ?_⟩) <;> simp <;> omega
 ·refine .inr (.inl ⟨?_, ?_, ?_, ?_⟩) <;> simp <;> omega
 ·refine .inl ⟨?_, ?_, ?_⟩ <;> simp <;> omega
theorem read_numD {b : Nat} (fb : finB b = true) : ∃ m e, Ieee.double.read b = .number (sgn Ieee.double b) m e ∧ (m = 0 ↔ absB b = 0) := by
 obtain ⟨m, k, h1, -, h3⟩ := read_num Ieee.double b ((fin_D b).2 fb)
 rw [rg_D] at h3
 exact ⟨m, _, h1, h3⟩
theorem read_infD {b : Nat} (hb : W64 b) (h : infB b = true) : Ieee.double.read b = .infinity (sgnB b) := by
 rw [read_inf Ieee.double D_ok b (by rw [rg_D, D_inf]; exact of_decide_eq_true h), sgn_D b hb]
theorem read_nanD {b : Nat} (h : nanB b = true) : ∃ s t, Ieee.double.read b = .nan s t :=
 ⟨_, _, read_nan Ieee.double D_ok b (by rw [rg_D, D_inf]; exact of_decide_eq_true h)⟩
theorem wr_infD (s : Bool) : Ieee.double.write (.infinity s) = sgW s + 9218868437227405312 := by
 show Ieee.double.word s Ieee.double.infRung = _
 rw [word_sg, D_inf]
theorem bits_term (s : Bool) {R : Nat} (h : R < 9223372036854775808) : W64 (sgW s + R) ∧ sgnB (sgW s + R) = s ∧ absB (sgW s + R) = R := ⟨bits_W s h, bits_sgn s h, bits_abs s h⟩
theorem tm_inf (s : Bool) : tmS (sgW s + 9218868437227405312) = (if s = true then 2 else 1, 0) := by
 obtain ⟨-, h1, h2⟩ := bits_term s (R := 9218868437227405312) (by decide)
 unfold tmS srtB vN nanB infB finB
 rw [h1, h2]
 simp
theorem tm_zero (s : Bool) : tmS (sgW s + 0) = (if s = true then 3 else 4, 0) := by
 obtain ⟨-, h1, h2⟩ := bits_term s (R := 0) (by decide)
 unfold tmS srtB vN nanB infB zeroB finB valB
 rw [h1, h2]
 cases s <;> simp [rv_zero]
theorem tm_nan {b : Nat} (h : nanB b = true) : tmS b = (0, 0) := by
 have hf : finB b = false := by rw [finB_eq, h]; rfl
 unfold tmS srtB vN
 rw [h, hf]; rfl
theorem xorb (x y : Bool) : (x ^^ y) = (x != y) := by cases x <;> cases y <;> rfl
theorem mul_term {x y : Nat} (hx : W64 x) (hy : W64 y) (h : finB x = false ∨ finB y = false ∨ zeroB x = true ∨ zeroB y = true) :
  (Go.floatBits .mul .f64 x y = none ∧ tmP x y = (0, 0)) ∨ ∃ z, Go.floatBits .mul .f64 x y = some z ∧ W64 z ∧ tmS z = tmP x y := by
 have e0 : Go.floatBits .mul .f64 x y = ((Ieee.double.read x).product (Ieee.double.read y)).map Ieee.double.write := rfl
 have hz : ∀ b, finB b = true → zeroB b = decide (absB b = 0) := fun _ _ => rfl
 rcases kindD x with ⟨n1, i1, f1⟩ | ⟨i1, n1, f1, z1⟩ | ⟨n1, i1, f1⟩
 ·obtain ⟨s, t, hr⟩ := read_nanD n1
  refine .inl ⟨by rw [e0, hr]; rfl, ?_⟩
  unfold tmP psrt pN; rw [n1, f1]; rfl
 ·have r1 := read_infD hx i1
  rcases kindD y with ⟨n2, i2, f2⟩ | ⟨i2, n2, f2, z2⟩ | ⟨n2, i2, f2⟩
  ·obtain ⟨s, t, hr⟩ := read_nanD n2
   refine .inl ⟨by rw [e0, hr, r1]; rfl, ?_⟩
   unfold tmP psrt pN; rw [n1, n2, f1]; rfl
  ·have r2 := read_infD hy i2
   refine .inr ⟨sgW (sgnB x != sgnB y) + 9218868437227405312, ?_, (bits_term _ (by decide)).1, ?_⟩
   ·rw [e0, r1, r2]
    show some (Ieee.double.write (.infinity (sgnB x ^^ sgnB y))) = _
    rw [wr_infD, xorb]
   ·rw [tm_inf]; unfold tmP psrt pN; rw [n1, n2, i1, z1, z2, f1, i2]; simp
  ·obtain ⟨m, e, r2, hm⟩ := read_numD f2
   have er : Go.floatBits .mul .f64 x y = ((if m = 0 then none else some (Ieee.Datum.infinity (sgnB x ^^ sgnB y))).map Ieee.double.write) := by rw [e0, r1, r2, sgn_D y hy]; rfl
   by_cases h0 : m = 0
   ·have z2 : zeroB y = true := by unfold zeroB; exact decide_eq_true (hm.1 h0)
    refine .inl ⟨by rw [er, if_pos h0]; rfl, ?_⟩
    unfold tmP psrt pN; rw [i1, z2, f1]; simp
   ·have z2 : zeroB y = false := by unfold zeroB; exact decide_eq_false (fun h => h0 (hm.2 h))
    have z1 : zeroB x = false := by assumption
    refine .inr ⟨sgW (sgnB x != sgnB y) + 9218868437227405312, ?_, (bits_term _ (by decide)).1, ?_⟩
    ·rw [er, if_neg h0]
     show some (Ieee.double.write (.infinity (sgnB x ^^ sgnB y))) = _
     rw [wr_infD, xorb]
    ·rw [tm_inf]; unfold tmP psrt pN; rw [n1, n2, i1, z1, z2, f1, i2]; simp
 ·rcases kindD y with ⟨n2, i2, f2⟩ | ⟨i2, n2, f2, z2⟩ | ⟨n2, i2, f2⟩
  ·obtain ⟨s, t, hr⟩ := read_nanD n2
   obtain ⟨m, e, r1, hm⟩ := read_numD f1
   refine .inl ⟨by rw [e0, hr, r1]; rfl, ?_⟩
   unfold tmP psrt pN; rw [n1, n2, f1, f2]; rfl
  ·have r2 := read_infD hy i2
   obtain ⟨m, e, r1, hm⟩ := read_numD f1
   have er : Go.floatBits .mul .f64 x y = ((if m = 0 then none else some (Ieee.Datum.infinity (sgnB y ^^ sgnB x))).map Ieee.double.write) := by rw [e0, r1, r2, sgn_D x hx]; rfl
   by_cases h0 : m = 0
   ·have z1 : zeroB x = true := by unfold zeroB; exact decide_eq_true (hm.1 h0)
    refine .inl ⟨by rw [er, if_pos h0]; rfl, ?_⟩
    unfold tmP psrt pN; rw [i2, z1, f1, f2]; simp
   ·have z1 : zeroB x = false := by unfold zeroB; exact decide_eq_false (fun h => h0 (hm.2 h))
    refine .inr ⟨sgW (sgnB x != sgnB y) + 9218868437227405312, ?_, (bits_term _ (by decide)).1, ?_⟩
    ·rw [er, if_neg h0]
     show some (Ieee.double.write (.infinity (sgnB y ^^ sgnB x))) = _
     rw [wr_infD]
     cases sgnB x <;> cases sgnB y <;> rfl
    ·rw [tm_inf]; unfold tmP psrt pN; rw [n1, n2, i1, z1, z2, f1, f2, i2]; simp
  ·obtain ⟨R, g1, g2⟩ := mul_D x y hx hy f1 f2
   have hzz : zeroB x = true ∨ zeroB y = true := by
    rcases h with h | h | h | h
    ·rw [f1] at h; exact absurd h (by decide)
    ·rw [f2] at h; exact absurd h (by decide)
    ·exact .inl h
    ·exact .inr h
   have h0 : rv 52 (absB x) * rv 52 (absB y) = 0 := by
    rcases hzz with h | h <;> (unfold zeroB at h; rw [of_decide_eq_true h, rv_zero]; simp)
   rw [h0] at g1
   have hR : R = 0 := Near.uniq (Nat.two_pow_pos _) g1 (near_zero _ _ (Nat.two_pow_pos _))
   subst hR
   refine .inr ⟨sgW (sgnB x != sgnB y) + 0, by rw [g2, Nat.zero_min], (bits_term _ (by decide)).1, ?_⟩
   rw [tm_zero]
   have hv : valB x * valB y = 0 := by
    have := val_abs x; have := val_abs y
    rcases Nat.mul_eq_zero.1 h0 with h1 | h1
    ·have : valB x = 0 := by omega
     rw [this, Int.zero_mul]
    ·have : valB y = 0 := by omega
     rw [this, Int.mul_zero]
   unfold tmP psrt pN
   rw [n1, n2, i1, i2, f1, f2, hv]
   rcases hzz with h | h <;> rw [h] <;> simp
theorem mul_term_fin {x y : Nat} (h : ¬ (finB x = false ∨ finB y = false ∨ zeroB x = true ∨ zeroB y = true)) : tmP x y = (4, valB x * valB y) := by
 have f1 : finB x = true := by cases h1 : finB x; exact absurd (.inl h1) h; rfl
 have f2 : finB y = true := by cases h1 : finB y; exact absurd (.inr (.inl h1)) h; rfl
 have z1 : zeroB x = false := by cases h1 : zeroB x; rfl; exact absurd (.inr (.inr (.inl h1))) h
 have z2 : zeroB y = false := by cases h1 : zeroB y; rfl; exact absurd (.inr (.inr (.inr h1))) h
 have g1 := finB_eq x
 have g2 := finB_eq y
 rw [f1] at g1
 rw [f2] at g2
 unfold tmP psrt pN
 cases n1 : nanB x <;> cases i1 : infB x <;> rw [n1, i1] at g1 <;> simp at g1
 cases n2 : nanB y <;> cases i2 : infB y <;> rw [n2, i2] at g2 <;> simp at g2
 simp [z1, z2, f1, f2]
end Go.Proofs.YtlffojopfilfeaaGreatDoor
namespace Go.Proofs.YtlffojopfilfeaaGreatDoor
open Go Go.RowKit
def lsB (l : List Nat) : Nat := if 65536 < l.length then 0 else ansB (cntT (tmL l)) (sumT (tmL l)) 1
def lsX (l : List Nat) : Int := if 65536 < l.length then 2 else ansX (cntT (tmL l)) (sumT (tmL l)) 1
def dtB (l k : List Nat) : Nat := if 65536 < l.length ∨ 65536 < k.length then 0 else if l.length ≠ k.length then 0 else ansB (cntT (tmD l k)) (sumT (tmD l k)) 1
def dtX (l k : List Nat) : Int := if 65536 < l.length ∨ 65536 < k.length then 2 else if l.length ≠ k.length then 1 else ansX (cntT (tmD l k)) (sumT (tmD l k)) 1
def mnB (l : List Nat) : Nat := if 65536 < l.length then 0 else if l.length = 0 then 0 else ansB (cntT (tmL l)) (sumT (tmL l)) l.length
def mnX (l : List Nat) : Int := if 65536 < l.length then 2 else if l.length = 0 then 4 else ansX (cntT (tmL l)) (sumT (tmL l)) l.length
def varV (l : List Nat) : Int := (l.length : Int) * sqL l - valL l * valL l
def varN (l : List Nat) (s : Bool) : Nat := l.length * (if s = true then l.length - 1 else l.length)
def vrB (l : List Nat) (s : Bool) : Nat :=
 if 65536 < l.length then 0 else if l.length = 0 then 0 else if l.length = 1 ∧ s = true then 0 else if spcI (cntT (tmL l)) = true then 9221120237041090560 else if varV l = 0 then 0 else totB (varV l) (varN l s)
def vrX (l : List Nat) (s : Bool) : Int :=
 if 65536 < l.length then 2 else if l.length = 0 then 4 else if l.length = 1 ∧ s = true then 13 else if spcI (cntT (tmL l)) = true then 0 else if varV l = 0 then 0 else totX (varV l) (varN l s)
theorem tmL_len (l : List Nat) : (tmL l).length = l.length := by unfold tmL; simp
theorem tmD_len (l k : List Nat) : (tmD l k).length = min l.length k.length := by unfold tmD; simp
theorem var_bd {l : List Nat} (h : allF l) (hl : l.length ≤ 65536) : 0 ≤ varV l ∧ (varV l).natAbs < 2 ^ (81 + LQ) ∧ (sqL l).natAbs < 2 ^ (64 + LQ) := by
 obtain ⟨h1, h2⟩ := var_pos l
 have h3 : (sqL l).natAbs < 2 ^ (64 + LQ) := by
  rw [← sum_sqL h]
  refine sum_room (small_D l l) ?_
  rw [tmD_len]
  omega
 have hvv : 0 ≤ valL l * valL l := by
  rcases Int.le_total 0 (valL l) with h | h
  ·exact Int.mul_nonneg h h
  ·exact Int.mul_nonneg_of_nonpos_of_nonpos h h
 have h4 : (varV l).natAbs ≤ l.length * (sqL l).natAbs := by
  have e : ((l.length : Int) * sqL l).natAbs = l.length * (sqL l).natAbs := by rw [Int.natAbs_mul, Int.natAbs_natCast]
  unfold varV
  omega
 refine ⟨by unfold varV; omega, ?_, h3⟩
 calc (varV l).natAbs ≤ l.length * (sqL l).natAbs := h4
  _ ≤ 65536 * (sqL l).natAbs := Nat.mul_le_mul_right _ hl
  _ < 2 ^ 17 * 2 ^ (64 + LQ) := Nat.mul_lt_mul_of_lt_of_le (by decide) (Nat.le_of_lt h3) (Nat.two_pow_pos _)
  _ = 2 ^ (81 + LQ) := by rw [← Nat.pow_add]; congr 1; omega
theorem var_den {l : List Nat} {s : Bool} (h0 : l.length ≠ 0) (h1 : ¬ (l.length = 1 ∧ s = true)) (hl : l.length ≤ 65536) : 0 < varN l s ∧ varN l s ≤ 4294967296 := by
 unfold varN
 constructor
 ·refine Nat.mul_pos (by omega) ?_
  split
  ·rename_i hs
   have : l.length ≠ 1 := fun h => h1 ⟨h, hs⟩
   omega
  ·omega
 ·refine Nat.le_trans (Nat.mul_le_mul hl (show _ ≤ 65536 by split <;> omega)) (by decide)
theorem var_bd2 {l : List Nat} (h : allF l) (hl : l.length ≤ 65536) : ((l.length : Int) * sqL l).natAbs < 2 ^ (81 + LQ) ∧ (valL l * valL l).natAbs < 2 ^ (81 + LQ) ∧ (valL l).natAbs < 2 ^ (64 + LQ) := by
 obtain ⟨h1, h2⟩ := var_pos l
 have h3 := (var_bd h hl).2.2
 have hvv : 0 ≤ valL l * valL l := by
  rcases Int.le_total 0 (valL l) with h | h
  ·exact Int.mul_nonneg h h
  ·exact Int.mul_nonneg_of_nonpos_of_nonpos h h
 have e : ((l.length : Int) * sqL l).natAbs = l.length * (sqL l).natAbs := by rw [Int.natAbs_mul, Int.natAbs_natCast]
 have h5 : l.length * (sqL l).natAbs < 2 ^ (81 + LQ) := by
  calc l.length * (sqL l).natAbs ≤ 65536 * (sqL l).natAbs := Nat.mul_le_mul_right _ hl
   _ < 2 ^ 17 * 2 ^ (64 + LQ) := Nat.mul_lt_mul_of_lt_of_le (by decide) (Nat.le_of_lt h3) (Nat.two_pow_pos _)
   _ = 2 ^ (81 + LQ) := by rw [← Nat.pow_add]; congr 1; omega
 refine ⟨by omega, by omega, ?_⟩
 have h6 := sum_room (small_L l) (by rw [tmL_len]; omega)
 rw [sum_valL h, Int.natAbs_mul, Int.natAbs_natCast] at h6
 exact Nat.lt_of_le_of_lt (Nat.le_mul_of_pos_right _ (Nat.two_pow_pos _)) h6
end Go.Proofs.YtlffojopfilfeaaGreatDoor
