import Derived.Test.YtlbokicainimnaaGreatDoorPNE
import Derived.Test.YtlbokicainimnaaGreatDoorPMN
import Derived.Test.YtlbokicainimnaaGreatDoorPQA
import Derived.Test.YtlbokicainimnaaGreatDoorPQT
namespace Go.Proofs.YtlbokicainimnaaGreatDoor
def upW (mode : Int) (neg odd : Bool) (half : Int) : Bool :=
 if mode = 1 then decide (0 < half) || (decide (half = 0) && odd)
 else if mode = 2 then decide (0 ≤ half)
 else if mode = 3 then !neg
 else if mode = 4 then neg
 else if mode = 6 then !odd
 else false
def maxW (mode : Int) (neg : Bool) : Bool := decide (mode = 5) || decide (mode = 6) || (decide (mode = 3) && neg) || (decide (mode = 4) && !neg)
structure Mag where
 Q : Int → Nat
 H : Int → Int
 Z : Int → Bool
structure Mag.Ok (g : Mag) : Prop where
 next : ∀ e, g.Q (e + 1) = g.Q e / 2
 zed : ∀ e, g.Z (e + 1) = (g.Z e && decide (g.Q e % 2 = 0))
 half : ∀ e, g.H (e + 1) = if g.Q e % 2 = 1 then (if g.Z e = true then 0 else 1) else -1
theorem Mag.Ok.on {g : Mag} (h : g.Ok) (e : Int) (k : Nat) : g.Q (e + k) = g.Q e / 2^k := by
 induction k with
 | zero => rw [Nat.pow_zero, Nat.div_one, show e + ((0 : Nat) : Int) = e by omega]
 | succ k ih => rw [show e + ((k + 1 : Nat) : Int) = e + (k : Int) + 1 by omega, h.next, ih, Nat.div_div_eq_div_mul, Nat.pow_succ]
theorem Mag.Ok.anti {g : Mag} (h : g.Ok) {e f : Int} (hl : e ≤ f) : g.Q f ≤ g.Q e := by
 obtain ⟨k, hk⟩ : ∃ k : Nat, f = e + k := ⟨(f - e).toNat, by omega⟩
 subst hk; rw [h.on]; exact Nat.div_le_self _ _
def IsE (b : Nat) (L : Int) (g : Mag) (e : Int) : Prop := L ≤ e ∧ g.Q e < 2^b ∧ (e = L ∨ 2^(b - 1) ≤ g.Q e)
theorem IsE.uniq {b : Nat} {L e f : Int} {g : Mag} (hb : 0 < b) (hg : g.Ok) (h1 : IsE b L g e) (h2 : IsE b L g f) : e = f := by
 have key : ∀ {e f : Int}, IsE b L g e → IsE b L g f → ¬ e < f := fun {e f} h1 h2 hlt => by
  obtain ⟨k, hk⟩ : ∃ k : Nat, f = e + 1 + k := ⟨(f - e - 1).toNat, by omega⟩
  have a1 := h2.2.2.resolve_left (by have := h1.1; omega)
  have a2 := hg.anti (show e + 1 ≤ f by omega)
  rw [hg.next] at a2
  have a3 := h1.2.1
  have : 2^b = 2 * 2^(b - 1) := by rw [Nat.mul_comm, ← Nat.pow_succ]; congr 1; omega
  omega
 have k1 := key h1 h2
 have k2 := key h2 h1
 omega
theorem IsE.up {b : Nat} {L e : Int} {g : Mag} {k : Nat} (hg : g.Ok) (hL : L ≤ e) (hb : 1 ≤ b) (hk : blen (g.Q e) = b + k) (hk0 : 0 < k) : IsE b L g (e + k) := by
 have h0 : g.Q e ≠ 0 := by intro h; rw [h] at hk; unfold blen at hk; simp at hk; omega
 obtain ⟨a1, a2, -⟩ := blen_pos h0
 rw [hk] at a1 a2
 refine ⟨by omega, ?_, .inr ?_⟩
 ·rw [hg.on, Nat.div_lt_iff_lt_mul (Nat.two_pow_pos k), ← Nat.pow_add]; exact a2
 ·rw [hg.on, Nat.le_div_iff_mul_le (Nat.two_pow_pos k), ← Nat.pow_add, show b - 1 + k = b + k - 1 by omega]; exact a1
structure Out where
 inf : Bool
 m : Nat
 e : Int
 ine : Bool
 ov : Bool
 un : Bool
def kW (neg : Bool) (mode : Int) (q : Nat) (h : Int) (z : Bool) : Nat := if (!z && upW mode neg (decide (q % 2 = 1)) h) = true then q + 1 else q
def outW (b : Nat) (T : Int) (neg : Bool) (mode : Int) (q : Nat) (h : Int) (z : Bool) (e : Int) : Out :=
 if T < (if kW neg mode q h z = 2^b then e + 1 else e) then
  (if maxW mode neg = true then ⟨false, 2^b - 1, T, true, true, !z && decide (q < 2^(b - 1))⟩ else ⟨true, 0, 0, true, true, !z && decide (q < 2^(b - 1))⟩)
 else ⟨false, if kW neg mode q h z = 2^b then 2^(b - 1) else kW neg mode q h z, if kW neg mode q h z = 2^b then e + 1 else e, !z, false, !z && decide (q < 2^(b - 1))⟩
def infR (b : Nat) (L T : Int) : Nat := (T - L + 2).toNat * 2^(b - 1)
def Out.rung (b : Nat) (L T : Int) (o : Out) : Nat := if o.inf = true then infR b L T else (o.e - L).toNat * 2^(b - 1) + o.m
theorem kW_le {neg : Bool} {mode : Int} {q : Nat} {h : Int} {z : Bool} : q ≤ kW neg mode q h z ∧ kW neg mode q h z ≤ q + 1 := by unfold kW; split <;> omega
end Go.Proofs.YtlbokicainimnaaGreatDoor
namespace Go.Proofs.YtlbokicainimnaaGreatDoor
open Go.RowKit
theorem half_num (A C : Nat) (hC : 0 < C) : A / C = 2 * A / C / 2 ∧ (2 * A / C % 2 = 0 → 2 * (A % C) = 2 * A % C) ∧ (2 * A / C % 2 = 1 → 2 * (A % C) = C + 2 * A % C) := by
 have h1 := Nat.div_add_mod A C
 have h2 := Nat.mod_lt A hC
 obtain ⟨x, hx⟩ : ∃ x, x = A / C := ⟨_, rfl⟩
 obtain ⟨y, hy⟩ : ∃ y, y = A % C := ⟨_, rfl⟩
 rw [← hx, ← hy] at h1
 rw [← hy] at h2
 have hA : 2 * A = 2 * (C * x) + 2 * y := by omega
 by_cases hc : 2 * y < C
 ·have e : 2 * A / C = 2 * x ∧ 2 * A % C = 2 * y := by
   rw [Nat.div_mod_unique hC]
   exact ⟨by rw [hA, Nat.mul_left_comm]; omega, hc⟩
  rw [e.1, e.2, ← hx, ← hy]
  exact ⟨by omega, fun _ => rfl, fun h => by omega⟩
 ·have e : 2 * A / C = 2 * x + 1 ∧ 2 * A % C = 2 * y - C := by
   rw [Nat.div_mod_unique hC]
   exact ⟨by rw [hA, Nat.mul_add, Nat.mul_left_comm C 2 x, Nat.mul_one]; omega, by omega⟩
  rw [e.1, e.2, ← hx, ← hy]
  exact ⟨by omega, fun h => by omega, fun _ => by omega⟩
theorem half_den (A C : Nat) (hC : 0 < C) : A / (2 * C) = A / C / 2 ∧ (A / C % 2 = 0 → A % (2 * C) = A % C) ∧ (A / C % 2 = 1 → A % (2 * C) = C + A % C) := by
 have h1 := Nat.div_add_mod A C
 have h2 := Nat.mod_lt A hC
 obtain ⟨x, hx⟩ : ∃ x, x = A / C := ⟨_, rfl⟩
 obtain ⟨y, hy⟩ : ∃ y, y = A % C := ⟨_, rfl⟩
 rw [← hx, ← hy] at h1
 rw [← hy] at h2
 obtain ⟨k, hk⟩ : ∃ k, k = x / 2 := ⟨_, rfl⟩
 rcases Nat.mod_two_eq_zero_or_one x with hm | hm
 ·have hxk : x = 2 * k := by omega
  have e : A / (2 * C) = k ∧ A % (2 * C) = y := by
   rw [Nat.div_mod_unique (by omega)]
   exact ⟨by rw [← h1, hxk, Nat.mul_left_comm C 2 k, Nat.mul_assoc]; omega, by omega⟩
  rw [e.1, e.2, ← hx, ← hy, ← hk]
  exact ⟨rfl, fun _ => rfl, fun h => by omega⟩
 ·have hxk : x = 2 * k + 1 := by omega
  have e : A / (2 * C) = k ∧ A % (2 * C) = C + y := by
   rw [Nat.div_mod_unique (by omega)]
   exact ⟨by rw [← h1, hxk, Nat.mul_add, Nat.mul_left_comm C 2 k, Nat.mul_assoc, Nat.mul_one]; omega, by omega⟩
  rw [e.1, e.2, ← hx, ← hy, ← hk]
  exact ⟨rfl, fun h => by omega, fun _ => rfl⟩
def ratMag (M D : Nat) (E : Int) : Mag := ⟨toQ M D E, fun e => ncmp (toN M E e % toD D E e * 2) (toD D E e), fun e => decide (toN M E e % toD D E e = 0)⟩
theorem to_step (M D : Nat) (E e : Int) : (toN M E e = 2 * toN M E (e + 1) ∧ toD D E (e + 1) = toD D E e) ∨ (toN M E (e + 1) = toN M E e ∧ toD D E (e + 1) = 2 * toD D E e) := by
 unfold toN toD
 by_cases h : 1 ≤ E - e
 ·left
  obtain ⟨k, hk⟩ : ∃ k : Nat, E - e = (k : Int) + 1 := ⟨(E - e).toNat - 1, by omega⟩
  rw [show (E - (e + 1)).toNat = k by omega, show (E - e).toNat = k + 1 by omega, show (e + 1 - E).toNat = 0 by omega, show (e - E).toNat = 0 by omega, Nat.pow_succ]
  exact ⟨by rw [← Nat.mul_assoc, Nat.mul_comm], rfl⟩
 ·right
  obtain ⟨k, hk⟩ : ∃ k : Nat, e - E = (k : Int) := ⟨(e - E).toNat, by omega⟩
  rw [show (E - (e + 1)).toNat = 0 by omega, show (E - e).toNat = 0 by omega, show (e + 1 - E).toNat = k + 1 by omega, show (e - E).toNat = k by omega, Nat.pow_succ]
  exact ⟨rfl, by rw [← Nat.mul_assoc, Nat.mul_comm]⟩
theorem ratMag_ok {M D : Nat} {E : Int} (hD : 0 < D) : (ratMag M D E).Ok := by
 have key : ∀ e, toQ M D E (e + 1) = toQ M D E e / 2 ∧ decide (toN M E (e + 1) % toD D E (e + 1) = 0) = (decide (toN M E e % toD D E e = 0) && decide (toQ M D E e % 2 = 0)) ∧
   ncmp (toN M E (e + 1) % toD D E (e + 1) * 2) (toD D E (e + 1)) = if toQ M D E e % 2 = 1 then (if decide (toN M E e % toD D E e = 0) = true then 0 else 1) else -1 := fun e => by
  have hC := toD_pos hD E e
  have hr := Nat.mod_lt (toN M E e) hC
  rcases to_step M D E e with ⟨h1, h2⟩ | ⟨h1, h2⟩
  ·obtain ⟨a1, a2, a3⟩ := half_num (toN M E (e + 1)) (toD D E e) hC
   unfold toQ
   rw [h2]
   rw [← h1] at a1 a2 a3
   refine ⟨a1, ?_⟩
   generalize toN M E e % toD D E e = r at *
   generalize toN M E (e + 1) % toD D E e = y at *
   generalize toN M E e / toD D E e = q at *
   rcases Nat.mod_two_eq_zero_or_one q with hq | hq
   ·have := a2 hq
    rw [hq]
    refine ⟨by simp; omega, ?_⟩
    rw [if_neg (by decide), ncmp_lt (by omega)]
   ·have := a3 hq
    rw [hq]
    refine ⟨by simp; omega, ?_⟩
    rw [if_pos rfl]
    by_cases h0 : r = 0
    ·rw [if_pos (by simpa using h0), ncmp_eq (by omega)]
    ·rw [if_neg (by simpa using h0), ncmp_gt (by omega)]
  ·obtain ⟨a1, a2, a3⟩ := half_den (toN M E e) (toD D E e) hC
   unfold toQ
   rw [h2, h1]
   refine ⟨a1, ?_⟩
   generalize toN M E e % toD D E e = r at *
   generalize toN M E e % (2 * toD D E e) = y at *
   generalize toN M E e / toD D E e = q at *
   rcases Nat.mod_two_eq_zero_or_one q with hq | hq
   ·have := a2 hq
    rw [hq]
    refine ⟨by simp; omega, ?_⟩
    rw [if_neg (by decide), ncmp_lt (by omega)]
   ·have := a3 hq
    rw [hq]
    refine ⟨by simp; omega, ?_⟩
    rw [if_pos rfl]
    by_cases h0 : r = 0
    ·rw [if_pos (by simpa using h0), ncmp_eq (by omega)]
    ·rw [if_neg (by simpa using h0), ncmp_gt (by omega)]
 exact ⟨fun e => (key e).1, fun e => (key e).2.1, fun e => (key e).2.2⟩
def eOf (b : Nat) (L : Int) (g : Mag) : Int := L + ((blen (g.Q L) - b : Nat) : Int)
theorem isE_of {b : Nat} {L : Int} {g : Mag} (hb : 1 ≤ b) (hg : g.Ok) : IsE b L g (eOf b L g) := by
 unfold eOf
 by_cases h : blen (g.Q L) ≤ b
 ·rw [show blen (g.Q L) - b = 0 by omega, show L + ((0 : Nat) : Int) = L by omega]
  refine ⟨Int.le_refl _, ?_, .inl rfl⟩
  by_cases h0 : g.Q L = 0
  ·rw [h0]; exact Nat.two_pow_pos _
  ·exact Nat.lt_of_lt_of_le (blen_pos h0).2.1 (Nat.pow_le_pow_right (by decide) h)
 ·exact IsE.up hg (Int.le_refl _) hb (by omega) (by omega)
def outG (b : Nat) (L T : Int) (neg : Bool) (mode : Int) (g : Mag) : Out := outW b T neg mode (g.Q (eOf b L g)) (g.H (eOf b L g)) (g.Z (eOf b L g)) (eOf b L g)
theorem outG_eq {b : Nat} {L T e : Int} {neg : Bool} {mode : Int} {g : Mag} (hb : 1 ≤ b) (hg : g.Ok) (h : IsE b L g e) : outG b L T neg mode g = outW b T neg mode (g.Q e) (g.H e) (g.Z e) e := by
 rw [IsE.uniq hb hg h (isE_of hb hg)]; rfl
def LeM (g g' : Mag) : Prop := ∀ e, g.Q e ≤ g'.Q e ∧ (g.Q e = g'.Q e → g.H e ≤ g'.H e ∧ (g'.Z e = true → g.Z e = true))
theorem outG_tiny {b : Nat} {L T : Int} {neg : Bool} {mode : Int} {g : Mag} (hb : 1 ≤ b) (hg : g.Ok) (hq : g.Q L = 0) (hh : g.H L = -1) (hz : g.Z L = false) : outG b L T neg mode g = outW b T neg mode 0 (-1) false L := by
 rw [outG_eq hb hg (e := L) ⟨Int.le_refl _, by rw [hq]; exact Nat.two_pow_pos _, .inl rfl⟩, hq, hh, hz]
def bigW (b : Nat) (T : Int) (neg : Bool) (mode : Int) : Out := if maxW mode neg = true then ⟨false, 2^b - 1, T, true, true, false⟩ else ⟨true, 0, 0, true, true, false⟩
theorem outG_huge {b : Nat} {L T : Int} {neg : Bool} {mode : Int} {g : Mag} (hb : 1 ≤ b) (hg : g.Ok) (hLT : L ≤ T) (hq : 2^b ≤ g.Q T) : outG b L T neg mode g = bigW b T neg mode := by
 have h := isE_of (b := b) (L := L) hb hg
 unfold outG
 obtain ⟨e, he⟩ : ∃ e, e = eOf b L g := ⟨_, rfl⟩
 rw [← he] at h ⊢
 have hlt : T < e := by
  refine Decidable.byContradiction fun hc => ?_
  have := hg.anti (show e ≤ T by omega)
  have := h.2.1
  omega
 have hge := h.2.2.resolve_left (by omega)
 unfold outW bigW
 rw [if_pos (by split <;> omega), decide_eq_false (p := g.Q e < 2^(b - 1)) (by omega), Bool.and_false]
def quoM (N : Nat) (x : Int) : Nat := N * 10 ^ x.toNat
def quoD (N' : Nat) (x : Int) : Nat := N' * 10 ^ (-x).toNat
theorem ten_pos (k : Nat) : 0 < 10 ^ k := Nat.pow_pos (by decide)
theorem quoD_pos {N' : Nat} (h : 0 < N') (x : Int) : 0 < quoD N' x := Nat.mul_pos h (ten_pos _)
theorem quoM_pos {N : Nat} (h : 0 < N) (x : Int) : 0 < quoM N x := Nat.mul_pos h (ten_pos _)
theorem two_ten (k : Nat) : 2 ^ (3 * k) ≤ 10 ^ k := by
 rw [Nat.pow_mul]; exact Nat.pow_le_pow_left (by decide) k
theorem quo_big {N N' la lb k : Nat} {x : Int} (h1 : 10 ^ (la - 1) ≤ N) (h2 : N' ≤ 10 ^ lb) (h : (lb : Int) + k ≤ (la - 1 : Nat) + x) : quoD N' x * 10 ^ k ≤ quoM N x := by
 unfold quoD quoM
 calc N' * 10 ^ (-x).toNat * 10 ^ k ≤ 10 ^ lb * 10 ^ (-x).toNat * 10 ^ k := Nat.mul_le_mul_right _ (Nat.mul_le_mul_right _ h2)
  _ = 10 ^ (lb + (-x).toNat + k) := by rw [Nat.pow_add, Nat.pow_add]
  _ ≤ 10 ^ (la - 1 + x.toNat) := Nat.pow_le_pow_right (by decide) (by omega)
  _ = 10 ^ (la - 1) * 10 ^ x.toNat := Nat.pow_add ..
  _ ≤ N * 10 ^ x.toNat := Nat.mul_le_mul_right _ h1
theorem quo_small {N N' la lb k : Nat} {x : Int} (h1 : N < 10 ^ la) (h2 : 10 ^ (lb - 1) ≤ N') (h : (la : Int) + x + k ≤ (lb - 1 : Nat)) : quoM N x * 10 ^ k < quoD N' x := by
 unfold quoD quoM
 calc N * 10 ^ x.toNat * 10 ^ k < 10 ^ la * 10 ^ x.toNat * 10 ^ k := Nat.mul_lt_mul_of_pos_right (Nat.mul_lt_mul_of_pos_right h1 (ten_pos _)) (ten_pos _)
  _ = 10 ^ (la + x.toNat + k) := by rw [Nat.pow_add, Nat.pow_add]
  _ ≤ 10 ^ (lb - 1 + (-x).toNat) := Nat.pow_le_pow_right (by decide) (by omega)
  _ = 10 ^ (lb - 1) * 10 ^ (-x).toNat := Nat.pow_add ..
  _ ≤ N' * 10 ^ (-x).toNat := Nat.mul_le_mul_right _ h2
theorem rat_huge {M D b T : Nat} (hD : 0 < D) (h : D * 2 ^ (T + b) ≤ M) : 2 ^ b ≤ (ratMag M D 0).Q T := by
 show 2 ^ b ≤ M * 2 ^ (0 - (T : Int)).toNat / (D * 2 ^ ((T : Int) - 0).toNat)
 rw [show (0 - (T : Int)).toNat = 0 by omega, show ((T : Int) - 0).toNat = T by omega, Nat.pow_zero, Nat.mul_one, Nat.le_div_iff_mul_le (Nat.mul_pos hD (Nat.two_pow_pos _))]
 rw [Nat.pow_add] at h
 calc 2 ^ b * (D * 2 ^ T) = D * (2 ^ T * 2 ^ b) := by ac_rfl
  _ ≤ M := h
theorem rat_tiny {M D l : Nat} (hM : 0 < M) (h : M * 2 ^ (l + 1) < D) : (ratMag M D 0).Q (-(l : Int)) = 0 ∧ (ratMag M D 0).H (-(l : Int)) = -1 ∧ (ratMag M D 0).Z (-(l : Int)) = false := by
 show M * 2 ^ (0 - -(l : Int)).toNat / (D * 2 ^ (-(l : Int) - 0).toNat) = 0 ∧ ncmp (M * 2 ^ (0 - -(l : Int)).toNat % (D * 2 ^ (-(l : Int) - 0).toNat) * 2) (D * 2 ^ (-(l : Int) - 0).toNat) = -1 ∧ decide (M * 2 ^ (0 - -(l : Int)).toNat % (D * 2 ^ (-(l : Int) - 0).toNat) = 0) = false
 rw [show (0 - -(l : Int)).toNat = l by omega, show (-(l : Int) - 0).toNat = 0 by omega, Nat.pow_zero, Nat.mul_one]
 rw [Nat.pow_succ, ← Nat.mul_assoc] at h
 have h0 : 0 < M * 2 ^ l := Nat.mul_pos hM (Nat.two_pow_pos _)
 have h1 : M * 2 ^ l < D := by omega
 rw [Nat.div_eq_of_lt h1, Nat.mod_eq_of_lt h1]
 exact ⟨rfl, ncmp_lt h, decide_eq_false (by omega)⟩
def Far (b : Nat) (L T : Int) (g : Mag) (up : Bool) : Prop := if up = true then 2 ^ b ≤ g.Q T else g.Q L = 0 ∧ g.H L = -1 ∧ g.Z L = false
theorem far_out {b : Nat} {L T : Int} {neg up : Bool} {mode : Int} {g g' : Mag} (hb : 1 ≤ b) (hLT : L ≤ T) (hg : g.Ok) (hg' : g'.Ok) (h : Far b L T g up) (h' : Far b L T g' up) : outG b L T neg mode g = outG b L T neg mode g' := by
 unfold Far at h h'
 cases up
 ·rw [if_neg (by decide)] at h h'
  rw [outG_tiny hb hg h.1 h.2.1 h.2.2, outG_tiny hb hg' h'.1 h'.2.1 h'.2.2]
 ·rw [if_pos rfl] at h h'
  rw [outG_huge hb hg hLT h, outG_huge hb hg' hLT h']
theorem toQ_ge {M D k : Nat} {E e : Int} (hM : M ≠ 0) (hD : 0 < D) (h : (k : Int) ≤ (blen M : Int) - 1 - blen D + E - e) : 2 ^ k ≤ toQ M D E e := by
 obtain ⟨a1, -, a3⟩ := blen_pos hM
 obtain ⟨-, b2, b3⟩ := blen_pos (show D ≠ 0 by omega)
 unfold toQ
 rw [Nat.le_div_iff_mul_le (toD_pos hD E e)]
 unfold toN toD
 calc 2 ^ k * (D * 2 ^ (e - E).toNat) ≤ 2 ^ k * (2 ^ blen D * 2 ^ (e - E).toNat) := Nat.mul_le_mul_left _ (Nat.mul_le_mul_right _ (Nat.le_of_lt b2))
  _ = 2 ^ (k + (blen D + (e - E).toNat)) := by rw [Nat.pow_add, Nat.pow_add]
  _ ≤ 2 ^ (blen M - 1 + (E - e).toNat) := Nat.pow_le_pow_right (by decide) (by omega)
  _ = 2 ^ (blen M - 1) * 2 ^ (E - e).toNat := Nat.pow_add ..
  _ ≤ M * 2 ^ (E - e).toNat := Nat.mul_le_mul_right _ a1
theorem toQ_lt {M D k : Nat} {E e : Int} (hM : M ≠ 0) (hD : 0 < D) (h : (blen M : Int) - blen D + 1 + E - e ≤ k) : toQ M D E e < 2 ^ k := by
 obtain ⟨-, a2, a3⟩ := blen_pos hM
 obtain ⟨b1, -, b3⟩ := blen_pos (show D ≠ 0 by omega)
 unfold toQ
 rw [Nat.div_lt_iff_lt_mul (toD_pos hD E e)]
 unfold toN toD
 calc M * 2 ^ (E - e).toNat < 2 ^ blen M * 2 ^ (E - e).toNat := Nat.mul_lt_mul_of_pos_right a2 (Nat.two_pow_pos _)
  _ = 2 ^ (blen M + (E - e).toNat) := (Nat.pow_add ..).symm
  _ ≤ 2 ^ (k + (blen D - 1 + (e - E).toNat)) := Nat.pow_le_pow_right (by decide) (by omega)
  _ = 2 ^ k * (2 ^ (blen D - 1) * 2 ^ (e - E).toNat) := by rw [Nat.pow_add, Nat.pow_add]
  _ ≤ 2 ^ k * (D * 2 ^ (e - E).toNat) := Nat.mul_le_mul_left _ (Nat.mul_le_mul_right _ b1)
theorem float_place {b : Nat} {L e0 : Int} {g : Mag} (hb : 1 ≤ b) (hg : g.Ok) (hL : L ≤ e0) (h : e0 = L ∨ 2 ^ b ≤ g.Q e0) :
  IsE b L g (if b < blen (g.Q e0) then e0 + ((blen (g.Q e0) - b : Nat) : Int) else e0) := by
 by_cases hk : b < blen (g.Q e0)
 ·rw [if_pos hk]
  exact IsE.up hg hL hb (by omega) (by omega)
 ·rw [if_neg hk]
  have hlt : g.Q e0 < 2 ^ b := by
   by_cases h0 : g.Q e0 = 0
   ·rw [h0]; exact Nat.two_pow_pos _
   ·exact Nat.lt_of_lt_of_le (blen_pos h0).2.1 (Nat.pow_le_pow_right (by decide) (by omega))
  exact ⟨hL, hlt, .inl (h.resolve_right (by omega))⟩
theorem cut_le {A C A' C' : Nat} (hC : 0 < C) (hC' : 0 < C') (h : A * C' ≤ A' * C) :
  A / C ≤ A' / C' ∧ (A / C = A' / C' → ncmp (A % C * 2) C ≤ ncmp (A' % C' * 2) C' ∧ (A' % C' = 0 → A % C = 0)) := by
 have h1 := Nat.div_add_mod A C
 have h2 := Nat.mod_lt A hC
 have h1' := Nat.div_add_mod A' C'
 have h2' := Nat.mod_lt A' hC'
 obtain ⟨q, hq⟩ : ∃ q, q = A / C := ⟨_, rfl⟩
 obtain ⟨r, hr⟩ : ∃ r, r = A % C := ⟨_, rfl⟩
 obtain ⟨q', hq'⟩ : ∃ q, q = A' / C' := ⟨_, rfl⟩
 obtain ⟨r', hr'⟩ : ∃ r, r = A' % C' := ⟨_, rfl⟩
 rw [← hq, ← hr] at h1
 rw [← hr] at h2
 rw [← hq', ← hr'] at h1'
 rw [← hr'] at h2'
 rw [← hq, ← hr, ← hq', ← hr']
 have e1 : A * C' = q * (C * C') + r * C' := by rw [← h1, Nat.add_mul]; congr 1; ac_rfl
 have e2 : A' * C = q' * (C * C') + r' * C := by rw [← h1', Nat.add_mul]; congr 1; ac_rfl
 have b1 : r * C' < C * C' := Nat.mul_lt_mul_of_pos_right h2 hC'
 have b2 : r' * C < C * C' := by rw [Nat.mul_comm C]; exact Nat.mul_lt_mul_of_pos_right h2' hC
 rw [e1, e2] at h
 have hle : q ≤ q' := by
  refine Decidable.byContradiction fun hc => ?_
  have := Nat.mul_le_mul_right (C * C') (show q' + 1 ≤ q by omega)
  rw [Nat.add_mul, Nat.one_mul] at this
  omega
 refine ⟨hle, fun he => ?_⟩
 rw [he] at h
 have hr2 : r * C' ≤ r' * C := by omega
 constructor
 ·have k1 : C < r * 2 → C' < r' * 2 := fun hlt => by
   have a1 := Nat.mul_lt_mul_of_pos_right hlt hC'
   rw [Nat.mul_right_comm] at a1
   have a2 : r * C' * 2 ≤ r' * C * 2 := Nat.mul_le_mul_right 2 hr2
   have a3 : C' * C < r' * 2 * C := by rw [Nat.mul_comm C', Nat.mul_right_comm]; omega
   exact Nat.lt_of_mul_lt_mul_right a3
  have k2 : C ≤ r * 2 → C' ≤ r' * 2 := fun hlt => by
   have a1 := Nat.mul_le_mul_right C' hlt
   rw [Nat.mul_right_comm] at a1
   have a2 : r * C' * 2 ≤ r' * C * 2 := Nat.mul_le_mul_right 2 hr2
   have a3 : C' * C ≤ r' * 2 * C := by rw [Nat.mul_comm C', Nat.mul_right_comm]; omega
   exact Nat.le_of_mul_le_mul_right a3 hC
  unfold ncmp
  split
  ·split; omega; split <;> omega
  ·split
   ·have := k1 (by assumption)
    rw [if_neg (by omega), if_pos this]; omega
   ·have := k2 (by omega)
    rw [if_neg (by omega)]; split <;> omega
 ·intro h0
  rw [h0, Nat.zero_mul] at hr2
  rcases Nat.mul_eq_zero.1 (Nat.le_zero.1 hr2) with h | h
  ·exact h
  ·omega
theorem rat_le {M D M' D' : Nat} (hD : 0 < D) (hD' : 0 < D') (h : M * D' ≤ M' * D) : LeM (ratMag M D 0) (ratMag M' D' 0) := by
 intro e
 have hx : toN M 0 e * toD D' 0 e ≤ toN M' 0 e * toD D 0 e := by
  unfold toN toD
  calc M * 2 ^ (0 - e).toNat * (D' * 2 ^ (e - 0).toNat) = M * D' * (2 ^ (0 - e).toNat * 2 ^ (e - 0).toNat) := by ac_rfl
   _ ≤ M' * D * (2 ^ (0 - e).toNat * 2 ^ (e - 0).toNat) := Nat.mul_le_mul_right _ h
   _ = M' * 2 ^ (0 - e).toNat * (D * 2 ^ (e - 0).toNat) := by ac_rfl
 obtain ⟨a1, a2⟩ := cut_le (toD_pos hD 0 e) (toD_pos hD' 0 e) hx
 refine ⟨a1, fun he => ?_⟩
 obtain ⟨a3, a4⟩ := a2 he
 exact ⟨a3, fun hz => decide_eq_true (a4 (of_decide_eq_true hz))⟩
theorem LeM.antisymm {g g' : Mag} (h : LeM g g') (h' : LeM g' g) (e : Int) : g.Q e = g'.Q e ∧ g.H e = g'.H e ∧ g.Z e = g'.Z e := by
 obtain ⟨a1, a2⟩ := h e
 obtain ⟨b1, b2⟩ := h' e
 have hq : g.Q e = g'.Q e := by omega
 obtain ⟨a3, a4⟩ := a2 hq
 obtain ⟨b3, b4⟩ := b2 hq.symm
 refine ⟨hq, by omega, ?_⟩
 cases h1 : g.Z e <;> cases h2 : g'.Z e
 ·rfl
 ·rw [a4 h2] at h1; exact absurd h1 (by decide)
 ·rw [b4 h1] at h2; exact absurd h2 (by decide)
 ·rfl
theorem rat_eq {M D M' D' : Nat} (hD : 0 < D) (hD' : 0 < D') (h : M * D' = M' * D) (e : Int) :
  (ratMag M D 0).Q e = (ratMag M' D' 0).Q e ∧ (ratMag M D 0).H e = (ratMag M' D' 0).H e ∧ (ratMag M D 0).Z e = (ratMag M' D' 0).Z e :=
 (rat_le hD hD' (Nat.le_of_eq h)).antisymm (rat_le hD' hD (Nat.le_of_eq h.symm)) e
theorem out_same {b : Nat} {L T : Int} {neg : Bool} {mode : Int} {g g' : Mag} (h : ∀ e, g.Q e = g'.Q e ∧ g.H e = g'.H e ∧ g.Z e = g'.Z e) : outG b L T neg mode g = outG b L T neg mode g' := by
 unfold outG eOf
 rw [(h L).1]
 obtain ⟨h1, h2, h3⟩ := h (L + ((blen (g'.Q L) - b : Nat) : Int))
 rw [h1, h2, h3]
end Go.Proofs.YtlbokicainimnaaGreatDoor
namespace Go.Proofs.YtlbokicainimnaaGreatDoor
open Go.RowKit Go.Lib
structure RA where
 bits : Nat
 ine : Bool
 ov : Bool
 un : Bool
 err : Int
def RA.no (e : Int) : RA := ⟨0, false, false, false, e⟩
def bits64 (neg : Bool) (o : Out) : Nat := (if neg = true then 2^63 else 0) + o.rung 53 (-1074) 971
def oneD : Dc := ⟨false, [49], 0⟩
def qM (a b : Dc) : Nat := quoM (dval a.s) (a.e - b.e)
def qD (a b : Dc) : Nat := quoD (dval b.s) (a.e - b.e)
def quoG (a b : Dc) : Mag := ratMag (qM a b) (qD a b) 0
def ratioA (a b : Dc) (m : Int) : RA :=
 if ¬ (a.ok ∧ b.ok ∧ 1 ≤ m ∧ m ≤ 6) then RA.no 1 else if b.s = [] then RA.no 13 else if a.s = [] then RA.no 0
 else ⟨bits64 (a.neg != b.neg) (outG 53 (-1074) 971 (a.neg != b.neg) m (quoG a b)), (outG 53 (-1074) 971 (a.neg != b.neg) m (quoG a b)).ine, (outG 53 (-1074) 971 (a.neg != b.neg) m (quoG a b)).ov, (outG 53 (-1074) 971 (a.neg != b.neg) m (quoG a b)).un, 0⟩
def to64A (a : Dc) (m : Int) : RA := ratioA a oneD m
def unitK (a : Dc) (n m : Int) : Nat :=
 kW a.neg m (dval a.s / 10 ^ (-n - a.e).toNat) (ncmp (2 * (dval a.s % 10 ^ (-n - a.e).toNat)) (10 ^ (-n - a.e).toNat)) false
def placesC (a : Dc) (n m : Int) : Dc × Int :=
 if -n - a.e ≤ 0 then (a, 0) else (⟨madeS a.neg (unitK a n m) (-n), madeL (unitK a n m) (-n), madeE (unitK a n m) (-n)⟩, madeX (unitK a n m) (-n))
def placesA (a : Dc) (n m : Int) : Dc × Int :=
 if ¬ (a.ok ∧ 1 ≤ m ∧ m ≤ 6 ∧ -20000 ≤ n ∧ n ≤ 20000) then (Dc.none, 1) else if a.s = [] then (a, 0) else placesC a n m
theorem oneD_ok : oneD.ok := (okB_iff _).1 (by decide)
theorem oneD_s : oneD.s ≠ [] := by decide
theorem oneD_val : dval oneD.s = 1 := by decide
theorem ok_low {d : Dc} (h : d.ok) (h0 : d.s ≠ []) : 10 ^ (d.s.length - 1) ≤ dval d.s := by
 have h1 := ok_bare h
 rcases Nat.lt_or_ge (dval d.s) (10 ^ (d.s.length - 1)) with g | g
 ·have := bare_len_le _ _ g
  rw [← h1] at this
  have : 0 < d.s.length := List.length_pos_iff.2 h0
  omega
 ·exact g
theorem qD_pos {a b : Dc} (hb : b.ok) (h0 : b.s ≠ []) : 0 < qD a b := quoD_pos (ok_pos hb h0) _
theorem qM_pos {a b : Dc} (ha : a.ok) (h0 : a.s ≠ []) : 0 < qM a b := quoM_pos (ok_pos ha h0) _
theorem quoG_ok {a b : Dc} (hb : b.ok) (h0 : b.s ≠ []) : (quoG a b).Ok := ratMag_ok (qD_pos hb h0)
def farV (a b : Dc) : Int := (a.s.length : Int) - b.s.length + (a.e - b.e)
theorem quo_up {a b : Dc} (ha : a.ok) (hb : b.ok) (h0 : a.s ≠ []) {k : Nat} (h : (k : Int) < farV a b) : qD a b * 2 ^ (3 * k) ≤ qM a b := by
 have h1 : 0 < a.s.length := List.length_pos_iff.2 h0
 unfold farV at h
 exact Nat.le_trans (Nat.mul_le_mul_left _ (two_ten k)) (quo_big (ok_low ha h0) (Nat.le_of_lt (ok_val hb)) (by omega))
theorem quo_down {a b : Dc} (ha : a.ok) (hb : b.ok) (h0 : b.s ≠ []) {k : Nat} (h : (k : Int) < -farV a b) : qM a b * 2 ^ (3 * k) < qD a b := by
 have h1 : 0 < b.s.length := List.length_pos_iff.2 h0
 unfold farV at h
 exact Nat.lt_of_le_of_lt (Nat.mul_le_mul_left _ (two_ten k)) (quo_small (ok_val ha) (ok_low hb h0) (by omega))
theorem far_up {b T l M D k : Nat} (hTb : T + b ≤ k) (hD : 0 < D) (h : D * 2 ^ k ≤ M) : Far b (-(l : Int)) T (ratMag M D 0) true :=
 rat_huge hD (Nat.le_trans (Nat.mul_le_mul_left _ (Nat.pow_le_pow_right (by decide) hTb)) h)
theorem far_down {b l M D k : Nat} {T : Int} (hl : l < k) (hM : 0 < M) (h : M * 2 ^ k < D) : Far b (-(l : Int)) T (ratMag M D 0) false :=
 rat_tiny hM (Nat.lt_of_le_of_lt (Nat.mul_le_mul_left _ (Nat.pow_le_pow_right (by decide) (by omega))) h)
theorem quo_far_up {a b : Dc} {c T l : Nat} (hTb : T + c ≤ 1024) (ha : a.ok) (hb : b.ok) (h0 : a.s ≠ []) (h1 : b.s ≠ []) (h : 399 < farV a b) : Far c (-(l : Int)) T (quoG a b) true :=
 far_up (k := 3 * 399) (by omega) (qD_pos hb h1) (quo_up ha hb h0 (k := 399) h)
theorem quo_far_down {a b : Dc} {c l : Nat} {T : Int} (hl : l ≤ 1074) (ha : a.ok) (hb : b.ok) (h0 : a.s ≠ []) (h1 : b.s ≠ []) (h : farV a b < -400) : Far c (-(l : Int)) T (quoG a b) false :=
 far_down (k := 3 * 400) (by omega) (qM_pos ha h0) (quo_down ha hb h1 (k := 400) (by omega))
theorem doc_up {c T l : Nat} (hTc : T + c ≤ 1024) : Far c (-(l : Int)) T (ratMag 1 1 1400) true := by
 show 2 ^ c ≤ toQ 1 1 1400 T
 refine toQ_ge (by decide) (by decide) ?_
 rw [show blen 1 = 1 by decide]
 omega
theorem doc_down {c l : Nat} {T : Int} (hl : l ≤ 1074) : Far c (-(l : Int)) T (ratMag 1 1 (-1400)) false := by
 have e1 : toN 1 (-1400) (-(l : Int)) = 1 := by
  unfold toN
  rw [show ((-1400 : Int) - -(l : Int)).toNat = 0 by omega]
 have e2 : toD 1 (-1400) (-(l : Int)) = 2 ^ (1400 - l) := by
  unfold toD
  rw [show (-(l : Int) - (-1400 : Int)).toNat = 1400 - l by omega, Nat.one_mul]
 have h1 : 2 ^ 2 ≤ 2 ^ (1400 - l) := Nat.pow_le_pow_right (by decide) (by omega)
 show toQ 1 1 (-1400) (-(l : Int)) = 0 ∧ ncmp (toN 1 (-1400) (-(l : Int)) % toD 1 (-1400) (-(l : Int)) * 2) (toD 1 (-1400) (-(l : Int))) = -1 ∧ decide (toN 1 (-1400) (-(l : Int)) % toD 1 (-1400) (-(l : Int)) = 0) = false
 unfold toQ
 rw [e1, e2]
 generalize 2 ^ (1400 - l) = X at *
 rw [Nat.div_eq_of_lt (by omega), Nat.mod_eq_of_lt (by omega)]
 exact ⟨rfl, ncmp_lt (by omega), rfl⟩
def numG (m : Nat) (e : Int) : Mag := ratMag (m * 2 ^ e.toNat) (2 ^ (-e).toNat) 0
theorem numG_ok (m : Nat) (e : Int) : (numG m e).Ok := ratMag_ok (Nat.two_pow_pos _)
theorem numG_at (m : Nat) (e : Int) : (numG m e).Q e = m ∧ (numG m e).Z e = true := by
 have e1 : toN (m * 2 ^ e.toNat) 0 e = m * toD (2 ^ (-e).toNat) 0 e := by
  unfold toN toD
  rw [Nat.mul_assoc, ← Nat.pow_add, ← Nat.pow_add, show e.toNat + (0 - e).toNat = (-e).toNat + (e - 0).toNat by omega]
 have hp : 0 < toD (2 ^ (-e).toNat) 0 e := Nat.mul_pos (Nat.two_pow_pos _) (Nat.two_pow_pos _)
 refine ⟨?_, ?_⟩
 ·show toN _ _ _ / toD _ _ _ = m
  rw [e1, Nat.mul_div_cancel _ hp]
 ·show decide (toN _ _ _ % toD _ _ _ = 0) = true
  rw [e1, Nat.mul_mod_left]; rfl
theorem exact_out {b : Nat} {L T e : Int} {neg : Bool} {mode : Int} {g : Mag} (hb : 1 ≤ b) (hg : g.Ok) (h : IsE b L g e) (hz : g.Z e = true) (he : e ≤ T) : outG b L T neg mode g = ⟨false, g.Q e, e, false, false, false⟩ := by
 rw [outG_eq hb hg h]
 have hk : kW neg mode (g.Q e) (g.H e) (g.Z e) = g.Q e := by unfold kW; rw [hz]; rfl
 have h2 := h.2.1
 unfold outW
 rw [hk, if_neg (show ¬ g.Q e = 2 ^ b by omega), if_neg (show ¬ g.Q e = 2 ^ b by omega), if_neg (show ¬ T < e by omega), hz]
 rfl
theorem rep_quo {d : Dc} {W e : Int} (h : Rep d W e) (f : Int) : (quoG d oneD).Q f = (ratMag (quoM W.natAbs e) (quoD 1 e) 0).Q f ∧ (quoG d oneD).H f = (ratMag (quoM W.natAbs e) (quoD 1 e) 0).H f ∧ (quoG d oneD).Z f = (ratMag (quoM W.natAbs e) (quoD 1 e) 0).Z f := by
 refine rat_eq (qD_pos oneD_ok oneD_s) (quoD_pos (by decide) _) ?_ f
 obtain ⟨j, hj⟩ : ∃ j, j = d.e.natAbs + e.natAbs := ⟨_, rfl⟩
 have h1 := congrArg Int.natAbs (h.all j (by omega) (by omega))
 rw [Int.natAbs_mul, Int.natAbs_mul, v_abs, Int.natAbs_pow, Int.natAbs_pow] at h1
 have h1 : dval d.s * 10 ^ (d.e + j).toNat = W.natAbs * 10 ^ (e + j).toNat := h1
 have h0 : d.e - oneD.e = d.e := by show d.e - 0 = d.e; omega
 unfold qM qD quoM quoD
 rw [h0, oneD_val, Nat.one_mul, Nat.one_mul]
 refine Nat.eq_of_mul_eq_mul_right (Nat.pow_pos (n := j) (show 0 < 10 by decide)) ?_
 have e1 : 10 ^ d.e.toNat * 10 ^ j = 10 ^ (d.e + j).toNat * 10 ^ (-d.e).toNat := by rw [← Nat.pow_add, ← Nat.pow_add]; congr 1; omega
 have e2 : 10 ^ e.toNat * 10 ^ j = 10 ^ (e + j).toNat * 10 ^ (-e).toNat := by rw [← Nat.pow_add, ← Nat.pow_add]; congr 1; omega
 calc dval d.s * 10 ^ d.e.toNat * 10 ^ (-e).toNat * 10 ^ j = dval d.s * (10 ^ d.e.toNat * 10 ^ j) * 10 ^ (-e).toNat := by ac_rfl
  _ = dval d.s * 10 ^ (d.e + j).toNat * 10 ^ (-d.e).toNat * 10 ^ (-e).toNat := by rw [e1]; ac_rfl
  _ = W.natAbs * (10 ^ (e + j).toNat * 10 ^ (-e).toNat) * 10 ^ (-d.e).toNat := by rw [h1]; ac_rfl
  _ = W.natAbs * (10 ^ e.toNat * 10 ^ j) * 10 ^ (-d.e).toNat := by rw [e2]
  _ = W.natAbs * 10 ^ e.toNat * 10 ^ (-d.e).toNat * 10 ^ j := by ac_rfl
theorem num_quo {d : Dc} {m l : Nat} {e : Int} {s : Bool} (h : Rep d (sg s (m * 2 ^ (e + l).toNat) * 5 ^ l) (-(l : Int))) (he : -(l : Int) ≤ e) (f : Int) : (quoG d oneD).Q f = (numG m e).Q f ∧ (quoG d oneD).H f = (numG m e).H f ∧ (quoG d oneD).Z f = (numG m e).Z f := by
 obtain ⟨r1, r2, r3⟩ := rep_quo h f
 rw [r1, r2, r3]
 refine rat_eq (quoD_pos (by decide) _) (Nat.two_pow_pos _) ?_ f
 rw [Int.natAbs_mul, sg_natAbs, Int.natAbs_pow]
 unfold quoM quoD
 rw [show ((5 : Int).natAbs) = 5 from rfl, show (-(l : Int)).toNat = 0 by omega, show (- -(l : Int)).toNat = l by omega, Nat.pow_zero, Nat.mul_one, Nat.one_mul, show 10 ^ l = 2 ^ l * 5 ^ l by rw [← Nat.mul_pow]]
 have e1 : 2 ^ (e + l).toNat * 2 ^ (-e).toNat = 2 ^ e.toNat * 2 ^ l := by rw [← Nat.pow_add, ← Nat.pow_add]; congr 1; omega
 calc m * 2 ^ (e + l).toNat * 5 ^ l * 2 ^ (-e).toNat = m * (2 ^ (e + l).toNat * 2 ^ (-e).toNat) * 5 ^ l := by ac_rfl
  _ = m * 2 ^ e.toNat * (2 ^ l * 5 ^ l) := by rw [e1]; ac_rfl
def rung64 (a : Dc) (m : Int) : Nat := if a.s = [] then 0 else (outG 53 (-1074) 971 a.neg m (quoG a oneD)).rung 53 (-1074) 971
theorem nil_neg {a : Dc} (ha : a.ok) (h : a.s = []) : a.neg = false := by rw [ok_nil ha h]; rfl
theorem to64_bits {a : Dc} {m : Int} (ha : a.ok) (hm : 1 ≤ m ∧ m ≤ 6) : (to64A a m).bits = (if a.neg = true then 2^63 else 0) + rung64 a m ∧ (to64A a m).err = 0 := by
 unfold to64A ratioA rung64
 rw [if_neg (fun h => h ⟨ha, oneD_ok, hm⟩), if_neg oneD_s]
 by_cases h : a.s = []
 ·rw [if_pos h, if_pos h, nil_neg ha h]; exact ⟨rfl, rfl⟩
 ·rw [if_neg h, if_neg h, show (a.neg != oneD.neg) = a.neg by show (a.neg != false) = a.neg; cases a.neg <;> rfl]
  exact ⟨rfl, rfl⟩
theorem strip_len {K k : Nat} (h : K < 10 ^ k) : (bareD (strip K)).length ≤ k := by
 refine bare_len_le _ _ (Nat.lt_of_le_of_lt ?_ h)
 have := strip_mul K
 exact Nat.le_trans (Nat.le_mul_of_pos_right _ (Nat.pow_pos (by decide))) (Nat.le_of_eq this)
theorem num_out {b m : Nat} {L T e : Int} {neg : Bool} {mode : Int} (hb : 1 ≤ b) (hm : m < 2 ^ b) (h1 : L ≤ e) (h2 : e ≤ T) (h3 : e = L ∨ 2 ^ (b - 1) ≤ m) : outG b L T neg mode (numG m e) = ⟨false, m, e, false, false, false⟩ := by
 obtain ⟨n1, n2⟩ := numG_at m e
 rw [exact_out hb (numG_ok m e) ⟨h1, by rw [n1]; exact hm, by rw [n1]; exact h3⟩ n2 h2, n1]
theorem out_range {b : Nat} {L T : Int} {neg : Bool} {mode : Int} {g : Mag} (hb : 2 ≤ b) (hLT : L ≤ T) (hg : g.Ok) :
  (outG b L T neg mode g).inf = true ∨ ((outG b L T neg mode g).inf = false ∧ (outG b L T neg mode g).m < 2 ^ b ∧ L ≤ (outG b L T neg mode g).e ∧ (outG b L T neg mode g).e ≤ T ∧ ((outG b L T neg mode g).e = L ∨ 2 ^ (b - 1) ≤ (outG b L T neg mode g).m)) := by
 obtain ⟨h1, h2, h3⟩ := isE_of (b := b) (L := L) (by omega) hg
 have hk := kW_le (neg := neg) (mode := mode) (q := g.Q (eOf b L g)) (h := g.H (eOf b L g)) (z := g.Z (eOf b L g))
 have hB : 2 ^ b = 2 * 2 ^ (b - 1) := by rw [Nat.mul_comm, ← Nat.pow_succ]; congr 1; omega
 have hB0 : 0 < 2 ^ (b - 1) := Nat.two_pow_pos _
 unfold outG outW
 generalize kW neg mode (g.Q (eOf b L g)) (g.H (eOf b L g)) (g.Z (eOf b L g)) = K at *
 generalize g.Q (eOf b L g) = q at *
 generalize eOf b L g = e at *
 rw [hB] at h2 ⊢
 generalize 2 ^ (b - 1) = B at *
 by_cases ho : T < (if K = 2 * B then e + 1 else e)
 ·rw [if_pos ho]
  by_cases hm : maxW mode neg = true
  ·rw [if_pos hm]
   exact .inr ⟨rfl, by show 2 * B - 1 < 2 * B; omega, hLT, Int.le_refl _, .inr (by show B ≤ 2 * B - 1; omega)⟩
  ·rw [if_neg hm]
   exact .inl rfl
 ·rw [if_neg ho]
  right
  by_cases hK : K = 2 * B
  ·rw [if_pos hK] at ho
   simp only [if_pos hK]
   exact ⟨trivial, by omega, by omega, by omega, .inr (Nat.le_refl _)⟩
  ·rw [if_neg hK] at ho
   simp only [if_neg hK]
   refine ⟨trivial, by omega, h1, by omega, ?_⟩
   rcases h3 with h | h
   ·exact .inl h
   ·right; omega
end Go.Proofs.YtlbokicainimnaaGreatDoor
