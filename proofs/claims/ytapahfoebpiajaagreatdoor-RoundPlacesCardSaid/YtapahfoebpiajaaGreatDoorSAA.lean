/- Parts Aa, Ab, Ac, Ag, Ah, Aj of the proof, in one text. -/
import Derived.Test.YtapahfoebpiajaaGreatDoorSNE
import Derived.Test.YtapahfoebpiajaaGreatDoorSRJ

/- Rounding by a way: what a magnitude shows at each place, and what it is rounded to. Plain mathematics; no program. -/
namespace Go.Proofs.YtapahfoebpiajaaGreatDoor

/-- Does a way lead away from nought? (of what is not whole) -/
def upW (mode : Int) (neg odd : Bool) (half : Int) : Bool :=
  if mode = 1 then decide (0 < half) || (decide (half = 0) && odd)
  else if mode = 2 then decide (0 ≤ half)
  else if mode = 3 then !neg
  else if mode = 4 then neg
  else if mode = 6 then !odd
  else false
/-- Does a way stay at the greatest finite one? -/
def maxW (mode : Int) (neg : Bool) : Bool := decide (mode = 5) || decide (mode = 6) || (decide (mode = 3) && neg) || (decide (mode = 4) && !neg)
/-- What a magnitude shows at the place e: how many times 2^e go into it, how what is left stands to a half, whether nothing is. -/
structure Mag where
  Q : Int → Nat
  H : Int → Int
  Z : Int → Bool
structure Mag.Ok (g : Mag) : Prop where
  next : ∀ e, g.Q (e + 1) = g.Q e / 2
  zed : ∀ e, g.Z (e + 1) = (g.Z e && decide (g.Q e % 2 = 0))
  half : ∀ e, g.H (e + 1) = if g.Q e % 2 = 1 then (if g.Z e = true then 0 else 1) else -1
theorem Mag.Ok.on {g : Mag} (h : g.Ok) (e : Int) (k : Nat) : g.Q (e + k) = g.Q e / 2^k := by
  induction k with
  | zero => rw [Nat.pow_zero, Nat.div_one, show e + ((0 : Nat) : Int) = e by omega]
  | succ k ih => rw [show e + ((k + 1 : Nat) : Int) = e + (k : Int) + 1 by omega, h.next, ih, Nat.div_div_eq_div_mul, Nat.pow_succ]
theorem Mag.Ok.anti {g : Mag} (h : g.Ok) {e f : Int} (hl : e ≤ f) : g.Q f ≤ g.Q e := by
  obtain ⟨k, hk⟩ : ∃ k : Nat, f = e + k := ⟨(f - e).toNat, by omega⟩
  subst hk; rw [h.on]; exact Nat.div_le_self _ _
/-- e is the place of the last bit: of b bits, from the least place L on. -/
def IsE (b : Nat) (L : Int) (g : Mag) (e : Int) : Prop := L ≤ e ∧ g.Q e < 2^b ∧ (e = L ∨ 2^(b - 1) ≤ g.Q e)
theorem IsE.uniq {b : Nat} {L e f : Int} {g : Mag} (hb : 0 < b) (hg : g.Ok) (h1 : IsE b L g e) (h2 : IsE b L g f) : e = f := by
  have key : ∀ {e f : Int}, IsE b L g e → IsE b L g f → ¬ e < f := fun {e f} h1 h2 hlt => by
    obtain ⟨k, hk⟩ : ∃ k : Nat, f = e + 1 + k := ⟨(f - e - 1).toNat, by omega⟩
    have a1 := h2.2.2.resolve_left (by have := h1.1; omega)
    have a2 := hg.anti (show e + 1 ≤ f by omega)
    rw [hg.next] at a2
    have a3 := h1.2.1
    have : 2^b = 2 * 2^(b - 1) := by rw [Nat.mul_comm, ← Nat.pow_succ]; congr 1; omega
    omega
  have k1 := key h1 h2
  have k2 := key h2 h1
  omega
theorem IsE.up {b : Nat} {L e : Int} {g : Mag} {k : Nat} (hg : g.Ok) (hL : L ≤ e) (hb : 1 ≤ b) (hk : blen (g.Q e) = b + k) (hk0 : 0 < k) : IsE b L g (e + k) := by
  have h0 : g.Q e ≠ 0 := by intro h; rw [h] at hk; unfold blen at hk; simp at hk; omega
  obtain ⟨a1, a2, -⟩ := blen_pos h0
  rw [hk] at a1 a2
  refine ⟨by omega, ?_, .inr ?_⟩
  · rw [hg.on, Nat.div_lt_iff_lt_mul (Nat.two_pow_pos k), ← Nat.pow_add]; exact a2
  · rw [hg.on, Nat.le_div_iff_mul_le (Nat.two_pow_pos k), ← Nat.pow_add, show b - 1 + k = b + k - 1 by omega]; exact a1
/-- What a magnitude is rounded to: m 2^e, or beyond; the flags. -/
structure Out where
  inf : Bool
  m : Nat
  e : Int
  ine : Bool
  ov : Bool
  un : Bool
def kW (neg : Bool) (mode : Int) (q : Nat) (h : Int) (z : Bool) : Nat := if (!z && upW mode neg (decide (q % 2 = 1)) h) = true then q + 1 else q
def outW (b : Nat) (T : Int) (neg : Bool) (mode : Int) (q : Nat) (h : Int) (z : Bool) (e : Int) : Out :=
  if T < (if kW neg mode q h z = 2^b then e + 1 else e) then
    (if maxW mode neg = true then ⟨false, 2^b - 1, T, true, true, !z && decide (q < 2^(b - 1))⟩ else ⟨true, 0, 0, true, true, !z && decide (q < 2^(b - 1))⟩)
  else ⟨false, if kW neg mode q h z = 2^b then 2^(b - 1) else kW neg mode q h z, if kW neg mode q h z = 2^b then e + 1 else e, !z, false, !z && decide (q < 2^(b - 1))⟩
/-- The rung that it is rounded to, were there rungs without end. -/
def rnR (b : Nat) (L : Int) (neg : Bool) (mode : Int) (g : Mag) (e : Int) : Nat := (e - L).toNat * 2^(b - 1) + kW neg mode (g.Q e) (g.H e) (g.Z e)
/-- The first rung that is none. -/
def infR (b : Nat) (L T : Int) : Nat := (T - L + 2).toNat * 2^(b - 1)
/-- A number's rung. -/
def Out.rung (b : Nat) (L T : Int) (o : Out) : Nat := if o.inf = true then infR b L T else (o.e - L).toNat * 2^(b - 1) + o.m
theorem kW_le {neg : Bool} {mode : Int} {q : Nat} {h : Int} {z : Bool} : q ≤ kW neg mode q h z ∧ kW neg mode q h z ≤ q + 1 := by unfold kW; split <;> omega
theorem out_rung {b : Nat} {L T e : Int} {neg : Bool} {mode : Int} {g : Mag} (hb : 2 ≤ b) (hLT : L ≤ T) (h : IsE b L g e) :
    (outW b T neg mode (g.Q e) (g.H e) (g.Z e) e).ov = decide (infR b L T ≤ rnR b L neg mode g e) ∧
    (outW b T neg mode (g.Q e) (g.H e) (g.Z e) e).rung b L T = (if infR b L T ≤ rnR b L neg mode g e then (if maxW mode neg = true then infR b L T - 1 else infR b L T) else rnR b L neg mode g e) := by
  obtain ⟨h1, h2, h3⟩ := h
  have hk := kW_le (neg := neg) (mode := mode) (q := g.Q e) (h := g.H e) (z := g.Z e)
  have h0 : 2^b = 2 * 2^(b - 1) := by rw [Nat.mul_comm, ← Nat.pow_succ]; congr 1; omega
  obtain ⟨B, hB⟩ : ∃ B, B = 2^(b - 1) := ⟨_, rfl⟩
  have hB0 : 0 < B := by rw [hB]; exact Nat.two_pow_pos _
  obtain ⟨K, hK⟩ : ∃ K, K = kW neg mode (g.Q e) (g.H e) (g.Z e) := ⟨_, rfl⟩
  unfold outW Out.rung rnR infR
  rw [h0] at h2
  rw [← hK, h0, ← hB]
  rw [← hK] at hk
  rw [← hB] at h2 h3
  obtain ⟨x, hx⟩ : ∃ x : Nat, e = L + x := ⟨(e - L).toNat, by omega⟩
  obtain ⟨t, ht⟩ : ∃ t : Nat, T = L + t := ⟨(T - L).toNat, by omega⟩
  subst hx ht
  rw [show (L + (x : Int) - L).toNat = x by omega, show (L + (t : Int) - L + 2).toNat = t + 2 by omega]
  have e1 : (t + 2) * B = t * B + 2 * B := by rw [Nat.add_mul]
  have e2 : (x + 1) * B = x * B + B := by rw [Nat.add_mul, Nat.one_mul]
  have hmono : x ≤ t → x * B ≤ t * B := fun h => Nat.mul_le_mul_right B h
  have hmono2 : t + 1 ≤ x → t * B + B ≤ x * B := fun h => by have := Nat.mul_le_mul_right B h; rw [Nat.add_mul, Nat.one_mul] at this; exact this
  have hmono3 : x + 1 ≤ t → x * B + B ≤ t * B := fun h => by have := Nat.mul_le_mul_right B h; rw [Nat.add_mul, Nat.one_mul] at this; exact this
  by_cases hKb : K = 2 * B
  · rw [if_pos hKb, if_pos hKb]
    by_cases ho : L + (t : Int) < L + (x : Int) + 1
    · have hov : (t + 2) * B ≤ x * B + K := by
        rw [e1, hKb]
        have := Nat.mul_le_mul_right B (show t ≤ x by omega)
        omega
      rw [if_pos ho, if_pos hov, decide_eq_true hov]
      cases maxW mode neg
      · exact ⟨rfl, rfl⟩
      · refine ⟨rfl, ?_⟩
        show (L + (t : Int) - L).toNat * B + (2 * B - 1) = (t + 2) * B - 1
        rw [show (L + (t : Int) - L).toNat = t by omega, e1]; omega
    · have hov : ¬ (t + 2) * B ≤ x * B + K := by
        rw [e1, hKb]
        have := hmono3 (by omega)
        omega
      rw [if_neg ho, if_neg hov, decide_eq_false hov]
      refine ⟨rfl, ?_⟩
      show (L + (x : Int) + 1 - L).toNat * B + B = x * B + K
      rw [show (L + (x : Int) + 1 - L).toNat = x + 1 by omega, hKb, e2]; omega
  · rw [if_neg hKb, if_neg hKb]
    by_cases ho : L + (t : Int) < L + (x : Int)
    · have hov : (t + 2) * B ≤ x * B + K := by
        rw [e1]
        have a1 := h3.resolve_left (by omega)
        have := hmono2 (by omega)
        omega
      rw [if_pos ho, if_pos hov, decide_eq_true hov]
      cases maxW mode neg
      · exact ⟨rfl, rfl⟩
      · refine ⟨rfl, ?_⟩
        show (L + (t : Int) - L).toNat * B + (2 * B - 1) = (t + 2) * B - 1
        rw [show (L + (t : Int) - L).toNat = t by omega, e1]; omega
    · have hov : ¬ (t + 2) * B ≤ x * B + K := by
        rw [e1]
        have := hmono (by omega)
        omega
      rw [if_neg ho, if_neg hov, decide_eq_false hov]
      refine ⟨rfl, ?_⟩
      show (L + (x : Int) - L).toNat * B + K = x * B + K
      rw [show (L + (x : Int) - L).toNat = x by omega]
end Go.Proofs.YtapahfoebpiajaaGreatDoor

/- Magnitudes: quotients and roots of whole numbers, and what each shows at each place. Plain mathematics. -/
namespace Go.Proofs.YtapahfoebpiajaaGreatDoor
open Go.RowKit

theorem half_num (A C : Nat) (hC : 0 < C) : A / C = 2 * A / C / 2 ∧ (2 * A / C % 2 = 0 → 2 * (A % C) = 2 * A % C) ∧ (2 * A / C % 2 = 1 → 2 * (A % C) = C + 2 * A % C) := by
  have h1 := Nat.div_add_mod A C
  have h2 := Nat.mod_lt A hC
  obtain ⟨x, hx⟩ : ∃ x, x = A / C := ⟨_, rfl⟩
  obtain ⟨y, hy⟩ : ∃ y, y = A % C := ⟨_, rfl⟩
  rw [← hx, ← hy] at h1
  rw [← hy] at h2
  have hA : 2 * A = 2 * (C * x) + 2 * y := by omega
  by_cases hc : 2 * y < C
  · have e : 2 * A / C = 2 * x ∧ 2 * A % C = 2 * y := by
      rw [Nat.div_mod_unique hC]
      exact ⟨by rw [hA, Nat.mul_left_comm]; omega, hc⟩
    rw [e.1, e.2, ← hx, ← hy]
    exact ⟨by omega, fun _ => rfl, fun h => by omega⟩
  · have e : 2 * A / C = 2 * x + 1 ∧ 2 * A % C = 2 * y - C := by
      rw [Nat.div_mod_unique hC]
      exact ⟨by rw [hA, Nat.mul_add, Nat.mul_left_comm C 2 x, Nat.mul_one]; omega, by omega⟩
    rw [e.1, e.2, ← hx, ← hy]
    exact ⟨by omega, fun h => by omega, fun _ => by omega⟩
theorem half_den (A C : Nat) (hC : 0 < C) : A / (2 * C) = A / C / 2 ∧ (A / C % 2 = 0 → A % (2 * C) = A % C) ∧ (A / C % 2 = 1 → A % (2 * C) = C + A % C) := by
  have h1 := Nat.div_add_mod A C
  have h2 := Nat.mod_lt A hC
  obtain ⟨x, hx⟩ : ∃ x, x = A / C := ⟨_, rfl⟩
  obtain ⟨y, hy⟩ : ∃ y, y = A % C := ⟨_, rfl⟩
  rw [← hx, ← hy] at h1
  rw [← hy] at h2
  obtain ⟨k, hk⟩ : ∃ k, k = x / 2 := ⟨_, rfl⟩
  rcases Nat.mod_two_eq_zero_or_one x with hm | hm
  · have hxk : x = 2 * k := by omega
    have e : A / (2 * C) = k ∧ A % (2 * C) = y := by
      rw [Nat.div_mod_unique (by omega)]
      exact ⟨by rw [← h1, hxk, Nat.mul_left_comm C 2 k, Nat.mul_assoc]; omega, by omega⟩
    rw [e.1, e.2, ← hx, ← hy, ← hk]
    exact ⟨rfl, fun _ => rfl, fun h => by omega⟩
  · have hxk : x = 2 * k + 1 := by omega
    have e : A / (2 * C) = k ∧ A % (2 * C) = C + y := by
      rw [Nat.div_mod_unique (by omega)]
      exact ⟨by rw [← h1, hxk, Nat.mul_add, Nat.mul_left_comm C 2 k, Nat.mul_assoc, Nat.mul_one]; omega, by omega⟩
    rw [e.1, e.2, ← hx, ← hy, ← hk]
    exact ⟨rfl, fun h => by omega, fun _ => rfl⟩
/-- A quotient times a power of two. -/
def ratMag (M D : Nat) (E : Int) : Mag := ⟨toQ M D E, fun e => ncmp (toN M E e % toD D E e * 2) (toD D E e), fun e => decide (toN M E e % toD D E e = 0)⟩
theorem to_step (M D : Nat) (E e : Int) : (toN M E e = 2 * toN M E (e + 1) ∧ toD D E (e + 1) = toD D E e) ∨ (toN M E (e + 1) = toN M E e ∧ toD D E (e + 1) = 2 * toD D E e) := by
  unfold toN toD
  by_cases h : 1 ≤ E - e
  · left
    obtain ⟨k, hk⟩ : ∃ k : Nat, E - e = (k : Int) + 1 := ⟨(E - e).toNat - 1, by omega⟩
    rw [show (E - (e + 1)).toNat = k by omega, show (E - e).toNat = k + 1 by omega, show (e + 1 - E).toNat = 0 by omega, show (e - E).toNat = 0 by omega, Nat.pow_succ]
    exact ⟨by rw [← Nat.mul_assoc, Nat.mul_comm], rfl⟩
  · right
    obtain ⟨k, hk⟩ : ∃ k : Nat, e - E = (k : Int) := ⟨(e - E).toNat, by omega⟩
    rw [show (E - (e + 1)).toNat = 0 by omega, show (E - e).toNat = 0 by omega, show (e + 1 - E).toNat = k + 1 by omega, show (e - E).toNat = k by omega, Nat.pow_succ]
    exact ⟨rfl, by rw [← Nat.mul_assoc, Nat.mul_comm]⟩
theorem ratMag_ok {M D : Nat} {E : Int} (hD : 0 < D) : (ratMag M D E).Ok := by
  have key : ∀ e, toQ M D E (e + 1) = toQ M D E e / 2 ∧ decide (toN M E (e + 1) % toD D E (e + 1) = 0) = (decide (toN M E e % toD D E e = 0) && decide (toQ M D E e % 2 = 0)) ∧
      ncmp (toN M E (e + 1) % toD D E (e + 1) * 2) (toD D E (e + 1)) = if toQ M D E e % 2 = 1 then (if decide (toN M E e % toD D E e = 0) = true then 0 else 1) else -1 := fun e => by
    have hC := toD_pos hD E e
    have hr := Nat.mod_lt (toN M E e) hC
    rcases to_step M D E e with ⟨h1, h2⟩ | ⟨h1, h2⟩
    · obtain ⟨a1, a2, a3⟩ := half_num (toN M E (e + 1)) (toD D E e) hC
      unfold toQ
      rw [h2]
      rw [← h1] at a1 a2 a3
      refine ⟨a1, ?_⟩
      generalize toN M E e % toD D E e = r at *
      generalize toN M E (e + 1) % toD D E e = y at *
      generalize toN M E e / toD D E e = q at *
      rcases Nat.mod_two_eq_zero_or_one q with hq | hq
      · have := a2 hq
        rw [hq]
        refine ⟨by simp; omega, ?_⟩
        rw [if_neg (by decide), ncmp_lt (by omega)]
      · have := a3 hq
        rw [hq]
        refine ⟨by simp; omega, ?_⟩
        rw [if_pos rfl]
        by_cases h0 : r = 0
        · rw [if_pos (by simpa using h0), ncmp_eq (by omega)]
        · rw [if_neg (by simpa using h0), ncmp_gt (by omega)]
    · obtain ⟨a1, a2, a3⟩ := half_den (toN M E e) (toD D E e) hC
      unfold toQ
      rw [h2, h1]
      refine ⟨a1, ?_⟩
      generalize toN M E e % toD D E e = r at *
      generalize toN M E e % (2 * toD D E e) = y at *
      generalize toN M E e / toD D E e = q at *
      rcases Nat.mod_two_eq_zero_or_one q with hq | hq
      · have := a2 hq
        rw [hq]
        refine ⟨by simp; omega, ?_⟩
        rw [if_neg (by decide), ncmp_lt (by omega)]
      · have := a3 hq
        rw [hq]
        refine ⟨by simp; omega, ?_⟩
        rw [if_pos rfl]
        by_cases h0 : r = 0
        · rw [if_pos (by simpa using h0), ncmp_eq (by omega)]
        · rw [if_neg (by simpa using h0), ncmp_gt (by omega)]
  exact ⟨fun e => (key e).1, fun e => (key e).2.1, fun e => (key e).2.2⟩

/-- The root of a quotient times a power of two: what it is taken of at a place. -/
def roN (M : Nat) (E e : Int) : Nat := M * 2 ^ (E - 2 * e).toNat
def roD (D : Nat) (E e : Int) : Nat := D * 2 ^ (2 * e - E).toNat
theorem roD_pos {D : Nat} (h : 0 < D) (E e : Int) : 0 < roD D E e := Nat.mul_pos h (Nat.two_pow_pos _)
def rootMag (M D : Nat) (E : Int) : Mag :=
  ⟨fun e => rootQ (roN M E e) (roD D E e), fun e => ncmp (roN M E e * 4) ((2 * rootQ (roN M E e) (roD D E e) + 1) * (2 * rootQ (roN M E e) (roD D E e) + 1) * roD D E e),
    fun e => decide (rootQ (roN M E e) (roD D E e) * rootQ (roN M E e) (roD D E e) * roD D E e = roN M E e)⟩
theorem cmp_cross {N D N' D' X : Nat} (hD : 0 < D) (hD' : 0 < D') (h : N * D' = 4 * (N' * D)) : ncmp (N' * 4) (X * D') = ncmp N (X * D) := by
  have hDD : 0 < D * D' := Nat.mul_pos hD hD'
  have e1 : N' * 4 * D = N * D' := by rw [h]; ac_rfl
  have e2 : X * D' * D = X * D * D' := by ac_rfl
  have k1 : N' * 4 < X * D' ↔ N < X * D := by
    rw [← Nat.mul_lt_mul_right hD, e1, e2, Nat.mul_lt_mul_right hD']
  have k2 : X * D' < N' * 4 ↔ X * D < N := by
    rw [← Nat.mul_lt_mul_right hD, e1, e2, Nat.mul_lt_mul_right hD']
  unfold ncmp
  simp only [k1, k2]
theorem rootMag_ok {M D : Nat} {E : Int} (hD : 0 < D) : (rootMag M D E).Ok := by
  have hx : ∀ e, roN M E e * roD D E (e + 1) = 4 * (roN M E (e + 1) * roD D E e) := fun e => by
    unfold roN roD
    rw [show M * 2 ^ (E - 2 * e).toNat * (D * 2 ^ (2 * (e + 1) - E).toNat) = M * D * (2 ^ (E - 2 * e).toNat * 2 ^ (2 * (e + 1) - E).toNat) by ac_rfl,
      show 4 * (M * 2 ^ (E - 2 * (e + 1)).toNat * (D * 2 ^ (2 * e - E).toNat)) = M * D * (2^2 * (2 ^ (E - 2 * (e + 1)).toNat * 2 ^ (2 * e - E).toNat)) by rw [show (2:Nat)^2 = 4 from rfl]; ac_rfl]
    rw [← Nat.pow_add, ← Nat.pow_add, ← Nat.pow_add]
    congr 2
    omega
  have key : ∀ e, (rootMag M D E).Q (e + 1) = (rootMag M D E).Q e / 2 ∧ (rootMag M D E).Z (e + 1) = ((rootMag M D E).Z e && decide ((rootMag M D E).Q e % 2 = 0)) ∧
      (rootMag M D E).H (e + 1) = if (rootMag M D E).Q e % 2 = 1 then (if (rootMag M D E).Z e = true then 0 else 1) else -1 := fun e => by
    have d0 := roD_pos hD E e
    have d1 := roD_pos hD E (e + 1)
    have h := hx e
    have hh := root_half d0 d1 h
    obtain ⟨g1, g2⟩ := rootQ_spec (roN M E e) (roD D E e) d0
    refine ⟨hh, ?_⟩
    show decide (rootQ (roN M E (e + 1)) (roD D E (e + 1)) * rootQ (roN M E (e + 1)) (roD D E (e + 1)) * roD D E (e + 1) = roN M E (e + 1)) = (decide (rootQ (roN M E e) (roD D E e) * rootQ (roN M E e) (roD D E e) * roD D E e = roN M E e) && decide (rootQ (roN M E e) (roD D E e) % 2 = 0)) ∧
      ncmp (roN M E (e + 1) * 4) ((2 * rootQ (roN M E (e + 1)) (roD D E (e + 1)) + 1) * (2 * rootQ (roN M E (e + 1)) (roD D E (e + 1)) + 1) * roD D E (e + 1)) = if rootQ (roN M E e) (roD D E e) % 2 = 1 then (if decide (rootQ (roN M E e) (roD D E e) * rootQ (roN M E e) (roD D E e) * roD D E e = roN M E e) = true then 0 else 1) else -1
    rw [hh, cmp_cross d0 d1 h]
    generalize rootQ (roN M E e) (roD D E e) = q at *
    generalize roN M E e = A at *
    generalize roD D E e = C at *
    generalize roN M E (e + 1) = A' at *
    generalize roD D E (e + 1) = C' at *
    have hz : (q / 2 * (q / 2) * C' = A') ↔ (2 * (q / 2)) * (2 * (q / 2)) * C = A := by
      constructor
      · intro h1
        rw [← h1] at h
        have : A * C' = (2 * (q / 2)) * (2 * (q / 2)) * C * C' := by rw [h, show (4 : Nat) = 2 * 2 from rfl]; ac_rfl
        exact (Nat.eq_of_mul_eq_mul_right d1 this).symm
      · intro h1
        rw [← h1] at h
        have : 4 * C * (q / 2 * (q / 2) * C') = 4 * C * A' := by
          rw [show 4 * C * A' = 4 * (A' * C) by rw [Nat.mul_assoc, Nat.mul_comm C], ← h, show (4 : Nat) = 2 * 2 from rfl]; ac_rfl
        exact Nat.eq_of_mul_eq_mul_left (by omega) this
    rcases Nat.mod_two_eq_zero_or_one q with hq | hq
    · have e2 : 2 * (q / 2) = q := by omega
      rw [e2] at hz ⊢
      refine ⟨?_, ?_⟩
      · rw [hq, decide_eq_true (rfl : (0 : Nat) = 0), Bool.and_true]
        exact decide_eq_decide.2 hz
      · rw [if_neg (by omega)]
        exact ncmp_lt g2
    · have e2 : 2 * (q / 2) + 1 = q := by omega
      rw [e2]
      have hlt : 2 * (q / 2) * (2 * (q / 2)) * C < q * q * C := by
        refine Nat.mul_lt_mul_of_pos_right ?_ d0
        exact sq_lt.2 (by omega)
      refine ⟨?_, ?_⟩
      · rw [hq, show decide ((1 : Nat) = 0) = false from rfl, Bool.and_false, decide_eq_false]
        intro hc
        have := hz.1 hc
        omega
      · rw [if_pos hq]
        by_cases h0 : q * q * C = A
        · rw [if_pos (by simpa using h0), ncmp_eq h0.symm]
        · rw [if_neg (by simpa using h0), ncmp_gt (by omega)]
  exact ⟨fun e => (key e).1, fun e => (key e).2.1, fun e => (key e).2.2⟩
end Go.Proofs.YtapahfoebpiajaaGreatDoor

/- Rounding by a way: the place that there is; one order; far below and far above; odd between. Plain mathematics. -/
namespace Go.Proofs.YtapahfoebpiajaaGreatDoor
open Go.RowKit

/-- The place of the last bit. -/
def eOf (b : Nat) (L : Int) (g : Mag) : Int := L + ((blen (g.Q L) - b : Nat) : Int)
theorem isE_of {b : Nat} {L : Int} {g : Mag} (hb : 1 ≤ b) (hg : g.Ok) : IsE b L g (eOf b L g) := by
  unfold eOf
  by_cases h : blen (g.Q L) ≤ b
  · rw [show blen (g.Q L) - b = 0 by omega, show L + ((0 : Nat) : Int) = L by omega]
    refine ⟨Int.le_refl _, ?_, .inl rfl⟩
    by_cases h0 : g.Q L = 0
    · rw [h0]; exact Nat.two_pow_pos _
    · exact Nat.lt_of_lt_of_le (blen_pos h0).2.1 (Nat.pow_le_pow_right (by decide) h)
  · exact IsE.up hg (Int.le_refl _) hb (by omega) (by omega)
/-- What a magnitude is rounded to. -/
def outG (b : Nat) (L T : Int) (neg : Bool) (mode : Int) (g : Mag) : Out := outW b T neg mode (g.Q (eOf b L g)) (g.H (eOf b L g)) (g.Z (eOf b L g)) (eOf b L g)
theorem outG_eq {b : Nat} {L T e : Int} {neg : Bool} {mode : Int} {g : Mag} (hb : 1 ≤ b) (hg : g.Ok) (h : IsE b L g e) : outG b L T neg mode g = outW b T neg mode (g.Q e) (g.H e) (g.Z e) e := by
  rw [IsE.uniq hb hg h (isE_of hb hg)]; rfl

theorem up_mono {mode h h' : Int} {neg odd : Bool} (hh : h ≤ h') (hu : upW mode neg odd h = true) : upW mode neg odd h' = true := by
  unfold upW at hu ⊢
  split at hu
  · rename_i hm; rw [if_pos hm]
    simp only [Bool.or_eq_true, decide_eq_true_eq, Bool.and_eq_true] at hu ⊢
    rcases hu with hu | ⟨hu, ho⟩
    · left; omega
    · by_cases h0 : h' = 0
      · exact .inr ⟨h0, ho⟩
      · left; omega
  · rename_i hm; rw [if_neg hm]
    split at hu
    · rename_i hm; rw [if_pos hm]; simp only [decide_eq_true_eq] at hu ⊢; omega
    · rename_i hm; rw [if_neg hm]; exact hu
/-- One magnitude is no greater than another one. -/
def LeM (g g' : Mag) : Prop := ∀ e, g.Q e ≤ g'.Q e ∧ (g.Q e = g'.Q e → g.H e ≤ g'.H e ∧ (g'.Z e = true → g.Z e = true))
theorem rn_mono {b : Nat} {L e e' : Int} {neg : Bool} {mode : Int} {g g' : Mag} (hb : 1 ≤ b) (hg' : g'.Ok) (hl : LeM g g') (h : IsE b L g e) (h' : IsE b L g' e') : rnR b L neg mode g e ≤ rnR b L neg mode g' e' := by
  have hB : 2^b = 2 * 2^(b - 1) := by rw [Nat.mul_comm, ← Nat.pow_succ]; congr 1; omega
  rcases Int.lt_trichotomy e e' with hlt | rfl | hgt
  · have a1 := h'.2.2.resolve_left (by have := h.1; omega)
    have a2 := (kW_le (neg := neg) (mode := mode) (q := g.Q e) (h := g.H e) (z := g.Z e)).2
    have a3 := (kW_le (neg := neg) (mode := mode) (q := g'.Q e') (h := g'.H e') (z := g'.Z e')).1
    have a4 := h.2.1
    unfold rnR
    obtain ⟨x, hx⟩ : ∃ x : Nat, e = L + x := ⟨(e - L).toNat, by have := h.1; omega⟩
    obtain ⟨y, hy⟩ : ∃ y : Nat, e' = L + y := ⟨(e' - L).toNat, by have := h'.1; omega⟩
    subst hx hy
    rw [show (L + (x : Int) - L).toNat = x by omega, show (L + (y : Int) - L).toNat = y by omega]
    have := Nat.mul_le_mul_right (2^(b - 1)) (show x + 1 ≤ y by omega)
    rw [Nat.add_mul, Nat.one_mul] at this
    omega
  · unfold rnR
    obtain ⟨k1, k2⟩ := hl e
    have a2 := (kW_le (neg := neg) (mode := mode) (q := g.Q e) (h := g.H e) (z := g.Z e)).2
    have a3 := (kW_le (neg := neg) (mode := mode) (q := g'.Q e) (h := g'.H e) (z := g'.Z e)).1
    by_cases hq : g.Q e = g'.Q e
    · obtain ⟨k3, k4⟩ := k2 hq
      have : kW neg mode (g.Q e) (g.H e) (g.Z e) ≤ kW neg mode (g'.Q e) (g'.H e) (g'.Z e) := by
        unfold kW
        rw [← hq]
        by_cases hc : (!g.Z e && upW mode neg (decide (g.Q e % 2 = 1)) (g.H e)) = true
        · have hc' : (!g'.Z e && upW mode neg (decide (g.Q e % 2 = 1)) (g'.H e)) = true := by
            rw [Bool.and_eq_true] at hc ⊢
            refine ⟨?_, up_mono k3 hc.2⟩
            cases hz : g'.Z e
            · rfl
            · rw [k4 hz] at hc; exact hc.1
          rw [if_pos hc, if_pos hc']; exact Nat.le_refl _
        · rw [if_neg hc]; split <;> omega
      omega
    · omega
  · exfalso
    have a1 := h.2.2.resolve_left (by have := h'.1; omega)
    have a2 := (hl e).1
    obtain ⟨k, hk⟩ : ∃ k : Nat, e = e' + 1 + k := ⟨(e - e' - 1).toNat, by omega⟩
    have a3 := hg'.anti (show e' + 1 ≤ e by omega)
    rw [hg'.next] at a3
    have a4 := h'.2.1
    omega
theorem out_mono {b : Nat} {L T : Int} {neg : Bool} {mode : Int} {g g' : Mag} (hb : 2 ≤ b) (hLT : L ≤ T) (hg : g.Ok) (hg' : g'.Ok) (hl : LeM g g') :
    (outG b L T neg mode g).rung b L T ≤ (outG b L T neg mode g').rung b L T := by
  have e1 := isE_of (b := b) (L := L) (by omega) hg
  have e2 := isE_of (b := b) (L := L) (by omega) hg'
  have hm := rn_mono (neg := neg) (mode := mode) (by omega) hg' hl e1 e2
  unfold outG
  rw [(out_rung hb hLT e1).2, (out_rung hb hLT e2).2]
  split <;> split <;> (try split) <;> omega

/-- Far below. -/
theorem outG_tiny {b : Nat} {L T : Int} {neg : Bool} {mode : Int} {g : Mag} (hb : 1 ≤ b) (hg : g.Ok) (hq : g.Q L = 0) (hh : g.H L = -1) (hz : g.Z L = false) : outG b L T neg mode g = outW b T neg mode 0 (-1) false L := by
  rw [outG_eq hb hg (e := L) ⟨Int.le_refl _, by rw [hq]; exact Nat.two_pow_pos _, .inl rfl⟩, hq, hh, hz]
/-- Far above. -/
def bigW (b : Nat) (T : Int) (neg : Bool) (mode : Int) : Out := if maxW mode neg = true then ⟨false, 2^b - 1, T, true, true, false⟩ else ⟨true, 0, 0, true, true, false⟩
theorem outG_huge {b : Nat} {L T : Int} {neg : Bool} {mode : Int} {g : Mag} (hb : 1 ≤ b) (hg : g.Ok) (hLT : L ≤ T) (hq : 2^b ≤ g.Q T) : outG b L T neg mode g = bigW b T neg mode := by
  have h := isE_of (b := b) (L := L) hb hg
  unfold outG
  obtain ⟨e, he⟩ : ∃ e, e = eOf b L g := ⟨_, rfl⟩
  rw [← he] at h ⊢
  have hlt : T < e := by
    refine Decidable.byContradiction fun hc => ?_
    have := hg.anti (show e ≤ T by omega)
    have := h.2.1
    omega
  have hge := h.2.2.resolve_left (by omega)
  unfold outW bigW
  rw [if_pos (by split <;> omega), decide_eq_false (p := g.Q e < 2^(b - 1)) (by omega), Bool.and_false]
end Go.Proofs.YtapahfoebpiajaaGreatDoor

/- Decimals' magnitudes; those far above and far below. Plain mathematics. -/
namespace Go.Proofs.YtapahfoebpiajaaGreatDoor
open Go.RowKit

/-- N / N' times 10^x. -/
def quoM (N : Nat) (x : Int) : Nat := N * 10 ^ x.toNat
def quoD (N' : Nat) (x : Int) : Nat := N' * 10 ^ (-x).toNat
theorem ten_pos (k : Nat) : 0 < 10 ^ k := Nat.pow_pos (by decide)
theorem quoD_pos {N' : Nat} (h : 0 < N') (x : Int) : 0 < quoD N' x := Nat.mul_pos h (ten_pos _)
theorem quoM_pos {N : Nat} (h : 0 < N) (x : Int) : 0 < quoM N x := Nat.mul_pos h (ten_pos _)
theorem two_ten (k : Nat) : 2 ^ (3 * k) ≤ 10 ^ k := by
  rw [Nat.pow_mul]; exact Nat.pow_le_pow_left (by decide) k
theorem quo_big {N N' la lb k : Nat} {x : Int} (h1 : 10 ^ (la - 1) ≤ N) (h2 : N' ≤ 10 ^ lb) (h : (lb : Int) + k ≤ (la - 1 : Nat) + x) : quoD N' x * 10 ^ k ≤ quoM N x := by
  unfold quoD quoM
  calc N' * 10 ^ (-x).toNat * 10 ^ k ≤ 10 ^ lb * 10 ^ (-x).toNat * 10 ^ k := Nat.mul_le_mul_right _ (Nat.mul_le_mul_right _ h2)
    _ = 10 ^ (lb + (-x).toNat + k) := by rw [Nat.pow_add, Nat.pow_add]
    _ ≤ 10 ^ (la - 1 + x.toNat) := Nat.pow_le_pow_right (by decide) (by omega)
    _ = 10 ^ (la - 1) * 10 ^ x.toNat := Nat.pow_add ..
    _ ≤ N * 10 ^ x.toNat := Nat.mul_le_mul_right _ h1
theorem quo_small {N N' la lb k : Nat} {x : Int} (h1 : N < 10 ^ la) (h2 : 10 ^ (lb - 1) ≤ N') (h : (la : Int) + x + k ≤ (lb - 1 : Nat)) : quoM N x * 10 ^ k < quoD N' x := by
  unfold quoD quoM
  calc N * 10 ^ x.toNat * 10 ^ k < 10 ^ la * 10 ^ x.toNat * 10 ^ k := Nat.mul_lt_mul_of_pos_right (Nat.mul_lt_mul_of_pos_right h1 (ten_pos _)) (ten_pos _)
    _ = 10 ^ (la + x.toNat + k) := by rw [Nat.pow_add, Nat.pow_add]
    _ ≤ 10 ^ (lb - 1 + (-x).toNat) := Nat.pow_le_pow_right (by decide) (by omega)
    _ = 10 ^ (lb - 1) * 10 ^ (-x).toNat := Nat.pow_add ..
    _ ≤ N' * 10 ^ (-x).toNat := Nat.mul_le_mul_right _ h2

theorem rat_huge {M D b T : Nat} (hD : 0 < D) (h : D * 2 ^ (T + b) ≤ M) : 2 ^ b ≤ (ratMag M D 0).Q T := by
  show 2 ^ b ≤ M * 2 ^ (0 - (T : Int)).toNat / (D * 2 ^ ((T : Int) - 0).toNat)
  rw [show (0 - (T : Int)).toNat = 0 by omega, show ((T : Int) - 0).toNat = T by omega, Nat.pow_zero, Nat.mul_one, Nat.le_div_iff_mul_le (Nat.mul_pos hD (Nat.two_pow_pos _))]
  rw [Nat.pow_add] at h
  calc 2 ^ b * (D * 2 ^ T) = D * (2 ^ T * 2 ^ b) := by ac_rfl
    _ ≤ M := h
theorem rat_tiny {M D l : Nat} (hM : 0 < M) (h : M * 2 ^ (l + 1) < D) : (ratMag M D 0).Q (-(l : Int)) = 0 ∧ (ratMag M D 0).H (-(l : Int)) = -1 ∧ (ratMag M D 0).Z (-(l : Int)) = false := by
  show M * 2 ^ (0 - -(l : Int)).toNat / (D * 2 ^ (-(l : Int) - 0).toNat) = 0 ∧ ncmp (M * 2 ^ (0 - -(l : Int)).toNat % (D * 2 ^ (-(l : Int) - 0).toNat) * 2) (D * 2 ^ (-(l : Int) - 0).toNat) = -1 ∧ decide (M * 2 ^ (0 - -(l : Int)).toNat % (D * 2 ^ (-(l : Int) - 0).toNat) = 0) = false
  rw [show (0 - -(l : Int)).toNat = l by omega, show (-(l : Int) - 0).toNat = 0 by omega, Nat.pow_zero, Nat.mul_one]
  rw [Nat.pow_succ, ← Nat.mul_assoc] at h
  have h0 : 0 < M * 2 ^ l := Nat.mul_pos hM (Nat.two_pow_pos _)
  have h1 : M * 2 ^ l < D := by omega
  rw [Nat.div_eq_of_lt h1, Nat.mod_eq_of_lt h1]
  exact ⟨rfl, ncmp_lt h, decide_eq_false (by omega)⟩
theorem root_huge {M D b T : Nat} (hD : 0 < D) (h : D * 2 ^ (2 * (T + b)) ≤ M) : 2 ^ b ≤ (rootMag M D 0).Q T := by
  have hD' : 0 < roD D 0 T := roD_pos hD _ _
  obtain ⟨g1, g2⟩ := rootQ_spec (roN M 0 T) (roD D 0 T) hD'
  show 2 ^ b ≤ rootQ (roN M 0 T) (roD D 0 T)
  have h1 : 2 ^ b * 2 ^ b * roD D 0 T ≤ roN M 0 T := by
    unfold roN roD
    rw [show (0 - 2 * (T : Int)).toNat = 0 by omega, show (2 * (T : Int) - 0).toNat = 2 * T by omega, Nat.pow_zero, Nat.mul_one]
    calc 2 ^ b * 2 ^ b * (D * 2 ^ (2 * T)) = D * (2 ^ b * 2 ^ b * 2 ^ (2 * T)) := by ac_rfl
      _ = D * 2 ^ (2 * (T + b)) := by rw [← Nat.pow_add, ← Nat.pow_add]; congr 2; omega
      _ ≤ M := h
  have h2 : 2 ^ b * 2 ^ b < (rootQ (roN M 0 T) (roD D 0 T) + 1) * (rootQ (roN M 0 T) (roD D 0 T) + 1) := Nat.lt_of_mul_lt_mul_right (Nat.lt_of_le_of_lt h1 g2)
  have := sq_lt.1 h2
  omega
theorem root_tiny {M D l : Nat} (hM : 0 < M) (h : M * 2 ^ (2 * l + 2) < D) : (rootMag M D 0).Q (-(l : Int)) = 0 ∧ (rootMag M D 0).H (-(l : Int)) = -1 ∧ (rootMag M D 0).Z (-(l : Int)) = false := by
  have hD : 0 < D := by omega
  have e1 : roN M 0 (-(l : Int)) = M * 2 ^ (2 * l) := by unfold roN; rw [show (0 - 2 * -(l : Int)).toNat = 2 * l by omega]
  have e2 : roD D 0 (-(l : Int)) = D := by unfold roD; rw [show (2 * -(l : Int) - 0).toNat = 0 by omega, Nat.pow_zero, Nat.mul_one]
  rw [Nat.pow_add, ← Nat.mul_assoc] at h
  have h0 : 0 < M * 2 ^ (2 * l) := Nat.mul_pos hM (Nat.two_pow_pos _)
  have hq : rootQ (M * 2 ^ (2 * l)) D = 0 := (rootQ_uniq hD (by omega) (by omega)).symm
  show rootQ (roN M 0 (-(l : Int))) (roD D 0 (-(l : Int))) = 0 ∧ ncmp (roN M 0 (-(l : Int)) * 4) ((2 * rootQ (roN M 0 (-(l : Int))) (roD D 0 (-(l : Int))) + 1) * (2 * rootQ (roN M 0 (-(l : Int))) (roD D 0 (-(l : Int))) + 1) * roD D 0 (-(l : Int))) = -1 ∧
    decide (rootQ (roN M 0 (-(l : Int))) (roD D 0 (-(l : Int))) * rootQ (roN M 0 (-(l : Int))) (roD D 0 (-(l : Int))) * roD D 0 (-(l : Int)) = roN M 0 (-(l : Int))) = false
  rw [e1, e2, hq]
  exact ⟨rfl, ncmp_lt (by omega), decide_eq_false (by omega)⟩
/-- Two that are both far above, or both far below, are rounded alike. -/
def Far (b : Nat) (L T : Int) (g : Mag) (up : Bool) : Prop := if up = true then 2 ^ b ≤ g.Q T else g.Q L = 0 ∧ g.H L = -1 ∧ g.Z L = false
theorem far_out {b : Nat} {L T : Int} {neg up : Bool} {mode : Int} {g g' : Mag} (hb : 1 ≤ b) (hLT : L ≤ T) (hg : g.Ok) (hg' : g'.Ok) (h : Far b L T g up) (h' : Far b L T g' up) : outG b L T neg mode g = outG b L T neg mode g' := by
  unfold Far at h h'
  cases up
  · rw [if_neg (by decide)] at h h'
    rw [outG_tiny hb hg h.1 h.2.1 h.2.2, outG_tiny hb hg' h'.1 h'.2.1 h'.2.2]
  · rw [if_pos rfl] at h h'
    rw [outG_huge hb hg hLT h, outG_huge hb hg' hLT h']
end Go.Proofs.YtapahfoebpiajaaGreatDoor

/- How many bits a quotient, a root has at a place. Plain mathematics. -/
namespace Go.Proofs.YtapahfoebpiajaaGreatDoor
open Go.RowKit

theorem toQ_ge {M D k : Nat} {E e : Int} (hM : M ≠ 0) (hD : 0 < D) (h : (k : Int) ≤ (blen M : Int) - 1 - blen D + E - e) : 2 ^ k ≤ toQ M D E e := by
  obtain ⟨a1, -, a3⟩ := blen_pos hM
  obtain ⟨-, b2, b3⟩ := blen_pos (show D ≠ 0 by omega)
  unfold toQ
  rw [Nat.le_div_iff_mul_le (toD_pos hD E e)]
  unfold toN toD
  calc 2 ^ k * (D * 2 ^ (e - E).toNat) ≤ 2 ^ k * (2 ^ blen D * 2 ^ (e - E).toNat) := Nat.mul_le_mul_left _ (Nat.mul_le_mul_right _ (Nat.le_of_lt b2))
    _ = 2 ^ (k + (blen D + (e - E).toNat)) := by rw [Nat.pow_add, Nat.pow_add]
    _ ≤ 2 ^ (blen M - 1 + (E - e).toNat) := Nat.pow_le_pow_right (by decide) (by omega)
    _ = 2 ^ (blen M - 1) * 2 ^ (E - e).toNat := Nat.pow_add ..
    _ ≤ M * 2 ^ (E - e).toNat := Nat.mul_le_mul_right _ a1
theorem toQ_lt {M D k : Nat} {E e : Int} (hM : M ≠ 0) (hD : 0 < D) (h : (blen M : Int) - blen D + 1 + E - e ≤ k) : toQ M D E e < 2 ^ k := by
  obtain ⟨-, a2, a3⟩ := blen_pos hM
  obtain ⟨b1, -, b3⟩ := blen_pos (show D ≠ 0 by omega)
  unfold toQ
  rw [Nat.div_lt_iff_lt_mul (toD_pos hD E e)]
  unfold toN toD
  calc M * 2 ^ (E - e).toNat < 2 ^ blen M * 2 ^ (E - e).toNat := Nat.mul_lt_mul_of_pos_right a2 (Nat.two_pow_pos _)
    _ = 2 ^ (blen M + (E - e).toNat) := (Nat.pow_add ..).symm
    _ ≤ 2 ^ (k + (blen D - 1 + (e - E).toNat)) := Nat.pow_le_pow_right (by decide) (by omega)
    _ = 2 ^ k * (2 ^ (blen D - 1) * 2 ^ (e - E).toNat) := by rw [Nat.pow_add, Nat.pow_add]
    _ ≤ 2 ^ k * (D * 2 ^ (e - E).toNat) := Nat.mul_le_mul_left _ (Nat.mul_le_mul_right _ b1)
theorem rootQ_ge {M D k : Nat} {E e : Int} (hM : M ≠ 0) (hD : 0 < D) (h : (2 * k : Nat) ≤ (blen M : Int) - 1 - blen D + E - 2 * e) : 2 ^ k ≤ (rootMag M D E).Q e := by
  obtain ⟨a1, -, a3⟩ := blen_pos hM
  obtain ⟨-, b2, b3⟩ := blen_pos (show D ≠ 0 by omega)
  obtain ⟨g1, g2⟩ := rootQ_spec (roN M E e) (roD D E e) (roD_pos hD E e)
  show 2 ^ k ≤ rootQ (roN M E e) (roD D E e)
  have h1 : 2 ^ k * 2 ^ k * roD D E e ≤ roN M E e := by
    unfold roN roD
    calc 2 ^ k * 2 ^ k * (D * 2 ^ (2 * e - E).toNat) ≤ 2 ^ k * 2 ^ k * (2 ^ blen D * 2 ^ (2 * e - E).toNat) := Nat.mul_le_mul_left _ (Nat.mul_le_mul_right _ (Nat.le_of_lt b2))
      _ = 2 ^ (k + k + (blen D + (2 * e - E).toNat)) := by rw [Nat.pow_add, Nat.pow_add, Nat.pow_add]
      _ ≤ 2 ^ (blen M - 1 + (E - 2 * e).toNat) := Nat.pow_le_pow_right (by decide) (by omega)
      _ = 2 ^ (blen M - 1) * 2 ^ (E - 2 * e).toNat := Nat.pow_add ..
      _ ≤ M * 2 ^ (E - 2 * e).toNat := Nat.mul_le_mul_right _ a1
  have h2 := sq_lt.1 (Nat.lt_of_mul_lt_mul_right (Nat.lt_of_le_of_lt h1 g2))
  omega
theorem rootQ_lt {M D k : Nat} {E e : Int} (hM : M ≠ 0) (hD : 0 < D) (h : (blen M : Int) - blen D + 1 + E - 2 * e ≤ (2 * k : Nat)) : (rootMag M D E).Q e < 2 ^ k := by
  obtain ⟨-, a2, a3⟩ := blen_pos hM
  obtain ⟨b1, -, b3⟩ := blen_pos (show D ≠ 0 by omega)
  obtain ⟨g1, g2⟩ := rootQ_spec (roN M E e) (roD D E e) (roD_pos hD E e)
  show rootQ (roN M E e) (roD D E e) < 2 ^ k
  have h1 : roN M E e < 2 ^ k * 2 ^ k * roD D E e := by
    unfold roN roD
    calc M * 2 ^ (E - 2 * e).toNat < 2 ^ blen M * 2 ^ (E - 2 * e).toNat := Nat.mul_lt_mul_of_pos_right a2 (Nat.two_pow_pos _)
      _ = 2 ^ (blen M + (E - 2 * e).toNat) := (Nat.pow_add ..).symm
      _ ≤ 2 ^ (k + k + (blen D - 1 + (2 * e - E).toNat)) := Nat.pow_le_pow_right (by decide) (by omega)
      _ = 2 ^ k * 2 ^ k * (2 ^ (blen D - 1) * 2 ^ (2 * e - E).toNat) := by rw [Nat.pow_add, Nat.pow_add, Nat.pow_add]
      _ ≤ 2 ^ k * 2 ^ k * (D * 2 ^ (2 * e - E).toNat) := Nat.mul_le_mul_left _ (Nat.mul_le_mul_right _ b1)
  exact sq_lt.1 (Nat.lt_of_mul_lt_mul_right (Nat.lt_of_le_of_lt g1 h1))
/-- Where the program's float starts: either at the least place, or with more bits than there are. -/
theorem float_place {b : Nat} {L e0 : Int} {g : Mag} (hb : 1 ≤ b) (hg : g.Ok) (hL : L ≤ e0) (h : e0 = L ∨ 2 ^ b ≤ g.Q e0) :
    IsE b L g (if b < blen (g.Q e0) then e0 + ((blen (g.Q e0) - b : Nat) : Int) else e0) := by
  by_cases hk : b < blen (g.Q e0)
  · rw [if_pos hk]
    exact IsE.up hg hL hb (by omega) (by omega)
  · rw [if_neg hk]
    have hlt : g.Q e0 < 2 ^ b := by
      by_cases h0 : g.Q e0 = 0
      · rw [h0]; exact Nat.two_pow_pos _
      · exact Nat.lt_of_lt_of_le (blen_pos h0).2.1 (Nat.pow_le_pow_right (by decide) (by omega))
    exact ⟨hL, hlt, .inl (h.resolve_right (by omega))⟩
end Go.Proofs.YtapahfoebpiajaaGreatDoor

/- One magnitude no greater than another: quotients and roots. Plain mathematics. -/
namespace Go.Proofs.YtapahfoebpiajaaGreatDoor
open Go.RowKit

theorem cut_le {A C A' C' : Nat} (hC : 0 < C) (hC' : 0 < C') (h : A * C' ≤ A' * C) :
    A / C ≤ A' / C' ∧ (A / C = A' / C' → ncmp (A % C * 2) C ≤ ncmp (A' % C' * 2) C' ∧ (A' % C' = 0 → A % C = 0)) := by
  have h1 := Nat.div_add_mod A C
  have h2 := Nat.mod_lt A hC
  have h1' := Nat.div_add_mod A' C'
  have h2' := Nat.mod_lt A' hC'
  obtain ⟨q, hq⟩ : ∃ q, q = A / C := ⟨_, rfl⟩
  obtain ⟨r, hr⟩ : ∃ r, r = A % C := ⟨_, rfl⟩
  obtain ⟨q', hq'⟩ : ∃ q, q = A' / C' := ⟨_, rfl⟩
  obtain ⟨r', hr'⟩ : ∃ r, r = A' % C' := ⟨_, rfl⟩
  rw [← hq, ← hr] at h1
  rw [← hr] at h2
  rw [← hq', ← hr'] at h1'
  rw [← hr'] at h2'
  rw [← hq, ← hr, ← hq', ← hr']
  have e1 : A * C' = q * (C * C') + r * C' := by rw [← h1, Nat.add_mul]; congr 1; ac_rfl
  have e2 : A' * C = q' * (C * C') + r' * C := by rw [← h1', Nat.add_mul]; congr 1; ac_rfl
  have b1 : r * C' < C * C' := Nat.mul_lt_mul_of_pos_right h2 hC'
  have b2 : r' * C < C * C' := by rw [Nat.mul_comm C]; exact Nat.mul_lt_mul_of_pos_right h2' hC
  rw [e1, e2] at h
  have hle : q ≤ q' := by
    refine Decidable.byContradiction fun hc => ?_
    have := Nat.mul_le_mul_right (C * C') (show q' + 1 ≤ q by omega)
    rw [Nat.add_mul, Nat.one_mul] at this
    omega
  refine ⟨hle, fun he => ?_⟩
  rw [he] at h
  have hr2 : r * C' ≤ r' * C := by omega
  constructor
  · have k1 : C < r * 2 → C' < r' * 2 := fun hlt => by
      have a1 := Nat.mul_lt_mul_of_pos_right hlt hC'
      rw [Nat.mul_right_comm] at a1
      have a2 : r * C' * 2 ≤ r' * C * 2 := Nat.mul_le_mul_right 2 hr2
      have a3 : C' * C < r' * 2 * C := by rw [Nat.mul_comm C', Nat.mul_right_comm]; omega
      exact Nat.lt_of_mul_lt_mul_right a3
    have k2 : C ≤ r * 2 → C' ≤ r' * 2 := fun hlt => by
      have a1 := Nat.mul_le_mul_right C' hlt
      rw [Nat.mul_right_comm] at a1
      have a2 : r * C' * 2 ≤ r' * C * 2 := Nat.mul_le_mul_right 2 hr2
      have a3 : C' * C ≤ r' * 2 * C := by rw [Nat.mul_comm C', Nat.mul_right_comm]; omega
      exact Nat.le_of_mul_le_mul_right a3 hC
    unfold ncmp
    split
    · split; omega; split <;> omega
    · split
      · have := k1 (by assumption)
        rw [if_neg (by omega), if_pos this]; omega
      · have := k2 (by omega)
        rw [if_neg (by omega)]; split <;> omega
  · intro h0
    rw [h0, Nat.zero_mul] at hr2
    rcases Nat.mul_eq_zero.1 (Nat.le_zero.1 hr2) with h | h
    · exact h
    · omega
theorem rat_le {M D M' D' : Nat} (hD : 0 < D) (hD' : 0 < D') (h : M * D' ≤ M' * D) : LeM (ratMag M D 0) (ratMag M' D' 0) := by
  intro e
  have hx : toN M 0 e * toD D' 0 e ≤ toN M' 0 e * toD D 0 e := by
    unfold toN toD
    calc M * 2 ^ (0 - e).toNat * (D' * 2 ^ (e - 0).toNat) = M * D' * (2 ^ (0 - e).toNat * 2 ^ (e - 0).toNat) := by ac_rfl
      _ ≤ M' * D * (2 ^ (0 - e).toNat * 2 ^ (e - 0).toNat) := Nat.mul_le_mul_right _ h
      _ = M' * 2 ^ (0 - e).toNat * (D * 2 ^ (e - 0).toNat) := by ac_rfl
  obtain ⟨a1, a2⟩ := cut_le (toD_pos hD 0 e) (toD_pos hD' 0 e) hx
  refine ⟨a1, fun he => ?_⟩
  obtain ⟨a3, a4⟩ := a2 he
  exact ⟨a3, fun hz => decide_eq_true (a4 (of_decide_eq_true hz))⟩
theorem root_le {M D M' D' : Nat} (hD : 0 < D) (hD' : 0 < D') (h : M * D' ≤ M' * D) : LeM (rootMag M D 0) (rootMag M' D' 0) := by
  intro e
  have d0 := roD_pos hD 0 e
  have d1 := roD_pos hD' 0 e
  have hx : roN M 0 e * roD D' 0 e ≤ roN M' 0 e * roD D 0 e := by
    unfold roN roD
    calc M * 2 ^ (0 - 2 * e).toNat * (D' * 2 ^ (2 * e - 0).toNat) = M * D' * (2 ^ (0 - 2 * e).toNat * 2 ^ (2 * e - 0).toNat) := by ac_rfl
      _ ≤ M' * D * (2 ^ (0 - 2 * e).toNat * 2 ^ (2 * e - 0).toNat) := Nat.mul_le_mul_right _ h
      _ = M' * 2 ^ (0 - 2 * e).toNat * (D * 2 ^ (2 * e - 0).toNat) := by ac_rfl
  obtain ⟨g1, g2⟩ := rootQ_spec (roN M 0 e) (roD D 0 e) d0
  obtain ⟨g1', g2'⟩ := rootQ_spec (roN M' 0 e) (roD D' 0 e) d1
  show rootQ (roN M 0 e) (roD D 0 e) ≤ rootQ (roN M' 0 e) (roD D' 0 e) ∧ (rootQ (roN M 0 e) (roD D 0 e) = rootQ (roN M' 0 e) (roD D' 0 e) →
    ncmp (roN M 0 e * 4) ((2 * rootQ (roN M 0 e) (roD D 0 e) + 1) * (2 * rootQ (roN M 0 e) (roD D 0 e) + 1) * roD D 0 e) ≤ ncmp (roN M' 0 e * 4) ((2 * rootQ (roN M' 0 e) (roD D' 0 e) + 1) * (2 * rootQ (roN M' 0 e) (roD D' 0 e) + 1) * roD D' 0 e) ∧
    (decide (rootQ (roN M' 0 e) (roD D' 0 e) * rootQ (roN M' 0 e) (roD D' 0 e) * roD D' 0 e = roN M' 0 e) = true → decide (rootQ (roN M 0 e) (roD D 0 e) * rootQ (roN M 0 e) (roD D 0 e) * roD D 0 e = roN M 0 e) = true))
  generalize rootQ (roN M 0 e) (roD D 0 e) = q at *
  generalize rootQ (roN M' 0 e) (roD D' 0 e) = q' at *
  generalize roN M 0 e = A at *
  generalize roD D 0 e = C at *
  generalize roN M' 0 e = A' at *
  generalize roD D' 0 e = C' at *
  constructor
  · have a1 : q * q * C * C' ≤ A * C' := Nat.mul_le_mul_right _ g1
    have a2 : A' * C < (q' + 1) * (q' + 1) * C' * C := Nat.mul_lt_mul_of_pos_right g2' d0
    have a3 : q * q * (C * C') < (q' + 1) * (q' + 1) * (C * C') := by
      calc q * q * (C * C') = q * q * C * C' := by ac_rfl
        _ ≤ A * C' := a1
        _ ≤ A' * C := hx
        _ < (q' + 1) * (q' + 1) * C' * C := a2
        _ = (q' + 1) * (q' + 1) * (C * C') := by ac_rfl
    have := sq_lt.1 (Nat.lt_of_mul_lt_mul_right a3)
    omega
  · intro he
    subst he
    constructor
    · obtain ⟨X, hX⟩ : ∃ X, X = (2 * q + 1) * (2 * q + 1) := ⟨_, rfl⟩
      rw [← hX]
      have k1 : X * C < A * 4 → X * C' < A' * 4 := fun hlt => by
        have a1 : X * C * C' < A * 4 * C' := Nat.mul_lt_mul_of_pos_right hlt d1
        have a2 : A * 4 * C' ≤ A' * 4 * C := by rw [Nat.mul_right_comm, Nat.mul_right_comm A']; exact Nat.mul_le_mul_right 4 hx
        have a3 : X * C' * C < A' * 4 * C := by rw [Nat.mul_right_comm]; omega
        exact Nat.lt_of_mul_lt_mul_right a3
      have k2 : X * C ≤ A * 4 → X * C' ≤ A' * 4 := fun hlt => by
        have a1 : X * C * C' ≤ A * 4 * C' := Nat.mul_le_mul_right _ hlt
        have a2 : A * 4 * C' ≤ A' * 4 * C := by rw [Nat.mul_right_comm, Nat.mul_right_comm A']; exact Nat.mul_le_mul_right 4 hx
        have a3 : X * C' * C ≤ A' * 4 * C := by rw [Nat.mul_right_comm]; omega
        exact Nat.le_of_mul_le_mul_right a3 d0
      unfold ncmp
      split
      · split; omega; split <;> omega
      · split
        · have := k1 (by assumption)
          rw [if_neg (by omega), if_pos this]; omega
        · have := k2 (by omega)
          rw [if_neg (by omega)]; split <;> omega
    · intro hz
      have hz := of_decide_eq_true hz
      refine decide_eq_true (Nat.le_antisymm g1 ?_)
      rw [← hz] at hx
      have : A * C' ≤ q * q * C * C' := by rw [show q * q * C * C' = q * q * C' * C by ac_rfl]; exact hx
      exact Nat.le_of_mul_le_mul_right this d1
end Go.Proofs.YtapahfoebpiajaaGreatDoor
