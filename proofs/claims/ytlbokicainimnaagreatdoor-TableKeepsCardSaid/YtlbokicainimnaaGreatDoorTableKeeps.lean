/- TableKeeps: for every input the law returns true, tied to the text of the variables that the code reads. The walk stands ahead of it. -/
import Derived.Test.YtlbokicainimnaaGreatDoorPJJ
import Derived.Test.YtlbokicainimnaaGreatDoorPTE
import Derived.Test.YtlbokicainimnaaGreatDoorPRE
import Derived.Test.YtlbokicainimnaaGreatDoorCards
import Derived.Test.YtlbokicainimnaaGreatDoorTie
import Derived.WalkKit
import Derived.ProofKit
import Derived.OpenShut
import Derived.Deep.DeepHandedRow
import Derived.Lib.LaidTab
import Derived.SizedLaws
namespace Go.Proofs.YtlbokicainimnaaGreatDoor
section

/-- The rung that it is rounded to, were there rungs without end. -/
def rnR (b : Nat) (L : Int) (neg : Bool) (mode : Int) (g : Mag) (e : Int) : Nat := (e - L).toNat * 2^(b - 1) + kW neg mode (g.Q e) (g.H e) (g.Z e)
theorem out_rung {b : Nat} {L T e : Int} {neg : Bool} {mode : Int} {g : Mag} (hb : 2 ≤ b) (hLT : L ≤ T) (h : IsE b L g e) :
    (outW b T neg mode (g.Q e) (g.H e) (g.Z e) e).ov = decide (infR b L T ≤ rnR b L neg mode g e) ∧
    (outW b T neg mode (g.Q e) (g.H e) (g.Z e) e).rung b L T = (if infR b L T ≤ rnR b L neg mode g e then (if maxW mode neg = true then infR b L T - 1 else infR b L T) else rnR b L neg mode g e) := by
  obtain ⟨h1, h2, h3⟩ := h
  have hk := kW_le (neg := neg) (mode := mode) (q := g.Q e) (h := g.H e) (z := g.Z e)
  have h0 : 2^b = 2 * 2^(b - 1) := by rw [Nat.mul_comm, ← Nat.pow_succ]; congr 1; omega
  obtain ⟨B, hB⟩ : ∃ B, B = 2^(b - 1) := ⟨_, rfl⟩
  have hB0 : 0 < B := by rw [hB]; exact Nat.two_pow_pos _
  obtain ⟨K, hK⟩ : ∃ K, K = kW neg mode (g.Q e) (g.H e) (g.Z e) := ⟨_, rfl⟩
  unfold outW Out.rung rnR infR
  rw [h0] at h2
  rw [← hK, h0, ← hB]
  rw [← hK] at hk
  rw [← hB] at h2 h3
  obtain ⟨x, hx⟩ : ∃ x : Nat, e = L + x := ⟨(e - L).toNat, by omega⟩
  obtain ⟨t, ht⟩ : ∃ t : Nat, T = L + t := ⟨(T - L).toNat, by omega⟩
  subst hx ht
  rw [show (L + (x : Int) - L).toNat = x by omega, show (L + (t : Int) - L + 2).toNat = t + 2 by omega]
  have e1 : (t + 2) * B = t * B + 2 * B := by rw [Nat.add_mul]
  have e2 : (x + 1) * B = x * B + B := by rw [Nat.add_mul, Nat.one_mul]
  have hmono : x ≤ t → x * B ≤ t * B := fun h => Nat.mul_le_mul_right B h
  have hmono2 : t + 1 ≤ x → t * B + B ≤ x * B := fun h => by have := Nat.mul_le_mul_right B h; rw [Nat.add_mul, Nat.one_mul] at this; exact this
  have hmono3 : x + 1 ≤ t → x * B + B ≤ t * B := fun h => by have := Nat.mul_le_mul_right B h; rw [Nat.add_mul, Nat.one_mul] at this; exact this
  by_cases hKb : K = 2 * B
  · rw [if_pos hKb, if_pos hKb]
    by_cases ho : L + (t : Int) < L + (x : Int) + 1
    · have hov : (t + 2) * B ≤ x * B + K := by
        rw [e1, hKb]
        have := Nat.mul_le_mul_right B (show t ≤ x by omega)
        omega
      rw [if_pos ho, if_pos hov, decide_eq_true hov]
      cases maxW mode neg
      · exact ⟨rfl, rfl⟩
      · refine ⟨rfl, ?_⟩
        show (L + (t : Int) - L).toNat * B + (2 * B - 1) = (t + 2) * B - 1
        rw [show (L + (t : Int) - L).toNat = t by omega, e1]; omega
    · have hov : ¬ (t + 2) * B ≤ x * B + K := by
        rw [e1, hKb]
        have := hmono3 (by omega)
        omega
      rw [if_neg ho, if_neg hov, decide_eq_false hov]
      refine ⟨rfl, ?_⟩
      show (L + (x : Int) + 1 - L).toNat * B + B = x * B + K
      rw [show (L + (x : Int) + 1 - L).toNat = x + 1 by omega, hKb, e2]; omega
  · rw [if_neg hKb, if_neg hKb]
    by_cases ho : L + (t : Int) < L + (x : Int)
    · have hov : (t + 2) * B ≤ x * B + K := by
        rw [e1]
        have a1 := h3.resolve_left (by omega)
        have := hmono2 (by omega)
        omega
      rw [if_pos ho, if_pos hov, decide_eq_true hov]
      cases maxW mode neg
      · exact ⟨rfl, rfl⟩
      · refine ⟨rfl, ?_⟩
        show (L + (t : Int) - L).toNat * B + (2 * B - 1) = (t + 2) * B - 1
        rw [show (L + (t : Int) - L).toNat = t by omega, e1]; omega
    · have hov : ¬ (t + 2) * B ≤ x * B + K := by
        rw [e1]
        have := hmono (by omega)
        omega
      rw [if_neg ho, if_neg hov, decide_eq_false hov]
      refine ⟨rfl, ?_⟩
      show (L + (x : Int) - L).toNat * B + K = x * B + K
      rw [show (L + (x : Int) - L).toNat = x by omega]
end
section
open Go.RowKit
theorem up_mono {mode h h' : Int} {neg odd : Bool} (hh : h ≤ h') (hu : upW mode neg odd h = true) : upW mode neg odd h' = true := by
  unfold upW at hu ⊢
  split at hu
  · rename_i hm; rw [if_pos hm]
    simp only [Bool.or_eq_true, decide_eq_true_eq, Bool.and_eq_true] at hu ⊢
    rcases hu with hu | ⟨hu, ho⟩
    · left; omega
    · by_cases h0 : h' = 0
      · exact .inr ⟨h0, ho⟩
      · left; omega
  · rename_i hm; rw [if_neg hm]
    split at hu
    · rename_i hm; rw [if_pos hm]; simp only [decide_eq_true_eq] at hu ⊢; omega
    · rename_i hm; rw [if_neg hm]; exact hu
theorem rn_mono {b : Nat} {L e e' : Int} {neg : Bool} {mode : Int} {g g' : Mag} (hb : 1 ≤ b) (hg' : g'.Ok) (hl : LeM g g') (h : IsE b L g e) (h' : IsE b L g' e') : rnR b L neg mode g e ≤ rnR b L neg mode g' e' := by
  have hB : 2^b = 2 * 2^(b - 1) := by rw [Nat.mul_comm, ← Nat.pow_succ]; congr 1; omega
  rcases Int.lt_trichotomy e e' with hlt | rfl | hgt
  · have a1 := h'.2.2.resolve_left (by have := h.1; omega)
    have a2 := (kW_le (neg := neg) (mode := mode) (q := g.Q e) (h := g.H e) (z := g.Z e)).2
    have a3 := (kW_le (neg := neg) (mode := mode) (q := g'.Q e') (h := g'.H e') (z := g'.Z e')).1
    have a4 := h.2.1
    unfold rnR
    obtain ⟨x, hx⟩ : ∃ x : Nat, e = L + x := ⟨(e - L).toNat, by have := h.1; omega⟩
    obtain ⟨y, hy⟩ : ∃ y : Nat, e' = L + y := ⟨(e' - L).toNat, by have := h'.1; omega⟩
    subst hx hy
    rw [show (L + (x : Int) - L).toNat = x by omega, show (L + (y : Int) - L).toNat = y by omega]
    have := Nat.mul_le_mul_right (2^(b - 1)) (show x + 1 ≤ y by omega)
    rw [Nat.add_mul, Nat.one_mul] at this
    omega
  · unfold rnR
    obtain ⟨k1, k2⟩ := hl e
    have a2 := (kW_le (neg := neg) (mode := mode) (q := g.Q e) (h := g.H e) (z := g.Z e)).2
    have a3 := (kW_le (neg := neg) (mode := mode) (q := g'.Q e) (h := g'.H e) (z := g'.Z e)).1
    by_cases hq : g.Q e = g'.Q e
    · obtain ⟨k3, k4⟩ := k2 hq
      have : kW neg mode (g.Q e) (g.H e) (g.Z e) ≤ kW neg mode (g'.Q e) (g'.H e) (g'.Z e) := by
        unfold kW
        rw [← hq]
        by_cases hc : (!g.Z e && upW mode neg (decide (g.Q e % 2 = 1)) (g.H e)) = true
        · have hc' : (!g'.Z e && upW mode neg (decide (g.Q e % 2 = 1)) (g'.H e)) = true := by
            rw [Bool.and_eq_true] at hc ⊢
            refine ⟨?_, up_mono k3 hc.2⟩
            cases hz : g'.Z e
            · rfl
            · rw [k4 hz] at hc; exact hc.1
          rw [if_pos hc, if_pos hc']; exact Nat.le_refl _
        · rw [if_neg hc]; split <;> omega
      omega
    · omega
  · exfalso
    have a1 := h.2.2.resolve_left (by have := h'.1; omega)
    have a2 := (hl e).1
    obtain ⟨k, hk⟩ : ∃ k : Nat, e = e' + 1 + k := ⟨(e - e' - 1).toNat, by omega⟩
    have a3 := hg'.anti (show e' + 1 ≤ e by omega)
    rw [hg'.next] at a3
    have a4 := h'.2.1
    omega
theorem out_mono {b : Nat} {L T : Int} {neg : Bool} {mode : Int} {g g' : Mag} (hb : 2 ≤ b) (hLT : L ≤ T) (hg : g.Ok) (hg' : g'.Ok) (hl : LeM g g') :
    (outG b L T neg mode g).rung b L T ≤ (outG b L T neg mode g').rung b L T := by
  have e1 := isE_of (b := b) (L := L) (by omega) hg
  have e2 := isE_of (b := b) (L := L) (by omega) hg'
  have hm := rn_mono (neg := neg) (mode := mode) (by omega) hg' hl e1 e2
  unfold outG
  rw [(out_rung hb hLT e1).2, (out_rung hb hLT e2).2]
  split <;> split <;> (try split) <;> omega
end
section
open Go.RowKit Go.Lib
/-- A number's place in the order. -/
def ordR (neg : Bool) (r : Nat) : Int := if neg = true then -(r : Int) else r
theorem quo_cross {a b : Dc} {f : Int} (ha : f ≤ a.e) (hb : f ≤ b.e) (h : dval a.s * 10 ^ (a.e - f).toNat ≤ dval b.s * 10 ^ (b.e - f).toNat) : qM a oneD * qD b oneD ≤ qM b oneD * qD a oneD := by
  have h0 : ∀ d : Dc, d.e - oneD.e = d.e := fun d => by show d.e - 0 = d.e; omega
  unfold qM qD quoM quoD
  rw [h0, h0, oneD_val, Nat.one_mul, Nat.one_mul]
  obtain ⟨j, hj⟩ : ∃ j, j = a.e.natAbs + b.e.natAbs + f.natAbs := ⟨_, rfl⟩
  refine Nat.le_of_mul_le_mul_right ?_ (Nat.pow_pos (n := j) (show 0 < 10 by decide))
  have e1 : 10 ^ a.e.toNat * 10 ^ j = 10 ^ (a.e - f).toNat * (10 ^ (f + j).toNat * 10 ^ (-a.e).toNat) := by rw [← Nat.pow_add, ← Nat.pow_add, ← Nat.pow_add]; congr 1; omega
  have e2 : 10 ^ b.e.toNat * 10 ^ j = 10 ^ (b.e - f).toNat * (10 ^ (f + j).toNat * 10 ^ (-b.e).toNat) := by rw [← Nat.pow_add, ← Nat.pow_add, ← Nat.pow_add]; congr 1; omega
  calc dval a.s * 10 ^ a.e.toNat * 10 ^ (-b.e).toNat * 10 ^ j = dval a.s * (10 ^ a.e.toNat * 10 ^ j) * 10 ^ (-b.e).toNat := by ac_rfl
    _ = (dval a.s * 10 ^ (a.e - f).toNat) * (10 ^ (f + j).toNat * 10 ^ (-a.e).toNat * 10 ^ (-b.e).toNat) := by rw [e1]; ac_rfl
    _ ≤ (dval b.s * 10 ^ (b.e - f).toNat) * (10 ^ (f + j).toNat * 10 ^ (-a.e).toNat * 10 ^ (-b.e).toNat) := Nat.mul_le_mul_right _ h
    _ = dval b.s * (10 ^ b.e.toNat * 10 ^ j) * 10 ^ (-a.e).toNat := by rw [e2]; ac_rfl
    _ = dval b.s * 10 ^ b.e.toNat * 10 ^ (-a.e).toNat * 10 ^ j := by ac_rfl
end
section
open Go.RowKit Go.Lib
theorem lift_sign (a : Dc) (f : Int) : liftV a f = sg a.neg (dval a.s * 10 ^ (a.e - f).toNat) := by
  unfold liftV Dc.v
  rw [sg_mul]; push_cast; rfl
theorem rung_mono {a b : Dc} {m f : Int} (h0 : a.s ≠ []) (h1 : b.s ≠ []) (hn : a.neg = b.neg) (fa : f ≤ a.e) (fb : f ≤ b.e) (h : dval a.s * 10 ^ (a.e - f).toNat ≤ dval b.s * 10 ^ (b.e - f).toNat) : rung64 a m ≤ rung64 b m := by
  unfold rung64
  rw [if_neg h0, if_neg h1, hn]
  exact out_mono (by decide) (by decide) (quoG_ok oneD_ok oneD_s) (quoG_ok oneD_ok oneD_s) (rat_le (qD_pos oneD_ok oneD_s) (qD_pos oneD_ok oneD_s) (quo_cross fa fb h))
/-- How two stand, told of signs and magnitudes. -/
theorem cmp_cases {a b : Dc} (ha : a.ok) (hb : b.ok) (h : liftV a (liftE a b) < liftV b (liftE a b)) :
    (a.s = [] ∧ b.s ≠ [] ∧ b.neg = false) ∨ (b.s = [] ∧ a.s ≠ [] ∧ a.neg = true) ∨ (a.s ≠ [] ∧ b.s ≠ [] ∧ liftE a b ≤ a.e ∧ liftE a b ≤ b.e ∧
      ((a.neg = true ∧ b.neg = false) ∨ (a.neg = false ∧ b.neg = false ∧ dval a.s * 10 ^ (a.e - liftE a b).toNat ≤ dval b.s * 10 ^ (b.e - liftE a b).toNat) ∨
       (a.neg = true ∧ b.neg = true ∧ dval b.s * 10 ^ (b.e - liftE a b).toNat ≤ dval a.s * 10 ^ (a.e - liftE a b).toNat))) := by
  obtain ⟨c1, c2, -⟩ := liftE_cases ha hb
  rw [lift_sign, lift_sign] at h
  have n0 : ∀ d : Dc, d.s = [] → dval d.s = 0 := fun d h => by rw [h]; exact dval_nil
  generalize liftE a b = f at *
  by_cases ga : a.s = []
  · left
    rw [n0 a ga, Nat.zero_mul, nil_neg ha ga] at h
    refine ⟨ga, fun gb => ?_, ?_⟩
    · rw [n0 b gb, Nat.zero_mul, nil_neg hb gb] at h; exact absurd h (by decide)
    · cases hn : b.neg
      · rfl
      · rw [hn] at h; unfold sg at h; generalize dval b.s * 10 ^ (b.e - f).toNat = y at h; simp at h; omega
  · by_cases gb : b.s = []
    · right; left
      rw [n0 b gb, Nat.zero_mul, nil_neg hb gb] at h
      refine ⟨gb, ga, ?_⟩
      cases hn : a.neg
      · rw [hn] at h; unfold sg at h; generalize dval a.s * 10 ^ (a.e - f).toNat = y at h; simp at h; omega
      · rfl
    · right; right
      refine ⟨ga, gb, c1.resolve_left ga, c2.resolve_left gb, ?_⟩
      generalize dval a.s * 10 ^ (a.e - f).toNat = x at *
      generalize dval b.s * 10 ^ (b.e - f).toNat = y at *
      unfold sg at h
      cases hn : a.neg <;> cases hm : b.neg <;> rw [hn, hm] at h <;> simp at h ⊢ <;> omega
theorem cmp_same {a b : Dc} (ha : a.ok) (hb : b.ok) (h : liftV a (liftE a b) = liftV b (liftE a b)) : a = b := by
  obtain ⟨c1, c2, -⟩ := liftE_cases ha hb
  have h1 := rep_lift ha c1
  have h2 := rep_lift hb c2
  rw [h] at h1
  exact h1.uniq h2
theorem to64_rises {a b : Dc} {m : Int} (ha : a.ok) (hb : b.ok) (h : liftV a (liftE a b) < liftV b (liftE a b)) : ordR a.neg (rung64 a m) ≤ ordR b.neg (rung64 b m) := by
  unfold ordR
  rcases cmp_cases ha hb h with ⟨g1, g2, g3⟩ | ⟨g1, g2, g3⟩ | ⟨g1, g2, g3, g4, g5⟩
  · rw [g3, nil_neg ha g1]; unfold rung64; rw [if_pos g1]; simp
  · rw [g3, nil_neg hb g1]; unfold rung64; rw [if_pos g1]; simp
  · rcases g5 with ⟨k1, k2⟩ | ⟨k1, k2, k3⟩ | ⟨k1, k2, k3⟩
    · rw [k1, k2]; simp
    · have := rung_mono (m := m) g1 g2 (by rw [k1, k2]) g3 g4 k3
      rw [k1, k2]; simp; exact this
    · have := rung_mono (m := m) g2 g1 (by rw [k1, k2]) g4 g3 k3
      rw [k1, k2]; simp; exact this
end
section
open Go.RowKit
theorem ten_pow (k : Nat) : (10 : Int) ^ k = 2 ^ k * 5 ^ k := by rw [← Int.mul_pow]; rfl
theorem sg_word' (s : Bool) (r : Nat) (hr : r < 9223372036854775808) : W64 (sgW s + r) ∧ sgnB (sgW s + r) = s ∧ absB (sgW s + r) = r := by
  unfold W64 sgW sgnB absB; cases s <;> simp <;> omega
end
section
open Go Go.RowKit
theorem rv_mono {p x y : Nat} (h : x ≤ y) : rv p x ≤ rv p y := by
  rcases Nat.lt_or_ge x y with g | g
  · exact Nat.le_of_lt (rv_lt g)
  · rw [Nat.le_antisymm h g]; exact Nat.le_refl _
theorem side_le {n1 n2 : Bool} {r1 r2 : Nat} (h1 : r1 ≤ 9218868437227405312) (h2 : r2 ≤ 9218868437227405312) (h : ordR n1 r1 ≤ ordR n2 r2) :
    valB ((if n1 = true then 2^63 else 0) + r1) ≤ valB ((if n2 = true then 2^63 else 0) + r2) := by
  obtain ⟨a1, a2, -, -⟩ := side_bits n1 h1
  obtain ⟨b1, b2, -, -⟩ := side_bits n2 h2
  unfold valB
  rw [a1, a2, b1, b2]
  have m1 : r1 ≤ r2 → rv 52 r1 ≤ rv 52 r2 := fun h => rv_mono h
  have m2 : r2 ≤ r1 → rv 52 r2 ≤ rv 52 r1 := fun h => rv_mono h
  have m0 : rv 52 0 = 0 := rv_zero 52
  unfold ordR at h
  cases n1 <;> cases n2
  · rw [if_neg (by decide), if_neg (by decide)] at h ⊢
    have := m1 (by omega); omega
  · rw [if_neg (by decide), if_pos rfl] at h
    rw [if_neg (by decide), if_pos rfl]
    have e1 : r1 = 0 := by omega
    have e2 : r2 = 0 := by omega
    rw [e1, e2, m0]; decide
  · rw [if_pos rfl, if_neg (by decide)]
    omega
  · rw [if_pos rfl, if_pos rfl] at h ⊢
    have := m2 (by omega); omega
end
section
open Go.RowKit
theorem unit_about (a : Dc) (n : Int) :
    sg a.neg (unitK a n 4) * ((10 ^ (-n - a.e).toNat : Nat) : Int) ≤ sg a.neg (dval a.s) ∧ sg a.neg (dval a.s) ≤ sg a.neg (unitK a n 3) * ((10 ^ (-n - a.e).toNat : Nat) : Int) := by
  obtain ⟨U, hU⟩ : ∃ U, U = 10 ^ (-n - a.e).toNat := ⟨_, rfl⟩
  have hp : 0 < U := by rw [hU]; exact Nat.pow_pos (by decide)
  have e3 : unitK a n 3 = if a.neg = true then dval a.s / U else dval a.s / U + 1 := by
    unfold unitK kW
    rw [← hU]
    have : ∀ o h, upW 3 a.neg o h = !a.neg := fun o h => rfl
    rw [this]
    cases a.neg <;> simp
  have e4 : unitK a n 4 = if a.neg = true then dval a.s / U + 1 else dval a.s / U := by
    unfold unitK kW
    rw [← hU]
    have : ∀ o h, upW 4 a.neg o h = a.neg := fun o h => rfl
    rw [this]
    cases a.neg <;> simp
  have k1 : dval a.s / U * U ≤ dval a.s := Nat.div_mul_le_self _ _
  have k2 : dval a.s < (dval a.s / U + 1) * U := by
    have h := Nat.div_add_mod (dval a.s) U
    have h2 := Nat.mod_lt (dval a.s) hp
    rw [Nat.add_mul, Nat.one_mul, Nat.mul_comm (dval a.s / U) U]
    omega
  rw [e3, e4, ← hU, ← sg_mul, ← sg_mul]
  unfold sg
  cases a.neg
  · simp only [Bool.false_eq_true, if_false]
    constructor
    · exact_mod_cast k1
    · exact_mod_cast Nat.le_of_lt k2
  · simp only [if_true]
    constructor
    · have : ((dval a.s : Nat) : Int) ≤ (((dval a.s / U + 1) * U : Nat) : Int) := by exact_mod_cast Nat.le_of_lt k2
      omega
    · have : (((dval a.s / U) * U : Nat) : Int) ≤ ((dval a.s : Nat) : Int) := by exact_mod_cast k1
      omega
/-- A decimal that stands for a whole number of 10^f ends at f or above. -/
theorem rep_ends {d : Dc} {W f : Int} (h : Rep d W f) (h0 : d.s ≠ []) : f ≤ d.e := by
  refine Int.le_of_not_gt fun hlt => ?_
  rcases h.ok with h1 | ⟨-, -, -, hm, -, -, -⟩
  · rw [h1] at h0; exact h0 rfl
  obtain ⟨k, hk⟩ : ∃ k : Nat, f - d.e = ((k + 1 : Nat) : Int) := ⟨(f - d.e - 1).toNat, by omega⟩
  have h2 := h.all (d.e.natAbs + f.natAbs) (by omega) (by omega)
  obtain ⟨i, hi⟩ : ∃ i : Nat, d.e + ((d.e.natAbs + f.natAbs : Nat) : Int) = i := ⟨(d.e + ((d.e.natAbs + f.natAbs : Nat) : Int)).toNat, by omega⟩
  have e1 : (d.e + ((d.e.natAbs + f.natAbs : Nat) : Int)).toNat = i := by omega
  have e2 : (f + ((d.e.natAbs + f.natAbs : Nat) : Int)).toNat = i + (k + 1) := by omega
  rw [e1, e2, Int.pow_add] at h2
  have h3 : d.v = W * 10 ^ (k + 1) := by
    refine Int.eq_of_mul_eq_mul_right (pow_pos10 i) ?_
    rw [h2]; ac_rfl
  have h4 : d.v.natAbs = W.natAbs * 10 ^ (k + 1) := by rw [h3, Int.natAbs_mul, Int.natAbs_pow]; rfl
  unfold Dc.v at h4
  rw [sg_natAbs] at h4
  rw [h4, Nat.pow_succ, ← Nat.mul_assoc, Nat.mul_mod_left] at hm
  exact hm rfl
/-- A whole number's decimal stays what it is at any places from 0 on. -/
theorem places_whole {d : Dc} {W : Int} (h : Rep d W 0) (n m : Int) (hn : 0 ≤ n) : placesC d n m = (d, 0) ∨ d.s = [] := by
  by_cases h0 : d.s = []
  · exact .inr h0
  · have := rep_ends h h0
    refine .inl ?_
    unfold placesC
    rw [if_pos (by omega)]
end
section
open Go Go.RowKit Go.Lib
theorem out_even {neg : Bool} {g : Mag} (hok : g.Ok) {o : Out} (ho : o = outG 53 (-1074) 971 neg 1 g) (h : o.rung 53 (-1074) 971 < 9218868437227405312) : o.ov = false := by
  have hE := isE_of (b := 53) (L := -1074) (by decide) hok
  obtain ⟨e, he⟩ : ∃ e, e = eOf 53 (-1074) g := ⟨_, rfl⟩
  rw [← he] at hE
  obtain ⟨h1, h2⟩ := out_rung (T := 971) (neg := neg) (mode := 1) (by decide) (by decide) hE
  rw [outG_eq (by decide) hok hE] at ho
  rw [← ho] at h1 h2
  have hi : infR 53 (-1074) 971 = 9218868437227405312 := by decide
  have hw : maxW 1 neg = false := by cases neg <;> decide
  rw [h1]
  refine decide_eq_false fun g => ?_
  rw [h2, hw, if_pos g, if_neg (by decide), hi] at h
  exact Nat.lt_irrefl _ h
/-- By Even nothing overflows that stays below the end of the rungs. -/
theorem even_ov {a : Dc} (ha : a.ok) (h : rung64 a 1 < 9218868437227405312) : (to64A a 1).ov = false := by
  have hn : (a.neg != oneD.neg) = a.neg := by show (a.neg != false) = a.neg; cases a.neg <;> rfl
  unfold to64A ratioA
  unfold rung64 at h
  rw [if_neg (fun h => h ⟨ha, oneD_ok, by decide, by decide⟩), if_neg oneD_s]
  by_cases h0 : a.s = []
  · rw [if_pos h0]; rfl
  · rw [if_neg h0] at h ⊢
    rw [hn]
    obtain ⟨o, ho⟩ : ∃ o, o = outG 53 (-1074) 971 a.neg 1 (quoG a oneD) := ⟨_, rfl⟩
    rw [← ho] at h ⊢
    exact out_even (quoG_ok oneD_ok oneD_s) ho h
end
section
open Go Go.RowKit Go.Lib
theorem rep_down {d : Dc} {W e : Int} (k : Nat) (h : Rep d W (e + k)) : Rep d (W * 10 ^ k) e := by
  obtain ⟨j, hj⟩ : ∃ j : Nat, j = d.e.natAbs + e.natAbs := ⟨_, rfl⟩
  have h1 := h.all j (by omega) (by omega)
  refine ⟨h.ok, j, by omega, by omega, ?_⟩
  rw [h1, Int.mul_assoc, ← Int.pow_add]
  congr 2
  omega
theorem whole_rep {b : Nat} (hf : finB b = true) {k : Int} (hk : valB b = k * 2 ^ LP) : Rep (ofD b) k 0 := by
  obtain ⟨r, -⟩ := of_rep (of_room hf)
  have e5 : k * 2 ^ LP * 5 ^ LP = k * 10 ^ LP := by rw [Int.mul_assoc, ← ten_pow]
  rw [hk, e5] at r
  generalize LP = P at r
  obtain ⟨j, hj⟩ : ∃ j : Nat, j = P + (ofD b).e.natAbs := ⟨_, rfl⟩
  have h1 := r.all j (by omega) (by omega)
  refine ⟨r.ok, j, by omega, by omega, ?_⟩
  rw [h1, Int.mul_assoc, ← Int.pow_add]
  congr 2
  omega
theorem places_keep {b : Nat} (hf : finB b = true) {k : Int} (hk : valB b = k * 2 ^ LP) {n m : Int} (hn : 0 ≤ n ∧ n ≤ 400) (hm : 1 ≤ m ∧ m ≤ 6) : placesA (ofD b) n m = (ofD b, 0) := by
  obtain ⟨e, -⟩ := places_of b (n := n) (m := m) (by omega) hm
  rw [e]
  rcases places_whole (whole_rep hf hk) n m hn.1 with h | h
  · rw [h]; simp
  · rw [if_pos h]
theorem tpl_self {ov : Int} {b : Nat} (hb : W64 b) (hf : finB b = true) {n m : Int} (hn : 0 ≤ n ∧ n ≤ 400) (hm : 1 ≤ m ∧ m ≤ 6) (h : placesA (ofD b) n m = (ofD b, 0)) : tplA ov b n m = (b, 0) := by
  unfold tplA
  rw [if_neg (fun g => g ⟨by omega, by omega, hm.1, hm.2⟩), if_neg (by rw [hf]; decide), h]
  show (if (to64A (ofD b) 1).ov = true then _ else _) = _
  have hj := bits_join hb
  have hw : sgnW b = sgW (sgnB b) := rfl
  rcases to64_back hb hf with ⟨h0, -, h1⟩ | ⟨-, -, -, h1⟩
  · rw [h1]
    rw [h0] at hj
    show (sgnW b + absB 0, (0 : Int)) = _
    rw [hw, show absB 0 = 0 from rfl, ← hj]
  · rw [h1]
    show (sgnW b + absB b, (0 : Int)) = _
    rw [hw, ← hj]
/-- A whole number keeps to its places. -/
theorem whole_keeps {ov : Int} {b : Nat} (hb : W64 b) (hf : finB b = true) {k : Int} (hk : valB b = k * 2 ^ LP) {n m : Int} (hn : 0 ≤ n ∧ n ≤ 400) (hm : 1 ≤ m ∧ m ≤ 6) : tplA ov b n m = (b, 0) :=
  tpl_self hb hf hn hm (places_keep hf hk hn hm)
theorem whole_or {b : Nat} (hf : finB b = true) : (∃ k : Int, valB b = k * 2 ^ LP) ∨ (valB b).natAbs < 2 ^ 53 * 2 ^ LP := by
  have hfl : absB b < 9218868437227405312 := of_decide_eq_true hf
  obtain ⟨mm, ee, hc, hr⟩ := fin_form hfl
  have hv := hc.rv
  rw [← hr] at hv
  have hs := val_sgn b
  rw [hv] at hs
  have hL : LP = 1074 := LP_eq
  by_cases h : 0 ≤ ee
  · left
    refine ⟨sg (sgnB b) (mm * 2 ^ ee.toNat), ?_⟩
    rw [hs, show (ee + 1074).toNat = ee.toNat + LP by omega, Nat.pow_add, ← Nat.mul_assoc]
    have := sg_mul (sgnB b) (mm * 2 ^ ee.toNat) (2 ^ LP)
    rw [this]
    push_cast
    rfl
  · right
    rw [hs, sg_natAbs]
    have h1 : 2 ^ (ee + 1074).toNat ≤ 2 ^ LP := Nat.pow_le_pow_right (by decide) (by omega)
    have h2 : mm < 2 ^ 53 := hc.1
    calc mm * 2 ^ (ee + 1074).toNat ≤ mm * 2 ^ LP := Nat.mul_le_mul_left _ h1
      _ < 2 ^ 53 * 2 ^ LP := Nat.mul_lt_mul_of_pos_right h2 (Nat.two_pow_pos _)
theorem small_val {b : Nat} (hf : finB b = true) (h : (valB b).natAbs < 2 ^ 53 * 2 ^ LP) (j : Nat) (h1 : 0 ≤ (ofD b).e + j) (h2 : LP ≤ j) : dval (ofD b).s * 10 ^ ((ofD b).e + j).toNat < 2 ^ 53 * 10 ^ j := by
  obtain ⟨r, -⟩ := of_rep (of_room hf)
  have h3 := r.all j h1 (by omega)
  have h4 := congrArg Int.natAbs h3
  rw [Int.natAbs_mul, Int.natAbs_mul, Int.natAbs_mul, v_abs, Int.natAbs_pow, Int.natAbs_pow, Int.natAbs_pow] at h4
  rw [show (10 : Int).natAbs = 10 from rfl, show (5 : Int).natAbs = 5 from rfl] at h4
  rw [h4]
  obtain ⟨i, rfl⟩ : ∃ i, j = LP + i := ⟨j - LP, by omega⟩
  have e1 : (-(LP : Int) + ((LP + i : Nat) : Int)).toNat = i := by omega
  rw [e1]
  have e2 : (10 : Nat) ^ (LP + i) = 2 ^ LP * 5 ^ LP * 10 ^ i := by rw [Nat.pow_add, ← Nat.mul_pow]
  rw [e2]
  have p5 : 0 < (5 : Nat) ^ LP := Nat.pow_pos (by decide)
  have pt : 0 < (10 : Nat) ^ i := Nat.pow_pos (by decide)
  calc (valB b).natAbs * 5 ^ LP * 10 ^ i < 2 ^ 53 * 2 ^ LP * 5 ^ LP * 10 ^ i := Nat.mul_lt_mul_of_pos_right (Nat.mul_lt_mul_of_pos_right h p5) pt
    _ = 2 ^ 53 * (2 ^ LP * 5 ^ LP * 10 ^ i) := by ac_rfl
theorem far_not {b : Nat} (hf : finB b = true) (h : (valB b).natAbs < 2 ^ 53 * 2 ^ LP) (h0 : (ofD b).s ≠ []) : ¬ 17 < ((ofD b).s.length : Int) + (ofD b).e := by
  intro hg
  obtain ⟨j, hj⟩ : ∃ j : Nat, j = LP + (ofD b).e.natAbs := ⟨_, rfl⟩
  have h1 := small_val hf h j (by omega) (by omega)
  have h2 := ok_low (ofD_ok b) h0
  have hl : 0 < (ofD b).s.length := List.length_pos_iff.2 h0
  have h3 : 10 ^ ((ofD b).s.length - 1) * 10 ^ ((ofD b).e + j).toNat < 10 ^ 16 * 10 ^ j :=
    Nat.lt_of_le_of_lt (Nat.mul_le_mul_right _ h2) (Nat.lt_of_lt_of_le h1 (Nat.mul_le_mul_right _ (by decide)))
  rw [← Nat.pow_add, ← Nat.pow_add] at h3
  have h4 := (Nat.pow_lt_pow_iff_right (a := 10) (by decide)).1 h3
  omega
theorem rep_less {a b : Dc} {W W' e : Int} (ha : Rep a W e) (hb : Rep b W' e) (h : W < W') : liftV a (liftE a b) < liftV b (liftE a b) := by
  have := cmp_rep ha hb
  rw [if_neg (by omega), if_pos h] at this
  unfold cmpV at this
  split at this
  · cases this
  · split at this
    · assumption
    · cases this
theorem rep_eq {a b : Dc} {W W' e : Int} (ha : Rep a W e) (hb : Rep b W' e) (h : W = W') : a = b := by
  have := cmp_rep ha hb
  rw [if_pos h] at this
  unfold cmpV at this
  split at this
  · exact cmp_same ha.ok hb.ok (by assumption)
  · split at this <;> cases this
theorem rep_rises {a b : Dc} {W W' e m : Int} (ha : Rep a W e) (hb : Rep b W' e) (h : W ≤ W') : ordR a.neg (rung64 a m) ≤ ordR b.neg (rung64 b m) := by
  rcases Int.lt_or_eq_of_le h with g | g
  · exact to64_rises ha.ok hb.ok (rep_less ha hb g)
  · rw [rep_eq ha hb g]; exact Int.le_refl _
def bigB (neg : Bool) : Nat := sgW neg + 4877398396442247168
theorem big_facts (neg : Bool) : W64 (bigB neg) ∧ finB (bigB neg) = true ∧ absB (bigB neg) = 4877398396442247168 ∧ sgnB (bigB neg) = neg ∧ valB (bigB neg) = sg neg (2 ^ 60) * 2 ^ LP := by
  have h1 : absB (bigB neg) = 4877398396442247168 := bits_abs neg (by decide)
  have h2 : sgnB (bigB neg) = neg := bits_sgn neg (by decide)
  refine ⟨bits_W neg (by decide), by unfold finB; rw [h1]; decide, h1, h2, ?_⟩
  rw [val_sgn, h1, h2]
  have := rv_kq 1082 4503599627370496 (by decide) (by decide)
  rw [show 1082 * 4503599627370496 + 4503599627370496 = 4877398396442247168 by decide] at this
  rw [this, show (1082 : Nat) = 8 + LP by rw [LP_eq], Nat.pow_add, ← Nat.mul_assoc]
  have := sg_mul neg (4503599627370496 * 2 ^ 8) (2 ^ LP)
  rw [this]
  push_cast
  rfl
theorem big_rung (neg : Bool) : rung64 (ofD (bigB neg)) 1 = 4877398396442247168 ∧ (ofD (bigB neg)).neg = neg := by
  obtain ⟨h1, h2, h3, h4, -⟩ := big_facts neg
  rcases to64_back h1 h2 with ⟨g, -, -⟩ | ⟨-, -, g, h5⟩
  · rw [h3] at g; exact absurd g (by decide)
  · rw [h4] at g
    refine ⟨?_, g⟩
    have h6 := (to64_bits (ofD_ok (bigB neg)) (m := 1) (by decide)).1
    rw [h5] at h6
    obtain ⟨s1, -, -, -⟩ := side_bits (ofD (bigB neg)).neg (rung64_le (ofD (bigB neg)) 1)
    rw [← h6] at s1
    rw [← s1]; exact h3
theorem rep_low {F : Dc} {neg : Bool} {K n : Nat} (h : Rep F (sg neg K) (-(n : Int))) (hK : K ≤ 2 ^ 60 * 10 ^ n) : rung64 F 1 < 9218868437227405312 := by
  have hr : ∀ s, Rep (ofD (bigB s)) (sg s (2 ^ 60) * 10 ^ n) (-(n : Int)) := fun s => by
    obtain ⟨h1, h2, h3, h4, h5⟩ := big_facts s
    have := whole_rep h2 h5
    rw [show (0 : Int) = -(n : Int) + (n : Nat) by omega] at this
    exact rep_down n this
  have hp : (K : Int) ≤ 2 ^ 60 * 10 ^ n := by exact_mod_cast hK
  have e0 : sg false (2 ^ 60) = (2 ^ 60 : Int) := rfl
  have e1 : sg true (2 ^ 60) = -(2 ^ 60 : Int) := rfl
  have a := rep_rises (m := 1) h (hr false) (by rw [e0]; unfold sg; split <;> omega)
  have c := rep_rises (m := 1) (hr true) h (by rw [e1, Int.neg_mul]; unfold sg; split <;> omega)
  rw [(big_rung false).1, (big_rung false).2] at a
  rw [(big_rung true).1, (big_rung true).2] at c
  unfold ordR at a c
  rw [if_neg (by decide : ¬ false = true)] at a
  rw [if_pos rfl] at c
  split at a <;> rename_i g <;> simp only [g] at c
  · simp at c; omega
  · simp at c; omega
/-- Places by Down and by Up lie about a number; far ones stand. -/
theorem places_side {ov : Int} {b : Nat} (hb : W64 b) (hf : finB b = true) {n : Int} (hn : 0 ≤ n ∧ n ≤ 400) :
    ∃ l h, tplA ov b n 4 = (l, 0) ∧ tplA ov b n 3 = (h, 0) ∧ W64 l ∧ W64 h ∧ nanB l = false ∧ nanB h = false ∧ valB l ≤ valB b ∧ valB b ≤ valB h ∧ (17 < ((ofD b).s.length : Int) + (ofD b).e → l = b ∧ h = b) := by
  have nb : nanB b = false := by
    have := finB_eq b
    rw [hf] at this
    cases h : nanB b
    · rfl
    · rw [h] at this; simp at this
  have self : placesA (ofD b) n 4 = (ofD b, 0) → placesA (ofD b) n 3 = (ofD b, 0) → _ := fun h4 h3 =>
    (⟨b, b, tpl_self hb hf hn (by decide) h4, tpl_self hb hf hn (by decide) h3, hb, hb, nb, nb, Int.le_refl _, Int.le_refl _, fun _ => ⟨rfl, rfl⟩⟩ :
      ∃ l h, tplA ov b n 4 = (l, 0) ∧ tplA ov b n 3 = (h, 0) ∧ W64 l ∧ W64 h ∧ nanB l = false ∧ nanB h = false ∧ valB l ≤ valB b ∧ valB b ≤ valB h ∧ (17 < ((ofD b).s.length : Int) + (ofD b).e → l = b ∧ h = b))
  rcases whole_or hf with ⟨k, hk⟩ | hsm
  · exact self (places_keep hf hk hn (by decide)) (places_keep hf hk hn (by decide))
  · obtain ⟨e4, x4, o4, g4, r4⟩ := places_of b (n := n) (m := 4) (by omega) (by decide)
    obtain ⟨e3, x3, o3, g3, r3⟩ := places_of b (n := n) (m := 3) (by omega) (by decide)
    by_cases h0 : (ofD b).s = []
    · rw [if_pos h0] at e4 e3
      exact self e4 e3
    · by_cases hd : 0 < -n - (ofD b).e
      · have r4 := r4 h0 hd
        have r3 := r3 h0 hd
        obtain ⟨u1, u2⟩ := unit_about (ofD b) n
        obtain ⟨q, hq⟩ : ∃ q : Nat, q = (-n - (ofD b).e).toNat := ⟨_, rfl⟩
        obtain ⟨N, rfl⟩ : ∃ N : Nat, n = N := ⟨n.toNat, by omega⟩
        have room : ∀ m, unitK (ofD b) N m ≤ 2 ^ 60 * 10 ^ N := fun m => by
          obtain ⟨j, hj⟩ : ∃ j : Nat, j = LP + (ofD b).e.natAbs := ⟨_, rfl⟩
          have s1 := small_val hf hsm j (by omega) (by omega)
          have s2 : unitK (ofD b) N m ≤ dval (ofD b).s / 10 ^ q + 1 := by rw [hq]; exact kW_le.2
          have s3 : dval (ofD b).s / 10 ^ q < 2 ^ 53 * 10 ^ N := by
            rw [Nat.div_lt_iff_lt_mul (Nat.pow_pos (by decide))]
            refine Nat.lt_of_mul_lt_mul_right (a := 10 ^ ((ofD b).e + j).toNat) ?_
            refine Nat.lt_of_lt_of_le s1 (Nat.le_of_eq ?_)
            rw [Nat.mul_assoc, Nat.mul_assoc, ← Nat.pow_add, ← Nat.pow_add]
            congr 2
            omega
          have s4 : 0 < (10 : Nat) ^ N := Nat.pow_pos (by decide)
          generalize (10 : Nat) ^ N = P at *
          omega
        have side : ∀ m : Int, m = 4 ∨ m = 3 → Rep (placesA (ofD b) N m).1 (sg (ofD b).neg (unitK (ofD b) N m)) (-(N : Int)) → (placesA (ofD b) N m).1.ok → ((placesA (ofD b) N m).1.s ≠ [] → (placesA (ofD b) N m).1.neg = (ofD b).neg) →
            ∃ l, tplA ov b N m = (l, 0) ∧ W64 l ∧ nanB l = false ∧ valB l = valB ((if (placesA (ofD b) N m).1.neg = true then 2^63 else 0) + rung64 (placesA (ofD b) N m).1 1) := fun m hm hr ho hs => by
          obtain ⟨F, hF⟩ : ∃ F, F = (placesA (ofD b) N m).1 := ⟨_, rfl⟩
          rw [← hF] at hr ho hs ⊢
          have hov := even_ov ho (rep_low hr (room m))
          obtain ⟨t1, t2⟩ := to64_bits ho (m := 1) (by decide)
          obtain ⟨b1, b2, b3, b4⟩ := side_bits F.neg (rung64_le F 1)
          have hle := rung64_le F 1
          have hpl : placesA (ofD b) N m = (F, (placesA (ofD b) N m).2) := by rw [hF]
          obtain ⟨-, -, -, -, d1, d2⟩ := tpl_doc hb hf (n := N) (m := m) (by omega) (by rcases hm with rfl | rfl <;> decide) hpl rfl
          refine ⟨sgnW b + absB (to64A F 1).bits, ?_, ?_⟩
          · unfold tplA
            rw [if_neg (fun g => g ⟨by omega, by omega, by rcases hm with rfl | rfl <;> decide, by rcases hm with rfl | rfl <;> decide⟩), if_neg (by rw [hf]; decide), ← hF, hov]
            rfl
          · by_cases hF0 : F.s = []
            · have hr0 : rung64 F 1 = 0 := by unfold rung64; rw [if_pos hF0]
              have hz : sgnW b + absB (to64A F 1).bits = sgW (sgnB b) + 0 := by rw [(d1 hF0).2]; rfl
              rw [hz, hr0]
              have y1 := bits_abs (sgnB b) (R := 0) (by decide)
              refine ⟨bits_W _ (by decide), by unfold nanB; rw [y1]; decide, ?_⟩
              rw [val_sgn, val_sgn, y1]
              rw [hr0] at b1
              rw [b1, rv_zero]
              unfold sg
              split <;> split <;> rfl
            · rw [d2 hF0, t1]
              exact ⟨b4, b3, rfl⟩
        obtain ⟨l, l1, l2, l3, l4⟩ := side 4 (.inl rfl) r4 o4 g4
        obtain ⟨h, h1, h2, h3, h4⟩ := side 3 (.inr rfl) r3 o3 g3
        have hself : Rep (ofD b) (sg (ofD b).neg (dval (ofD b).s)) (ofD b).e := rep_self (ofD_ok b)
        have he : (-(N : Int)) = (ofD b).e + (q : Nat) := by omega
        rw [he] at r4 r3
        have v4 := rep_rises (m := 1) (rep_down q r4) hself (by rw [hq]; have := u1; push_cast at this ⊢; exact this)
        have v3 := rep_rises (m := 1) hself (rep_down q r3) (by rw [hq]; have := u2; push_cast at this ⊢; exact this)
        have hbb : valB b = valB ((if (ofD b).neg = true then 2^63 else 0) + rung64 (ofD b) 1) := by
          rcases to64_back hb hf with ⟨-, g, -⟩ | ⟨-, -, -, g⟩
          · exact absurd g h0
          · rw [← (to64_bits (ofD_ok b) (m := 1) (by decide)).1, g]
        refine ⟨l, h, l1, h1, l2, h2, l3, h3, ?_, ?_, fun hfar => absurd hfar (far_not hf hsm h0)⟩
        · rw [l4, hbb]; exact side_le (rung64_le _ _) (rung64_le _ _) v4
        · rw [h4, hbb]; exact side_le (rung64_le _ _) (rung64_le _ _) v3
      · have k4 : placesC (ofD b) n 4 = (ofD b, 0) := by unfold placesC; rw [if_pos (by omega)]
        have k3 : placesC (ofD b) n 3 = (ofD b, 0) := by unfold placesC; rw [if_pos (by omega)]
        rw [if_neg h0, k4] at e4
        rw [if_neg h0, k3] at e3
        exact self e4 e3
end
section
open Go Go.RowKit Go.Lib
theorem norm_exp53 {N : Nat} (h0 : 0 < N) (h : N < 9007199254740992) : ∃ i, i ≤ 52 ∧ 4503599627370496 ≤ N * 2 ^ i ∧ N * 2 ^ i < 9007199254740992 := by
  obtain ⟨h1, h2, h3⟩ := blen_pos (n := N) (by omega)
  have h4 : blen N ≤ 53 := blen_le (show N < 2 ^ 53 from h)
  refine ⟨53 - blen N, by omega, ?_, ?_⟩
  · have := Nat.mul_le_mul_right (2 ^ (53 - blen N)) h1
    rw [← Nat.pow_add, show blen N - 1 + (53 - blen N) = 52 by omega] at this
    simpa using this
  · have := Nat.mul_lt_mul_of_pos_right h2 (Nat.two_pow_pos (53 - blen N))
    rw [← Nat.pow_add, show blen N + (53 - blen N) = 53 by omega] at this
    simpa using this
/-- A whole number as a number. -/
theorem float_whole (n : Int) (h : n.natAbs < 9007199254740992) : ∃ b, Go.FloatKind.f64.nearest n = b ∧ W64 b ∧ finB b = true ∧ valB b = n * 2 ^ LP := by
  have hl := LP_eq
  rcases Nat.eq_zero_or_pos n.natAbs with h0 | h0
  · obtain rfl : n = 0 := by omega
    rw [Int.zero_mul]
    exact ⟨0, by kernel_rfl, by unfold W64; decide, by kernel_rfl, by kernel_rfl⟩
  · obtain ⟨i, hi, h1, h2⟩ := norm_exp53 h0 h
    obtain ⟨R, g1, g2⟩ := nearest_near' Ieee.double (by decide) (decide (n < 0)) n.natAbs 0
    have hr : rv 52 ((LP - i) * 4503599627370496 + n.natAbs * 2 ^ i) = n.natAbs * 2 ^ i * 2 ^ (LP - i) := rv_qK 52 _ _ (by omega) (by omega)
    have hx := Near.exact 52 ((LP - i) * 4503599627370496 + n.natAbs * 2 ^ i) 1 (by decide)
    have he : n.natAbs * 2 ^ i * 2 ^ (LP - i) = n.natAbs * 2 ^ LP := by rw [Nat.mul_assoc, ← Nat.pow_add, show i + (LP - i) = LP by omega]
    rw [hr, Nat.mul_one] at hx
    rw [D_lp'] at g2
    have hR : R = (LP - i) * 4503599627370496 + n.natAbs * 2 ^ i := by
      refine Near.uniq (by decide) (Near.cross (Nat.two_pow_pos _) (by decide) ?_ g2) hx
      rw [he, Nat.mul_one, Nat.mul_assoc, ← Nat.pow_add]
      congr 2; omega
    have hlt : (LP - i) * 4503599627370496 + n.natAbs * 2 ^ i < 9218868437227405312 := by rw [hl]; omega
    rw [D_inf, hR, Nat.min_eq_left (by omega)] at g1
    obtain ⟨w1, w2, w3⟩ := sg_word' (decide (n < 0)) ((LP - i) * 4503599627370496 + n.natAbs * 2 ^ i) (by omega)
    refine ⟨sgW (decide (n < 0)) + ((LP - i) * 4503599627370496 + n.natAbs * 2 ^ i), ?_, w1, ?_, ?_⟩
    · show Ieee.double.nearest (decide (n < 0)) n.natAbs 0 = _
      rw [g1]
      show Ieee.Format.word _ _ _ = _
      unfold Ieee.Format.word sgW; rw [D_sw]; cases decide (n < 0) <;> simp
    · unfold finB; rw [w3]; simpa using hlt
    · unfold valB
      rw [w2, w3, hr, he]
      by_cases hn : n < 0
      · rw [decide_eq_true hn, if_pos rfl]; push_cast; rw [show (n.natAbs : Int) = -n by omega, Int.neg_mul, Int.neg_neg]
      · rw [decide_eq_false hn]; simp only [Bool.false_eq_true, if_false]; push_cast; rw [show (n.natAbs : Int) = n by omega]
end
section
open Go.RowKit
theorem ord_self9 {b : Nat} (hb : W64 b) (nb : nanB b = false) : Go.FloatKind.f64.format.order b b = some .eq := by
  have := ord_D b b hb hb nb nb
  show Ieee.double.order b b = _
  rw [this]
  congr 1
  exact Int.compare_eq_eq.2 rfl
theorem ord_leq {x y : Nat} (hx : W64 x) (hy : W64 y) (nx : nanB x = false) (ny : nanB y = false) (h : valB x ≤ valB y) : Go.FloatKind.f64.format.order x y = some .lt ∨ Go.FloatKind.f64.format.order x y = some .eq := by
  have e := ord_D x y hx hy nx ny
  rcases Int.lt_or_eq_of_le h with g | g
  · left
    show Ieee.double.order x y = _
    rw [e, Int.compare_eq_lt.2 g]
  · right
    show Ieee.double.order x y = _
    rw [e, Int.compare_eq_eq.2 g]
theorem ref_finite7 (b : Nat) (hb : W64 b) (f : Bool) (hf : finB b = f) (w : World) : Calls Tryz.prog 16 #[.int .u64 b] w fun e w' => e = .returned (.bool f) ∧ w = w' := by rw [← hf]; exact ref_finite b w hb
set_option maxHeartbeats 8000000 in
set_option maxRecDepth 100000 in
theorem tableKeeps_walk (a : Nat) (n k : Int) (w : World) (ha : W64 a) (ln : -9223372036854775808 ≤ n) (un : n ≤ 9223372036854775807) (_ : -9223372036854775808 ≤ k) (_ : k ≤ 9223372036854775807) (htab : Tab w) (hT : Tab9 w 1 totZ) (hQ : Tab9 w 2 quoZ) :
    Calls Tryz.prog 4 #[.int .u64 (a : Nat), .int .i64 n, .int .i64 k] w fun e w' => e = .returned (.bool true) ∧ Below w.heap.size w w' := by
  have HW : Hid (Calls Tryz.prog 11 #[] w fun e w' => e = .returned (.bool true) ∧ Below w.heap.size w w') := awake7_any w hT hQ
  obtain ⟨K, hK⟩ : ∃ K, K = k.tmod 9007199254740992 := ⟨_, rfl⟩
  have hKb : K.natAbs < 9007199254740992 := by
    rw [hK, Int.natAbs_tmod]
    exact Nat.mod_lt _ (by decide)
  obtain ⟨b, hb0, hb1, hb2, hb3⟩ := float_whole K hKb
  have hKw : IntKind.i64.wrap K = K := IntWalk.i64_in _ (by omega)
  obtain ⟨M, hM⟩ : ∃ M : Nat, (M : Int) = if n < 0 then -(n + 1) else n := ⟨(if n < 0 then -(n + 1) else n).toNat, by split <;> omega⟩
  obtain ⟨N, hN⟩ : ∃ N : Nat, N = M % 401 := ⟨_, rfl⟩
  have hN4 : N ≤ 400 := by omega
  have hMb : (M : Int) ≤ 9223372036854775807 := by rw [hM]; split <;> omega
  have nb : nanB b = false := by
    have := finB_eq b
    rw [hb2] at this
    cases h : nanB b
    · rfl
    · rw [h] at this; simp at this
  have na : finB a = true → nanB a = false := fun hf => by
    have := finB_eq a
    rw [hf] at this
    cases h : nanB a
    · rfl
    · rw [h] at this; simp at this
  have HWH : Hid (∀ W (m : Int), Below w.heap.size w W → 1 ≤ m → m ≤ 6 → Calls Tryz.prog 12 #[.float .f64 b, .int .i64 (N : Nat), .int .i64 m] W fun e w' => e = .returned (.tuple #[.float .f64 b, .int .i64 0]) ∧ Below W.heap.size W w') := fun W m hW h1 h2 => by
    have := tplaces_v b N m W hb1 (htab.below hW)
    rw [whole_keeps hb1 hb2 hb3 (by omega) ⟨h1, h2⟩] at this
    exact this
  obtain ⟨T4, hT4⟩ : ∃ T, T = tplA 15 a N 4 := ⟨_, rfl⟩
  obtain ⟨T3, hT3⟩ : ∃ T, T = tplA 15 a N 3 := ⟨_, rfl⟩
  have HP4 : Hid (∀ W, Below w.heap.size w W → Calls Tryz.prog 12 #[.float .f64 a, .int .i64 (N : Nat), .int .i64 4] W fun e w' => e = .returned (.tuple #[.float .f64 T4.1, .int .i64 T4.2]) ∧ Below W.heap.size W w') := fun W hW => by rw [hT4]; exact tplaces_v a N 4 W ha (htab.below hW)
  have HP3 : Hid (∀ W, Below w.heap.size w W → Calls Tryz.prog 12 #[.float .f64 a, .int .i64 (N : Nat), .int .i64 3] W fun e w' => e = .returned (.tuple #[.float .f64 T3.1, .int .i64 T3.2]) ∧ Below W.heap.size W w') := fun W hW => by rw [hT3]; exact tplaces_v a N 3 W ha (htab.below hW)
  obtain ⟨D, hD⟩ : ∃ D, D = ofD a := ⟨_, rfl⟩
  have HDO : Hid (finB a = true → ∀ W, Calls Tryz.prog 17 #[.int .u64 (a : Nat)] W (fun e w' => e = .returned (.tuple #[.agg #[.bool D.neg, .string (bs D.s), .int .i64 D.e], .int .i64 0]) ∧ Below W.heap.size W w')) := fun hf W => by rw [hD]; have := decof3_v a ha W; rw [of_room hf] at this; exact this
  have HDL : Hid (D.s.length ≤ 8192 ∧ -20000 ≤ D.e ∧ D.e ≤ 20000) := by
    have h1 := ofD_ok a
    have h2 := ok_exp h1
    rw [hD]
    exact ⟨ok_len h1, h2⟩
  have HFIN : Hid (finB a = true → ∃ l h, T4 = (l, 0) ∧ T3 = (h, 0) ∧ (Go.FloatKind.f64.format.order l a = some .lt ∨ Go.FloatKind.f64.format.order l a = some .eq) ∧ (Go.FloatKind.f64.format.order a h = some .lt ∨ Go.FloatKind.f64.format.order a h = some .eq) ∧ (17 < (D.s.length : Int) + D.e → l = a ∧ h = a)) := fun hf => by
    obtain ⟨l, h, h1, h2, h3, h4, h5, h6, h7, h8, h9⟩ := places_side (ov := 15) ha hf (n := N) (by omega)
    rw [hT4, hT3, hD]
    exact ⟨l, h, h1, h2, ord_leq h3 ha h5 (na hf) h7, ord_leq ha h4 (na hf) h6 h8, h9⟩
  have HNF : Hid (finB a = false → T4 = (0, 10) ∧ T3 = (0, 10)) := fun hf => by
    rw [hT4, hT3]; unfold tplA
    rw [if_neg (fun h => h ⟨by omega, by omega, by decide, by decide⟩), if_pos hf, if_neg (fun h => h ⟨by omega, by omega, by decide, by decide⟩), if_pos hf]
    exact ⟨rfl, rfl⟩
  have HSB : Hid (Go.FloatKind.f64.format.order b b = some .eq) := ord_self9 hb1 nb
  have HSA : Hid (finB a = true → Go.FloatKind.f64.format.order a a = some .eq) := fun hf => ord_self9 ha (na hf)
  have HA : Hid (W64 a) := ha
  have HKF : Hid (k.tmod 9007199254740992 = K ∧ IntKind.i64.wrap K = K ∧ floatOfInt .f64 K = b) := ⟨hK.symm, hKw, hb0⟩
  have HMN : Hid (∀ W : Int, W = M → W.tmod 401 = (N : Int) ∧ IntKind.i64.wrap (N : Int) = (N : Int)) := fun W h => by
    subst h
    refine ⟨?_, IntWalk.i64_in _ (by omega)⟩
    rw [Int.tmod_eq_emod_of_nonneg (by omega)]
    omega
  have cut : ∀ x : Int, x = M → True := fun _ _ => trivial
  clear cut hK hKb hb0 hb1 hb2 hb3 hKw htab hT hQ hT4 hT3 hD na nb ha hN
  have hn1 : n < 0 → IntKind.i64.wrap (n + 1) = n + 1 ∧ IntKind.i64.wrap (-(n + 1)) = (M : Int) := fun h => by
    rw [if_pos h] at hM
    exact ⟨IntWalk.i64_in _ (by omega), by rw [IntWalk.i64_in _ (by omega)]; omega⟩
  have hcs : (n < 0 ∧ IntKind.i64.wrap (n + 1) = n + 1 ∧ IntKind.i64.wrap (-(n + 1)) = (M : Int)) ∨ (¬ n < 0 ∧ n = (M : Int)) := by
    by_cases h : n < 0
    · exact .inl ⟨h, hn1 h⟩
    · rw [if_neg h] at hM; exact .inr ⟨h, hM.symm⟩
  have HCS : Hid _ := hcs
  clear hcs hn1 hM hMb ln un
  go_enter Tryz.func4, Tryz.ntmps4
  go_wp2_with fail
  refine HW.out.mono ?_
  rintro e w1 ⟨rfl, hb1⟩
  have HB1 : Hid (Below w.heap.size w w1) := hb1
  obtain ⟨k1, k2, k3⟩ := HKF.out
  obtain ⟨t1, t2⟩ := HMN.out _ rfl
  clear hb1 HW
  rcases HCS.out with ⟨g1, g2, g3⟩ | ⟨g1, rfl⟩
  all_goals
    go_wp2_with fail
    clear k1 k2 k3 t1 t2 g1 HKF HMN
    go_loopw [9] (fun mv wr => ∃ m : Nat, 1 ≤ m ∧ m ≤ 7 ∧ mv = .int .i64 (m : Nat) ∧ Below w.heap.size w wr) (fun mv _ => 8 - (intOf mv).toNat)
    case atStart => exact ⟨1, by decide, by decide, by first | rfl | go_num, HB1.out⟩
    case round =>
      obtain ⟨m, h1, h2, rfl, hb⟩ := hrel
      have HB2 : Hid (Below w.heap.size w wr) := hb
      clear hb HB1
      by_cases hm : m ≤ 6
      · have hc : (m : Int) ≤ 6 := by omega
        go_wp2_with fail
        (with_reducible refine (HWH.out _ m HB2.out (by omega) (by omega)).mono ?_)
        rintro e w2 ⟨rfl, hb2⟩
        have HB3 : Hid (Below w.heap.size w w2) := HB2.out.thru hb2
        have hs := HSB.out
        clear hb2 HB2
        go_wp2
        go_roundw
        case rel => exact ⟨m + 1, by omega, by omega, by go_num, HB3.out⟩
        case measure => simp [intOf]; omega
      · have hc : ¬ (m : Int) ≤ 6 := by omega
        go_wp2_with fail
        (with_reducible refine (HP4.out _ HB2.out).mono ?_)
        rintro e w2 ⟨rfl, hb2⟩
        have HB3 : Hid (Below w.heap.size w w2) := HB2.out.thru hb2
        clear hb2 HB2 hc HP4
        go_wp2_with fail
        (with_reducible refine (HP3.out _ HB3.out).mono ?_)
        rintro e w3 ⟨rfl, hb3⟩
        have HB4 : Hid (Below w.heap.size w w3) := HB3.out.thru hb3
        clear hb3 HB3 HP3
        cases hf : finB a
        · obtain ⟨e4, e3⟩ := HNF.out hf
          subst e4 e3
          go_wp2_with (go_at_call 16; with_reducible refine (ref_finite7 _ HA.out _ hf _).mono ?_; rintro e w' ⟨rfl, rfl⟩)
          go_ret
          exact ⟨rfl, HB4.out⟩
        · obtain ⟨l, h, e4, e3, hl, hh, hfar⟩ := HFIN.out hf
          subst e4 e3
          have HDO1 : Hid _ := HDO.out hf
          have hsa := HSA.out hf
          have HFAR : Hid _ := hfar
          obtain ⟨d1, d2, d3⟩ := HDL.out
          clear hfar HFIN HNF HDO
          go_wp2_with (go_at_call 16; with_reducible refine (ref_finite7 _ HA.out _ hf _).mono ?_; rintro e w' ⟨rfl, rfl⟩)
          refine (HDO1.out _).mono ?_
          rintro e w4 ⟨rfl, hb4⟩
          have HB5 : Hid (Below w.heap.size w (w4.alloc (.cells #[.bool D.neg, .string (bs D.s), .int .i64 D.e] 35))) := (HB4.out.thru hb4).alloc (HB4.out.thru hb4).size _
          have HK5 : Hid (Kept _ (w4.alloc (.cells #[.bool D.neg, .string (bs D.s), .int .i64 D.e] 35))) := (Kept.nil w4).dec D
          clear hb4 HB4 HDO1
          obtain ⟨a0, a1, a2⟩ := HK5.out.decs (d := D) (.head _)
          have hw : IntKind.i64.wrap ((D.s.length : Int) + D.e) = (D.s.length : Int) + D.e := IntWalk.i64_in _ (by omega)
          have hz : (bs D.s).size = D.s.length := rfl
          by_cases hg : 17 < (D.s.length : Int) + D.e
          · obtain ⟨rfl, rfl⟩ := HFAR.out hg
            clear HFAR hl hh
            go_wp2
            go_ret
            exact ⟨rfl, HB5.out⟩
          · clear HFAR
            rcases hl with hl | hl <;> rcases hh with hh | hh
            all_goals
              go_wp2
              go_ret
              exact ⟨rfl, HB5.out⟩
end
end Go.Proofs.YtlbokicainimnaaGreatDoor

namespace Go.Proofs.YtlbokicainimnaaGreatDoor.tableKeeps
open Go.ChangeShapes Go.WideShapes Go.ChangeAt Go.RowKit

theorem wf_u64_bd {n : Int} (h : (Lit.int .u64 n).wf = true) : 0 ≤ n ∧ n ≤ 18446744073709551615 := by
  simp [Lit.wf, IntKind.min, IntKind.max, IntKind.signed, IntKind.bits] at h; omega
theorem wf_i64_bd {n : Int} (h : (Lit.int .i64 n).wf = true) : -9223372036854775808 ≤ n ∧ n ≤ 9223372036854775807 := by
  simp [Lit.wf, IntKind.min, IntKind.max, IntKind.signed, IntKind.bits] at h; omega
theorem wf_i32_bd {n : Int} (h : (Lit.int .i32 n).wf = true) : -2147483648 ≤ n ∧ n ≤ 2147483647 := by
  simp [Lit.wf, IntKind.min, IntKind.max, IntKind.signed, IntKind.bits] at h; omega
theorem own : ownKnob Tryz.prog.godebug = none := by kernel_rfl
theorem gTab : Tryz.prog.globalNamed "internal/strconv.uint64pow10" = some 5 := by kernel_rfl
theorem gTabType : (Tryz.prog.globals[5]?).map (·.type) = some 279 := by kernel_rfl
theorem cellsArr : Tryz.prog.cellsOf 279 = 20 := by kernel_rfl
theorem cellsOne : Tryz.prog.cellsOf 22 = 1 := by kernel_rfl
theorem tab {W : World} (h : laidMetH Tryz.prog Rows.tableKeepsRow.laid W) : Tab W := by
  have := tabIs_mem (l := Rows.tableKeepsRow.laid) (zs := [1, 10, 100, 1000, 10000, 100000, 1000000, 10000000, 100000000, 1000000000, 10000000000, 100000000000, 1000000000000, 10000000000000, 100000000000000, 1000000000000000, 10000000000000000, 100000000000000000, 1000000000000000000, 10000000000000000000]) gTab gTabType Tryz.underlying279 Tryz.underlying22 cellsOne cellsArr h (by simp [Rows.tableKeepsRow, Rows.laid_internal_strconv_uint64pow10, Lib.tabData])
  exact this

theorem cells9 : Tryz.prog.cellsOf 116 = 9 := by kernel_rfl
theorem cells3 : Tryz.prog.cellsOf 115 = 3 := by kernel_rfl
theorem cells1 : Tryz.prog.cellsOf 3 = 1 := by kernel_rfl
theorem g_quotients : Tryz.prog.globalNamed "quadrille/table.quotients" = some 2 := by kernel_rfl
theorem gt_quotients : (Tryz.prog.globals[2]?).map (·.type) = some 116 := by kernel_rfl
theorem tab_quotients {W : World} (h : laidMetH Tryz.prog Rows.tableKeepsRow.laid W) : Tab9 W 2 quoZ :=
  tab9_of (l := Rows.tableKeepsRow.laid) (r0 := [0, 6, 5]) (r1 := [5, 6, 5]) (r2 := [4, 6, 1]) g_quotients gt_quotients Tryz.underlying116 Tryz.underlying115 Tryz.underlying3 cells1 cells3 cells9 h (by simp [Rows.tableKeepsRow, Rows.laid_quadrille_table_quotients, Lib.tabData]) rfl
theorem g_totals : Tryz.prog.globalNamed "quadrille/table.totals" = some 1 := by kernel_rfl
theorem gt_totals : (Tryz.prog.globals[1]?).map (·.type) = some 116 := by kernel_rfl
theorem tab_totals {W : World} (h : laidMetH Tryz.prog Rows.tableKeepsRow.laid W) : Tab9 W 1 totZ :=
  tab9_of (l := Rows.tableKeepsRow.laid) (r0 := [0, 0, 3]) (r1 := [0, 0, 3]) (r2 := [2, 2, 0]) g_totals gt_totals Tryz.underlying116 Tryz.underlying115 Tryz.underlying3 cells1 cells3 cells9 h (by simp [Rows.tableKeepsRow, Rows.laid_quadrille_table_totals, Lib.tabData]) rfl
set_option maxRecDepth 100000 in
theorem contract (H : Type) (enc : TypeId × Value → H) (W : World) (base : Nat) (args : Array Value) (ds gs : List (DataW H)) (before : List MemPlace)
    (hval : ∀ (j : Nat) t v, Tryz.f4.params[j]? = some t → args[j]? = some v → Value.okWide Tryz.prog W .any base t v)
    (hW : DataW.Whole enc Tryz.prog Tryz.f4.params.toList Rows.tableKeepsSpec.vars false W args.toList ds gs before) (hL : laidMetH Tryz.prog Rows.tableKeepsRow.laid W) :
    Calls Tryz.prog 4 args W fun e W' => ∃ v, e = .returned v ∧ Rows.tableKeepsSpec.post enc Tryz.prog Tryz.f4 false true false false W args v W' := by
  have hW' := hW
  obtain ⟨p, q, hA0, hV, rfl, hfz, hnd⟩ := hW
  have hA : DataW.TrodAll enc Tryz.prog W 0 (fun _ => true) true Tryz.f4.params.toList args.toList ds p := hA0
  rw [Tryz.params4] at hA hval
  obtain ⟨v0, vs0, d0, ds0, p0, q0, hargs, rfl, rfl, h0, r0⟩ := trodAll_cons hA
  obtain ⟨v1, vs1, d1, ds1, p1, q1, rfl, rfl, rfl, h1, r1⟩ := trodAll_cons r0
  obtain ⟨v2, vs2, d2, ds2, p2, q2, rfl, rfl, rfl, h2, r2⟩ := trodAll_cons r1
  obtain ⟨rfl, rfl, rfl⟩ := trodAll_nil r2
  obtain rfl : args = #[v0, v1, v2] := by rcases args with ⟨l⟩; exact congrArg Array.mk hargs
  obtain ⟨rfl, rfl⟩ := trodVars_none hV
  obtain ⟨a0, rfl, rfl, rfl, w0⟩ := open_int Tryz.underlying22 (hval 0 22 v0 rfl rfl) h0
  obtain ⟨a1, rfl, rfl, rfl, w1⟩ := open_int Tryz.underlying3 (hval 1 3 v1 rfl rfl) h1
  obtain ⟨a2, rfl, rfl, rfl, w2⟩ := open_int Tryz.underlying2 (hval 2 2 v2 rfl rfl) h2
  clear hA0
  simp only [List.append_nil] at hW'
  obtain ⟨b00, b01⟩ := wf_u64_bd w0
  obtain ⟨n0, e0⟩ : ∃ n : Nat, a0 = n := ⟨a0.toNat, by omega⟩
  have b0 : W64 n0 := by unfold W64; omega
  have b1 := wf_i64_bd w1
  have b2 := wf_i64_bd w2
  have walk : Calls Tryz.prog 4 #[.int .u64 a0, .int .i64 a1, .int .i64 a2] W fun e w' => e = .returned (.bool true) ∧ Below W.heap.size W w' := by
    rw [e0]
    exact tableKeeps_walk n0 a1 a2 W b0 b1.1 b1.2 b2.1 b2.2 (tab hL) (tab_totals hL) (tab_quotients hL)
  refine walk.mono fun e W' ⟨he, hg⟩ => ?_
  subst he
  exact ⟨_, rfl, _, _, _, [], [], [], hW', (trodAll_cons_mk (shut_bool Tryz.underlying4 _) trodAll_mk0), (trodAll_cons_mk (shut_int Tryz.underlying22 w0) (trodAll_cons_mk (shut_int Tryz.underlying3 w1) (trodAll_cons_mk (shut_int Tryz.underlying2 w2) trodAll_mk0))), rfl, hg.frame _, fun h => by cases h⟩

/-- A world for the witness: the settled one, the variables holding what their initialisers lay. -/
noncomputable def laidWorld (os : Os) : World :=
  { World.holding Tryz.prog os ⟨#[], #[], []⟩ with heap := ((((((((((((World.holding Tryz.prog os ⟨#[], #[], []⟩).heap.modify 11 (fun | .cells _ t frozen => .cells #[.int .u8 0, .int .u8 1, .int .u8 28, .int .u8 2, .int .u8 29, .int .u8 14, .int .u8 24, .int .u8 3, .int .u8 30, .int .u8 22, .int .u8 20, .int .u8 15, .int .u8 25, .int .u8 17, .int .u8 4, .int .u8 8, .int .u8 31, .int .u8 27, .int .u8 13, .int .u8 23, .int .u8 21, .int .u8 19, .int .u8 16, .int .u8 7, .int .u8 26, .int .u8 12, .int .u8 18, .int .u8 6, .int .u8 11, .int .u8 5, .int .u8 10, .int .u8 9] t frozen | o => o)).modify 12 (fun | .cells _ t frozen => .cells #[.int .u8 0, .int .u8 1, .int .u8 56, .int .u8 2, .int .u8 57, .int .u8 49, .int .u8 28, .int .u8 3, .int .u8 61, .int .u8 58, .int .u8 42, .int .u8 50, .int .u8 38, .int .u8 29, .int .u8 17, .int .u8 4, .int .u8 62, .int .u8 47, .int .u8 59, .int .u8 36, .int .u8 45, .int .u8 43, .int .u8 51, .int .u8 22, .int .u8 53, .int .u8 39, .int .u8 33, .int .u8 30, .int .u8 24, .int .u8 18, .int .u8 12, .int .u8 5, .int .u8 63, .int .u8 55, .int .u8 48, .int .u8 27, .int .u8 60, .int .u8 41, .int .u8 37, .int .u8 16, .int .u8 46, .int .u8 35, .int .u8 44, .int .u8 21, .int .u8 52, .int .u8 32, .int .u8 23, .int .u8 11, .int .u8 54, .int .u8 26, .int .u8 40, .int .u8 15, .int .u8 34, .int .u8 20, .int .u8 31, .int .u8 10, .int .u8 25, .int .u8 14, .int .u8 19, .int .u8 9, .int .u8 13, .int .u8 8, .int .u8 7, .int .u8 6] t frozen | o => o)).modify 5 (fun | .cells _ t frozen => .cells #[.int .u64 1, .int .u64 10, .int .u64 100, .int .u64 1000, .int .u64 10000, .int .u64 100000, .int .u64 1000000, .int .u64 10000000, .int .u64 100000000, .int .u64 1000000000, .int .u64 10000000000, .int .u64 100000000000, .int .u64 1000000000000, .int .u64 10000000000000, .int .u64 100000000000000, .int .u64 1000000000000000, .int .u64 10000000000000000, .int .u64 100000000000000000, .int .u64 1000000000000000000, .int .u64 10000000000000000000] t frozen | o => o)).modify 7 (fun | .cells _ t frozen => .cells #[.int .u8 128, .int .u8 191, .int .u8 160, .int .u8 191, .int .u8 128, .int .u8 159, .int .u8 144, .int .u8 191, .int .u8 128, .int .u8 143, .int .u8 0, .int .u8 0, .int .u8 0, .int .u8 0, .int .u8 0, .int .u8 0, .int .u8 0, .int .u8 0, .int .u8 0, .int .u8 0, .int .u8 0, .int .u8 0, .int .u8 0, .int .u8 0, .int .u8 0, .int .u8 0, .int .u8 0, .int .u8 0, .int .u8 0, .int .u8 0, .int .u8 0, .int .u8 0] t frozen | o => o)).modify 10 (fun | .cells _ t frozen => .cells #[.iface 299 (.pointer (some ⟨(World.holding Tryz.prog os ⟨#[], #[], []⟩).heap.size + 0, 0, none⟩))] t frozen | o => o)).modify 9 (fun | .cells _ t frozen => .cells #[.iface 299 (.pointer (some ⟨(World.holding Tryz.prog os ⟨#[], #[], []⟩).heap.size + 1, 0, none⟩))] t frozen | o => o)).modify 2 (fun | .cells _ t frozen => .cells #[.int .i64 0, .int .i64 6, .int .i64 5, .int .i64 5, .int .i64 6, .int .i64 5, .int .i64 4, .int .i64 6, .int .i64 1] t frozen | o => o)).modify 1 (fun | .cells _ t frozen => .cells #[.int .i64 0, .int .i64 0, .int .i64 3, .int .i64 0, .int .i64 0, .int .i64 3, .int .i64 2, .int .i64 2, .int .i64 0] t frozen | o => o)).modify 6 (fun | .cells _ t frozen => .cells #[.int .u8 240, .int .u8 240, .int .u8 240, .int .u8 240, .int .u8 240, .int .u8 240, .int .u8 240, .int .u8 240, .int .u8 240, .int .u8 240, .int .u8 240, .int .u8 240, .int .u8 240, .int .u8 240, .int .u8 240, .int .u8 240, .int .u8 240, .int .u8 240, .int .u8 240, .int .u8 240, .int .u8 240, .int .u8 240, .int .u8 240, .int .u8 240, .int .u8 240, .int .u8 240, .int .u8 240, .int .u8 240, .int .u8 240, .int .u8 240, .int .u8 240, .int .u8 240, .int .u8 240, .int .u8 240, .int .u8 240, .int .u8 240, .int .u8 240, .int .u8 240, .int .u8 240, .int .u8 240, .int .u8 240, .int .u8 240, .int .u8 240, .int .u8 240, .int .u8 240, .int .u8 240, .int .u8 240, .int .u8 240, .int .u8 240, .int .u8 240, .int .u8 240, .int .u8 240, .int .u8 240, .int .u8 240, .int .u8 240, .int .u8 240, .int .u8 240, .int .u8 240, .int .u8 240, .int .u8 240, .int .u8 240, .int .u8 240, .int .u8 240, .int .u8 240, .int .u8 240, .int .u8 240, .int .u8 240, .int .u8 240, .int .u8 240, .int .u8 240, .int .u8 240, .int .u8 240, .int .u8 240, .int .u8 240, .int .u8 240, .int .u8 240, .int .u8 240, .int .u8 240, .int .u8 240, .int .u8 240, .int .u8 240, .int .u8 240, .int .u8 240, .int .u8 240, .int .u8 240, .int .u8 240, .int .u8 240, .int .u8 240, .int .u8 240, .int .u8 240, .int .u8 240, .int .u8 240, .int .u8 240, .int .u8 240, .int .u8 240, .int .u8 240, .int .u8 240, .int .u8 240, .int .u8 240, .int .u8 240, .int .u8 240, .int .u8 240, .int .u8 240, .int .u8 240, .int .u8 240, .int .u8 240, .int .u8 240, .int .u8 240, .int .u8 240, .int .u8 240, .int .u8 240, .int .u8 240, .int .u8 240, .int .u8 240, .int .u8 240, .int .u8 240, .int .u8 240, .int .u8 240, .int .u8 240, .int .u8 240, .int .u8 240, .int .u8 240, .int .u8 240, .int .u8 240, .int .u8 240, .int .u8 240, .int .u8 240, .int .u8 240, .int .u8 241, .int .u8 241, .int .u8 241, .int .u8 241, .int .u8 241, .int .u8 241, .int .u8 241, .int .u8 241, .int .u8 241, .int .u8 241, .int .u8 241, .int .u8 241, .int .u8 241, .int .u8 241, .int .u8 241, .int .u8 241, .int .u8 241, .int .u8 241, .int .u8 241, .int .u8 241, .int .u8 241, .int .u8 241, .int .u8 241, .int .u8 241, .int .u8 241, .int .u8 241, .int .u8 241, .int .u8 241, .int .u8 241, .int .u8 241, .int .u8 241, .int .u8 241, .int .u8 241, .int .u8 241, .int .u8 241, .int .u8 241, .int .u8 241, .int .u8 241, .int .u8 241, .int .u8 241, .int .u8 241, .int .u8 241, .int .u8 241, .int .u8 241, .int .u8 241, .int .u8 241, .int .u8 241, .int .u8 241, .int .u8 241, .int .u8 241, .int .u8 241, .int .u8 241, .int .u8 241, .int .u8 241, .int .u8 241, .int .u8 241, .int .u8 241, .int .u8 241, .int .u8 241, .int .u8 241, .int .u8 241, .int .u8 241, .int .u8 241, .int .u8 241, .int .u8 241, .int .u8 241, .int .u8 2, .int .u8 2, .int .u8 2, .int .u8 2, .int .u8 2, .int .u8 2, .int .u8 2, .int .u8 2, .int .u8 2, .int .u8 2, .int .u8 2, .int .u8 2, .int .u8 2, .int .u8 2, .int .u8 2, .int .u8 2, .int .u8 2, .int .u8 2, .int .u8 2, .int .u8 2, .int .u8 2, .int .u8 2, .int .u8 2, .int .u8 2, .int .u8 2, .int .u8 2, .int .u8 2, .int .u8 2, .int .u8 2, .int .u8 2, .int .u8 19, .int .u8 3, .int .u8 3, .int .u8 3, .int .u8 3, .int .u8 3, .int .u8 3, .int .u8 3, .int .u8 3, .int .u8 3, .int .u8 3, .int .u8 3, .int .u8 3, .int .u8 35, .int .u8 3, .int .u8 3, .int .u8 52, .int .u8 4, .int .u8 4, .int .u8 4, .int .u8 68, .int .u8 241, .int .u8 241, .int .u8 241, .int .u8 241, .int .u8 241, .int .u8 241, .int .u8 241, .int .u8 241, .int .u8 241, .int .u8 241, .int .u8 241] t frozen | o => o)).push (.cells #[.string ⟨#[118, 97, 108, 117, 101, 32, 111, 117, 116, 32, 111, 102, 32, 114, 97, 110, 103, 101]⟩] 301 (0, 0))).push (.cells #[.string ⟨#[105, 110, 118, 97, 108, 105, 100, 32, 115, 121, 110, 116, 97, 120]⟩] 301 (0, 0))) }
set_option maxRecDepth 100000 in
theorem laid_met (os : Os) : laidMet Tryz.prog Rows.tableKeepsRow.laid ((laidWorld os).forCall (fun _ _ => 0) ⟨#[], #[.int .u64 0, .int .i64 0, .int .i64 0], []⟩).memory :=
  laidMet_of_run' 8 (by kernel_rfl) (by kernel_rfl)
theorem reads (os : Os) {H : Type} (enc : TypeId × Value → H) : ∃ places, DataW.whole enc Tryz.prog ((laidWorld os).forCall (fun _ _ => 0) ⟨#[], #[.int .u64 0, .int .i64 0, .int .i64 0], []⟩).memory Tryz.f4.params.toList Rows.tableKeepsSpec.vars false (#[.int .u64 0, .int .i64 0, .int .i64 0] : Array Value).toList 8 = some ([.lit (.int .u64 0), .lit (.int .i64 0), .lit (.int .i64 0)], [], places) :=
  ⟨[], by kernel_rfl⟩
set_option maxRecDepth 100000 in
theorem lifted (os : Os) (started : os.Started) (H : Type) (enc : TypeId × Value → H) (F : Stop.Interp) :
    ReturnsInHanded {} Tryz.checked os 4 .any ((OpenSpec.ofChange Rows.tableKeepsSpec).preRow enc Tryz.prog Tryz.f4 Rows.tableKeepsRow.domain false Rows.tableKeepsRow.laid) (((OpenSpec.ofChange Rows.tableKeepsSpec).at F).post enc Tryz.prog Tryz.f4 false true false false) := by
  obtain ⟨places, hx⟩ := reads os enc
  refine returnsInHanded_of_row (C := Tryz.checked) (s := OpenSpec.ofChange Rows.tableKeepsSpec) own started (by kernel_rfl) Tryz.func4
    (witness_row_at (enc := enc) (C := Tryz.checked) false (laidWorld os) #[.int .u64 0, .int .i64 0, .int .i64 0] rfl (by kernel_rfl) (by kernel_rfl) (by kernel_rfl)
      (OpenSpec.preRow_of_cond 8 hx (by kernel_rfl) (fun k hk => by cases hk) (by kernel_rfl) (laid_met os))) ?_
  intro W base args ds gs before hval hW _ _ _ hL _ _
  exact contract H enc W base args ds gs before hval hW hL
set_option maxRecDepth 100000 in
theorem ja : (Rows.tableKeepsRow.inPlace == Tryz.pinned.checked.prog.inPlace 4) = true := by kernel_rfl
set_option maxRecDepth 100000 in
theorem jb : (Rows.tableKeepsRow.unfollowed == Tryz.pinned.checked.prog.unfollowed 4) = true := by kernel_rfl
set_option maxRecDepth 100000 in
theorem jc : (Rows.tableKeepsRow.recurses == Tryz.pinned.checked.prog.recurses 4) = true := by kernel_rfl
set_option maxRecDepth 100000 in
theorem jd : (Rows.tableKeepsRow.named == Tryz.pinned.checked.prog.varsNamed 4) = true := by kernel_rfl
set_option maxRecDepth 100000 in
theorem je : laidOutB Tryz.pinned.checked.prog = true := by kernel_rfl
set_option maxRecDepth 100000 in
theorem jk : mapsRowed Tryz.pinned.checked.prog = true := by kernel_rfl
set_option maxRecDepth 100000 in
theorem closed : joinedFacts Tryz.pinned.checked.prog 4 Tryz.f4 (OpenSpec.ofChange Rows.tableKeepsSpec).bare Rows.tableKeepsRow = true := by
  unfold joinedFacts
  simp only [Bool.and_eq_true]
  repeat' refine And.intro ?_ ?_
  all_goals first | (with_reducible exact ja) | (with_reducible exact jb) | (with_reducible exact jc) | (with_reducible exact jd) | (with_reducible exact je) | (with_reducible exact jk) | kernel_rfl
theorem said : Rows.TableKeepsSaid :=
  OpenClaim.holds_of_cond 4 Tryz.f4 rfl rfl rfl rfl rfl rfl rfl ⟨rfl, rfl, rfl, rfl, rfl⟩ rfl rfl rfl rfl rfl (by kernel_rfl) Tryz.func4 closed
    (of_decide_eq_true (by kernel_rfl)) (by unfold Func.isWrapper; rw [if_neg (of_decide_eq_false (by kernel_rfl))]; exact ⟨rfl, rfl⟩)
    (fun os started H enc _ F => by rw [OpenClaim.pre_eq_preRow]; exact lifted os started H enc F)
theorem plain (f : FuncId) (fn : Func) (hf : Tryz.pinned.checked.prog.funcNamed "quadrille/quadrillelaw07.TableKeeps" = some f) (hfn : Tryz.pinned.checked.prog.funcs[f]? = some fn) :
    true = Tryz.pinned.checked.prog.looks [] ∧ ∀ (j : Nat) t, fn.params[j]? = some t → Tryz.pinned.checked.prog.wantsStandIn t = false := by
  obtain rfl : f = 4 := Option.some.inj ((show Tryz.prog.funcNamed "quadrille/quadrillelaw07.TableKeeps" = some 4 by kernel_rfl).symm.trans hf) |>.symm
  obtain rfl : fn = Tryz.f4 := (Option.some.inj (Tryz.func4.symm.trans hfn)).symm
  refine ⟨by kernel_rfl, fun j t ht => ?_⟩
  rw [Tryz.params4] at ht
  have hm := Array.mem_of_getElem? ht
  simp only [List.mem_toArray, List.mem_cons, List.not_mem_nil, or_false] at hm
  rcases hm with rfl | rfl | rfl
  · exact (show Tryz.prog.wantsStandIn 22 = false by kernel_rfl)
  · exact (show Tryz.prog.wantsStandIn 3 = false by kernel_rfl)
  · exact (show Tryz.prog.wantsStandIn 2 = false by kernel_rfl)
theorem card : Rows.TableKeepsCardSaid :=
  Claim7.holds_tied_plain_at .later [] _ _ _ _ said (fun _ h => by cases h) (by kernel_rfl) (fun _ h => by cases h) tableKeeps_row_tie rfl ⟨rfl, rfl⟩ (by kernel_rfl) rfl plain (by kernel_rfl)
end Go.Proofs.YtlbokicainimnaaGreatDoor.tableKeeps
