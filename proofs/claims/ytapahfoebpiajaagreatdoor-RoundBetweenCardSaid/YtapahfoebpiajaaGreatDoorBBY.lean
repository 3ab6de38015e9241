/- Parts By of the proof, in one text. -/
import Derived.Test.YtapahfoebpiajaaGreatDoorBAN
import Derived.Test.YtapahfoebpiajaaGreatDoorBBU
import Derived.Test.YtapahfoebpiajaaGreatDoorBBJ
import Derived.Test.YtapahfoebpiajaaGreatDoorBQC

/- Plain: what the law RoundBetween asks. -/
namespace Go.Proofs.YtapahfoebpiajaaGreatDoor
open Go Go.RowKit

theorem side_bits (neg : Bool) {F : Nat} (h : F ≤ 9218868437227405312) : absB ((if neg = true then 2^63 else 0) + F) = F ∧ sgnB ((if neg = true then 2^63 else 0) + F) = neg ∧ nanB ((if neg = true then 2^63 else 0) + F) = false ∧ W64 ((if neg = true then 2^63 else 0) + F) := by
  have h63 : (2:Nat)^63 = 9223372036854775808 := by decide
  rw [h63]
  unfold nanB absB sgnB W64
  cases neg
  · simp; omega
  · simp; omega
theorem ord_val {x y : Nat} (hx : W64 x) (hy : W64 y) (nx : nanB x = false) (ny : nanB y = false) (o : Ordering) : (Go.FloatKind.f64.format.order x y == some o) = (compare (valB x) (valB y) == o) := by
  have := ord_D x y hx hy nx ny
  show (Ieee.double.order x y == some o) = _
  rw [this]
  cases compare (valB x) (valB y) <;> cases o <;> rfl
theorem ord_self {x : Nat} (hx : W64 x) (nx : nanB x = false) : (Go.FloatKind.f64.format.order x x == some .eq) = true ∧ (Go.FloatKind.f64.format.order x x == some .gt) = false := by
  rw [ord_val hx hx nx nx, ord_val hx hx nx nx]
  have : compare (valB x) (valB x) = .eq := by simp
  rw [this]; exact ⟨rfl, rfl⟩
theorem ord_less {x y : Nat} (hx : W64 x) (hy : W64 y) (nx : nanB x = false) (ny : nanB y = false) (h : valB x ≤ valB y) : (Go.FloatKind.f64.format.order x y == some .gt) = false := by
  rw [ord_val hx hy nx ny]
  have : compare (valB x) (valB y) ≠ .gt := by rw [Ne, Int.compare_eq_gt]; omega
  cases h : compare (valB x) (valB y) <;> first | rfl | exact absurd h this
/-- Two numbers beside one another. -/
structure Betw (l h : Nat) : Prop where
  wl : W64 l
  wh : W64 h
  nl : nanB l = false
  nh : nanB h = false
  lt : (Go.FloatKind.f64.format.order l h == some .gt) = false
  next : nextB l = h
  neg : negB l = negB h
theorem betw_of (neg : Bool) {F : Nat} (h : F < 9218868437227405312) : Betw ((if neg = true then 2^63 else 0) + (if neg = true then F + 1 else F)) ((if neg = true then 2^63 else 0) + (if neg = true then F else F + 1)) := by
  have h1 : (if neg = true then F + 1 else F) ≤ 9218868437227405312 := by split <;> omega
  have h2 : (if neg = true then F else F + 1) ≤ 9218868437227405312 := by split <;> omega
  obtain ⟨a1, a2, a3, a4⟩ := side_bits neg h1
  obtain ⟨b1, b2, b3, b4⟩ := side_bits neg h2
  refine ⟨a4, b4, a3, b3, ord_less a4 b4 a3 b3 ?_, ?_, ?_⟩
  · unfold valB
    rw [a1, a2, b1, b2]
    have := rv_lt (p := 52) (show F < F + 1 by omega)
    cases neg
    · rw [if_neg (by decide), if_neg (by decide), if_neg (by decide), if_neg (by decide)]; omega
    · rw [if_pos rfl, if_pos rfl, if_pos rfl, if_pos rfl]; omega
  · have hk : keyB ((if neg = true then 2^63 else 0) + (if neg = true then F + 1 else F)) = if neg = true then -((F + 1 : Nat) : Int) - 1 else (F : Int) := by
      unfold keyB
      rw [a1, a2, a3]
      cases neg <;> rfl
    have hp : pinfB ((if neg = true then 2^63 else 0) + (if neg = true then F + 1 else F)) = false := by
      have h63 : (2:Nat)^63 = 9223372036854775808 := by decide
      unfold pinfB
      rw [h63]
      cases neg
      · simp; omega
      · simp; omega
    unfold nextB
    rw [a3, hp, hk]
    unfold atB
    have h63 : (2:Nat)^63 = 9223372036854775808 := by decide
    rw [h63]
    cases neg
    · simp <;> omega
    · simp <;> omega
  · unfold negB
    rw [a2, a3, b2, b3]
/-- What the law asks, of a decimal. -/
theorem between_facts {a : Dc} (ha : a.ok) :
    (∃ l, W64 l ∧ nanB l = false ∧ (to64A a 4).bits = l ∧ (to64A a 3).bits = l ∧ (to64A a 4).err = 0 ∧ (to64A a 3).err = 0 ∧ (to64A a 4).ine = false ∧ (to64A a 3).ine = false) ∨
    (a.s ≠ [] ∧ ∃ l h, Betw l h ∧ (to64A a 4).bits = l ∧ (to64A a 3).bits = h ∧ ∀ m : Int, 1 ≤ m ∧ m ≤ 6 →
      (to64A a m).err = 0 ∧ (to64A a m).ine = true ∧ ((to64A a m).bits = l ∨ (to64A a m).bits = h) ∧
      ∃ z, W64 z ∧ Go.Op.negFloat .f64 z = (to64A a m).bits ∧ to64A ⟨!a.neg, a.s, a.e⟩ (oppM m) = ⟨z, true, (to64A a m).ov, (to64A a m).un, 0⟩) := by
  have hno : ∀ m : Int, 1 ≤ m ∧ m ≤ 6 → a.s ≠ [] → to64A a m = ⟨bits64 a.neg (outG 53 (-1074) 971 a.neg m (quoG a oneD)), (outG 53 (-1074) 971 a.neg m (quoG a oneD)).ine, (outG 53 (-1074) 971 a.neg m (quoG a oneD)).ov, (outG 53 (-1074) 971 a.neg m (quoG a oneD)).un, 0⟩ := fun m hm hs => by
    have hb : (a.neg != oneD.neg) = a.neg := by show (a.neg != false) = a.neg; cases a.neg <;> rfl
    unfold to64A ratioA
    rw [if_neg (fun h => h ⟨ha, oneD_ok, hm⟩), if_neg oneD_s, if_neg hs, hb]
  by_cases hs : a.s = []
  · left
    have h : ∀ m : Int, 1 ≤ m ∧ m ≤ 6 → to64A a m = RA.no 0 := fun m hm => by
      unfold to64A ratioA
      rw [if_neg (fun h => h ⟨ha, oneD_ok, hm⟩), if_neg oneD_s, if_pos hs]
    rw [h 4 (by decide), h 3 (by decide)]
    exact ⟨0, by unfold W64; decide, by decide, rfl, rfl, rfl, rfl, rfl, rfl⟩
  · have hir : infR 53 (-1074) 971 = 9218868437227405312 := by decide
    have hg : (quoG a oneD).Ok := quoG_ok oneD_ok oneD_s
    obtain ⟨g, hgd⟩ : ∃ g, g = quoG a oneD := ⟨_, rfl⟩
    rw [← hgd] at hg
    rw [← hgd] at hno
    obtain ⟨ine, i1, i2, i3⟩ := out_between (b := 53) (L := -1074) (T := 971) (neg := a.neg) (g := g) (by decide) (by decide) hg
    rw [hir] at i3
    cases ine
    · left
      have hr : ∀ m, (outG 53 (-1074) 971 a.neg m g).rung 53 (-1074) 971 ≤ 9218868437227405312 := fun m => by
        rcases out_range (b := 53) (L := -1074) (T := 971) (neg := a.neg) (mode := m) (by decide) (by decide) hg with h | ⟨h1, h2, h3, h4, h5⟩
        · unfold Out.rung
          rw [if_pos h]; decide
        · unfold Out.rung
          rw [if_neg (by rw [h1]; decide)]
          omega
      obtain ⟨-, -, s3, s4⟩ := side_bits a.neg (hr 1)
      rw [hno 4 (by decide) hs, hno 3 (by decide) hs, i2 rfl 4, i2 rfl 3]
      exact ⟨_, s4, s3, rfl, rfl, rfl, rfl, i1 1, i1 1⟩
    · right
      obtain ⟨F, hF, hm, hlo, hhi⟩ := i3 rfl
      have hbw := betw_of a.neg hF
      refine ⟨hs, _, _, hbw, ?_, ?_, ?_⟩
      · rw [hno 4 (by decide) hs]
        show bits64 _ _ = _
        unfold bits64
        congr 1
        cases hn : a.neg
        · rw [hn] at hlo; exact hlo
        · rw [hn] at hhi; exact hhi
      · rw [hno 3 (by decide) hs]
        show bits64 _ _ = _
        unfold bits64
        congr 1
        cases hn : a.neg
        · rw [hn] at hhi; exact hhi
        · rw [hn] at hlo; exact hlo
      · intro m hmm
        rw [hno m hmm hs]
        refine ⟨rfl, i1 m, ?_, ?_⟩
        · show bits64 _ _ = _ ∨ bits64 _ _ = _
          unfold bits64
          rcases hm m with h | h
          · rw [h]
            cases a.neg
            · left; rfl
            · right; rfl
          · rw [h]
            cases a.neg
            · right; rfl
            · left; rfl
        · have hop : 1 ≤ oppM m ∧ oppM m ≤ 6 := by unfold oppM; split; decide; split; decide; exact hmm
          have hok : Dc.ok ⟨!a.neg, a.s, a.e⟩ := .inr (by rcases ha with h | h; exact absurd (by rw [h]; rfl) hs; exact h)
          have hq : quoG ⟨!a.neg, a.s, a.e⟩ oneD = g := by rw [hgd]; rfl
          have hb : ((!a.neg) != oneD.neg) = !a.neg := by show ((!a.neg) != false) = !a.neg; cases a.neg <;> rfl
          have hF2 : (outG 53 (-1074) 971 a.neg m g).rung 53 (-1074) 971 ≤ 9218868437227405312 := by rcases hm m with h | h <;> omega
          obtain ⟨s1, s2, s3, s4⟩ := side_bits (!a.neg) hF2
          refine ⟨_, s4, ?_, ?_⟩
          · rw [negFloat_D _ s4, s1, s2]
            show _ = bits64 _ _
            unfold bits64
            have h63 : (2:Nat)^63 = 9223372036854775808 := by decide
            rw [h63]
            cases a.neg
            · simp
            · simp; omega
          · unfold to64A ratioA
            rw [if_neg (fun h => h ⟨hok, oneD_ok, hop⟩), if_neg oneD_s, if_neg hs, hq]
            show RA.mk (bits64 ((!a.neg) != oneD.neg) (outG 53 (-1074) 971 ((!a.neg) != oneD.neg) (oppM m) g)) (outG 53 (-1074) 971 ((!a.neg) != oneD.neg) (oppM m) g).ine (outG 53 (-1074) 971 ((!a.neg) != oneD.neg) (oppM m) g).ov (outG 53 (-1074) 971 ((!a.neg) != oneD.neg) (oppM m) g).un 0 = _
            rw [hb, out_opp]
            obtain ⟨O, hO⟩ : ∃ O, O = outG 53 (-1074) 971 a.neg m g := ⟨_, rfl⟩
            have hi := i1 m
            rw [← hO] at hi ⊢
            rw [hi]; rfl
theorem ra_eta (R : RA) {l : Nat} {i : Bool} {e : Int} (h1 : R.bits = l) (h2 : R.ine = i) (h3 : R.err = e) : ∃ o u, R = ⟨l, i, o, u, e⟩ := by
  obtain ⟨b, i', o, u, e'⟩ := R
  cases h1; cases h2; cases h3
  exact ⟨o, u, rfl⟩
/-- The three ways. -/
theorem between_cases (a : Dc) :
    (a.okB = false ∧ (to64A a 4) = RA.no 1 ∧ (to64A a 3) = RA.no 1) ∨
    (a.okB = true ∧ ∃ l o u o' u', W64 l ∧ nanB l = false ∧ to64A a 4 = ⟨l, false, o, u, 0⟩ ∧ to64A a 3 = ⟨l, false, o', u', 0⟩) ∨
    (a.okB = true ∧ (bs a.s).toList.isEmpty = false ∧ ∃ l h o u o' u', Betw l h ∧ to64A a 4 = ⟨l, true, o, u, 0⟩ ∧ to64A a 3 = ⟨h, true, o', u', 0⟩ ∧ ∀ m : Int, 1 ≤ m ∧ m ≤ 6 →
      ∃ x o u z, (x = l ∨ x = h) ∧ to64A a m = ⟨x, true, o, u, 0⟩ ∧ Go.Op.negFloat .f64 z = x ∧ to64A ⟨!a.neg, a.s, a.e⟩ (oppM m) = ⟨z, true, o, u, 0⟩) := by
  by_cases ha : a.ok
  · right
    rcases between_facts ha with ⟨l, h1, h2, h3, h4, h5, h6, h7, h8⟩ | ⟨hs, l, h, hb, h3, h4, hm⟩
    · left
      obtain ⟨o, u, e1⟩ := ra_eta _ h3 h7 h5
      obtain ⟨o', u', e2⟩ := ra_eta _ h4 h8 h6
      exact ⟨(okB_iff a).2 ha, l, o, u, o', u', h1, h2, e1, e2⟩
    · right
      obtain ⟨x1, x2, -⟩ := hm 4 (by decide)
      obtain ⟨y1, y2, -⟩ := hm 3 (by decide)
      obtain ⟨o, u, e1⟩ := ra_eta _ h3 x2 x1
      obtain ⟨o', u', e2⟩ := ra_eta _ h4 y2 y1
      refine ⟨(okB_iff a).2 ha, ?_, l, h, o, u, o', u', hb, e1, e2, fun m hmm => ?_⟩
      · rw [bs_emp]
        exact decide_eq_false hs
      · obtain ⟨z1, z2, z3, z, z4, z5, z6⟩ := hm m hmm
        obtain ⟨o, u, e1⟩ := ra_eta _ rfl z2 z1
        rw [e1] at z3 z5 z6
        exact ⟨_, o, u, z, z3, e1, z5, z6⟩
  · left
    have h : ∀ m : Int, to64A a m = RA.no 1 := fun m => by
      unfold to64A ratioA
      rw [if_pos (fun h => ha h.1)]
    exact ⟨by rw [← Bool.not_eq_true]; exact fun h' => ha ((okB_iff a).1 h'), h 4, h 3⟩
end Go.Proofs.YtapahfoebpiajaaGreatDoor
