/- Parts Bu, Bv of the proof, in one text. -/
import Derived.Test.YtapahfoebpiajaaGreatDoorORE
import Derived.Test.YtapahfoebpiajaaGreatDoorOAN
import Derived.Test.YtapahfoebpiajaaGreatDoorOQA
import Derived.Test.YtapahfoebpiajaaGreatDoorORR
import Derived.Test.YtapahfoebpiajaaGreatDoorOBS

/- Plain: numbers' bits, their decimals, and what these are rounded to. -/
namespace Go.Proofs.YtapahfoebpiajaaGreatDoor
open Go Go.RowKit Go.Lib

theorem val_sgn (b : Nat) : valB b = sg (sgnB b) (rv 52 (absB b)) := rfl
/-- The bits of m 2^e, of a sign. -/
def rungN (m : Nat) (e : Int) : Nat := (e + 1074).toNat * 4503599627370496 + m
def Canon (m : Nat) (e : Int) : Prop := m < 9007199254740992 ∧ -1074 ≤ e ∧ e ≤ 971 ∧ (e = -1074 ∨ 4503599627370496 ≤ m)
theorem Canon.lt {m : Nat} {e : Int} (h : Canon m e) : rungN m e < 9218868437227405312 := by
  obtain ⟨h1, h2, h3, h4⟩ := h
  unfold rungN
  omega
theorem Canon.rv {m : Nat} {e : Int} (h : Canon m e) : rv 52 (rungN m e) = m * 2 ^ (e + 1074).toNat := by
  obtain ⟨h1, h2, h3, h4⟩ := h
  exact rv_qK 52 _ m (by omega) (by omega)
theorem Canon.out {m : Nat} {e : Int} (h : Canon m e) {neg : Bool} {mode : Int} : outG 53 (-1074) 971 neg mode (numG m e) = ⟨false, m, e, false, false, false⟩ :=
  num_out (by decide) h.1 h.2.1 h.2.2.1 h.2.2.2
theorem bits_abs (neg : Bool) {R : Nat} (h : R < 9223372036854775808) : absB (sgW neg + R) = R := by
  unfold absB sgW
  cases neg <;> simp <;> omega
theorem bits_sgn (neg : Bool) {R : Nat} (h : R < 9223372036854775808) : sgnB (sgW neg + R) = neg := by
  unfold sgnB sgW
  cases neg <;> simp <;> omega
theorem bits_W (neg : Bool) {R : Nat} (h : R < 9223372036854775808) : W64 (sgW neg + R) := by
  unfold W64 sgW
  cases neg <;> simp <;> omega
theorem canon_bits (neg : Bool) {m : Nat} {e : Int} (h : Canon m e) : W64 (sgW neg + rungN m e) ∧ absB (sgW neg + rungN m e) = rungN m e ∧ sgnB (sgW neg + rungN m e) = neg ∧ finB (sgW neg + rungN m e) = true := by
  have h1 := h.lt
  have h2 := bits_abs neg (R := rungN m e) (by omega)
  refine ⟨bits_W neg (by omega), h2, bits_sgn neg (by omega), ?_⟩
  unfold finB
  rw [h2]
  exact decide_eq_true h1
/-- Every finite number's decimal has room. -/
theorem of_room {b : Nat} (h : finB b = true) : ofX b = 0 := by
  have hx : spX b = 0 := by
    have := finB_eq b
    rw [h] at this
    unfold spX
    cases hn : nanB b <;> cases hi : infB b <;> rw [hn, hi] at this <;> simp at this ⊢
  rw [(of_mk hx).2]
  obtain ⟨r1, r2, r3⟩ := sp_bd b
  obtain ⟨k, hk⟩ : ∃ k, k = 1200 := ⟨_, rfl⟩
  have le10 : ∀ i j : Nat, i ≤ 10 → i ^ j ≤ 10 ^ j := fun i j h => Nat.pow_le_pow_left h j
  have hM : spM b < 10 ^ 53 := Nat.lt_of_lt_of_le r3 (by decide)
  have key : ∀ i j : Nat, i ≤ 10 → 53 + j ≤ k → spM b * i ^ j < 10 ^ k := fun i j hi hj => by
    refine Nat.lt_of_lt_of_le (Nat.lt_of_le_of_lt (Nat.mul_le_mul_left _ (le10 i j hi)) (Nat.mul_lt_mul_of_pos_right hM (Nat.pow_pos (by decide)))) ?_
    rw [← Nat.pow_add]
    exact Nat.pow_le_pow_right (by decide) hj
  refine mk_room (m := k) ?_ (by omega) ?_ ?_
  · rw [sg_natAbs]
    unfold ofN
    split
    · exact key 2 _ (by decide) (by omega)
    · exact key 5 _ (by decide) (by omega)
  · unfold ofE; split <;> omega
  · unfold ofE; split <;> omega
theorem of_num (neg : Bool) {m : Nat} {e : Int} (h : Canon m e) : Rep (ofD (sgW neg + rungN m e)) (sg neg (m * 2 ^ (e + (LP : Nat)).toNat) * 5 ^ LP) (-(LP : Int)) := by
  obtain ⟨h1, h2, h3, h4⟩ := canon_bits neg h
  have h5 := (of_rep (of_room h4)).1
  rw [val_sgn, h3, h2, h.rv] at h5
  have hl := LP_eq
  rw [show e + (LP : Nat) = e + 1074 by omega]
  exact h5
theorem of_mag (neg : Bool) {m : Nat} {e : Int} (h : Canon m e) (f : Int) : (quoG (ofD (sgW neg + rungN m e)) oneD).Q f = (numG m e).Q f ∧ (quoG (ofD (sgW neg + rungN m e)) oneD).H f = (numG m e).H f ∧ (quoG (ofD (sgW neg + rungN m e)) oneD).Z f = (numG m e).Z f := by
  have hl := LP_eq
  have h2 := h.2.1
  exact num_quo (of_num neg h) (by omega) f
theorem rep_zero {d : Dc} {e : Int} (h : Rep d 0 e) : d = Dc.none := h.uniq (rep_none e)
theorem rep_nil {d : Dc} {W e : Int} (h : Rep d W e) (h0 : d.s = []) : W = 0 := by
  have h1 := h.all (d.e.natAbs + e.natAbs) (by omega) (by omega)
  rw [ok_nil h.ok h0, none_v, Int.zero_mul] at h1
  rcases Int.mul_eq_zero.1 h1.symm with h2 | h2
  · exact h2
  · exact absurd h2 (pow_pos10 _)
theorem of_zero (neg : Bool) : ofD (sgW neg + rungN 0 (-1074)) = Dc.none := by
  have h := of_num neg (m := 0) (e := -1074) ⟨by decide, by decide, by decide, .inl rfl⟩
  rw [Nat.zero_mul] at h
  have : sg neg 0 = 0 := by cases neg <;> rfl
  rw [this, Int.zero_mul] at h
  exact rep_zero h
theorem of_some (neg : Bool) {m : Nat} {e : Int} (h : Canon m e) (h0 : m ≠ 0) : (ofD (sgW neg + rungN m e)).ok ∧ (ofD (sgW neg + rungN m e)).s ≠ [] ∧ (ofD (sgW neg + rungN m e)).neg = neg := by
  have hr := of_num neg h
  have hp : 0 < m * 2 ^ (e + (LP : Nat)).toNat := Nat.mul_pos (by omega) (Nat.two_pow_pos _)
  obtain ⟨h1, h2, h3, h4⟩ := canon_bits neg h
  have h5 := of_room h4
  refine ⟨hr.ok, fun hs => ?_, ?_⟩
  · have := rep_nil hr hs
    generalize m * 2 ^ (e + (LP : Nat)).toNat = x at *
    rcases Int.mul_eq_zero.1 this with g | g
    · unfold sg at g; split at g <;> omega
    · exact absurd g (Int.ne_of_gt (five_pos _))
  · rw [(of_cmp h5 h5).2.2, val_sgn, h3, h2, h.rv]
    have hl := LP_eq
    rw [show e + (LP : Nat) = e + 1074 by omega] at hp
    generalize m * 2 ^ (e + 1074).toNat = x at *
    unfold sg
    cases neg <;> simp <;> omega
/-- Bits of what is rounded, no infinity. -/
theorem bits64_fin2 (neg : Bool) {m : Nat} {e : Int} {i o u : Bool} : bits64 neg ⟨false, m, e, i, o, u⟩ = sgW neg + rungN m e := by
  rw [bits64_fin neg rfl]
  unfold rungN
  rw [show e - -1074 = e + 1074 by omega]
theorem zero_mag {M D : Nat} (hM : 0 < M) {f : Int} (h1 : (ratMag M D 0).Q f = 0) (h2 : (ratMag M D 0).Z f = true) : False := by
  have h1 : toN M 0 f / toD D 0 f = 0 := h1
  have h2 : decide (toN M 0 f % toD D 0 f = 0) = true := h2
  have h3 := Nat.div_add_mod (toN M 0 f) (toD D 0 f)
  rw [h1, of_decide_eq_true h2] at h3
  have h4 : 0 < toN M 0 f := Nat.mul_pos hM (Nat.two_pow_pos _)
  omega
/-- By Odd to 53 bits, then to 24: to 24 at once. -/
theorem odd_to32 {a : Dc} (ha : a.ok) {mode : Int} (hm : 1 ≤ mode ∧ mode ≤ 6) : ∃ m e, Canon m e ∧ (to64A a 6).bits = sgW a.neg + rungN m e ∧ (to64A a 6).err = 0 ∧ to32A (ofD (sgW a.neg + rungN m e)) mode = to32A a mode := by
  obtain ⟨-, he⟩ := to64_bits (m := 6) ha (by decide)
  by_cases h0 : a.s = []
  · refine ⟨0, -1074, ⟨by decide, by decide, by decide, .inl rfl⟩, ?_, he, ?_⟩
    · have hn := nil_neg ha h0
      unfold to64A ratioA
      rw [if_neg (fun h => h ⟨ha, oneD_ok, by decide⟩), if_neg oneD_s, if_pos h0, hn]
      rfl
    · rw [of_zero, ok_nil ha h0]
  · obtain ⟨m, e, i, o, u, h1, h2, h3, h4, h5, h6, h7⟩ := odd_out (neg := a.neg) (quoG_ok (a := a) oneD_ok oneD_s)
    have hc : Canon m e := ⟨h2, h3, h4, h5⟩
    have hm0 : m ≠ 0 := fun h => by
      obtain ⟨k1, k2⟩ := h6 h
      exact zero_mag (qM_pos ha h0) k1 k2
    refine ⟨m, e, hc, ?_, he, ?_⟩
    · unfold to64A ratioA
      rw [if_neg (fun h => h ⟨ha, oneD_ok, by decide⟩), if_neg oneD_s, if_neg h0, show (a.neg != oneD.neg) = a.neg by show (a.neg != false) = a.neg; cases a.neg <;> rfl, h1]
      exact bits64_fin2 _
    · obtain ⟨k1, k2, k3⟩ := of_some a.neg hc hm0
      unfold to32A
      rw [if_neg (fun h => h ⟨k1, hm⟩), if_neg k2, if_neg (fun h => h ⟨ha, hm⟩), if_neg h0, k3, out_same (of_mag a.neg hc), h7]
end Go.Proofs.YtapahfoebpiajaaGreatDoor

/- Walks: the law RoundOdd. -/
namespace Go.Proofs.YtapahfoebpiajaaGreatDoor
open Go.RowKit

theorem ord32_self (b : Nat) (h : b % 2147483648 ≤ 2139095040) : (Go.FloatKind.f32.format.order b b == some Ordering.eq) = true := by
  have := order_all (f := Ieee.single) S_ok b b (by rw [rg_S, S_inf]; exact h) (by rw [rg_S, S_inf]; exact h)
  show (Ieee.single.order b b == some Ordering.eq) = true
  rw [this]
  simp
theorem to32_num {a : Dc} {m : Int} : (to32A a m).bits % 2147483648 ≤ 2139095040 := by
  have h0 : ∀ e, (RA.no e).bits % 2147483648 ≤ 2139095040 := fun e => by show 0 % _ ≤ _; decide
  unfold to32A
  split
  · exact h0 1
  · split
    · exact h0 0
    · show bits32 _ _ % _ ≤ _
      have hr : (outG 24 (-149) 104 a.neg m (quoG a oneD)).rung 24 (-149) 104 ≤ 2139095040 := by
        rcases out_range (b := 24) (L := -149) (T := 104) (neg := a.neg) (mode := m) (by decide) (by decide) (quoG_ok (a := a) oneD_ok oneD_s) with h | ⟨h1, h2, h3, h4, h5⟩
        · unfold Out.rung
          rw [if_pos h]; decide
        · unfold Out.rung
          rw [if_neg (by rw [h1]; decide)]
          omega
      unfold bits32
      generalize (outG 24 (-149) 104 a.neg m (quoG a oneD)).rung 24 (-149) 104 = r at *
      split <;> omega
set_option maxHeartbeats 4000000 in
set_option maxRecDepth 100000 in
theorem roundOdd_core (a : Dc) (m : Int) (w : World) (ha : a.s.length ≤ 9223372036854775807) (htab : Tab w) :
    Calls Tryz.prog 8 #[.agg #[.bool a.neg, .string (bs a.s), .int .i64 a.e], .int .i64 m] w fun e w' => e = .returned (.bool true) ∧ Below w.heap.size w w' := by
  have HW : Hid (∀ W, Below w.heap.size w W → Calls Tryz.prog 10 #[] W fun e w' => e = .returned (.bool true) ∧ Below W.heap.size W w') := fun W hW => awake_v W (htab.below hW)
  obtain ⟨R, hR⟩ : ∃ R, R = to64A a 6 := ⟨_, rfl⟩
  obtain ⟨S, hS⟩ : ∃ S, S = to32A a m := ⟨_, rfl⟩
  have HRS : Hid (R = to64A a 6 ∧ S = to32A a m) := ⟨hR, hS⟩
  have H1 : Hid (∀ W, Below w.heap.size w W → Calls Tryz.prog 11 #[.agg #[.bool a.neg, .string (bs a.s), .int .i64 a.e], .int .i64 6] W (RatioQ R W)) := fun W hW => by rw [hR]; exact to64_v a 6 W (htab.below hW) ha
  have H2 : Hid (∀ W, Below w.heap.size w W → Calls Tryz.prog 13 #[.agg #[.bool a.neg, .string (bs a.s), .int .i64 a.e], .int .i64 m] W (Ratio32Q S W)) := fun W hW => by rw [hS]; exact to32_v a m W (htab.below hW) ha
  have H3 : Hid (∀ W d, Below w.heap.size w W → d.s.length ≤ 9223372036854775807 → Calls Tryz.prog 13 #[.agg #[.bool d.neg, .string (bs d.s), .int .i64 d.e], .int .i64 m] W (Ratio32Q (to32A d m) W)) := fun W d hW hd => to32_v d m W (htab.below hW) hd
  have H4 : Hid (∀ W b, Below w.heap.size w W → W64 b → Calls Tryz.prog 30 #[.float .f64 b] W (DcQ (ofD b) (ofX b) W)) := fun W b hW hb => of_v b hb W (htab.below hW)
  have H5 : Hid (∀ W, Calls Tryz.prog 21 #[.agg #[.bool a.neg, .string (bs a.s), .int .i64 a.e]] W fun e w' => e = .returned (.bool a.okB) ∧ Below W.heap.size W w') := fun W => rvalid3_v a W ha
  have HB0 : Hid (Below w.heap.size w (w.alloc (.cells #[.bool a.neg, .string (bs a.s), .int .i64 a.e] 23))) := (Below.refl _ _).alloc (Nat.le_refl _) _
  have HK0 : Hid (Kept _ (w.alloc (.cells #[.bool a.neg, .string (bs a.s), .int .i64 a.e] 23))) := (Kept.nil w).dec a
  have o32 : (Go.FloatKind.f32.format.order S.bits S.bits == some Ordering.eq) = true := ord32_self _ (by rw [hS]; exact to32_num)
  have HO : Hid ((Go.FloatKind.f32.format.order S.bits S.bits == some Ordering.eq) = true) := o32
  clear htab hR hS ha o32
  go_enter Tryz.func8, Tryz.ntmps8
  go_wp2_with fail
  refine (HW.out _ HB0.out).mono ?_
  rintro e w0 ⟨rfl, hb⟩
  have HK : Hid (Kept _ w0) := HK0.out.below hb
  have HB : Hid (Below w.heap.size w w0) := HB0.out.thru hb
  clear hb HB0 HK0
  obtain ⟨a0, a1, a2⟩ := HK.out.decs (.head _)
  go_wp2_with fail
  refine (H1.out _ HB.out).mono ?_
  rintro e v1 ⟨rfl, hb⟩
  have HK1 : Hid (Kept _ (v1.alloc (.cells #[.bool R.ine, .bool R.ov, .bool R.un] 27))) := (HK.out.below hb).push (.cells #[.bool R.ine, .bool R.ov, .bool R.un] 27 (0, 0))
  have HB1 : Hid (Below w.heap.size w (v1.alloc (.cells #[.bool R.ine, .bool R.ov, .bool R.un] 27))) := (HB.out.thru hb).alloc (HB.out.thru hb).size _
  clear hb HB HK a0 a1 a2
  obtain ⟨a0, a1, a2⟩ := HK1.out.decs (.tail _ (.head _))
  go_wp2_with fail
  refine (H2.out _ HB1.out).mono ?_
  rintro e v2 ⟨rfl, hb⟩
  have HK2 : Hid (Kept _ (v2.alloc (.cells #[.bool S.ine, .bool S.ov, .bool S.un] 27))) := (HK1.out.below hb).push (.cells #[.bool S.ine, .bool S.ov, .bool S.un] 27 (0, 0))
  have HB2 : Hid (Below w.heap.size w (v2.alloc (.cells #[.bool S.ine, .bool S.ov, .bool S.un] 27))) := (HB1.out.thru hb).alloc (HB1.out.thru hb).size _
  clear hb HB1 HK1 a0 a1 a2
  obtain ⟨a0, a1, a2⟩ := HK2.out.decs (.tail _ (.tail _ (.head _)))
  obtain ⟨v2', hv2⟩ : ∃ W, W = v2.alloc (.cells #[.bool S.ine, .bool S.ov, .bool S.un] 27) := ⟨_, rfl⟩
  go_upto_region 4 with fail
  rw [← hv2] at HK2 HB2 a0 a1 a2 ⊢
  by_cases hok : a.ok ∧ 1 ≤ m ∧ m ≤ 6
  · obtain ⟨mm, ee, hc, hb6, he6, h32⟩ := odd_to32 hok.1 hok.2
    rw [← HRS.out.1] at hb6 he6
    rw [← HRS.out.2] at h32
    obtain ⟨c1, c2, c3, c4⟩ := canon_bits a.neg hc
    have hse : S.err = 0 := by
      rw [HRS.out.2]; unfold to32A
      rw [if_neg (fun h => h hok)]
      split <;> rfl
    have hof := of_room c4
    obtain ⟨X, hX⟩ : ∃ X, X = R.bits := ⟨_, rfl⟩
    rw [← hb6, ← hX] at c1 c4 hof h32
    rw [← hX]
    have HXW : Hid (W64 X) := c1
    have HOF : Hid (ofX X = 0) := hof
    have H32 : Hid (to32A (ofD X) m = S) := h32
    have hn : nanB X = false ∧ infB X = false := by
      have := finB_eq X
      rw [c4] at this
      cases h1 : nanB X <;> cases h2 : infB X <;> rw [h1, h2] at this <;> simp at this ⊢
    obtain ⟨hn1, hn2⟩ := hn
    have HDL : Hid ((ofD X).s.length ≤ 9223372036854775807) := by
      show _ ≤ _
      have := ok_len (of_rep hof).1.ok
      omega
    clear hv2 hok hc hb6 c1 c2 c3 c4 hof h32 hX
    have e1 : (R.err != 0) = false := by rw [he6]; rfl
    have e2 : (S.err != 0) = false := by rw [hse]; rfl
    have HE2 : Hid ((S.err != 0) = false) := e2
    clear he6 hse a0 a1 a2
    go_wp2_with (go_at_call 33; refine (abs_any _ _ HXW.out).mono ?_; rintro e w' ⟨rfl, rfl⟩)
    refine (H4.out _ X HB2.out HXW.out).mono ?_
    rintro e v3 ⟨rfl, hb⟩
    have hof := HOF.out
    obtain ⟨D, hD⟩ : ∃ D, D = ofD X := ⟨_, rfl⟩
    obtain ⟨Y, hY⟩ : ∃ Y, Y = ofX X := ⟨_, rfl⟩
    have H3D : Hid (∀ W, Below w.heap.size w W → Calls Tryz.prog 13 #[.agg #[.bool D.neg, .string (bs D.s), .int .i64 D.e], .int .i64 m] W (Ratio32Q S W)) := fun W hW => by
      have := H3.out W D hW (by rw [hD]; exact HDL.out)
      rw [hD, H32.out] at this
      rw [hD]; exact this
    have HY : Hid (Y = 0) := by show _ = _; rw [hY]; exact hof
    have HK3 : Hid (Kept _ (v3.alloc (.cells #[.bool D.neg, .string (bs D.s), .int .i64 D.e] 23))) := (HK2.out.below hb).dec D
    have HB3 : Hid (Below w.heap.size w (v3.alloc (.cells #[.bool D.neg, .string (bs D.s), .int .i64 D.e] 23))) := (HB2.out.thru hb).alloc (HB2.out.thru hb).size _
    unfold dcV
    rw [← hD, ← hY]
    clear hb HB2 HK2 hof hD hY HDL H3 H32 HOF H4 e1 e2
    obtain ⟨d0, d1, d2⟩ := HK3.out.decs (.head _)
    go_wp2_with fail
    refine (H3D.out _ HB3.out).mono ?_
    rintro e v4 ⟨rfl, hb⟩
    have HK4 : Hid (Kept _ (v4.alloc (.cells #[.bool S.ine, .bool S.ov, .bool S.un] 27))) := (HK3.out.below hb).push (.cells #[.bool S.ine, .bool S.ov, .bool S.un] 27 (0, 0))
    have HB4 : Hid (Below w.heap.size w (v4.alloc (.cells #[.bool S.ine, .bool S.ov, .bool S.un] 27))) := (HB3.out.thru hb).alloc (HB3.out.thru hb).size _
    clear hb HB3 HK3 d0 d1 d2
    obtain ⟨a0, a1, a2⟩ := HK4.out.decs (.tail _ (.tail _ (.tail _ (.tail _ (.head _)))))
    have e1 : (Y != 0) = false := by rw [HY.out]; rfl
    have e2 := HE2.out
    have o32 := HO.out
    obtain ⟨em, hem⟩ : ∃ x, (bs a.s).toList.isEmpty = x := ⟨_, rfl⟩
    obtain ⟨zz, hzz⟩ : ∃ x, zeroB X = x := ⟨_, rfl⟩
    have hXW := HXW.out
    clear HE2
    cases em
    · cases zz
      · go_wp2
        go_ret
        exact ⟨rfl, HB4.out⟩
      · go_wp2
        go_ret
        exact ⟨rfl, HB4.out⟩
    · go_wp2
      go_ret
      exact ⟨rfl, HB4.out⟩
  · have hS : S = RA.no 1 := by
      rw [HRS.out.2]; unfold to32A
      rw [if_pos hok]
    have o0 : (Go.FloatKind.f32.format.order 0 0 == some Ordering.eq) = true := by kernel_rfl
    obtain ⟨ok, hk⟩ : ∃ b, b = a.okB := ⟨_, rfl⟩
    rw [← hk] at H5
    obtain ⟨re, hre⟩ : ∃ x, x = R.err := ⟨_, rfl⟩
    obtain ⟨rb, hrb⟩ : ∃ x, x = R.bits := ⟨_, rfl⟩
    rw [← hre, ← hrb]
    have hcs : (ok = false ∧ re = 1) ∨ (ok = true ∧ re = 0 ∧ (m < 1 ∨ 6 < m)) := by
      by_cases h : a.ok
      · right
        refine ⟨by rw [hk]; exact (okB_iff a).2 h, ?_, by have h9 : ¬ (1 ≤ m ∧ m ≤ 6) := fun h' => hok ⟨h, h'⟩; omega⟩
        rw [hre, HRS.out.1]
        exact (to64_bits (m := 6) h (by decide)).2
      · left
        refine ⟨?_, ?_⟩
        · rw [hk, ← Bool.not_eq_true]; exact fun h' => h ((okB_iff a).1 h')
        · rw [hre, HRS.out.1]; unfold to64A ratioA
          rw [if_pos (fun h' => h h'.1)]; rfl
    have HS : Hid (S = RA.no 1) := hS
    rw [hS]
    clear hv2 hok hk hre hrb hS HO H3 H4 HRS
    rcases hcs with ⟨rfl, rfl⟩ | ⟨rfl, rfl, hm⟩
    · go_wp2_with fail
      refine (H5.out _).mono ?_
      rintro e v3 ⟨rfl, hb⟩
      have HBZ : Hid (Below w.heap.size w v3) := HB2.out.thru hb
      clear hb
      go_wp2
      go_ret
      exact ⟨rfl, HBZ.out⟩
    · have HM : Hid (m < 1 ∨ 6 < m) := hm
      clear hm
      go_wp2_with fail
      refine (H5.out _).mono ?_
      rintro e v3 ⟨rfl, hb⟩
      have HBZ : Hid (Below w.heap.size w v3) := HB2.out.thru hb
      clear hb
      rcases HM.out with h | h
      · go_wp2
        go_ret
        exact ⟨rfl, HBZ.out⟩
      · have h2 : ¬ m < 1 := by omega
        go_wp2
        go_ret
        exact ⟨rfl, HBZ.out⟩
theorem roundOdd_walk (ga : Bool) (sa : ByteArray) (xa m : Int) (w : World) (za : sa.size ≤ 9223372036854775807) (_ : -9223372036854775808 ≤ xa) (_ : xa ≤ 9223372036854775807) (_ : -9223372036854775808 ≤ m) (_ : m ≤ 9223372036854775807) (htab : Tab w) :
    Calls Tryz.prog 8 #[.agg #[.bool ga, .string sa, .int .i64 xa], .int .i64 m] w fun e w' => e = .returned (.bool true) ∧ Below w.heap.size w w' :=
  roundOdd_core ⟨ga, bl sa, xa⟩ m w za htab
end Go.Proofs.YtapahfoebpiajaaGreatDoor
