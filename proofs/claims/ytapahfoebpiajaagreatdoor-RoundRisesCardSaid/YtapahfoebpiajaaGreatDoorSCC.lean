/- Parts Cc, Cd of the proof, in one text. -/
import Derived.Test.YtapahfoebpiajaaGreatDoorSAN
import Derived.Test.YtapahfoebpiajaaGreatDoorSBY
import Derived.Test.YtapahfoebpiajaaGreatDoorSCA
import Derived.Test.YtapahfoebpiajaaGreatDoorSBM
import Derived.Test.YtapahfoebpiajaaGreatDoorSBS
import Derived.Test.YtapahfoebpiajaaGreatDoorSRA
import Derived.Test.YtapahfoebpiajaaGreatDoorSRE

/- Plain: what the law RoundRises asks. -/
namespace Go.Proofs.YtapahfoebpiajaaGreatDoor
open Go Go.RowKit

theorem lift_comm {a b : Dc} (ha : a.ok) (hb : b.ok) : liftE b a = liftE a b := by
  unfold liftE
  by_cases h1 : a.s = []
  · by_cases h2 : b.s = []
    · rw [if_pos h2, if_pos h1, ok_nil ha h1, ok_nil hb h2]
    · rw [if_neg h2, if_pos h1, if_pos h1]
  · by_cases h2 : b.s = []
    · rw [if_pos h2, if_neg h1, if_pos h2]
    · rw [if_neg h2, if_neg h1, if_neg h1, if_neg h2, Int.min_comm]
theorem ord_nlt {x y : Nat} (hx : W64 x) (hy : W64 y) (nx : nanB x = false) (ny : nanB y = false) (h : valB y ≤ valB x) : (Go.FloatKind.f64.format.order x y == some .lt) = false := by
  rw [ord_val hx hy nx ny]
  have : compare (valB x) (valB y) ≠ .lt := by rw [Ne, Int.compare_eq_lt]; omega
  cases h : compare (valB x) (valB y) <;> first | rfl | exact absurd h this
theorem rv_mono {p x y : Nat} (h : x ≤ y) : rv p x ≤ rv p y := by
  rcases Nat.lt_or_ge x y with g | g
  · exact Nat.le_of_lt (rv_lt g)
  · rw [Nat.le_antisymm h g]; exact Nat.le_refl _
theorem side_le {n1 n2 : Bool} {r1 r2 : Nat} (h1 : r1 ≤ 9218868437227405312) (h2 : r2 ≤ 9218868437227405312) (h : ordR n1 r1 ≤ ordR n2 r2) :
    valB ((if n1 = true then 2^63 else 0) + r1) ≤ valB ((if n2 = true then 2^63 else 0) + r2) := by
  obtain ⟨a1, a2, -, -⟩ := side_bits n1 h1
  obtain ⟨b1, b2, -, -⟩ := side_bits n2 h2
  unfold valB
  rw [a1, a2, b1, b2]
  have m1 : r1 ≤ r2 → rv 52 r1 ≤ rv 52 r2 := fun h => rv_mono h
  have m2 : r2 ≤ r1 → rv 52 r2 ≤ rv 52 r1 := fun h => rv_mono h
  have m0 : rv 52 0 = 0 := rv_zero 52
  unfold ordR at h
  cases n1 <;> cases n2
  · rw [if_neg (by decide), if_neg (by decide)] at h ⊢
    have := m1 (by omega); omega
  · rw [if_neg (by decide), if_pos rfl] at h
    rw [if_neg (by decide), if_pos rfl]
    have e1 : r1 = 0 := by omega
    have e2 : r2 = 0 := by omega
    rw [e1, e2, m0]; decide
  · rw [if_pos rfl, if_neg (by decide)]
    omega
  · rw [if_pos rfl, if_pos rfl] at h ⊢
    have := m2 (by omega); omega
theorem outG_le {neg : Bool} {m : Int} {g : Mag} (hg : g.Ok) : (outG 53 (-1074) 971 neg m g).rung 53 (-1074) 971 ≤ 9218868437227405312 := by
  rcases out_range (b := 53) (L := -1074) (T := 971) (neg := neg) (mode := m) (by decide) (by decide) hg with h | ⟨h1, h2, h3, h4, h5⟩
  · unfold Out.rung
    rw [if_pos h]; decide
  · unfold Out.rung
    rw [if_neg (by rw [h1]; decide)]
    omega
theorem rung64_le (a : Dc) (m : Int) : rung64 a m ≤ 9218868437227405312 := by
  unfold rung64
  split
  · decide
  · exact outG_le (quoG_ok oneD_ok oneD_s)
theorem rungRoot_le (a : Dc) (m : Int) : rungRoot a m ≤ 9218868437227405312 := by
  unfold rungRoot
  split
  · decide
  · exact outG_le (rootG_ok a)
theorem root_bits {a : Dc} {m : Int} (ha : a.ok) (hm : 1 ≤ m ∧ m ≤ 6) (h : (rootA a m).err = 0) : a.neg = false ∧ (rootA a m).bits = (if false = true then 2^63 else 0) + rungRoot a m := by
  unfold rootA rungRoot at *
  rw [if_neg (fun h => h ⟨ha, hm⟩)] at h ⊢
  cases hn : a.neg
  · refine ⟨rfl, ?_⟩
    rw [if_neg (by decide)]
    split
    · rfl
    · show bits64 _ _ = _
      unfold bits64; rfl
  · rw [hn, if_pos rfl] at h
    cases h
/-- The three ways two decimals stand. -/
theorem rises_facts {a b : Dc} {m : Int} (ha : a.ok) (hb : b.ok) (hm : 1 ≤ m ∧ m ≤ 6) :
    (to64A a m).err = 0 ∧ (to64A b m).err = 0 ∧
    ((cmpV a b = -1 ∧ (Go.FloatKind.f64.format.order (to64A a m).bits (to64A b m).bits == some .gt) = false ∧ ((rootA a m).err = 0 → (rootA b m).err = 0 → (Go.FloatKind.f64.format.order (rootA a m).bits (rootA b m).bits == some .gt) = false)) ∨
     (cmpV a b = 1 ∧ (Go.FloatKind.f64.format.order (to64A a m).bits (to64A b m).bits == some .lt) = false ∧ ((rootA a m).err = 0 → (rootA b m).err = 0 → (Go.FloatKind.f64.format.order (rootA a m).bits (rootA b m).bits == some .lt) = false)) ∨
     (cmpV a b = 0 ∧ (to64A a m).bits = (to64A b m).bits)) := by
  obtain ⟨p1, p2⟩ := to64_bits ha hm
  obtain ⟨q1, q2⟩ := to64_bits hb hm
  refine ⟨p2, q2, ?_⟩
  obtain ⟨-, -, s3, s4⟩ := side_bits a.neg (rung64_le a m)
  obtain ⟨-, -, t3, t4⟩ := side_bits b.neg (rung64_le b m)
  obtain ⟨-, -, u3, u4⟩ := side_bits false (rungRoot_le a m)
  obtain ⟨-, -, v3, v4⟩ := side_bits false (rungRoot_le b m)
  unfold cmpV
  by_cases h0 : liftV a (liftE a b) = liftV b (liftE a b)
  · right; right
    rw [if_pos h0]
    exact ⟨rfl, by rw [cmp_same ha hb h0]⟩
  · by_cases h1 : liftV a (liftE a b) < liftV b (liftE a b)
    · left
      rw [if_neg h0, if_pos h1]
      refine ⟨rfl, ?_, fun e1 e2 => ?_⟩
      · rw [p1, q1]
        exact ord_less s4 t4 s3 t3 (side_le (rung64_le a m) (rung64_le b m) (to64_rises ha hb h1))
      · obtain ⟨n1, r1⟩ := root_bits ha hm e1
        obtain ⟨n2, r2⟩ := root_bits hb hm e2
        rw [r1, r2]
        refine ord_less u4 v4 u3 v3 (side_le (rungRoot_le a m) (rungRoot_le b m) ?_)
        have := root_rises (m := m) ha hb n1 h1
        unfold ordR
        rw [if_neg (by decide), if_neg (by decide)]
        omega
    · right; left
      rw [if_neg h0, if_neg h1]
      have h2 : liftV b (liftE b a) < liftV a (liftE b a) := by rw [lift_comm ha hb]; omega
      refine ⟨rfl, ?_, fun e1 e2 => ?_⟩
      · rw [p1, q1]
        exact ord_nlt s4 t4 s3 t3 (side_le (rung64_le b m) (rung64_le a m) (to64_rises hb ha h2))
      · obtain ⟨n1, r1⟩ := root_bits ha hm e1
        obtain ⟨n2, r2⟩ := root_bits hb hm e2
        rw [r1, r2]
        refine ord_nlt u4 v4 u3 v3 (side_le (rungRoot_le b m) (rungRoot_le a m) ?_)
        have := root_rises (m := m) hb ha n2 h2
        unfold ordR
        rw [if_neg (by decide), if_neg (by decide)]
        omega
theorem placesC_len {a : Dc} {n m : Int} (ha : a.ok) : (placesC a n m).1.s.length ≤ 8192 := by
  unfold placesC
  split
  · exact ok_len ha
  · have := ok_len (mkD_ok (sg a.neg (unitK a n m)) (-n))
    rw [(mkD_sg _ _ _).1] at this
    exact this
theorem placesA_len {a : Dc} {n m : Int} (ha : a.ok) : (placesA a n m).1.s.length ≤ 8192 := by
  unfold placesA
  split
  · decide
  · split
    · exact ok_len ha
    · exact placesC_len ha
end Go.Proofs.YtapahfoebpiajaaGreatDoor

/- Walks: the law RoundRises. -/
namespace Go.Proofs.YtapahfoebpiajaaGreatDoor
open Go.RowKit

set_option maxHeartbeats 8000000 in
set_option maxRecDepth 100000 in
theorem roundRises_core (a b : Dc) (m : Int) (w : World) (ha : a.s.length ≤ 9223372036854775807) (hb : b.s.length ≤ 9223372036854775807) (htab : Tab w) :
    Calls Tryz.prog 9 #[.agg #[.bool a.neg, .string (bs a.s), .int .i64 a.e], .agg #[.bool b.neg, .string (bs b.s), .int .i64 b.e], .int .i64 m] w fun e w' => e = .returned (.bool true) ∧ Below w.heap.size w w' := by
  have HW : Hid (∀ W, Below w.heap.size w W → Calls Tryz.prog 10 #[] W fun e w' => e = .returned (.bool true) ∧ Below W.heap.size W w') := fun W hW => awake_v W (htab.below hW)
  obtain ⟨oa, hoa⟩ : ∃ x, x = a.okB := ⟨_, rfl⟩
  obtain ⟨ob, hob⟩ : ∃ x, x = b.okB := ⟨_, rfl⟩
  obtain ⟨c, hc⟩ : ∃ c, c = if (a.okB && b.okB) = true then cmpV a b else 0 := ⟨_, rfl⟩
  obtain ⟨cx, hcx⟩ : ∃ x : Int, x = if (oa && ob) = true then 0 else 1 := ⟨_, rfl⟩
  have HCX : Hid (cx = if (oa && ob) = true then 0 else 1) := hcx
  have HC : Hid (∀ W, Calls Tryz.prog 34 #[.agg #[.bool a.neg, .string (bs a.s), .int .i64 a.e], .agg #[.bool b.neg, .string (bs b.s), .int .i64 b.e]] W fun e w' => e = .returned (.tuple #[.int .i64 c, .int .i64 cx]) ∧ Below W.heap.size W w') := fun W => by
    rw [hcx, hc, hoa, hob]; exact cmp_v a b W ha hb
  have HVA : Hid (∀ W, Calls Tryz.prog 21 #[.agg #[.bool a.neg, .string (bs a.s), .int .i64 a.e]] W fun e w' => e = .returned (.bool oa) ∧ Below W.heap.size W w') := fun W => by rw [hoa]; exact rvalid3_v a W ha
  have HVB : Hid (∀ W, Calls Tryz.prog 21 #[.agg #[.bool b.neg, .string (bs b.s), .int .i64 b.e]] W fun e w' => e = .returned (.bool ob) ∧ Below W.heap.size W w') := fun W => by rw [hob]; exact rvalid3_v b W hb
  obtain ⟨R, hR⟩ : ∃ R, R = to64A a m := ⟨_, rfl⟩
  obtain ⟨S, hS⟩ : ∃ S, S = to64A b m := ⟨_, rfl⟩
  obtain ⟨X, hX⟩ : ∃ R, R = rootA a m := ⟨_, rfl⟩
  obtain ⟨Y, hY⟩ : ∃ S, S = rootA b m := ⟨_, rfl⟩
  have HRS : Hid (R = to64A a m ∧ S = to64A b m ∧ X = rootA a m ∧ Y = rootA b m) := ⟨hR, hS, hX, hY⟩
  have HOK : Hid (oa = a.okB ∧ ob = b.okB ∧ c = if (a.okB && b.okB) = true then cmpV a b else 0) := ⟨hoa, hob, hc⟩
  have H1 : Hid (∀ W, Below w.heap.size w W → Calls Tryz.prog 11 #[.agg #[.bool a.neg, .string (bs a.s), .int .i64 a.e], .int .i64 m] W (RatioQ R W)) := fun W hW => by rw [hR]; exact to64_v a m W (htab.below hW) ha
  have H2 : Hid (∀ W, Below w.heap.size w W → Calls Tryz.prog 11 #[.agg #[.bool b.neg, .string (bs b.s), .int .i64 b.e], .int .i64 m] W (RatioQ S W)) := fun W hW => by rw [hS]; exact to64_v b m W (htab.below hW) hb
  have H3 : Hid (∀ W, Below w.heap.size w W → Calls Tryz.prog 19 #[.agg #[.bool a.neg, .string (bs a.s), .int .i64 a.e], .int .i64 m] W (RatioQ X W)) := fun W hW => by rw [hX]; exact root_v a m W (htab.below hW) ha
  have H4 : Hid (∀ W, Below w.heap.size w W → Calls Tryz.prog 19 #[.agg #[.bool b.neg, .string (bs b.s), .int .i64 b.e], .int .i64 m] W (RatioQ Y W)) := fun W hW => by rw [hY]; exact root_v b m W (htab.below hW) hb
  have HTB : Hid (Tab w) := htab
  have HB0 : Hid (Below w.heap.size w ((w.alloc (.cells #[.bool a.neg, .string (bs a.s), .int .i64 a.e] 23)).alloc (.cells #[.bool b.neg, .string (bs b.s), .int .i64 b.e] 23))) := ((Below.refl _ _).alloc (Nat.le_refl _) _).alloc (by simp) _
  have HK0 : Hid (Kept [(w.heap.size + 1, decO b), (w.heap.size, decO a)] ((w.alloc (.cells #[.bool a.neg, .string (bs a.s), .int .i64 a.e] 23)).alloc (.cells #[.bool b.neg, .string (bs b.s), .int .i64 b.e] 23))) := by
    have := ((Kept.nil w).dec a).dec b
    show Kept _ _
    simpa using this
  clear htab hR hS hX hY hoa hob hc ha hb hcx
  go_enter Tryz.func9, Tryz.ntmps9
  go_wp2_with fail
  refine (HW.out _ HB0.out).mono ?_
  rintro e w0 ⟨rfl, hb⟩
  have HK : Hid (Kept _ w0) := HK0.out.below hb
  have HB : Hid (Below w.heap.size w w0) := HB0.out.thru hb
  clear hb HB0 HK0 HW
  obtain ⟨b0, b1, b2⟩ := HK.out.decs (.head _)
  obtain ⟨a0, a1, a2⟩ := HK.out.decs (.tail _ (.head _))
  go_wp2_with fail
  refine (HC.out _).mono ?_
  rintro e w1 ⟨rfl, hb⟩
  have HK1 : Hid (Kept _ w1) := HK.out.below hb
  have HB1 : Hid (Below w.heap.size w w1) := HB.out.thru hb
  clear hb HB HK a0 a1 a2 b0 b1 b2
  obtain ⟨a0, a1, a2⟩ := HK1.out.decs (.tail _ (.head _))
  go_wp2_with fail
  refine (HVA.out _).mono ?_
  rintro e w2 ⟨rfl, hb⟩
  have HK : Hid (Kept _ w2) := HK1.out.below hb
  have HB : Hid (Below w.heap.size w w2) := HB1.out.thru hb
  clear hb HB1 HK1 a0 a1 a2
  obtain ⟨b0, b1, b2⟩ := HK.out.decs (.head _)
  go_wp2_with fail
  refine (HVB.out _).mono ?_
  rintro e w3 ⟨rfl, hb⟩
  have HK3 : Hid (Kept _ w3) := HK.out.below hb
  have HB3 : Hid (Below w.heap.size w w3) := HB.out.thru hb
  clear hb HB HK b0 b1 b2 HC HVA HVB
  go_upto_region 5 with fail
  by_cases hall : (oa && ob) = true ∧ 1 ≤ m ∧ m ≤ 6
  · obtain ⟨h1, hm⟩ := hall
    obtain ⟨e1, e2⟩ : oa = true ∧ ob = true := by rw [Bool.and_eq_true] at h1; exact h1
    have hka : a.ok := (okB_iff a).1 (by rw [← HOK.out.1]; exact e1)
    have hkb : b.ok := (okB_iff b).1 (by rw [← HOK.out.2.1]; exact e2)
    have hfac := rises_facts hka hkb hm
    rw [← HRS.out.1, ← HRS.out.2.1, ← HRS.out.2.2.1, ← HRS.out.2.2.2] at hfac
    have hcc : c = cmpV a b := by
      rw [HOK.out.2.2, if_pos]
      rw [okB_ok hka, okB_ok hkb]; rfl
    rw [← hcc] at hfac
    obtain ⟨er, es, hways⟩ := hfac
    have hcx : cx = 0 := by rw [HCX.out, if_pos h1]
    subst e1
    subst e2
    subst hcx
    clear HCX
    have g1 : ¬ m < 1 := by omega
    have g2 : ¬ 6 < m := by omega
    have HKA : Hid (a.ok ∧ b.ok) := ⟨hka, hkb⟩
    have HWY : Hid _ := hways
    have HER : Hid (R.err = 0 ∧ S.err = 0) := ⟨er, es⟩
    clear h1 hm hka hkb hcc er es hways HRS HOK
    obtain ⟨a0, a1, a2⟩ := HK3.out.decs (.tail _ (.head _))
    go_wp2_with fail
    refine (H1.out _ HB3.out).mono ?_
    rintro e v1 ⟨rfl, hb⟩
    have HK4 : Hid (Kept _ (v1.alloc (.cells #[.bool R.ine, .bool R.ov, .bool R.un] 27))) := (HK3.out.below hb).push (.cells #[.bool R.ine, .bool R.ov, .bool R.un] 27 (0, 0))
    have HB4 : Hid (Below w.heap.size w (v1.alloc (.cells #[.bool R.ine, .bool R.ov, .bool R.un] 27))) := (HB3.out.thru hb).alloc (HB3.out.thru hb).size _
    clear hb HB3 HK3 a0 a1 a2 g1 g2
    obtain ⟨b0, b1, b2⟩ := HK4.out.decs (.tail _ (.head _))
    go_wp2_with fail
    refine (H2.out _ HB4.out).mono ?_
    rintro e v2 ⟨rfl, hb⟩
    have HK5 : Hid (Kept _ (v2.alloc (.cells #[.bool S.ine, .bool S.ov, .bool S.un] 27))) := (HK4.out.below hb).push (.cells #[.bool S.ine, .bool S.ov, .bool S.un] 27 (0, 0))
    have HB5 : Hid (Below w.heap.size w (v2.alloc (.cells #[.bool S.ine, .bool S.ov, .bool S.un] 27))) := (HB4.out.thru hb).alloc (HB4.out.thru hb).size _
    clear hb HB4 HK4 b0 b1 b2 H1 H2
    obtain ⟨V, hV⟩ : ∃ W, W = v2.alloc (.cells #[.bool S.ine, .bool S.ov, .bool S.un] 27) := ⟨_, rfl⟩
    obtain ⟨rb, ri, ro, ru, re⟩ := R
    obtain ⟨sb, si, so, su, se⟩ := S
    obtain ⟨rfl, rfl⟩ : re = 0 ∧ se = 0 := HER.out
    go_upto_region 11 with fail
    rw [← hV] at HK5 HB5 ⊢
    clear hV
    go_cut [107] (fun v wx => v = .bool false ∧ Below V.heap.size V wx)
    case first =>
      rcases HWY.out with ⟨rfl, h, -⟩ | ⟨rfl, h, -⟩ | ⟨rfl, h⟩
      · go_wp2
        go_meet
        exact ⟨rfl, Below.refl _ _⟩
      · go_wp2
        go_meet
        exact ⟨rfl, Below.refl _ _⟩
      · have h' : rb = sb := h
        subst h'
        have HI : Hid (∀ W, Calls Tryz.prog 15 #[.float .f64 rb, .int .u64 (rb : Nat)] W fun e w' => e = .returned (.bool true) ∧ Below W.heap.size W w') := fun W => is_self rb W
        clear h
        go_wp2_with fail
        refine (HI.out _).mono ?_
        rintro e w' ⟨rfl, hb⟩
        go_wp2
        go_meet
        exact ⟨rfl, hb⟩
    case rest =>
    obtain ⟨rfl, hbv⟩ := hcut
    obtain ⟨w5, hw5⟩ : ∃ W, W = wc := ⟨_, rfl⟩
    rw [← hw5] at hbv ⊢
    have HK6 : Hid (Kept _ w5) := HK5.out.below hbv
    have HB6 : Hid (Below w.heap.size w w5) := HB5.out.thru hbv
    clear hw5 hbv HK5 HB5
    obtain ⟨a0, a1, a2⟩ := HK6.out.decs (d := a) (.tail _ (.tail _ (.tail _ (.head _))))
    go_wp2_with fail
    refine (H3.out _ HB6.out).mono ?_
    rintro e v3 ⟨rfl, hb⟩
    have HK7 : Hid (Kept _ (v3.alloc (.cells #[.bool X.ine, .bool X.ov, .bool X.un] 27))) := (HK6.out.below hb).push (.cells #[.bool X.ine, .bool X.ov, .bool X.un] 27 (0, 0))
    have HB7 : Hid (Below w.heap.size w (v3.alloc (.cells #[.bool X.ine, .bool X.ov, .bool X.un] 27))) := (HB6.out.thru hb).alloc (HB6.out.thru hb).size _
    clear hb HB6 HK6 a0 a1 a2
    obtain ⟨b0, b1, b2⟩ := HK7.out.decs (d := b) (.tail _ (.tail _ (.tail _ (.head _))))
    go_wp2_with fail
    refine (H4.out _ HB7.out).mono ?_
    rintro e v4 ⟨rfl, hb⟩
    have HK8 : Hid (Kept _ (v4.alloc (.cells #[.bool Y.ine, .bool Y.ov, .bool Y.un] 27))) := (HK7.out.below hb).push (.cells #[.bool Y.ine, .bool Y.ov, .bool Y.un] 27 (0, 0))
    have HB8 : Hid (Below w.heap.size w (v4.alloc (.cells #[.bool Y.ine, .bool Y.ov, .bool Y.un] 27))) := (HB7.out.thru hb).alloc (HB7.out.thru hb).size _
    clear hb HB7 HK7 b0 b1 b2 H3 H4
    obtain ⟨V2, hV⟩ : ∃ W, W = v4.alloc (.cells #[.bool Y.ine, .bool Y.ov, .bool Y.un] 27) := ⟨_, rfl⟩
    go_upto_region 15 with fail
    rw [← hV] at HK8 HB8 ⊢
    clear hV
    go_cut [145] (fun v wx => v = .bool false ∧ V2 = wx)
    case first =>
      obtain ⟨px, hx⟩ : ∃ p, ((X.err : Int) == 0) = p := ⟨_, rfl⟩
      obtain ⟨py, hy⟩ : ∃ p, ((Y.err : Int) == 0) = p := ⟨_, rfl⟩
      cases px
      · go_wp2
        go_meet
        exact ⟨rfl, rfl⟩
      · cases py
        · go_wp2
          go_meet
          exact ⟨rfl, rfl⟩
        · rcases HWY.out with ⟨rfl, -, h⟩ | ⟨rfl, -, h⟩ | ⟨rfl, h⟩
          · have h := h (by simpa using hx) (by simpa using hy)
            go_wp2
            go_meet
            exact ⟨rfl, rfl⟩
          · have h := h (by simpa using hx) (by simpa using hy)
            go_wp2
            go_meet
            exact ⟨rfl, rfl⟩
          · clear h
            go_wp2
            go_meet
            exact ⟨rfl, rfl⟩
    case rest =>
    obtain ⟨rfl, rfl⟩ := hcut
    have hbe : -20000 ≤ b.e ∧ b.e ≤ 20000 := ok_exp HKA.out.2
    have i1 : IntKind.i64.wrap (-b.e) = -b.e := IntWalk.i64_in _ (by omega)
    obtain ⟨n, hn⟩ : ∃ n : Int, n = (-b.e).tmod 40 := ⟨_, rfl⟩
    have hnr : -40 < n ∧ n < 40 := by
      rw [hn]
      rcases Int.le_total 0 (-b.e) with h | h
      · rw [Int.tmod_eq_emod_of_nonneg h]; omega
      · have h2 := Int.neg_tmod b.e 40
        rw [h2, Int.tmod_eq_emod_of_nonneg (by omega)]
        omega
    have hn2 : -(b.e.tmod 40) = n := by rw [hn, Int.neg_tmod]
    have HN2 : Hid (-(b.e.tmod 40) = n) := hn2
    have i3 : IntKind.i64.wrap (n + 3) = n + 3 := IntWalk.i64_in _ (by omega)
    have HNR : Hid (-40 < n ∧ n < 40) := hnr
    obtain ⟨F, hF⟩ : ∃ F, F = placesA a (n + 3) 5 := ⟨_, rfl⟩
    obtain ⟨G, hG⟩ : ∃ G, G = placesA a n 5 := ⟨_, rfl⟩
    obtain ⟨t1, t2, t3⟩ := places_twice HKA.out.1 (n := n) (by omega)
    have HP1 : Hid (∀ W, Below w.heap.size w W → Calls Tryz.prog 25 #[.agg #[.bool a.neg, .string (bs a.s), .int .i64 a.e], .int .i64 (n + 3), .int .i64 5] W (DcQ F.1 F.2 W)) := fun W hW => by rw [hF]; exact rplaces_v a (n + 3) 5 W (HTB.out.below hW) (by have := ok_len HKA.out.1; omega)
    have HP2 : Hid (∀ W, Below w.heap.size w W → Calls Tryz.prog 25 #[dcV F.1, .int .i64 n, .int .i64 5] W (DcQ G.1 G.2 W)) := fun W hW => by
      rw [hG, ← t3, ← hF]
      exact rplaces_v F.1 n 5 W (HTB.out.below hW) (by rw [hF]; have := placesA_len (n := n + 3) (m := 5) HKA.out.1; omega)
    have HP3 : Hid (∀ W, Below w.heap.size w W → Calls Tryz.prog 25 #[.agg #[.bool a.neg, .string (bs a.s), .int .i64 a.e], .int .i64 n, .int .i64 5] W (DcQ G.1 G.2 W)) := fun W hW => by rw [hG]; exact rplaces_v a n 5 W (HTB.out.below hW) (by have := ok_len HKA.out.1; omega)
    rw [← hF] at t1
    rw [← hG] at t2
    obtain ⟨F, fe⟩ := F
    obtain ⟨G, ge⟩ := G
    obtain ⟨rfl, rfl⟩ : fe = 0 ∧ ge = 0 := ⟨t1, t2⟩
    have HI3 : Hid (IntKind.i64.wrap (n + 3) = n + 3) := i3
    clear t1 t2 t3 hF hG hnr hn hbe i3 hn2
    obtain ⟨b0, b1, b2⟩ := HK8.out.decs (d := b) (.tail _ (.tail _ (.tail _ (.tail _ (.head _)))))
    go_upto_region 18 with fail
    rw [HN2.out]
    clear b0 b1 b2 i1
    obtain ⟨a0, a1, a2⟩ := HK8.out.decs (d := a) (.tail _ (.tail _ (.tail _ (.tail _ (.tail _ (.head _))))))
    have i3 := HI3.out
    go_wp2_with fail
    refine (HP1.out _ HB8.out).mono ?_
    rintro e v5 ⟨rfl, hb⟩
    unfold dcV at HP2
    simp only [dcV]
    have HK9 : Hid (Kept _ (v5.alloc (.cells #[.bool F.neg, .string (bs F.s), .int .i64 F.e] 23))) := (HK8.out.below hb).dec F
    have HB9 : Hid (Below w.heap.size w (v5.alloc (.cells #[.bool F.neg, .string (bs F.s), .int .i64 F.e] 23))) := (HB8.out.thru hb).alloc (HB8.out.thru hb).size _
    clear hb HB8 HK8 a0 a1 a2 i3
    obtain ⟨a0, a1, a2⟩ := HK9.out.decs (d := F) (.head _)
    go_wp2_with fail
    refine (HP2.out _ HB9.out).mono ?_
    rintro e v6 ⟨rfl, hb⟩
    simp only [dcV]
    have HK10 : Hid (Kept _ (v6.alloc (.cells #[.bool G.neg, .string (bs G.s), .int .i64 G.e] 23))) := (HK9.out.below hb).dec G
    have HB10 : Hid (Below w.heap.size w (v6.alloc (.cells #[.bool G.neg, .string (bs G.s), .int .i64 G.e] 23))) := (HB9.out.thru hb).alloc (HB9.out.thru hb).size _
    clear hb HB9 HK9 a0 a1 a2
    obtain ⟨a0, a1, a2⟩ := HK10.out.decs (d := a) (.tail _ (.tail _ (.tail _ (.tail _ (.tail _ (.tail _ (.tail _ (.head _))))))))
    go_wp2_with fail
    refine (HP3.out _ HB10.out).mono ?_
    rintro e v7 ⟨rfl, hb⟩
    simp only [dcV]
    have HK11 : Hid (Kept _ (v7.alloc (.cells #[.bool G.neg, .string (bs G.s), .int .i64 G.e] 23))) := (HK10.out.below hb).dec G
    have HB11 : Hid (Below w.heap.size w (v7.alloc (.cells #[.bool G.neg, .string (bs G.s), .int .i64 G.e] 23))) := (HB10.out.thru hb).alloc (HB10.out.thru hb).size _
    clear hb HB10 HK10 a0 a1 a2
    obtain ⟨a0, a1, a2⟩ := HK11.out.decs (d := G) (.head _)
    obtain ⟨b0, b1, b2⟩ := HK11.out.decs (d := G) (.tail _ (.head _))
    go_wp2
    go_ret
    exact ⟨rfl, HB11.out⟩
  · have hne : (oa && ob) = true → ¬ (1 ≤ m ∧ m ≤ 6) := fun h h' => hall ⟨h, h'⟩
    clear hall H1 H2 H3 H4 HRS HOK
    have hcs : (oa && ob) = false ∨ ((oa && ob) = true ∧ (m < 1 ∨ (¬ m < 1 ∧ 6 < m))) := by
      cases h : (oa && ob)
      · exact .inl rfl
      · right; refine ⟨rfl, ?_⟩; have := hne h; omega
    clear hne
    have HCS : Hid _ := hcs
    clear hcs
    have hq := HCX.out
    clear HCX
    cases oa <;> cases ob
    · have hcx : cx = 1 := hq
      clear hq
      subst hcx
      go_wp2
      go_ret
      exact ⟨rfl, HB3.out⟩
    · have hcx : cx = 1 := hq
      clear hq
      subst hcx
      go_wp2
      go_ret
      exact ⟨rfl, HB3.out⟩
    · have hcx : cx = 1 := hq
      clear hq
      subst hcx
      go_wp2
      go_ret
      exact ⟨rfl, HB3.out⟩
    · have hcx : cx = 0 := hq
      clear hq
      subst hcx
      rcases HCS.out with h | ⟨-, h | ⟨h, h'⟩⟩
      · cases h
      · go_wp2
        go_ret
        exact ⟨rfl, HB3.out⟩
      · go_wp2
        go_ret
        exact ⟨rfl, HB3.out⟩
theorem roundRises_walk (ga : Bool) (sa : ByteArray) (xa : Int) (gb : Bool) (sb : ByteArray) (xb m : Int) (w : World) (za : sa.size ≤ 9223372036854775807) (_ : -9223372036854775808 ≤ xa) (_ : xa ≤ 9223372036854775807) (zb : sb.size ≤ 9223372036854775807) (_ : -9223372036854775808 ≤ xb) (_ : xb ≤ 9223372036854775807) (_ : -9223372036854775808 ≤ m) (_ : m ≤ 9223372036854775807) (htab : Tab w) :
    Calls Tryz.prog 9 #[.agg #[.bool ga, .string sa, .int .i64 xa], .agg #[.bool gb, .string sb, .int .i64 xb], .int .i64 m] w fun e w' => e = .returned (.bool true) ∧ Below w.heap.size w w' :=
  roundRises_core ⟨ga, bl sa, xa⟩ ⟨gb, bl sb, xb⟩ m w za zb htab
end Go.Proofs.YtapahfoebpiajaaGreatDoor
