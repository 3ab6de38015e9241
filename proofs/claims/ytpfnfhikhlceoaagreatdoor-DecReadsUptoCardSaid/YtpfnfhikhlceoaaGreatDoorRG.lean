/- Parts Ev, Ey, Ga, Ez, Ew, Gb, Gc of the proof, in one text. -/
import Derived.Test.YtpfnfhikhlceoaaGreatDoorRF
import Derived.Laws.MakeOwn
import Derived.Laws.IdiomStrings
import Derived.Test.YtpfnfhikhlceoaaGreatDoorRE
import Derived.Test.YtpfnfhikhlceoaaGreatDoorQS

/- Walks: pick; tame: a row as a decimal that may be. -/
namespace Go.Proofs.YtpfnfhikhlceoaaGreatDoor
open Go.RowKit

/-- Which of n things a number speaks of. -/
def pickV (c n : Int) : Int := (if c < 0 then -(c + 1) else c) % n
theorem pickV_bd (c : Int) {n : Int} (h : 0 < n) : 0 ≤ pickV c n ∧ pickV c n < n := ⟨Int.emod_nonneg _ (by omega), Int.emod_lt_of_pos _ h⟩
theorem pick_v (c n : Int) (w : World) (h0 : -9223372036854775808 ≤ c) (h1 : c ≤ 9223372036854775807) (hn : 0 < n) (hn1 : n ≤ 9223372036854775807) :
    Calls Tryz.prog 22 #[.int .i64 c, .int .i64 n] w fun e w' => e = .returned (.int .i64 (pickV c n)) ∧ w' = w := by
  have n0 : (n == 0) = false := by simpa using (show n ≠ 0 by omega)
  by_cases hc : c < 0
  · have k1 : IntKind.i64.wrap (c + 1) = c + 1 := IntWalk.i64_in _ (by omega)
    have k2 : IntKind.i64.wrap (-(c + 1)) = -(c + 1) := IntWalk.i64_in _ (by omega)
    have k3 : (-(c + 1)).tmod n = pickV c n := by unfold pickV; rw [if_pos hc]; exact Int.tmod_eq_emod_of_nonneg (by omega)
    have hb := pickV_bd c hn
    have k4 : IntKind.i64.wrap (pickV c n) = pickV c n := IntWalk.i64_in _ (by omega)
    go_enter Tryz.func22, Tryz.ntmps22
    go_wp2
    go_ret
    exact ⟨rfl, rfl⟩
  · have k3 : c.tmod n = pickV c n := by unfold pickV; rw [if_neg hc]; exact Int.tmod_eq_emod_of_nonneg (by omega)
    have hb := pickV_bd c hn
    have k4 : IntKind.i64.wrap (pickV c n) = pickV c n := IntWalk.i64_in _ (by omega)
    go_enter Tryz.func22, Tryz.ntmps22
    go_wp2
    go_ret
    exact ⟨rfl, rfl⟩
end Go.Proofs.YtpfnfhikhlceoaaGreatDoor

/- Made bytes. -/
namespace Go.Proofs.YtpfnfhikhlceoaaGreatDoor
open Go.RowKit
theorem mk_bytes (k : Nat) (w : World) (hk : k ≤ 8192) : (Instr.makeSlice 70 (.int .i64 k) (.int .i64 k)).run Tryz.prog w = .ok (.slice (some ⟨w.heap.size, 0, none⟩) k k) (w.alloc (.cells (Array.replicate k (.int .u8 0)) 5)) := by
  have hi : (Tryz.prog.info? 5).map (fun i => (i.zero, i.size, i.bytes)) = some (some (.int .u8 0), 1, 1) := by kernel_rfl
  obtain ⟨i, h1, h2⟩ := Option.map_eq_some_iff.1 hi
  obtain ⟨h2, h3, h4⟩ : i.zero = some (.int .u8 0) ∧ i.size = 1 ∧ i.bytes = 1 := by
    simp only [Prod.mk.injEq] at h2; exact ⟨h2.1, h2.2.1, h2.2.2⟩
  have := run_makeSlice (P := Tryz.prog) w 70 5 i (.int .u8 0) Tryz.underlying70 h1 h2 .i64 .i64 k k (by omega) (by omega) (by rw [h3]; omega) (by rw [h4]; omega) (by omega)
  rw [this, h3]
  have e : madeCells (Value.int IntKind.u8 0).cells ((k : Int).toNat * 1) = Array.replicate k (.int .u8 0) := by
    apply Array.ext
    · simp [madeCells]
    · intro j h1 h2
      simp [madeCells, Value.cells, Nat.mod_one]
  rw [e]; rfl
end Go.Proofs.YtpfnfhikhlceoaaGreatDoor

/- Plain: decimals that have room: sums and products as on paper; how they stand. -/
namespace Go.Proofs.YtpfnfhikhlceoaaGreatDoor
open Go.Lib

theorem scale_lt {V : Int} {m j k : Nat} (h : V.natAbs < 10 ^ m) (hj : j ≤ k) : (V * 10 ^ j).natAbs < 10 ^ (m + k) := by
  rw [abs_mul_pow, Nat.pow_add]
  calc V.natAbs * 10 ^ j ≤ V.natAbs * 10 ^ k := Nat.mul_le_mul_left _ (Nat.pow_le_pow_right (by decide) hj)
    _ < 10 ^ m * 10 ^ k := Nat.mul_lt_mul_of_pos_right h (Nat.pow_pos (by decide))
theorem sum_lt {V W : Int} {m : Nat} (h : V.natAbs < 10 ^ m) (h' : W.natAbs < 10 ^ m) : (V + W).natAbs < 10 ^ (m + 1) := by
  rw [Nat.pow_succ]; omega
theorem prod_lt {V W : Int} {m n : Nat} (h : V.natAbs < 10 ^ m) (h' : W.natAbs < 10 ^ n) : (V * W).natAbs < 10 ^ (m + n) := by
  rw [Int.natAbs_mul, Nat.pow_add]
  exact Nat.mul_lt_mul'' h h'
theorem more_lt {V : Int} {m n : Nat} (h : V.natAbs < 10 ^ m) (hn : m ≤ n) : V.natAbs < 10 ^ n := Nat.lt_of_lt_of_le h (Nat.pow_le_pow_right (by decide) hn)
theorem add_room {a b : Dc} {W W' e : Int} {m : Nat} (h : Rep a W e) (h' : Rep b W' e) (h1 : W.natAbs < 10 ^ m) (h2 : W'.natAbs < 10 ^ m) (hm : m + 1 ≤ 8192) (he : -20000 ≤ e) (he2 : e + m + 1 ≤ 20000) :
    addX a b = 0 ∧ Rep (addD a b) (W + W') e := by
  obtain ⟨r1, r2⟩ := add_rep h h'
  have hx : mkX (W + W') e = 0 := mk_room (m := m + 1) (sum_lt h1 h2) hm he (by omega)
  rw [r1, r2]
  exact ⟨hx, rep_mk hx⟩
theorem mul_room {a b : Dc} {W W' e e' : Int} {m n : Nat} (h : Rep a W e) (h' : Rep b W' e') (h1 : W.natAbs < 10 ^ m) (h2 : W'.natAbs < 10 ^ n) (hm : m + n ≤ 8192) (he : -20000 ≤ e + e') (he2 : e + e' + m + n ≤ 20000) :
    mulX a b = 0 ∧ Rep (mulD a b) (W * W') (e + e') := by
  obtain ⟨r1, r2⟩ := mul_rep h h'
  have hx : mkX (W * W') (e + e') = 0 := mk_room (m := m + n) (prod_lt h1 h2) hm he (by omega)
  rw [r1, r2]
  exact ⟨hx, rep_mk hx⟩
theorem rep_inj {a : Dc} {W W' e : Int} (h : Rep a W e) (h' : Rep a W' e) : W = W' := by
  have e1 := h.all (a.e.natAbs + e.natAbs) (by omega) (by omega)
  have e2 := h'.all (a.e.natAbs + e.natAbs) (by omega) (by omega)
  rw [e1] at e2
  exact Int.eq_of_mul_eq_mul_right (pow_pos10 _) e2

/-- A row that has been tamed. -/
structure Tame (d : Dc) (V e : Int) (m : Nat) (f : Int) : Prop where
  rep : Rep d V e
  lt : V.natAbs < 10 ^ m
  lo : -f ≤ e
  hi : e ≤ f
theorem Tame.at {d : Dc} {V e : Int} {m : Nat} {f : Int} (h : Tame d V e m f) (k : Nat) (hk : 2 * f = k) : Rep d (V * 10 ^ (e - -f).toNat) (-f) ∧ (V * 10 ^ (e - -f).toNat).natAbs < 10 ^ (m + k) :=
  ⟨h.rep.at (-f) h.lo, scale_lt h.lt (by have := h.hi; omega)⟩

/-- Sums and products of three that are tame. -/
theorem ring_laws {m : Nat} (hm : m ≤ 1200) {a b c : Dc} {A B C ea eb ec : Int} (ha : Tame a A ea m 900) (hb : Tame b B eb m 900) (hc : Tame c C ec m 900) :
    (addX a b = 0 ∧ addX b a = 0 ∧ addX b c = 0 ∧ addX (addD a b) c = 0 ∧ addX a (addD b c) = 0 ∧ addD b a = addD a b ∧ addD a (addD b c) = addD (addD a b) c) ∧
    (mulX a b = 0 ∧ mulX b a = 0 ∧ mulX b c = 0 ∧ mulX (mulD a b) c = 0 ∧ mulX a (mulD b c) = 0 ∧ mulD b a = mulD a b ∧ mulD a (mulD b c) = mulD (mulD a b) c) ∧
    (mulX a (addD b c) = 0 ∧ mulX a c = 0 ∧ addX (mulD a b) (mulD a c) = 0 ∧ addX (addD a b) (negD b) = 0 ∧ addX a (negD b) = 0 ∧ mulD a (addD b c) = addD (mulD a b) (mulD a c) ∧ addD (addD a b) (negD b) = a) ∧
    (addX a (negD a) = 0 ∧ mulX a (mkD 1 0) = 0 ∧ mulX a (mkD 0 0) = 0 ∧ addD a (negD a) = Dc.none ∧ mulD a (mkD 1 0) = a ∧ mulD a (mkD 0 0) = Dc.none) ∧
    ((addD a b).ok ∧ (addD b c).ok ∧ (mulD a b).ok ∧ (mulD b c).ok ∧ (mulD a c).ok) := by
  have la := ha.lo; have ua := ha.hi; have lb := hb.lo; have ub := hb.hi; have lc := hc.lo; have uc := hc.hi
  obtain ⟨ra, ma⟩ := ha.at 1800 rfl
  obtain ⟨rb, mb⟩ := hb.at 1800 rfl
  obtain ⟨rc, mc⟩ := hc.at 1800 rfl
  obtain ⟨A0, hA0⟩ : ∃ A0, A0 = A * 10 ^ (ea - -900).toNat := ⟨_, rfl⟩
  obtain ⟨B0, hB0⟩ : ∃ B0, B0 = B * 10 ^ (eb - -900).toNat := ⟨_, rfl⟩
  obtain ⟨C0, hC0⟩ : ∃ C0, C0 = C * 10 ^ (ec - -900).toNat := ⟨_, rfl⟩
  rw [← hA0] at ra ma; rw [← hB0] at rb mb; rw [← hC0] at rc mc
  obtain ⟨x1, r1⟩ := add_room ra rb ma mb (by omega) (by omega) (by omega)
  obtain ⟨x2, r2⟩ := add_room rb ra mb ma (by omega) (by omega) (by omega)
  obtain ⟨x3, r3⟩ := add_room rb rc mb mc (by omega) (by omega) (by omega)
  obtain ⟨x4, r4⟩ := add_room r1 rc (sum_lt ma mb) (more_lt mc (by omega)) (by omega) (by omega) (by omega)
  obtain ⟨x5, r5⟩ := add_room ra r3 (more_lt ma (by omega)) (sum_lt mb mc) (by omega) (by omega) (by omega)
  obtain ⟨y1, s1⟩ := mul_room ha.rep hb.rep ha.lt hb.lt (by omega) (by omega) (by omega)
  obtain ⟨y2, s2⟩ := mul_room hb.rep ha.rep hb.lt ha.lt (by omega) (by omega) (by omega)
  obtain ⟨y3, s3⟩ := mul_room hb.rep hc.rep hb.lt hc.lt (by omega) (by omega) (by omega)
  obtain ⟨y4, s4⟩ := mul_room s1 hc.rep (prod_lt ha.lt hb.lt) hc.lt (by omega) (by omega) (by omega)
  obtain ⟨y5, s5⟩ := mul_room ha.rep s3 ha.lt (prod_lt hb.lt hc.lt) (by omega) (by omega) (by omega)
  obtain ⟨z1, t1⟩ := mul_room ha.rep r3 ha.lt (sum_lt mb mc) (by omega) (by omega) (by omega)
  obtain ⟨z2, t2⟩ := mul_room ha.rep hc.rep ha.lt hc.lt (by omega) (by omega) (by omega)
  have p1 : Rep (mulD a b) (A * B0) (ea + -900) := by
    have := s1.at (ea + -900) (by omega)
    rwa [show ea + eb - (ea + -900) = eb - -900 by omega, Int.mul_assoc, ← hB0] at this
  have p2 : Rep (mulD a c) (A * C0) (ea + -900) := by
    have := t2.at (ea + -900) (by omega)
    rwa [show ea + ec - (ea + -900) = ec - -900 by omega, Int.mul_assoc, ← hC0] at this
  obtain ⟨z3, t3⟩ := add_room p1 p2 (prod_lt ha.lt mb) (prod_lt ha.lt mc) (by omega) (by omega) (by omega)
  have nb : (-B0).natAbs < 10 ^ (m + 1800) := by rw [Int.natAbs_neg]; exact mb
  have na : (-A0).natAbs < 10 ^ (m + 1800) := by rw [Int.natAbs_neg]; exact ma
  obtain ⟨z4, t4⟩ := add_room r1 rb.neg (sum_lt ma mb) (more_lt nb (by omega)) (by omega) (by omega) (by omega)
  obtain ⟨z5, t5⟩ := add_room ra rb.neg ma nb (by omega) (by omega) (by omega)
  obtain ⟨z6, t6⟩ := add_room ra ra.neg ma na (by omega) (by omega) (by omega)
  have i1 : Rep (mkD 1 0) 1 0 := int_room (by decide)
  have i0 : Rep (mkD 0 0) 0 0 := int_room (by decide)
  obtain ⟨z7, t7⟩ := mul_room (n := 1) ha.rep i1 ha.lt (by decide) (by omega) (by omega) (by omega)
  obtain ⟨z8, t8⟩ := mul_room (n := 1) ha.rep i0 ha.lt (by decide) (by omega) (by omega) (by omega)
  refine ⟨⟨x1, x2, x3, x4, x5, ?_, ?_⟩, ⟨y1, y2, y3, y4, y5, ?_, ?_⟩, ⟨z1, z2, z3, z4, z5, ?_, ?_⟩, ⟨z6, z7, z8, ?_, ?_, ?_⟩, r1.ok, r3.ok, s1.ok, s3.ok, t2.ok⟩
  · rw [Int.add_comm] at r2; exact r2.uniq r1
  · rw [← Int.add_assoc] at r5; exact r5.uniq r4
  · rw [Int.mul_comm, Int.add_comm] at s2; exact s2.uniq s1
  · rw [← Int.mul_assoc, ← Int.add_assoc] at s5; exact s5.uniq s4
  · rw [Int.mul_add] at t1; exact t1.uniq t3
  · rw [Int.add_neg_cancel_right] at t4; exact t4.uniq ra
  · rw [Int.add_right_neg] at t6; exact t6.uniq (rep_none _)
  · rw [Int.mul_one, Int.add_zero] at t7; exact t7.uniq ha.rep
  · rw [Int.mul_zero] at t8; exact t8.uniq (rep_none _)

/-- How two numbers stand. -/
def sgnV (X Y : Int) : Int := if X = Y then 0 else if X < Y then -1 else 1
theorem order_laws {m : Nat} (hm : m ≤ 2000) {a b c : Dc} {A B C ea eb ec : Int} (ha : Tame a A ea m 2500) (hb : Tame b B eb m 2500) (hc : Tame c C ec m 2500) :
    ∃ X Y Z : Int, cmpV a b = sgnV X Y ∧ cmpV b a = sgnV Y X ∧ cmpV b c = sgnV Y Z ∧ cmpV a c = sgnV X Z ∧ (a = b ↔ X = Y) ∧ addX a (negD b) = 0 ∧ (addD a (negD b)).ok ∧ cmpV (addD a (negD b)) Dc.none = sgnV X Y ∧
      addX a c = 0 ∧ addX b c = 0 ∧ (addD a c).ok ∧ (addD b c).ok ∧ cmpV (addD a c) (addD b c) = sgnV X Y := by
  obtain ⟨ra, ma⟩ := ha.at 5000 rfl
  obtain ⟨rb, mb⟩ := hb.at 5000 rfl
  obtain ⟨rc, mc⟩ := hc.at 5000 rfl
  obtain ⟨A0, hA0⟩ : ∃ A0, A0 = A * 10 ^ (ea - -2500).toNat := ⟨_, rfl⟩
  obtain ⟨B0, hB0⟩ : ∃ B0, B0 = B * 10 ^ (eb - -2500).toNat := ⟨_, rfl⟩
  obtain ⟨C0, hC0⟩ : ∃ C0, C0 = C * 10 ^ (ec - -2500).toNat := ⟨_, rfl⟩
  rw [← hA0] at ra ma; rw [← hB0] at rb mb; rw [← hC0] at rc mc
  have nb : (-B0).natAbs < 10 ^ (m + 5000) := by rw [Int.natAbs_neg]; exact mb
  obtain ⟨x1, r1⟩ := add_room ra rb.neg ma nb (by omega) (by omega) (by omega)
  obtain ⟨x2, r2⟩ := add_room ra rc ma mc (by omega) (by omega) (by omega)
  obtain ⟨x3, r3⟩ := add_room rb rc mb mc (by omega) (by omega) (by omega)
  refine ⟨A0, B0, C0, cmp_rep ra rb, cmp_rep rb ra, cmp_rep rb rc, cmp_rep ra rc, ⟨fun h => ?_, fun h => ?_⟩, x1, r1.ok, ?_, x2, x3, r2.ok, r3.ok, ?_⟩
  · subst h; exact rep_inj ra rb
  · rw [← h] at rb; exact ra.uniq rb
  · rw [cmp_rep r1 (rep_none _)]; unfold sgnV
    by_cases g : A0 = B0
    · rw [if_pos g, if_pos (by omega)]
    · rw [if_neg g, if_neg (by omega)]
      by_cases g2 : A0 < B0
      · rw [if_pos g2, if_pos (by omega)]
      · rw [if_neg g2, if_neg (by omega)]
  · rw [cmp_rep r2 r3]; unfold sgnV
    by_cases g : A0 = B0
    · rw [if_pos g, if_pos (by omega)]
    · rw [if_neg g, if_neg (by omega)]
      by_cases g2 : A0 < B0
      · rw [if_pos g2, if_pos (by omega)]
      · rw [if_neg g2, if_neg (by omega)]
theorem sgn_zero {X Y : Int} : sgnV X Y = 0 ↔ X = Y := by
  unfold sgnV
  by_cases h : X = Y
  · rw [if_pos h]; simp [h]
  · rw [if_neg h]; by_cases g : X < Y <;> simp [h, g]
theorem order_neg {X Y n m : Int} (hn : n = sgnV X Y) (hm : m = sgnV Y X) : IntKind.i64.wrap (-m) = n := by
  have e : -m = n := by
    rw [hn, hm]; unfold sgnV
    by_cases h : X = Y
    · rw [if_pos h, if_pos h.symm]; rfl
    · rw [if_neg h, if_neg (fun g => h g.symm)]
      by_cases g : X < Y
      · rw [if_pos g, if_neg (by omega)]
      · rw [if_neg g, if_pos (by omega)]; rfl
  have b : -1 ≤ n ∧ n ≤ 1 := by rw [hn]; unfold sgnV; (repeat' split) <;> decide
  rw [e]
  exact IntWalk.i64_in _ (by omega)
theorem sgn_chain {X Y Z : Int} : sgnV X Y = sgnV Y Z → sgnV X Z ≠ sgnV X Y → sgnV X Y = 0 := by
  unfold sgnV
  intro h1 h2
  by_cases a : X = Y
  · rw [if_pos a]
  · rw [if_neg a] at *
    by_cases b : X < Y
    · rw [if_pos b] at *
      by_cases c : Y = Z
      · rw [if_pos c] at h1; cases h1
      · rw [if_neg c] at h1
        by_cases d : Y < Z
        · rw [if_neg (by omega), if_pos (by omega)] at h2; exact absurd rfl h2
        · rw [if_neg d] at h1; cases h1
    · rw [if_neg b] at *
      by_cases c : Y = Z
      · rw [if_pos c] at h1; cases h1
      · rw [if_neg c] at h1
        by_cases d : Y < Z
        · rw [if_pos d] at h1; cases h1
        · rw [if_neg (by omega), if_neg (by omega)] at h2; exact absurd rfl h2
end Go.Proofs.YtpfnfhikhlceoaaGreatDoor

/- Made bytes as a row of the call's own, and as a text; a row that has been tamed. -/
namespace Go.Proofs.YtpfnfhikhlceoaaGreatDoor
open Go.RowKit

theorem own_bytes (k : Nat) (w : World) (hk : k ≤ 4611686018427387904) (t : TypeId) : OwnW .u8 t (w.alloc (.cells (Array.replicate k (.int .u8 0)) t)) w.heap.size k (List.replicate k 0) := by
  refine ⟨by simp, .inr ⟨w.heap.size, k, Array.replicate k (.int .u8 0), rfl, Nat.le_refl _, new_blk _ _, Nat.le_refl _, by unfold maxLen; omega, by simp, ?_⟩⟩
  rw [Nat.mul_one, List.take_of_length_le (by simp)]
  simp
/-- Its bytes. -/
def bytesN (zs : List Nat) : List UInt8 := zs.map UInt8.ofNat
theorem bytesN_len (zs : List Nat) : (bytesN zs).length = zs.length := by simp [bytesN]
theorem bytesN_get (zs : List Nat) (j : Nat) (hj : j < (bytesN zs).length) (hz : zs.getD j 0 < 256) : ((bytesN zs)[j].toNat) = zs.getD j 0 := by
  have hj' : j < zs.length := by rw [← bytesN_len]; exact hj
  simp only [bytesN, List.getElem_map]
  rw [List.getD_eq_getElem?_getD, List.getElem?_eq_getElem hj'] at *
  simp only [Option.getD_some] at *
  simp
  omega
/-- 'string(b)' of such a row. -/
theorem text_own {k : Nat} {g : Nat} {zs : List Nat} {w : World} (h : OwnW .u8 5 w g k zs) (hz : ∀ j, j < k → zs.getD j 0 < 256) :
    (convert 70 9 (.slice (some ⟨g, 0, none⟩) k k)).run Tryz.prog w = .ok (.string (bs (bytesN zs))) w := by
  have hl : (bytesN zs).length = k := by rw [bytesN_len]; exact h.length
  have := run_convert_bytes_back (P := Tryz.prog) w 70 9 5 ⟨g, 0, none⟩ k (bytesN zs) Tryz.underlying70 Tryz.underlying5 Tryz.underlying9 (fun j hj => by
    rw [bytesN_get zs j hj (hz j (by omega))]
    have := h.cell (j := j) (by omega)
    rw [show (Addr.mk g 0 none).add j = ⟨g, j, none⟩ by unfold Addr.add; split <;> simp_all]
    exact this)
  rw [hl] at this
  exact this
theorem bytesN_dig {zs : List Nat} (h : ∀ j, j < zs.length → 48 ≤ zs.getD j 0 ∧ zs.getD j 0 ≤ 57) : allDig (bytesN zs) := by
  rw [← all_dig]
  refine all_true (fun j hj => ?_)
  have hj' : j < zs.length := by rw [← bytesN_len]; exact hj
  have := h j hj'
  rw [bytesN_get zs j hj (by omega)]
  exact this
end Go.Proofs.YtpfnfhikhlceoaaGreatDoor

/- Walks: tame: a row as a decimal that may be. -/
namespace Go.Proofs.YtpfnfhikhlceoaaGreatDoor
open Go.RowKit

set_option maxRecDepth 100000 in
theorem tame_v (ng : Bool) (s : ByteArray) (x many far : Int) (w : World) (hs : s.size ≤ 9223372036854775807) (hm : 0 ≤ many) (hm1 : many ≤ 8192) (hx0 : -9223372036854775808 ≤ x) (hx1 : x ≤ 9223372036854775807) (hf : 0 ≤ far) (hf1 : far ≤ 19000) :
    Calls Tryz.prog 21 #[.agg #[.bool ng, .string s, .int .i64 x], .int .i64 many, .int .i64 far] w fun en w' => ∃ d V e, en = .returned (dcV d) ∧ Tame d V e many.toNat far ∧ Below w.heap.size w w' := by
  have k1 : IntKind.i64.wrap (s.size : Int) = s.size := IntWalk.i64_in _ (by omega)
  go_enter Tryz.func21, Tryz.ntmps21
  go_upto_if 18 with fail
  go_cut [7] (fun e wx => wx = ((w.alloc (.cells #[.bool ng, .string s, .int .i64 x] 38)).alloc (.cells #[.bool false, .string ⟨#[]⟩, .int .i64 0] 25)) ∧ ∃ k : Nat, k ≤ s.size ∧ (k : Int) ≤ many ∧ e = .int .i64 k)
  case first => as_aux_lemma =>
    obtain ⟨mm, rfl⟩ : ∃ mm : Nat, many = mm := ⟨many.toNat, by omega⟩
    go_wp2
    · go_meet; exact ⟨rfl, mm, by omega, by omega, rfl⟩
    · go_meet; exact ⟨rfl, s.size, by omega, by omega, rfl⟩
  case rest =>
  obtain ⟨rfl, k, hk1, hk2, rfl⟩ := hcut
  have HB1 : Hid (Below w.heap.size w ((w.alloc (.cells #[.bool ng, .string s, .int .i64 x] 38)).alloc (.cells #[.bool false, .string ⟨#[]⟩, .int .i64 0] 25))) := ((Below.refl _ _).alloc (Nat.le_refl _) _).alloc (by simp) _
  have HR1 : Hid _ := heap_alloc2_old w (.cells #[.bool ng, .string s, .int .i64 x] 38) (.cells #[.bool false, .string ⟨#[]⟩, .int .i64 0] 25)
  have HQ1 : Hid _ := heap_alloc2_new w (.cells #[.bool ng, .string s, .int .i64 x] 38) (.cells #[.bool false, .string ⟨#[]⟩, .int .i64 0] 25)
  generalize ((w.alloc (.cells #[.bool ng, .string s, .int .i64 x] 38)).alloc (.cells #[.bool false, .string ⟨#[]⟩, .int .i64 0] 25)) = w1 at *
  have hmk := mk_bytes k w1 (by omega)
  go_upto_region 5 with fail
  clear hmk
  have HO2 : Hid _ := own_bytes k w1 (by omega) 5
  have HB2 : Hid _ := (Below.refl w1.heap.size w1).alloc (Nat.le_refl _) (.cells (Array.replicate k (.int .u8 0)) 5)
  obtain ⟨w2, hw2⟩ : ∃ w2, w2 = w1.alloc (.cells (Array.replicate k (.int .u8 0)) 5) := ⟨_, rfl⟩
  rw [← hw2] at HO2 HB2 ⊢
  obtain ⟨g, hg⟩ : ∃ g, g = w1.heap.size := ⟨_, rfl⟩
  rw [← hg] at HO2 ⊢
  have HR2 : Hid _ := HB2.out.blk HR1.out (blk_lt HR1.out)
  have HQ2 : Hid _ := HB2.out.blk HQ1.out (blk_lt HQ1.out)
  have HG : Hid (w.heap.size + 2 ≤ g ∧ g < w2.heap.size) := by
    have h1 := blk_lt HQ1.out
    refine ⟨by omega, ?_⟩
    rw [hw2, hg]; simp
  have HB : Hid (Below w.heap.size w w2) := HB1.out.trans (HB2.out.mono HB1.out.size)
  clear hw2 hg HB1 HR1 HQ1 HB2
  have r1 := cell_of_row w2 w.heap.size 1 _ _ _ HR2.out
  go_wp2_with fail
  go_loopw [9] (fun i wr => ∃ (j : Nat) (zs : List Nat), j ≤ k ∧ i = .int .i64 (j : Nat) ∧ OwnW .u8 5 wr g k zs ∧ (∀ m, m < j → 48 ≤ zs.getD m 0 ∧ zs.getD m 0 ≤ 57) ∧ Below g w2 wr) (fun i _ => k - (intOf i).toNat)
  case atStart => exact ⟨0, _, Nat.zero_le _, rfl, HO2.out, fun m hm => absurd hm (Nat.not_lt_zero _), Below.refl _ _⟩
  case round =>
    obtain ⟨j, zs, hj, rfl, ho, hz, hb⟩ := hrel
    have HZ : Hid (∀ m, m < j → 48 ≤ zs.getD m 0 ∧ zs.getD m 0 ≤ 57) := hz
    have HO : Hid (OwnW .u8 5 wr g k zs) := ho
    have HBR : Hid (Below g w2 wr) := hb
    clear hz ho hb r1
    have HRR : Hid _ := HBR.out.blk HR2.out (by have := HG.out; omega)
    have r1 := cell_of_row wr w.heap.size 1 _ _ _ HRR.out
    by_cases hjk : j < k
    · have hjs : j < s.size := by omega
      have c1 := HO.out.cell hjk
      have f1 := HO.out.frozen j
      have hlt : (s[j]'hjs).toNat < 256 := (s[j]'hjs).toNat_lt
      obtain ⟨c, hc⟩ : ∃ c, c = (s[j]'hjs).toNat := ⟨_, rfl⟩
      go_wp2
      refine ⟨⟨j + 1, zs.set j (48 + c % 10), by omega, rfl, ?_, ?_, HBR.out.setCell (Nat.le_refl _) _⟩, ?_⟩
      · have := HO.out.set j (48 + c % 10)
        rw [hc] at this ⊢
        simpa using this
      · intro m hm
        rcases Nat.lt_or_ge m j with h | h
        · rw [getD_set_other (by omega)]; exact HZ.out m h
        · obtain rfl : m = j := by omega
          rw [getD_set_same (by rw [HO.out.length]; exact hjk)]; omega
      · simp [intOf]; omega
    · obtain rfl : j = k := by omega
      have r0 := cell_of_row wr w.heap.size 0 _ _ _ HRR.out
      have r2 := cell_of_row wr w.heap.size 2 _ _ _ HRR.out
      obtain ⟨E, hE0, hE1, HPK⟩ : ∃ E : Int, 0 ≤ E ∧ E ≤ far ∧ Hid (∀ W, Calls Tryz.prog 22 #[.int .i64 x, .int .i64 (far + 1)] W fun e w' => e = .returned (.int .i64 E) ∧ w' = W) := by
        have hb := pickV_bd x (n := far + 1) (by omega)
        exact ⟨_, hb.1, by omega, fun W => pick_v x (far + 1) W hx0 hx1 (by omega) (by omega)⟩
      have kf : IntKind.i64.wrap (far + 1) = far + 1 := IntWalk.i64_in _ (by omega)
      have ke : IntKind.i64.wrap (-E) = -E := IntWalk.i64_in _ (by omega)
      have CV := text_own HO.out (fun m hm => by have := HZ.out m hm; omega)
      have hdig := bytesN_dig (zs := zs) (fun m hm => HZ.out m (by rw [HO.out.length] at hm; exact hm))
      have hlen : (bytesN zs).length = j := by rw [bytesN_len]; exact HO.out.length
      have HKEY : Hid (∀ F, -far ≤ F → F ≤ far → ∃ d X, Hid (∀ W, Calls Tryz.prog 26 #[.bool ng, .string (bs (bytesN zs)), .int .i64 F] W fun e w' => e = .returned (.tuple #[.agg #[.bool d.neg, .string (bs d.s), .int .i64 d.e], .int .i64 X]) ∧ Below W.heap.size W w') ∧ ∃ V e, (X = 0 → Tame d V e many.toNat far)) := fun F h1 h2 => by
        refine ⟨⟨madeS ng (dval (bytesN zs)) F, madeL (dval (bytesN zs)) F, madeE (dval (bytesN zs)) F⟩, madeX (dval (bytesN zs)) F, fun W => Made_any ng (bs (bytesN zs)) F W hdig (by show (bytesN zs).length ≤ _; omega), sg ng (dval (bytesN zs)), F, fun hX => ?_⟩
        obtain ⟨m1, m2⟩ := mkD_sg ng (dval (bytesN zs)) F
        refine ⟨?_, ?_, h1, h2⟩
        · rw [← m1]; exact rep_mk (by rw [m2]; exact hX)
        · rw [sg_natAbs]
          have := dval_lt _ hdig
          rw [hlen] at this
          exact Nat.lt_of_lt_of_le this (Nat.pow_le_pow_right (by decide) (by omega))
      have HQR : Hid _ := HBR.out.blk HQ2.out (by have := HG.out; omega)
      have HBW : Hid (Below w.heap.size w wr) := HB.out.trans (HBR.out.mono (by have := HG.out; omega))
      have hg := HG.out
      clear HB HBR HRR HQ2 HR2 HO2 HG HZ HO hdig hlen hjk
      have HN0 : Hid (∀ W, Below w.heap.size w W → ∃ d V e, Ending.returned (.agg #[.bool false, .string ⟨#[]⟩, .int .i64 0]) = .returned (dcV d) ∧ Tame d V e many.toNat far ∧ Below w.heap.size w W) := fun W hW => ⟨Dc.none, 0, 0, rfl, ⟨rep_none 0, Nat.pow_pos (by decide), by omega, hf⟩, hW⟩
      by_cases hxn : x < 0
      · skip
        obtain ⟨d, X, HMD, V, e, HTM⟩ := HKEY.out (-E) (by omega) (by omega)
        have HTM' : Hid (X = 0 → Tame d V e many.toNat far) := HTM
        clear HTM HKEY
        go_wp2_with (go_at_call 22; refine (HPK.out _).mono ?_; rintro e w' ⟨rfl, hw⟩; subst hw)
        refine (HMD.out _).mono ?_
        rintro e1 w3 ⟨rfl, hb⟩
        have HB3 : Hid (Below w.heap.size w w3) := HBW.out.thru hb
        have HQ3 : Hid _ := hb.blk HQR.out (blk_lt HQR.out)
        have bz := (Below.refl w3.heap.size w3).alloc (Nat.le_refl _) (.cells #[.bool d.neg, .string (bs d.s), .int .i64 d.e] 25)
        have q := bz.blk HQ3.out (blk_lt HQ3.out)
        obtain ⟨f0, c0, f1, c1, f2, c2, r3⟩ := rw3 q
        have HR : Hid _ := r3
        clear hb bz q r3 r0 r1 r2 CV kf ke
        by_cases hX : X = 0
        · subst hX
          go_wp2
          exact bodyPost_ret (dec_one rfl _ _ (w.heap.size + 1) _ _ _ rfl (HR.out _ _ _)) rfl ⟨d, V, e, rfl, HTM'.out (by trivial), below_row3 (HB3.out.alloc HB3.out.size _) (Nat.le_add_right _ 1) _ _ _⟩
        · have hX1 : (X == 0) = false := by simpa using hX
          go_wp2
          exact bodyPost_ret (dec_one rfl _ _ (w.heap.size + 1) _ _ _ rfl (HR.out _ _ _)) rfl (HN0.out _ (below_row3 (HB3.out.alloc HB3.out.size _) (Nat.le_add_right _ 1) _ _ _))
      · skip
        obtain ⟨d, X, HMD, V, e, HTM⟩ := HKEY.out E (by omega) (by omega)
        have HTM' : Hid (X = 0 → Tame d V e many.toNat far) := HTM
        clear HTM HKEY
        go_wp2_with (go_at_call 22; refine (HPK.out _).mono ?_; rintro e w' ⟨rfl, hw⟩; subst hw)
        refine (HMD.out _).mono ?_
        rintro e1 w3 ⟨rfl, hb⟩
        have HB3 : Hid (Below w.heap.size w w3) := HBW.out.thru hb
        have HQ3 : Hid _ := hb.blk HQR.out (blk_lt HQR.out)
        have bz := (Below.refl w3.heap.size w3).alloc (Nat.le_refl _) (.cells #[.bool d.neg, .string (bs d.s), .int .i64 d.e] 25)
        have q := bz.blk HQ3.out (blk_lt HQ3.out)
        obtain ⟨f0, c0, f1, c1, f2, c2, r3⟩ := rw3 q
        have HR : Hid _ := r3
        clear hb bz q r3 r0 r1 r2 CV kf ke
        by_cases hX : X = 0
        · subst hX
          go_wp2
          exact bodyPost_ret (dec_one rfl _ _ (w.heap.size + 1) _ _ _ rfl (HR.out _ _ _)) rfl ⟨d, V, e, rfl, HTM'.out (by trivial), below_row3 (HB3.out.alloc HB3.out.size _) (Nat.le_add_right _ 1) _ _ _⟩
        · have hX1 : (X == 0) = false := by simpa using hX
          go_wp2
          exact bodyPost_ret (dec_one rfl _ _ (w.heap.size + 1) _ _ _ rfl (HR.out _ _ _)) rfl (HN0.out _ (below_row3 (HB3.out.alloc HB3.out.size _) (Nat.le_add_right _ 1) _ _ _))
end Go.Proofs.YtpfnfhikhlceoaaGreatDoor

/- Plain: texts read, whose exponents are short: what is told as a text is read back; the point anywhere. -/
namespace Go.Proofs.YtpfnfhikhlceoaaGreatDoor
open Go.Lib

theorem pow_exp {l : List UInt8} {x : Int} (h : expL l = some x) (hx : x.natAbs ≤ 1099511627776) : powL l = some x := by
  unfold expL at h
  unfold powL
  by_cases h1 : (signL l).2 = []
  · rw [if_pos h1] at h; cases h
  · rw [if_neg h1] at h ⊢
    by_cases h2 : (signL l).2.all isDig = true
    · rw [if_pos h2] at h ⊢
      have h := Option.some.inj h
      congr 1
      rw [← h] at hx ⊢
      cases (signL l).1
      · simp at hx ⊢; omega
      · simp at hx ⊢; omega
    · rw [if_neg h2] at h; cases h
/-- A text read whose exponent is short. -/
theorem read_c {l ds : List UInt8} {ng : Bool} {r : List UInt8} {pt x : Int} {o : Option (List UInt8)} (hs : signL l = (ng, r)) (h : scanL r [] (-1) = some (ds, pt, o)) (h0 : ¬ ds = []) (hx : powO o = some x) {E : Int} (hE : E = if 0 ≤ pt then x - (ds.length - pt) else x) :
    readC l = (⟨madeS ng (dval ds) E, madeL (dval ds) E, madeE (dval ds) E⟩, madeX (dval ds) E) := by
  unfold readC
  rw [hs]
  simp only
  rw [h, fin_some ng ds pt o x h0 hx, ← hE]
theorem cons_of_ne {l : List UInt8} (h : ¬ l = []) : ∃ c r, l = c :: r := by
  cases l with
  | nil => exact absurd rfl h
  | cons c r => exact ⟨c, r, rfl⟩
theorem read_text {d : Dc} (h : d.ok) : readC (textL d) = (d, 0) := by
  by_cases h0 : d.s = []
  · have := ok_nil h h0
    subst this
    have := read_c (l := [48]) (ds := [48]) (ng := false) (r := [48]) (pt := -1) (x := 0) (o := none) rfl rfl (by simp) rfl (E := 0) rfl
    have hd : dval [48] = 0 := rfl
    rw [hd] at this
    obtain ⟨m1, m2, m3, m4⟩ := made_zero false 0
    rw [m1, m2, m3, m4] at this
    exact this
  · have hd := ok_dig h
    obtain ⟨c, r, hs⟩ := cons_of_ne h0
    have hc : isDig c = true := hd c (by rw [hs]; simp)
    have ht : signL (textL d) = (d.neg, d.s ++ (if d.e = 0 then [] else 101 :: itoaL d.e)) := by
      unfold textL
      rw [if_neg h0]
      cases d.neg
      · simp only [Bool.false_eq_true, if_false, List.nil_append]
        rw [hs]; exact signL_dig _ (.inl hc)
      · rfl
    have hb := ok_exp h
    obtain ⟨o, h1, h2⟩ : ∃ o, scanL (d.s ++ (if d.e = 0 then [] else 101 :: itoaL d.e)) [] (-1) = some (d.s, -1, o) ∧ powO o = some d.e := by
      rw [scan_dig _ _ _ _ hd, List.nil_append]
      by_cases he : d.e = 0
      · rw [if_pos he, he]; exact ⟨none, rfl, rfl⟩
      · rw [if_neg he, scan_exp _ _ _ (.inl rfl)]
        exact ⟨some (itoaL d.e), rfl, pow_exp (expL_itoa d.e) (by omega)⟩
    rw [read_c ht h1 h0 h2 (E := d.e) (by rw [if_neg (by decide)])]
    obtain ⟨k1, k2, k3, k4⟩ := made_self h
    rw [k1, k2, k3, k4]
/-- A numeral with a point in it, noughts at both ends, an exponent that makes up for it. -/
theorem read_point {d : Dc} (h : d.ok) (h0 : ¬ d.s = []) (k z : Nat) (hk : k ≤ d.s.length) (pre sign : List UInt8) (letter : UInt8) (hl : letter = 101 ∨ letter = 69) (hpre : ∀ c ∈ pre, c = 48)
    (hsign : sign = [] ∧ d.neg = false ∨ sign = [43] ∧ d.neg = false ∨ sign = [45] ∧ d.neg = true) :
    readC (sign ++ (pre ++ (d.s.take k ++ 46 :: (d.s.drop k ++ (List.replicate z 48 ++ letter :: itoaL (d.e + d.s.length - k)))))) = (d, 0) := by
  have hd := ok_dig h
  have hb := ok_exp h
  have hlen := ok_len h
  obtain ⟨T, hT⟩ : ∃ T, T = letter :: itoaL (d.e + d.s.length - k) := ⟨_, rfl⟩
  rw [← hT]
  have hpd : allDig pre := fun c hc => by rw [hpre c hc]; rfl
  have hpv : ∀ l : List UInt8, (∀ c ∈ l, c = 48) → dval l = 0 := by
    intro l
    induction l with
    | nil => intro _; rfl
    | cons c l ih =>
      intro hh
      rw [dval_cons, hh c (by simp), ih (fun x hx => hh x (by simp [hx]))]
      simp
  have hzd : allDig (List.replicate z 48) := fun c hc => by rw [List.eq_of_mem_replicate hc]; rfl
  have htd : allDig (d.s.take k) := fun c hc => hd c (List.mem_of_mem_take hc)
  have hdd : allDig (d.s.drop k) := fun c hc => hd c (List.mem_of_mem_drop hc)
  have hne : pre ++ (d.s.take k ++ 46 :: (d.s.drop k ++ (List.replicate z 48 ++ T))) ≠ [] := by simp
  have hhead : ∀ R, signL (pre ++ (d.s.take k ++ 46 :: R)) = (false, pre ++ (d.s.take k ++ 46 :: R)) := fun R => by
    cases hp : pre with
    | cons c r => exact signL_dig _ (.inl (hpd c (by rw [hp]; simp)))
    | nil =>
      cases ht : d.s.take k with
      | cons c r => exact signL_dig _ (.inl (htd c (by rw [ht]; simp)))
      | nil => exact signL_dig _ (.inr rfl)
  have hs : signL (sign ++ (pre ++ (d.s.take k ++ 46 :: (d.s.drop k ++ (List.replicate z 48 ++ T))))) = (d.neg, pre ++ (d.s.take k ++ 46 :: (d.s.drop k ++ (List.replicate z 48 ++ T)))) := by
    rcases hsign with ⟨rfl, hn⟩ | ⟨rfl, hn⟩ | ⟨rfl, hn⟩
    · rw [hn]; exact hhead _
    · rw [hn]; rfl
    · rw [hn]; rfl
  have hsc : scanL (pre ++ (d.s.take k ++ 46 :: (d.s.drop k ++ (List.replicate z 48 ++ T)))) [] (-1) = some (pre ++ (d.s ++ List.replicate z 48), ((pre.length + k : Nat) : Int), some (itoaL (d.e + d.s.length - k))) := by
    rw [scan_dig _ _ _ _ hpd, List.nil_append, scan_dig _ _ _ _ htd, scan_point _ _ (by decide), scan_dig _ _ _ _ hdd, scan_dig _ _ _ _ hzd, hT, scan_exp _ _ _ hl]
    congr 2
    · rw [List.append_assoc, List.append_assoc]
      rw [← List.append_assoc (d.s.take k), List.take_append_drop]
    · congr 1
      rw [List.length_append, List.length_take, Nat.min_eq_left hk]
  have hv : dval (pre ++ (d.s ++ List.replicate z 48)) = dval d.s * 10 ^ z := by
    rw [dval_append, hpv pre hpre, dval_append, hpv _ (fun c hc => List.eq_of_mem_replicate hc)]
    simp
  have hnn : ¬ pre ++ (d.s ++ List.replicate z 48) = [] := by simp [h0]
  rw [read_c hs hsc hnn (show powO (some (itoaL (d.e + d.s.length - k))) = some (d.e + d.s.length - k) from pow_exp (expL_itoa _) (by omega)) (E := d.e - z) (by
    rw [if_pos (by omega)]
    simp only [List.length_append, List.length_replicate]
    omega), hv]
  obtain ⟨k1, k2, k3, k4⟩ := made_of h (dval d.s * 10 ^ z) z (d.e - z) rfl (by omega)
  rw [k1, k2, k3, k4]
theorem textL_len {d : Dc} (h : d.ok) : (textL d).length ≤ 8300 := by
  have h1 := ok_len h
  have h2 := ok_exp h
  have h3 := itoaL_len d.e h2.1 h2.2
  unfold textL
  split
  · simp
  · simp only [List.length_append]
    have e1 : (if d.neg then [45] else ([] : List UInt8)).length ≤ 1 := by split <;> simp
    have e2 : (if d.e = 0 then [] else 101 :: itoaL d.e).length ≤ 7 := by split <;> simp <;> omega
    omega
theorem cons_bs (c : UInt8) (l : List UInt8) : ByteArray.mk #[c] ++ bs l = bs (c :: l) := bl_inj (by rw [bl_append]; rfl)
theorem snoc_bs (c : UInt8) (l : List UInt8) : bs l ++ ByteArray.mk #[c] = bs (l ++ [c]) := bl_inj (by rw [bl_append]; rfl)
theorem app_bs (l r : List UInt8) : bs l ++ bs r = bs (l ++ r) := bl_inj (by rw [bl_append]; rfl)
/-- A text of noughts, digits, noughts. -/
theorem noughts_dig {l : List UInt8} (h : allDig l) (p q : Nat) : allDig (List.replicate p 48 ++ l ++ List.replicate q 48) := by
  intro c hc
  simp only [List.mem_append, List.mem_replicate] at hc
  rcases hc with (⟨-, rfl⟩ | hc) | ⟨-, rfl⟩
  · rfl
  · exact h c hc
  · rfl
theorem dval_noughts (p : Nat) : dval (List.replicate p 48) = 0 := by
  induction p with
  | zero => rfl
  | succ p ih => rw [List.replicate_succ, dval_cons, ih]; simp
theorem noughts_val (l : List UInt8) (p q : Nat) : dval (List.replicate p 48 ++ l ++ List.replicate q 48) = dval l * 10 ^ q := by
  rw [dval_append, dval_append, dval_noughts, dval_noughts]; simp
end Go.Proofs.YtpfnfhikhlceoaaGreatDoor

/- Rows of decimals that lie in memory; calls of what has room. -/
namespace Go.Proofs.YtpfnfhikhlceoaaGreatDoor
open Go.RowKit

theorem dc_same {a b : Dc} (h1 : a.neg = b.neg) (h2 : (bs a.s).toList = (bs b.s).toList) (h3 : a.e = b.e) : a = b := by
  obtain ⟨_, _, _⟩ := a
  obtain ⟨_, _, _⟩ := b
  cases h1; cases h3; cases bs_inj.1 h2; rfl
/-- A decimal's row; a Row's. -/
def decO (d : Dc) : Obj := .cells #[.bool d.neg, .string (bs d.s), .int .i64 d.e] 25 (0, 0)
def rowO (ng : Bool) (s : ByteArray) (x : Int) : Obj := .cells #[.bool ng, .string s, .int .i64 x] 38 (0, 0)
/-- Rows that lie in memory. -/
def Kept (l : List (Nat × Obj)) (w : World) : Prop := ∀ p ∈ l, w.heap[p.1]? = some p.2
theorem Kept.nil (w : World) : Kept [] w := fun p hp => by cases hp
theorem Kept.cons {l : List (Nat × Obj)} {w : World} (h : Kept l w) {g : Nat} {o : Obj} (hg : w.heap[g]? = some o) : Kept ((g, o) :: l) w := fun p hp => by
  rcases List.mem_cons.1 hp with rfl | hp
  · exact hg
  · exact h p hp
theorem Kept.sub {l r : List (Nat × Obj)} {w : World} (h : Kept l w) (hs : ∀ p ∈ r, p ∈ l) : Kept r w := fun p hp => h p (hs p hp)
theorem Kept.below {l : List (Nat × Obj)} {w w' : World} (h : Kept l w) (hb : Below w.heap.size w w') : Kept l w' := fun p hp => hb.blk (h p hp) (blk_lt (h p hp))
theorem Kept.more {l : List (Nat × Obj)} {w : World} (h : Kept l w) (o : Obj) : Kept l (w.alloc o) := h.below ((Below.refl _ _).alloc (Nat.le_refl _) o)
theorem Kept.push {l : List (Nat × Obj)} {w : World} (h : Kept l w) (o : Obj) : Kept ((w.heap.size, o) :: l) (w.alloc o) := (h.more o).cons (new_blk w o)
theorem Kept.dec {l : List (Nat × Obj)} {w : World} (h : Kept l w) (d : Dc) : Kept ((w.heap.size, decO d) :: l) (w.alloc (.cells #[.bool d.neg, .string (bs d.s), .int .i64 d.e] 25)) := h.push (decO d)
theorem Kept.nought {l : List (Nat × Obj)} {w : World} (h : Kept l w) : Kept ((w.heap.size, decO Dc.none) :: l) (w.alloc (.cells #[.bool false, .string ⟨#[]⟩, .int .i64 0] 25)) := h.push (decO Dc.none)
theorem Kept.decs {l : List (Nat × Obj)} {w : World} (h : Kept l w) {g : Nat} {d : Dc} (hm : (g, decO d) ∈ l) :
    w.cell? ⟨g, 0, none⟩ = some (.bool d.neg) ∧ w.cell? ⟨g, 1, none⟩ = some (.string (bs d.s)) ∧ w.cell? ⟨g, 2, none⟩ = some (.int .i64 d.e) := by
  have r : w.heap[g]? = some (.cells #[.bool d.neg, .string (bs d.s), .int .i64 d.e] 25 (0, 0)) := h _ hm
  exact ⟨cell_of_row w g 0 _ _ _ r, cell_of_row w g 1 _ _ _ r, cell_of_row w g 2 _ _ _ r⟩
theorem Kept.lits {l : List (Nat × Obj)} {w : World} (h : Kept l w) {g : Nat} {x y z : Value} (hm : (g, .cells #[x, y, z] 25 (0, 0)) ∈ l) :
    w.cell? ⟨g, 0, none⟩ = some x ∧ w.cell? ⟨g, 1, none⟩ = some y ∧ w.cell? ⟨g, 2, none⟩ = some z := by
  have r : w.heap[g]? = some (.cells #[x, y, z] 25 (0, 0)) := h _ hm
  exact ⟨cell_of_row w g 0 _ _ _ r, cell_of_row w g 1 _ _ _ r, cell_of_row w g 2 _ _ _ r⟩
theorem Kept.nones {l : List (Nat × Obj)} {w : World} (h : Kept l w) {g : Nat} (hm : (g, decO Dc.none) ∈ l) :
    w.cell? ⟨g, 0, none⟩ = some (.bool false) ∧ w.cell? ⟨g, 1, none⟩ = some (.string ⟨#[]⟩) ∧ w.cell? ⟨g, 2, none⟩ = some (.int .i64 0) := h.decs hm
theorem Kept.rows {l : List (Nat × Obj)} {w : World} (h : Kept l w) {g : Nat} {ng : Bool} {s : ByteArray} {x : Int} (hm : (g, rowO ng s x) ∈ l) :
    w.cell? ⟨g, 0, none⟩ = some (.bool ng) ∧ w.cell? ⟨g, 1, none⟩ = some (.string s) ∧ w.cell? ⟨g, 2, none⟩ = some (.int .i64 x) := by
  have r : w.heap[g]? = some (.cells #[.bool ng, .string s, .int .i64 x] 38 (0, 0)) := h _ hm
  exact ⟨cell_of_row w g 0 _ _ _ r, cell_of_row w g 1 _ _ _ r, cell_of_row w g 2 _ _ _ r⟩
theorem Kept.drow {l : List (Nat × Obj)} {w : World} (h : Kept l w) {g : Nat} {d : Dc} (hm : (g, decO d) ∈ l) : w.heap[g]? = some (.cells #[.bool d.neg, .string (bs d.s), .int .i64 d.e] 25 (0, 0)) := h _ hm
/-- A store into another row, a new one. -/
theorem Kept.stored {l : List (Nat × Obj)} {w w0 : World} {B : Nat} (h0 : Kept l w0) (hb : Below w0.heap.size w0 w) {g : Nat} (hB : w0.heap.size ≤ B) (hg : B ≤ g) (u v y : Value) : Kept l (((w.setCell ⟨g, 0, none⟩ u).setCell ⟨g, 1, none⟩ v).setCell ⟨g, 2, none⟩ y) := fun p hp =>
  row3_other ((h0.below hb) p hp) (by have := blk_lt (h0 p hp); omega) u v y
/-- The three Rows that came in, boxed. -/
theorem kept_rows3 (w : World) (g0 g1 g2 : Bool) (s0 s1 s2 : ByteArray) (x0 x1 x2 : Int) : Kept [(w.heap.size, rowO g0 s0 x0), (w.heap.size + 1, rowO g1 s1 x1), (w.heap.size + 2, rowO g2 s2 x2)] (((w.alloc (rowO g0 s0 x0)).alloc (rowO g1 s1 x1)).alloc (rowO g2 s2 x2)) :=
  (((Kept.nil _).cons (heap_alloc3_2 _ _ _ _)).cons (heap_alloc3_1 _ _ _ _)).cons (heap_alloc3_0 _ _ _ _)


theorem add_c {a b r : Dc} (ha : a.ok) (hb : b.ok) (hx : addX a b = 0) (hr : addD a b = r) (w : World) (htab : Tab w) : ∀ W, Below w.heap.size w W → Calls Tryz.prog 32 #[.agg #[.bool a.neg, .string (bs a.s), .int .i64 a.e], .agg #[.bool b.neg, .string (bs b.s), .int .i64 b.e]] W fun e w' => e = .returned (.tuple #[.agg #[.bool r.neg, .string (bs r.s), .int .i64 r.e], .int .i64 0]) ∧ Below W.heap.size W w' := fun W hW => by
  have la := ok_len ha
  have lb := ok_len hb
  have := add_v a b W (by omega) (by omega) (htab.below hW)
  rw [okB_ok ha, okB_ok hb, hx, hr] at this
  exact this
theorem sub_c {a b r : Dc} (ha : a.ok) (hb : b.ok) (hx : addX a (negD b) = 0) (hr : addD a (negD b) = r) (w : World) (htab : Tab w) : ∀ W, Below w.heap.size w W → Calls Tryz.prog 37 #[.agg #[.bool a.neg, .string (bs a.s), .int .i64 a.e], .agg #[.bool b.neg, .string (bs b.s), .int .i64 b.e]] W fun e w' => e = .returned (.tuple #[.agg #[.bool r.neg, .string (bs r.s), .int .i64 r.e], .int .i64 0]) ∧ Below W.heap.size W w' := fun W hW => by
  have la := ok_len ha
  have lb := ok_len hb
  have := sub_v a b W (by omega) (by omega) (htab.below hW)
  rw [okB_ok ha, okB_ok hb, hx, hr] at this
  exact this
theorem mul_c {a b r : Dc} (ha : a.ok) (hb : b.ok) (hx : mulX a b = 0) (hr : mulD a b = r) (w : World) (htab : Tab w) : ∀ W, Below w.heap.size w W → Calls Tryz.prog 33 #[.agg #[.bool a.neg, .string (bs a.s), .int .i64 a.e], .agg #[.bool b.neg, .string (bs b.s), .int .i64 b.e]] W fun e w' => e = .returned (.tuple #[.agg #[.bool r.neg, .string (bs r.s), .int .i64 r.e], .int .i64 0]) ∧ Below W.heap.size W w' := fun W hW => by
  have la := ok_len ha
  have lb := ok_len hb
  have := mul_v a b W (by omega) (by omega) (htab.below hW)
  rw [okB_ok ha, okB_ok hb, hx, hr] at this
  exact this
theorem cmp_c {a b : Dc} (ha : a.ok) (hb : b.ok) {n : Int} (hn : cmpV a b = n) (w : World) : ∀ W, Below w.heap.size w W → Calls Tryz.prog 31 #[.agg #[.bool a.neg, .string (bs a.s), .int .i64 a.e], .agg #[.bool b.neg, .string (bs b.s), .int .i64 b.e]] W fun e w' => e = .returned (.tuple #[.int .i64 n, .int .i64 0]) ∧ Below W.heap.size W w' := fun W _ => by
  have la := ok_len ha
  have lb := ok_len hb
  have := cmp_v a b W (by omega) (by omega)
  rw [okB_ok ha, okB_ok hb, hn] at this
  exact this

theorem neg_c {a r : Dc} (ha : a.ok) (hr : negD a = r) (w : World) : ∀ W, Below w.heap.size w W → Calls Tryz.prog 27 #[.agg #[.bool a.neg, .string (bs a.s), .int .i64 a.e]] W fun e w' => e = .returned (.tuple #[.agg #[.bool r.neg, .string (bs r.s), .int .i64 r.e], .int .i64 0]) ∧ Below W.heap.size W w' := fun W _ => by
  have := neg_ok a W ha
  rw [hr] at this
  exact this
theorem int_c {n : Int} {r : Dc} (h0 : -9223372036854775808 ≤ n) (h1 : n ≤ 9223372036854775807) (hr : mkD n 0 = r) (w : World) (htab : Tab w) : ∀ W, Below w.heap.size w W → Calls Tryz.prog 29 #[.int .i64 n] W fun e w' => e = .returned (.agg #[.bool r.neg, .string (bs r.s), .int .i64 r.e]) ∧ Below W.heap.size W w' := fun W hW => by
  have := int_v n W h0 h1 (htab.below hW)
  rw [hr] at this
  exact this
theorem tame_c (ng : Bool) (s : ByteArray) (x : Int) (m : Nat) (f : Int) (hs : s.size ≤ 9223372036854775807) (hm1 : m ≤ 8192) (hx0 : -9223372036854775808 ≤ x) (hx1 : x ≤ 9223372036854775807) (hf : 0 ≤ f) (hf1 : f ≤ 19000) (W : World) :
    Calls Tryz.prog 21 #[.agg #[.bool ng, .string s, .int .i64 x], .int .i64 (m : Nat), .int .i64 f] W fun en w' => ∃ d V e, en = .returned (.agg #[.bool d.neg, .string (bs d.s), .int .i64 d.e]) ∧ Tame d V e m f ∧ Below W.heap.size W w' := by
  have := tame_v ng s x m f W hs (by omega) (by omega) hx0 hx1 hf hf1
  rwa [Int.toNat_natCast] at this
/-- pick, as a natural number. -/
theorem pick_nat (c n : Int) (h0 : -9223372036854775808 ≤ c) (h1 : c ≤ 9223372036854775807) (hn : 0 < n) (hn1 : n ≤ 9223372036854775807) :
    ∃ p : Nat, p < n.toNat ∧ Hid (∀ W, Calls Tryz.prog 22 #[.int .i64 c, .int .i64 n] W fun e w' => e = .returned (.int .i64 (p : Nat)) ∧ w' = W) := by
  have hb := pickV_bd c hn
  refine ⟨(pickV c n).toNat, by omega, ?_⟩
  intro W
  have := pick_v c n W h0 h1 hn hn1
  rwa [show pickV c n = ((pickV c n).toNat : Int) by omega] at this
/-- all, of a fresh row that is all OK. -/
theorem all_c (n : Nat) (cs : Array Value) (hn : n ≤ 1000) (hcs : cs = Array.replicate n (.int .i64 0)) (T : TypeId) (w : World) (g : Nat) (hg : g = w.heap.size) :
    Calls Tryz.prog 34 #[.slice (some ⟨g, 0, none⟩) n n] (w.alloc (.cells cs T)) fun e w' => e = .returned (.bool true) ∧ Below (w.alloc (.cells cs T)).heap.size (w.alloc (.cells cs T)) w' := by
  subst hcs hg
  refine lall_true _ n _ hn (fun i hi => ?_)
  exact cell_of_row _ _ i _ _ _ (new_blk w _) |>.trans (by simp [hi])
end Go.Proofs.YtpfnfhikhlceoaaGreatDoor
