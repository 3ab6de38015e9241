/- Parts Es, Et, Iy, Eu of the proof, in one text. -/
import Derived.Test.YtpfnfhikhlceoaaGreatDoorRB
import Derived.Test.YtpfnfhikhlceoaaGreatDoorRE
import Derived.Test.YtpfnfhikhlceoaaGreatDoorQS

/- Numbers and their decimals: plain. The decimal of a number says its value; the orders agree; the decimals of whole numbers add up and multiply. -/
namespace Go.Proofs.YtpfnfhikhlceoaaGreatDoor
open Go.RowKit

theorem mkD_sg (s : Bool) (n : Nat) (e : Int) : mkD (sg s n) e = ⟨madeS s n e, madeL n e, madeE n e⟩ ∧ mkX (sg s n) e = madeX n e := by
  unfold mkD mkX
  rw [sg_natAbs]
  refine ⟨?_, rfl⟩
  rcases Nat.eq_zero_or_pos n with h | h
  · rw [(made_none (neg := s) (.inl h)).1, (made_none (neg := decide (sg s n < 0)) (.inl h)).1]
  · have : decide (sg s n < 0) = s := by
      cases s
      · simp [sg]
      · simp [sg]; omega
    rw [this]
theorem of_mk {b : Nat} (h : spX b = 0) : ofD b = mkD (sg (spS b) (ofN b)) (ofE b) ∧ ofX b = mkX (sg (spS b) (ofN b)) (ofE b) := by
  obtain ⟨h1, h2⟩ := mkD_sg (spS b) (ofN b) (ofE b)
  unfold ofD ofX
  rw [if_pos h, if_pos h, h1, h2]
  exact ⟨rfl, rfl⟩
theorem of_fin {b : Nat} (h : spX b = 0) : finB b = true := by
  cases hf : finB b with
  | true => rfl
  | false => obtain ⟨-, -, -, h4⟩ := sp_not b hf; omega
theorem ten_pow (k : Nat) : (10 : Int) ^ k = 2 ^ k * 5 ^ k := by rw [← Int.mul_pow]; rfl
theorem of_val {b : Nat} (hx : spX b = 0) : sg (spS b) (ofN b) * 10 ^ (ofE b - -(LP : Int)).toNat = valB b * 5 ^ LP ∧ -(LP : Int) ≤ ofE b := by
  have hl := LP_eq
  have hf := of_fin hx
  obtain ⟨r1, r2, -⟩ := sp_bd b
  refine ⟨?_, by unfold ofE; split <;> omega⟩
  rw [valB_sp b hf]
  have h1 : (sg (spS b) (ofN b) : Int) * 10 ^ (ofE b - -(LP : Int)).toNat = sg (spS b) (ofN b * 10 ^ (ofE b - -(LP : Int)).toNat) := by rw [sg_mul]; push_cast; rfl
  have h5 : ∀ N : Nat, sg (spS b) N * (5 : Int) ^ LP = sg (spS b) (N * 5 ^ LP) := fun N => by rw [sg_mul]; push_cast; rfl
  rw [h1, h5]
  congr 1
  have h10 : ∀ k : Nat, (10 : Nat) ^ k = 2 ^ k * 5 ^ k := fun k => by rw [← Nat.mul_pow]
  rw [h10]
  by_cases h0 : 0 ≤ spE b
  · unfold ofN ofE
    rw [if_pos h0, if_pos h0, show ((0 : Int) - -(LP : Int)).toNat = LP by omega, show (spE b + (LP : Int)).toNat = (spE b).toNat + LP by omega, Nat.pow_add]
    simp only [Nat.mul_comm, Nat.mul_left_comm, Nat.mul_assoc]
  · unfold ofN ofE
    rw [if_neg h0, if_neg h0, show (spE b - -(LP : Int)).toNat = (spE b + LP).toNat by omega]
    have : (5 : Nat) ^ LP = 5 ^ (-spE b).toNat * 5 ^ (spE b + LP).toNat := by rw [← Nat.pow_add]; congr 1; omega
    rw [this]
    simp only [Nat.mul_comm, Nat.mul_left_comm, Nat.mul_assoc]
/-- The decimal of a number says its value. -/
theorem of_rep {b : Nat} (h : ofX b = 0) : Rep (ofD b) (valB b * 5 ^ LP) (-(LP : Int)) ∧ finB b = true := by
  have hx : spX b = 0 := by
    rcases spX_cases b with e | e
    · exact e
    · unfold ofX at h; rw [if_neg (by omega)] at h; omega
  refine ⟨?_, of_fin hx⟩
  obtain ⟨h1, h2⟩ := of_mk hx
  rw [h1]
  rw [h2] at h
  obtain ⟨e, hE⟩ := of_val hx
  rw [← e]
  exact (rep_mk h).at (-(LP : Int)) hE
theorem five_pos (k : Nat) : (0 : Int) < 5 ^ k := Int.pow_pos (by decide)
theorem val_scale (X Y : Int) (k : Nat) : (X * 5 ^ k < Y * 5 ^ k ↔ X < Y) ∧ (X * 5 ^ k = Y * 5 ^ k ↔ X = Y) := by
  have h := five_pos k
  refine ⟨Int.mul_lt_mul_right h, ⟨fun e => Int.eq_of_mul_eq_mul_right (Int.ne_of_gt h) e, fun e => by rw [e]⟩⟩
/-- How two decimals of numbers stand. -/
theorem of_cmp {a b : Nat} (ha : ofX a = 0) (hb : ofX b = 0) : cmpV (ofD a) (ofD b) = (if valB a = valB b then 0 else if valB a < valB b then -1 else 1) ∧ (ofD a = ofD b ↔ valB a = valB b) ∧ ((ofD a).neg = decide (valB a < 0)) := by
  obtain ⟨h1, f1⟩ := of_rep ha
  obtain ⟨h2, f2⟩ := of_rep hb
  obtain ⟨s1, s2⟩ := val_scale (valB a) (valB b) LP
  refine ⟨?_, ⟨fun e => ?_, fun e => ?_⟩, ?_⟩
  · rw [cmp_rep h1 h2]
    simp only [s1, s2]
  · rw [← s2]
    rw [e] at h1
    exact (rep_cmp h1 h2 (ofD b).e (ofD b).v (ofD b).v (rep_self h1.ok) (rep_self h1.ok)).2.1 rfl
  · rw [e] at h1
    exact h1.uniq h2
  · rw [ok_sign h1.ok]
    have := (rep_cmp h1 (rep_none (-(LP : Int))) (ofD a).e (ofD a).v 0 (rep_self h1.ok) (rep_none _)).1
    rw [decide_eq_decide, this]
    have := (val_scale (valB a) 0 LP).1
    rwa [Int.zero_mul] at this
/-- Whole numbers. -/
theorem int_room {n : Int} (h : n.natAbs < 10 ^ 30) : Rep (mkD n 0) n 0 := rep_mk (mk_room (m := 30) h (by decide) (by decide) (by decide))
theorem int_sum {n m : Int} (hn : n.natAbs < 10 ^ 12) (hm : m.natAbs < 10 ^ 12) : addD (mkD n 0) (mkD m 0) = mkD (n + m) 0 ∧ addX (mkD n 0) (mkD m 0) = 0 := by
  obtain ⟨h1, h2⟩ := add_rep (int_room (n := n) (by omega)) (int_room (n := m) (by omega))
  exact ⟨h1, h2.trans (mk_room (m := 30) (by omega) (by decide) (by decide) (by decide))⟩
theorem int_prod {n m : Int} (hn : n.natAbs < 10 ^ 12) (hm : m.natAbs < 10 ^ 12) : mulD (mkD n 0) (mkD m 0) = mkD (n * m) 0 ∧ mulX (mkD n 0) (mkD m 0) = 0 := by
  obtain ⟨h1, h2⟩ := mul_rep (int_room (n := n) (by omega)) (int_room (n := m) (by omega))
  refine ⟨h1, h2.trans (mk_room (m := 30) ?_ (by decide) (by decide) (by decide))⟩
  rw [Int.natAbs_mul]
  have := Nat.mul_le_mul (Nat.le_of_lt hn) (Nat.le_of_lt hm)
  omega
theorem norm_exp {N : Nat} (h0 : 0 < N) (h : N ≤ 4294967296) : ∃ i, i ≤ 52 ∧ 4503599627370496 ≤ N * 2 ^ i ∧ N * 2 ^ i < 9007199254740992 := by
  obtain ⟨h1, h2, h3⟩ := blen_pos (n := N) (by omega)
  have h4 : blen N ≤ 33 := blen_le (by omega)
  refine ⟨53 - blen N, by omega, ?_, ?_⟩
  · have := Nat.mul_le_mul_right (2 ^ (53 - blen N)) h1
    rw [← Nat.pow_add, show blen N - 1 + (53 - blen N) = 52 by omega] at this
    simpa using this
  · have := Nat.mul_lt_mul_of_pos_right h2 (Nat.two_pow_pos (53 - blen N))
    rw [← Nat.pow_add, show blen N + (53 - blen N) = 53 by omega] at this
    simpa using this
theorem sg_word' (s : Bool) (r : Nat) (hr : r < 9223372036854775808) : W64 (sgW s + r) ∧ sgnB (sgW s + r) = s ∧ absB (sgW s + r) = r := by
  unfold W64 sgW sgnB absB; cases s <;> simp <;> omega
/-- A whole number as a number. -/
theorem float_int (n : Int) (h : n.natAbs ≤ 4294967296) : ∃ b, Go.FloatKind.f64.nearest n = b ∧ W64 b ∧ finB b = true ∧ valB b = n * 2 ^ LP := by
  have hl := LP_eq
  rcases Nat.eq_zero_or_pos n.natAbs with h0 | h0
  · obtain rfl : n = 0 := by omega
    rw [Int.zero_mul]
    exact ⟨0, by kernel_rfl, by unfold W64; decide, by kernel_rfl, by kernel_rfl⟩
  · obtain ⟨i, hi, h1, h2⟩ := norm_exp h0 h
    obtain ⟨R, g1, g2⟩ := nearest_near' Ieee.double (by decide) (decide (n < 0)) n.natAbs 0
    have hr : rv 52 ((LP - i) * 4503599627370496 + n.natAbs * 2 ^ i) = n.natAbs * 2 ^ i * 2 ^ (LP - i) := rv_qK 52 _ _ (by omega) (by omega)
    have hx := Near.exact 52 ((LP - i) * 4503599627370496 + n.natAbs * 2 ^ i) 1 (by decide)
    have he : n.natAbs * 2 ^ i * 2 ^ (LP - i) = n.natAbs * 2 ^ LP := by rw [Nat.mul_assoc, ← Nat.pow_add, show i + (LP - i) = LP by omega]
    rw [hr, Nat.mul_one] at hx
    rw [D_lp'] at g2
    have hR : R = (LP - i) * 4503599627370496 + n.natAbs * 2 ^ i := by
      refine Near.uniq (by decide) (Near.cross (Nat.two_pow_pos _) (by decide) ?_ g2) hx
      rw [he, Nat.mul_one, Nat.mul_assoc, ← Nat.pow_add]
      congr 2; omega
    have hlt : (LP - i) * 4503599627370496 + n.natAbs * 2 ^ i < 9218868437227405312 := by rw [hl]; omega
    rw [D_inf, hR, Nat.min_eq_left (by omega)] at g1
    obtain ⟨w1, w2, w3⟩ := sg_word' (decide (n < 0)) ((LP - i) * 4503599627370496 + n.natAbs * 2 ^ i) (by omega)
    refine ⟨sgW (decide (n < 0)) + ((LP - i) * 4503599627370496 + n.natAbs * 2 ^ i), ?_, w1, ?_, ?_⟩
    · show Ieee.double.nearest (decide (n < 0)) n.natAbs 0 = _
      rw [g1]
      show Ieee.Format.word _ _ _ = _
      unfold Ieee.Format.word sgW; rw [D_sw]; cases decide (n < 0) <;> simp
    · unfold finB; rw [w3]; simpa using hlt
    · unfold valB
      rw [w2, w3, hr, he]
      by_cases hn : n < 0
      · rw [decide_eq_true hn, if_pos rfl]; push_cast; rw [show (n.natAbs : Int) = -n by omega, Int.neg_mul, Int.neg_neg]
      · rw [decide_eq_false hn]; simp only [Bool.false_eq_true, if_false]; push_cast; rw [show (n.natAbs : Int) = n by omega]
theorem float_int_of (n : Int) (h : n.natAbs ≤ 4294967296) {b : Nat} (hf : finB b = true) (hv : valB b = n * 2 ^ LP) : ofD b = mkD n 0 ∧ ofX b = 0 := by
  have hx : spX b = 0 := by unfold spX; rw [(fin_not b hf).1]; rfl
  obtain ⟨h1, h2⟩ := of_mk hx
  obtain ⟨e, hE⟩ := of_val hx
  have hT : valB b * 5 ^ LP = n * 10 ^ LP := by rw [hv, ten_pow, Int.mul_assoc]
  obtain ⟨k1, k2⟩ := mk_scale (sg (spS b) (ofN b)) (ofE b - -(LP : Int)).toNat (-(LP : Int))
  obtain ⟨k3, k4⟩ := mk_scale n LP (-(LP : Int))
  rw [e, hT, show -(LP : Int) + ((ofE b - -(LP : Int)).toNat : Int) = ofE b by omega] at k1 k2
  rw [show -(LP : Int) + (LP : Int) = 0 by omega] at k3 k4
  rw [h1, h2, ← k1, ← k2, k3, k4]
  exact ⟨rfl, mk_room (m := 30) (by omega) (by decide) (by decide) (by decide)⟩
end Go.Proofs.YtpfnfhikhlceoaaGreatDoor

/- Walks: equality of decimals, all; the law DecNumbers. -/
namespace Go.Proofs.YtpfnfhikhlceoaaGreatDoor
open Go.RowKit

theorem bs_inj {l r : List UInt8} : (bs l).toList = (bs r).toList ↔ l = r := by
  simp [ByteArray.toList_eq, bs]
set_option maxRecDepth 100000 in
theorem eql_dc (a b : Dc) (w : World) : (binOp .eql 25 (dcV a) (dcV b)).run Tryz.prog w = .ok (.bool (decide (a = b))) w := by
  obtain ⟨n, s, e⟩ := a
  obtain ⟨m, r, f⟩ := b
  unfold dcV
  go_simp
  simp only [bs_inj]
  by_cases h1 : n = m <;> by_cases h2 : s = r <;> by_cases h3 : e = f <;> simp [h1, h2, h3]
set_option maxRecDepth 100000 in
theorem neq_dc (a b : Dc) (w : World) : (binOp .neq 25 (dcV a) (dcV b)).run Tryz.prog w = .ok (.bool (!decide (a = b))) w := by
  obtain ⟨n, s, e⟩ := a
  obtain ⟨m, r, f⟩ := b
  unfold dcV
  go_simp
  simp only [bs_inj]
  by_cases h1 : n = m <;> by_cases h2 : s = r <;> by_cases h3 : e = f <;> simp [h1, h2, h3]

/-- all: of numbers that are all OK. -/
theorem lall_true (g n : Nat) (w : World) (hn : n ≤ 1000) (hc : ∀ i, i < n → w.cell? ⟨g, i, none⟩ = some (.int .i64 0)) :
    Calls Tryz.prog 34 #[.slice (some ⟨g, 0, none⟩) n n] w fun e w' => e = .returned (.bool true) ∧ Below w.heap.size w w' := by
  go_enter Tryz.func34, Tryz.ntmps34
  go_wp2
  go_loop [3] (fun v => ∃ i : Nat, i ≤ n ∧ v = .int .i64 i) (fun v => n - (intOf v).toNat)
  case atStart => exact ⟨0, by omega, rfl⟩
  case round =>
    obtain ⟨i, hi, rfl⟩ := hrel
    by_cases hin : i < n
    · have h1 := hc i hin
      go_wp2
      · go_round
        case rel => exact ⟨i + 1, by omega, rfl⟩
        case measure => show n - ((i : Int) + 1).toNat < n - (i : Int).toNat; omega
    · go_wp2
      go_ret
      exact ⟨rfl, Below.refl _ _⟩
end Go.Proofs.YtpfnfhikhlceoaaGreatDoor

/- A guarded operation of a region that draws its order, where the guard is met. Of no program. -/
namespace Go.Proofs.YtpfnfhikhlceoaaGreatDoor
open Go Go.RowKit

section
variable {P : Program} {ops : Array Oper} {Q : Exit → Act → World → Prop}
theorem flow_stepG {ds : List (Nat × Nat)} {al : List Nat} {S : Nat → Value → World → Prop} {t0 : Array Value} {df : List Deferred} {B : Nat} {w : World} {i : Nat} (o : Oper) (d0 j0 dj : Nat) (b0 : Bool) (ho : ops[i]? = some o) (hgd : o.guard = some (j0, b0)) (hoj : (ops[j0]?).bind (·.dst) = some dj) (hnj : (needs .any ops i).contains j0 = true)
    (hlk : ∀ xs : Nat → Value, look ds xs t0 dj = xs j0) (hSj : ∀ v W, S j0 v W → v = .bool b0) (hd : ∀ d, (d, i) ∈ ds → d = d0) (h1 : once ds = true) (h2 : within ds t0.size = true)
    (h : ∀ (a : Act) xs W, (∀ d, a.eval (.tmp d) = look ds xs t0 d) → Below B w W → (∀ j, (needs .any ops i).contains j = true → S j (xs j) W) → ∀ K : Act → World → Prop,
      (∀ v W', S i v W' → Below W.heap.size W W' → (i ∈ al → v = .pointer (some ⟨W.heap.size, 0, none⟩)) → K (a.put (some d0) v) W') → Oper.wp P o a W K Q) : FlowAt P ops Q ds al S t0 df B w i := by
  intro xs W hb hS K d hd1 hK
  have := hd d hd1
  subst this
  refine ⟨o, ho, ?_⟩
  have hv := hSj _ _ (hS j0 hnj)
  have hl := layAll_look xs dj ds t0 h1 h2
  rw [hlk, hv] at hl
  have hget : (layAll ds xs t0)[dj]? = some (.bool b0) := by
    rw [Array.getD_eq_getD_getElem?] at hl
    cases hc : (layAll ds xs t0)[dj]? with
    | none => rw [hc] at hl; cases hl
    | some v => rw [hc] at hl; exact congrArg some hl
  have hw : Region.wanted o (yielded ops (layAll ds xs t0)) = true := by
    unfold Region.wanted
    rw [hgd]
    show (yielded ops (layAll ds xs t0) j0 == some b0) = true
    unfold yielded
    rw [hoj]
    show ((match (layAll ds xs t0)[dj]? with | some (.bool b) => some b | _ => none) == some b0) = true
    rw [hget]
    exact beq_self_eq_true _
  rw [if_pos hw]
  exact h ⟨layAll ds xs t0, df⟩ xs W (fun d => layAll_look xs d ds t0 h1 h2) hb hS K hK
end
end Go.Proofs.YtpfnfhikhlceoaaGreatDoor

/- The law DecNumbers: by the contracts. -/
namespace Go.Proofs.YtpfnfhikhlceoaaGreatDoor
open Go.RowKit
theorem dc_ext {a b : Dc} (h1 : a.neg = b.neg) (h2 : (bs a.s).toList = (bs b.s).toList) (h3 : a.e = b.e) : a = b := by
  obtain ⟨_, _, _⟩ := a
  obtain ⟨_, _, _⟩ := b
  cases h1; cases h3; cases bs_inj.1 h2; rfl
theorem neg_val {b : Nat} (h : finB b = true) : (negB b && !zeroB b) = decide (valB b < 0) := by
  rw [(fin_not b h).2, show valB b = sg (sgnB b) (rv 52 (absB b)) from rfl]
  have hz : rv 52 (absB b) = 0 ↔ zeroB b = true := by
    unfold zeroB; constructor
    · intro e; have := rv_inj (p := 52) (e.trans (rv_zero 52).symm); simpa using this
    · intro e; rw [show absB b = 0 by simpa using e]; exact rv_zero 52
  rw [Bool.eq_iff_iff]; simp only [Bool.and_eq_true, Bool.not_eq_true', decide_eq_true_eq, sg_lt, ne_eq, hz]; simp
set_option maxRecDepth 100000 in
theorem eql_same (a : Dc) (w : World) : (binOp .eql 25 (dcV a) (dcV a)).run Tryz.prog w = .ok (.bool true) w := by
  rw [eql_dc, decide_eq_true rfl]
set_option maxRecDepth 100000 in
theorem eql_guard (a : Dc) (x y : Operand) (w : World) : (eqGuard .eql 25 x y (dcV a) (dcV a)).run Tryz.prog w = .ok () w := by
  unfold dcV
  go_simp
set_option maxHeartbeats 4000000 in
set_option maxRecDepth 100000 in
theorem decNumbers_walk (p q : Nat) (n m : Int) (w : World) (hp : W64 p) (hq : W64 q) (hn0 : -2147483648 ≤ n) (hn1 : n ≤ 2147483647) (hm0 : -2147483648 ≤ m) (hm1 : m ≤ 2147483647) (htab : Tab w) :
    Calls Tryz.prog 9 #[.int .u64 p, .int .u64 q, .int .i32 n, .int .i32 m] w fun e w' => e = .returned (.bool true) ∧ Below w.heap.size w w' := by
  obtain ⟨A, hA⟩ : ∃ A, A = ofD p := ⟨_, rfl⟩
  obtain ⟨B, hB⟩ : ∃ B, B = ofD q := ⟨_, rfl⟩
  obtain ⟨X, hX⟩ : ∃ X, X = ofX p := ⟨_, rfl⟩
  obtain ⟨Y, hY⟩ : ∃ Y, Y = ofX q := ⟨_, rfl⟩
  have HO1 : Hid (∀ W, Below w.heap.size w W → Calls Tryz.prog 15 #[.float .f64 p] W fun e w' => e = .returned (.tuple #[.agg #[.bool A.neg, .string (bs A.s), .int .i64 A.e], .int .i64 X]) ∧ Below W.heap.size W w') := fun W hW => by
    subst hA hX; exact of_v p hp W (htab.below hW)
  have HO2 : Hid (∀ W, Below w.heap.size w W → Calls Tryz.prog 15 #[.float .f64 q] W fun e w' => e = .returned (.tuple #[.agg #[.bool B.neg, .string (bs B.s), .int .i64 B.e], .int .i64 Y]) ∧ Below W.heap.size W w') := fun W hW => by
    subst hB hY; exact of_v q hq W (htab.below hW)
  have EA : Hid (A = ofD p) := hA
  have EB : Hid (B = ofD q) := hB
  have EX : Hid (X = ofX p) := hX
  have EY : Hid (Y = ofX q) := hY
  have HT : Hid (Tab w) := htab
  clear hA hB hX hY htab
  go_enter Tryz.func9, Tryz.ntmps9
  go_wp2_with fail
  refine (HO1.out _ (Below.refl _ _)).mono ?_
  rintro e w1 ⟨rfl, hb1⟩
  have HB1 : Hid (Below w.heap.size w (w1.alloc (.cells #[.bool A.neg, .string (bs A.s), .int .i64 A.e] 25))) := hb1.alloc hb1.size _
  have HR1 : Hid _ := new_blk w1 (.cells #[.bool A.neg, .string (bs A.s), .int .i64 A.e] 25)
  clear hb1
  go_wp2_with fail
  refine (HO2.out _ HB1.out).mono ?_
  rintro e w2 ⟨rfl, hb2⟩
  have HB2 : Hid (Below w.heap.size w (w2.alloc (.cells #[.bool B.neg, .string (bs B.s), .int .i64 B.e] 25))) := (HB1.out.thru hb2).alloc (HB1.out.thru hb2).size _
  have HR2 : Hid _ := new_blk w2 (.cells #[.bool B.neg, .string (bs B.s), .int .i64 B.e] 25)
  have HR1' : Hid _ := ((Below.refl w2.heap.size w2).alloc (Nat.le_refl _) (.cells #[.bool B.neg, .string (bs B.s), .int .i64 B.e] 25)).blk (hb2.blk HR1.out (blk_lt HR1.out)) (by have := blk_lt HR1.out; have := hb2.size; omega)
  clear hb2 HR1
  go_upto_region 5 with fail
  obtain ⟨W2, hW2⟩ : ∃ W2, W2 = w2.alloc (.cells #[.bool B.neg, .string (bs B.s), .int .i64 B.e] 25) := ⟨_, rfl⟩
  obtain ⟨fl, hfl⟩ : ∃ fl, fl = (X == 0 && Y == 0) := ⟨_, rfl⟩
  rw [← hW2] at HB2 HR2 HR1' ⊢
  have HF : Hid (fl = (X == 0 && Y == 0)) := hfl
  clear hW2 hfl
  go_cut [2, 3, 9, 10, 11, 12, 13, 14, 43] (fun a b c d e f g h i wx => a = .int .i32 n ∧ b = .int .i32 m ∧ c = .float .f64 p ∧ d = .float .f64 q ∧ e = .pointer (some ⟨w1.heap.size, 0, none⟩) ∧ f = .int .i64 X ∧ g = .pointer (some ⟨w2.heap.size, 0, none⟩) ∧ h = .int .i64 Y ∧ i = .bool fl ∧ wx = W2)
  case first => as_aux_lemma =>
    by_cases hX0 : X = 0
    · have fX : (X == 0) = true := by simpa using hX0
      go_wp2_with fail
      all_goals (go_meet; rw [HF.out, fX, Bool.true_and]; exact ⟨rfl, rfl, rfl, rfl, rfl, rfl, rfl, rfl, rfl, rfl⟩)
    · have fX : (X == 0) = false := by simpa using hX0
      go_wp2_with fail
      all_goals (go_meet; rw [HF.out, fX, Bool.false_and]; exact ⟨rfl, rfl, rfl, rfl, rfl, rfl, rfl, rfl, rfl, rfl⟩)
  case rest =>
  obtain ⟨rfl, rfl, rfl, rfl, rfl, rfl, rfl, rfl, rfl, rfl⟩ := hcut
  go_upto_if 43 with fail
  go_cut [2, 3] (fun a b wx => a = .int .i32 n ∧ b = .int .i32 m ∧ Below w.heap.size w wx)
  case first => as_aux_lemma =>
    clear HO1 HO2 HT
    by_cases hXY : X = 0 ∧ Y = 0
    · obtain ⟨rfl, rfl⟩ := hXY
      obtain rfl : fl = true := by rw [HF.out]; rfl
      obtain ⟨hc, heq, hng⟩ := of_cmp EX.out.symm EY.out.symm
      obtain ⟨hr1, f1⟩ := of_rep EX.out.symm
      obtain ⟨hr2, f2⟩ := of_rep EY.out.symm
      rw [← EA.out] at hc heq hng hr1
      rw [← EB.out] at hc heq hr2
      have nA := ok_len hr1.ok
      have nB := ok_len hr2.ok
      have hord : FloatKind.f64.format.order p q = some (compare (valB p) (valB q)) := ord_D p q hp hq (by have := (fin_not p f1).1; revert this; cases nanB p <;> simp) (by have := (fin_not q f2).1; revert this; cases nanB q <;> simp)
      have HC : Hid (∀ W, Calls Tryz.prog 31 #[.agg #[.bool A.neg, .string (bs A.s), .int .i64 A.e], .agg #[.bool B.neg, .string (bs B.s), .int .i64 B.e]] W fun en w' => en = .returned (.tuple #[.int .i64 (if valB p = valB q then 0 else if valB p < valB q then -1 else 1), .int .i64 0]) ∧ Below W.heap.size W w') := fun W => by
        have := cmp_v A B W (by omega) (by omega)
        rw [okB_ok hr1.ok, okB_ok hr2.ok, hc] at this
        exact this
      have HN : Hid (A.neg = (negB p && !zeroB p)) := by
        show A.neg = (negB p && !zeroB p)
        rw [hng, neg_val f1]
      have HE : Hid (A = B ↔ valB p = valB q) := heq
      have a0 := cell_of_row _ _ 0 _ _ _ HR1'.out
      have a1 := cell_of_row _ _ 1 _ _ _ HR1'.out
      have a2 := cell_of_row _ _ 2 _ _ _ HR1'.out
      have b0 := cell_of_row _ _ 0 _ _ _ HR2.out
      have b1 := cell_of_row _ _ 1 _ _ _ HR2.out
      have b2 := cell_of_row _ _ 2 _ _ _ HR2.out
      clear hc heq hng hr1 hr2 EX EY EA EB HF
      rcases Int.lt_trichotomy (valB p) (valB q) with h | h | h
      · rw [if_neg (by omega), if_pos h] at HC
        rw [show compare (valB p) (valB q) = .lt from Int.compare_eq_lt.2 h] at hord
        have o1 : (FloatKind.f64.format.order p q == some Ordering.lt) = true := by rw [hord]; rfl
        have o2 : (FloatKind.f64.format.order p q == some Ordering.gt) = false := by rw [hord]; rfl
        have o3 : (FloatKind.f64.format.order p q == some Ordering.eq) = false := by rw [hord]; rfl
        clear hord
        go_wp2_with fail
        refine (HC.out _).mono ?_
        rintro e w3 ⟨rfl, hb3⟩
        have HB3 : Hid (Below w.heap.size w w3) := HB2.out.thru hb3
        have HS1 : Hid _ := hb3.blk HR1'.out (blk_lt HR1'.out)
        have HS2 : Hid _ := hb3.blk HR2.out (blk_lt HR2.out)
        clear hb3 a0 a1 a2 b0 b1 b2
        have a0 := cell_of_row _ _ 0 _ _ _ HS1.out
        have a1 := cell_of_row _ _ 1 _ _ _ HS1.out
        have a2 := cell_of_row _ _ 2 _ _ _ HS1.out
        have b0 := cell_of_row _ _ 0 _ _ _ HS2.out
        have b1 := cell_of_row _ _ 1 _ _ _ HS2.out
        have b2 := cell_of_row _ _ 2 _ _ _ HS2.out
        have fN : (negB p && !zeroB p) = A.neg := HN.out.symm
        go_wp2_with fail
        all_goals first
          | exact absurd (HE.out.1 (dc_ext (by assumption) (by assumption) (by assumption))) (by omega)
          | (go_meet; exact ⟨rfl, rfl, HB3.out⟩)
      · rw [if_pos h] at HC
        rw [show compare (valB p) (valB q) = .eq from Int.compare_eq_eq.2 h] at hord
        have o1 : (FloatKind.f64.format.order p q == some Ordering.lt) = false := by rw [hord]; rfl
        have o2 : (FloatKind.f64.format.order p q == some Ordering.gt) = false := by rw [hord]; rfl
        have o3 : (FloatKind.f64.format.order p q == some Ordering.eq) = true := by rw [hord]; rfl
        obtain rfl : A = B := HE.out.2 h
        clear hord
        go_wp2_with fail
        refine (HC.out _).mono ?_
        rintro e w3 ⟨rfl, hb3⟩
        have HB3 : Hid (Below w.heap.size w w3) := HB2.out.thru hb3
        have HS1 : Hid _ := hb3.blk HR1'.out (blk_lt HR1'.out)
        have HS2 : Hid _ := hb3.blk HR2.out (blk_lt HR2.out)
        clear hb3 a0 a1 a2 b0 b1 b2
        have a0 := cell_of_row _ _ 0 _ _ _ HS1.out
        have a1 := cell_of_row _ _ 1 _ _ _ HS1.out
        have a2 := cell_of_row _ _ 2 _ _ _ HS1.out
        have b0 := cell_of_row _ _ 0 _ _ _ HS2.out
        have b1 := cell_of_row _ _ 1 _ _ _ HS2.out
        have b2 := cell_of_row _ _ 2 _ _ _ HS2.out
        have fN : (negB p && !zeroB p) = A.neg := HN.out.symm
        go_wp2_with fail
        all_goals first
          | exact absurd (HE.out.1 (dc_ext (by assumption) (by assumption) (by assumption))) (by omega)
          | (go_meet; exact ⟨rfl, rfl, HB3.out⟩)
      · rw [if_neg (by omega), if_neg (by omega)] at HC
        rw [show compare (valB p) (valB q) = .gt from Int.compare_eq_gt.2 h] at hord
        have o1 : (FloatKind.f64.format.order p q == some Ordering.lt) = false := by rw [hord]; rfl
        have o2 : (FloatKind.f64.format.order p q == some Ordering.gt) = true := by rw [hord]; rfl
        have o3 : (FloatKind.f64.format.order p q == some Ordering.eq) = false := by rw [hord]; rfl
        clear hord
        go_wp2_with fail
        refine (HC.out _).mono ?_
        rintro e w3 ⟨rfl, hb3⟩
        have HB3 : Hid (Below w.heap.size w w3) := HB2.out.thru hb3
        have HS1 : Hid _ := hb3.blk HR1'.out (blk_lt HR1'.out)
        have HS2 : Hid _ := hb3.blk HR2.out (blk_lt HR2.out)
        clear hb3 a0 a1 a2 b0 b1 b2
        have a0 := cell_of_row _ _ 0 _ _ _ HS1.out
        have a1 := cell_of_row _ _ 1 _ _ _ HS1.out
        have a2 := cell_of_row _ _ 2 _ _ _ HS1.out
        have b0 := cell_of_row _ _ 0 _ _ _ HS2.out
        have b1 := cell_of_row _ _ 1 _ _ _ HS2.out
        have b2 := cell_of_row _ _ 2 _ _ _ HS2.out
        have fN : (negB p && !zeroB p) = A.neg := HN.out.symm
        go_wp2_with fail
        all_goals first
          | exact absurd (HE.out.1 (dc_ext (by assumption) (by assumption) (by assumption))) (by omega)
          | (go_meet; exact ⟨rfl, rfl, HB3.out⟩)
    · obtain rfl : fl = false := by
        rw [HF.out]
        rcases Decidable.not_and_iff_or_not.1 hXY with h | h <;> simp [h]
      go_wp2_with fail
      all_goals (go_meet; exact ⟨rfl, rfl, HB2.out⟩)
  case rest =>
  obtain ⟨rfl, rfl, hb⟩ := hcut
  have HB0 : Hid (Below w.heap.size w wc) := hb
  clear hb HO1 HO2 HR1' HR2 HB1 HB2 HF EA EB EX EY
  obtain ⟨fb, hfb0, wfb, ffb, vfb⟩ := float_int n (by omega)
  have hfb : floatOfInt .f64 n = fb := by unfold floatOfInt; exact hfb0
  clear hfb0
  obtain ⟨d1, d2⟩ := float_int_of n (by omega) ffb vfb
  obtain ⟨q1, q2⟩ := int_sum (n := n) (m := m) (by omega) (by omega)
  obtain ⟨q3, q4⟩ := int_prod (n := n) (m := m) (by omega) (by omega)
  have hnm : (n * m).natAbs ≤ 4611686018427387904 := by
    rw [Int.natAbs_mul]
    exact Nat.le_trans (Nat.mul_le_mul (show n.natAbs ≤ 2147483648 by omega) (show m.natAbs ≤ 2147483648 by omega)) (by decide)
  have on := (int_room (n := n) (by omega)).ok
  have om := (int_room (n := m) (by omega)).ok
  have ln := ok_len on
  have lm := ok_len om
  obtain ⟨N1, hN1⟩ : ∃ N1, N1 = mkD n 0 := ⟨_, rfl⟩
  obtain ⟨M1, hM1⟩ : ∃ M1, M1 = mkD m 0 := ⟨_, rfl⟩
  obtain ⟨S, hSS⟩ : ∃ S, S = mkD (n + m) 0 := ⟨_, rfl⟩
  obtain ⟨T, hTT⟩ : ∃ T, T = mkD (n * m) 0 := ⟨_, rfl⟩
  have HIN : Hid (∀ W, Below w.heap.size w W → Calls Tryz.prog 29 #[.int .i64 n] W fun e w' => e = .returned (dcV N1) ∧ Below W.heap.size W w') := fun W hW => by
    rw [hN1]; exact int_v n W (by omega) (by omega) (HT.out.below hW)
  have HIM : Hid (∀ W, Below w.heap.size w W → Calls Tryz.prog 29 #[.int .i64 m] W fun e w' => e = .returned (dcV M1) ∧ Below W.heap.size W w') := fun W hW => by
    rw [hM1]; exact int_v m W (by omega) (by omega) (HT.out.below hW)
  have HIS : Hid (∀ W, Below w.heap.size w W → Calls Tryz.prog 29 #[.int .i64 (n + m)] W fun e w' => e = .returned (dcV S) ∧ Below W.heap.size W w') := fun W hW => by
    rw [hSS]; exact int_v (n + m) W (by omega) (by omega) (HT.out.below hW)
  have HIT : Hid (∀ W, Below w.heap.size w W → Calls Tryz.prog 29 #[.int .i64 (n * m)] W fun e w' => e = .returned (dcV T) ∧ Below W.heap.size W w') := fun W hW => by
    rw [hTT]; exact int_v (n * m) W (by omega) (by omega) (HT.out.below hW)
  have HAD : Hid (∀ W, Below w.heap.size w W → Calls Tryz.prog 32 #[dcV N1, dcV M1] W fun e w' => e = .returned (.tuple #[.agg #[.bool S.neg, .string (bs S.s), .int .i64 S.e], .int .i64 0]) ∧ Below W.heap.size W w') := fun W hW => by
    have := add_v N1 M1 W (by rw [hN1]; omega) (by rw [hM1]; omega) (HT.out.below hW)
    rw [hN1, hM1, okB_ok on, okB_ok om, q1, q2, ← hN1, ← hM1, ← hSS] at this
    exact this
  have HMU : Hid (∀ W, Below w.heap.size w W → Calls Tryz.prog 33 #[dcV N1, dcV M1] W fun e w' => e = .returned (.tuple #[.agg #[.bool T.neg, .string (bs T.s), .int .i64 T.e], .int .i64 0]) ∧ Below W.heap.size W w') := fun W hW => by
    have := mul_v N1 M1 W (by rw [hN1]; omega) (by rw [hM1]; omega) (HT.out.below hW)
    rw [hN1, hM1, okB_ok on, okB_ok om, q3, q4, ← hN1, ← hM1, ← hTT] at this
    exact this
  have HOF : Hid (∀ W, Below w.heap.size w W → Calls Tryz.prog 15 #[.float .f64 fb] W fun e w' => e = .returned (.tuple #[.agg #[.bool N1.neg, .string (bs N1.s), .int .i64 N1.e], .int .i64 0]) ∧ Below W.heap.size W w') := fun W hW => by
    have := of_v fb wfb W (HT.out.below hW)
    rw [d1, d2, ← hN1] at this
    exact this
  have HK : Hid (∀ W, Below w.heap.size w W → Calls Tryz.prog 14 #[] W fun e w' => e = .returned (.bool true) ∧ Below W.heap.size W w') := fun W hW => known_any W (HT.out.below hW)
  have FN : Hid (IntKind.i64.wrap n = n) := IntWalk.i64_in _ (by omega)
  have FM : Hid (IntKind.i64.wrap m = m) := IntWalk.i64_in _ (by omega)
  have FS : Hid (IntKind.i64.wrap (n + m) = n + m) := IntWalk.i64_in _ (by omega)
  have FT : Hid (IntKind.i64.wrap (n * m) = n * m) := IntWalk.i64_in _ (by omega)
  clear hN1 hM1 hSS hTT on om ln lm q1 q2 q3 q4 d1 d2 vfb ffb wfb hnm HT
  have k1 := FN.out
  have k2 := FM.out
  go_wp2_with fail
  refine (HIN.out _ HB0.out).mono ?_
  rintro e v1 ⟨rfl, hb1⟩
  have HB1 : Hid (Below w.heap.size w v1) := HB0.out.thru hb1
  clear hb1
  go_wp2_with fail
  refine (HIM.out _ HB1.out).mono ?_
  rintro e v2 ⟨rfl, hb2⟩
  have HB2 : Hid (Below w.heap.size w v2) := HB1.out.thru hb2
  clear hb2
  go_wp2_with fail
  refine (HAD.out _ HB2.out).mono ?_
  rintro e v3 ⟨rfl, hb3⟩
  have HB3 : Hid (Below w.heap.size w (v3.alloc (.cells #[.bool S.neg, .string (bs S.s), .int .i64 S.e] 25))) := (HB2.out.thru hb3).alloc (HB2.out.thru hb3).size _
  have HR1 : Hid _ := new_blk v3 (.cells #[.bool S.neg, .string (bs S.s), .int .i64 S.e] 25)
  clear hb3
  go_wp2_with fail
  refine (HIN.out _ HB3.out).mono ?_
  rintro e v4 ⟨rfl, hb4⟩
  have HB4 : Hid (Below w.heap.size w v4) := HB3.out.thru hb4
  have HR1a : Hid _ := hb4.blk HR1.out (blk_lt HR1.out)
  clear hb4
  go_wp2_with fail
  refine (HIM.out _ HB4.out).mono ?_
  rintro e v5 ⟨rfl, hb5⟩
  have HB5 : Hid (Below w.heap.size w v5) := HB4.out.thru hb5
  have HR1b : Hid _ := hb5.blk HR1a.out (blk_lt HR1a.out)
  clear hb5
  go_wp2_with fail
  refine (HMU.out _ HB5.out).mono ?_
  rintro e v6 ⟨rfl, hb6⟩
  have HB6 : Hid (Below w.heap.size w (v6.alloc (.cells #[.bool T.neg, .string (bs T.s), .int .i64 T.e] 25))) := (HB5.out.thru hb6).alloc (HB5.out.thru hb6).size _
  have HR2 : Hid _ := new_blk v6 (.cells #[.bool T.neg, .string (bs T.s), .int .i64 T.e] 25)
  have HR1c : Hid _ := ((Below.refl v6.heap.size v6).alloc (Nat.le_refl _) (.cells #[.bool T.neg, .string (bs T.s), .int .i64 T.e] 25)).blk (hb6.blk HR1b.out (blk_lt HR1b.out)) (by have := blk_lt HR1b.out; have := hb6.size; omega)
  clear hb6
  go_wp2_with fail
  refine (HOF.out _ HB6.out).mono ?_
  rintro e v7 ⟨rfl, hb7⟩
  have HB7 : Hid (Below w.heap.size w (v7.alloc (.cells #[.bool N1.neg, .string (bs N1.s), .int .i64 N1.e] 25))) := (HB6.out.thru hb7).alloc (HB6.out.thru hb7).size _
  have HR3 : Hid _ := new_blk v7 (.cells #[.bool N1.neg, .string (bs N1.s), .int .i64 N1.e] 25)
  have bz := (Below.refl v7.heap.size v7).alloc (Nat.le_refl _) (.cells #[.bool N1.neg, .string (bs N1.s), .int .i64 N1.e] 25)
  have HR1d : Hid _ := bz.blk (hb7.blk HR1c.out (blk_lt HR1c.out)) (by have := blk_lt HR1c.out; have := hb7.size; omega)
  have HR2d : Hid _ := bz.blk (hb7.blk HR2.out (blk_lt HR2.out)) (by have := blk_lt HR2.out; have := hb7.size; omega)
  clear hb7 bz HR1 HR1a HR1b HR1c HR2 HB0 HB1 HB2 HB3 HB4 HB5 HB6 k1 k2
  go_upto_region 17 with fail
  obtain ⟨w9, hw9⟩ : ∃ w9, w9 = v7.alloc (.cells #[.bool N1.neg, .string (bs N1.s), .int .i64 N1.e] 25) := ⟨_, rfl⟩
  obtain ⟨g1, hg1⟩ : ∃ g, g = v3.heap.size := ⟨_, rfl⟩
  obtain ⟨g2, hg2⟩ : ∃ g, g = v6.heap.size := ⟨_, rfl⟩
  obtain ⟨g3, hg3⟩ : ∃ g, g = v7.heap.size := ⟨_, rfl⟩
  rw [← hw9] at HB7 HR1d HR2d HR3 ⊢
  rw [← hg1] at HR1d ⊢
  rw [← hg2] at HR2d ⊢
  rw [← hg3] at HR3 ⊢
  have HR1 := HR1d
  have HR2 := HR2d
  have HB9 := HB7
  clear HR1d HR2d HB7 hw9 hg1 hg2 hg3
  have h1 : once [(105, 0), (106, 1), (107, 2), (108, 3), (109, 4), (110, 5), (111, 6), (112, 7), (113, 8), (114, 9), (115, 10), (116, 11), (117, 12), (118, 13), (119, 14), (120, 15), (121, 16), (122, 17), (123, 18), (124, 19), (125, 20), (126, 21), (127, 22), (128, 23), (129, 24), (130, 25), (131, 26), (132, 27), (133, 28), (134, 29), (135, 30), (136, 31), (137, 32), (138, 33), (139, 34)] = true := by kernel_rfl
  have h2 : within [(105, 0), (106, 1), (107, 2), (108, 3), (109, 4), (110, 5), (111, 6), (112, 7), (113, 8), (114, 9), (115, 10), (116, 11), (117, 12), (118, 13), (119, 14), (120, 15), (121, 16), (122, 17), (123, 18), (124, 19), (125, 20), (126, 21), (127, 22), (128, 23), (129, 24), (130, 25), (131, 26), (132, 27), (133, 28), (134, 29), (135, 30), (136, 31), (137, 32), (138, 33), (139, 34)] 140 = true := by kernel_rfl
  refine wp_region_flow 35 36 [(105, 0), (106, 1), (107, 2), (108, 3), (109, 4), (110, 5), (111, 6), (112, 7), (113, 8), (114, 9), (115, 10), (116, 11), (117, 12), (118, 13), (119, 14), (120, 15), (121, 16), (122, 17), (123, 18), (124, 19), (125, 20), (126, 21), (127, 22), (128, 23), (129, 24), (130, 25), (131, 26), (132, 27), (133, 28), (134, 29), (135, 30), (136, 31), (137, 32), (138, 33), (139, 34)] [] (fun i v W => match i with
    | 0 => v = .int .i64 0
    | 1 => v = .int .i64 0
    | 2 => v = .int .i64 0
    | 3 => ∃ g, v = .slice (some ⟨g, 0, none⟩) 3 3 ∧ g < W.heap.size ∧ ∃ ty, W.heap[g]? = some (.cells #[.int .i64 0, .int .i64 0, .int .i64 0] ty (0, 0))
    | 4 => v = .bool true
    | 5 => v = .bool true
    | 6 => v = dcV S
    | 7 => v = .int .i32 n
    | 8 => v = .int .i64 n
    | 9 => v = .int .i32 m
    | 10 => v = .int .i64 m
    | 11 => v = .int .i64 (n + m)
    | 12 => v = dcV S
    | 13 => v = .bool true
    | 14 => v = .bool true
    | 15 => v = .bool true
    | 16 => v = dcV T
    | 17 => v = .int .i32 n
    | 18 => v = .int .i64 n
    | 19 => v = .int .i32 m
    | 20 => v = .int .i64 m
    | 21 => v = .int .i64 (n * m)
    | 22 => v = dcV T
    | 23 => v = .bool true
    | 24 => v = .bool true
    | 25 => v = .bool true
    | 26 => v = dcV N1
    | 27 => v = .int .i32 n
    | 28 => v = .int .i64 n
    | 29 => v = dcV N1
    | 30 => v = .bool true
    | 31 => v = .bool true
    | 32 => v = .bool true
    | 33 => v = .bool true
    | _ => v = .bool true) w9.heap.size (Nat.le_refl _) (by kernel_rfl) (by kernel_rfl) (by kernel_rfl) (by decide) (by kernel_rfl) h1 (by kernel_rfl) ?_ ?_ ?_ ?_
  · intro j v W W' h hb
    match j, h with
    | 0, h => exact h
    | 1, h => exact h
    | 2, h => exact h
    | 3, ⟨g, s1, s2, ty, s3⟩ => exact ⟨g, s1, Nat.lt_of_lt_of_le s2 hb.size, ty, hb.blk s3 s2⟩
    | 4, h => exact h
    | 5, h => exact h
    | 6, h => exact h
    | 7, h => exact h
    | 8, h => exact h
    | 9, h => exact h
    | 10, h => exact h
    | 11, h => exact h
    | 12, h => exact h
    | 13, h => exact h
    | 14, h => exact h
    | 15, h => exact h
    | 16, h => exact h
    | 17, h => exact h
    | 18, h => exact h
    | 19, h => exact h
    | 20, h => exact h
    | 21, h => exact h
    | 22, h => exact h
    | 23, h => exact h
    | 24, h => exact h
    | 25, h => exact h
    | 26, h => exact h
    | 27, h => exact h
    | 28, h => exact h
    | 29, h => exact h
    | 30, h => exact h
    | 31, h => exact h
    | 32, h => exact h
    | 33, h => exact h
    | _ + 34, h => exact h
  · exact fun j hj => by cases hj
  · refine ⟨⟨⟨⟨⟨⟨⟨⟨⟨⟨⟨⟨⟨⟨⟨⟨⟨⟨⟨⟨⟨⟨⟨⟨⟨⟨⟨⟨⟨⟨⟨⟨⟨⟨⟨trivial, ?_⟩, ?_⟩, ?_⟩, ?_⟩, ?_⟩, ?_⟩, ?_⟩, ?_⟩, ?_⟩, ?_⟩, ?_⟩, ?_⟩, ?_⟩, ?_⟩, ?_⟩, ?_⟩, ?_⟩, ?_⟩, ?_⟩, ?_⟩, ?_⟩, ?_⟩, ?_⟩, ?_⟩, ?_⟩, ?_⟩, ?_⟩, ?_⟩, ?_⟩, ?_⟩, ?_⟩, ?_⟩, ?_⟩, ?_⟩, ?_⟩
    · refine flow_step _ 105 rfl rfl (fun d h => by simpa using h) h1 h2 fun ac xs W he hb hS K hK => ?_
      exact op_move (.tmp 19) (.inl rfl) (hK _ _ (he 19) (Below.refl _ _) (fun h => absurd h (by decide)))
    · refine flow_step _ 106 rfl rfl (fun d h => by simpa using h) h1 h2 fun ac xs W he hb hS K hK => ?_
      exact op_move (.tmp 21) (.inl rfl) (hK _ _ (he 21) (Below.refl _ _) (fun h => absurd h (by decide)))
    · refine flow_step _ 107 rfl rfl (fun d h => by simpa using h) h1 h2 fun ac xs W he hb hS K hK => ?_
      exact op_move (.tmp 23) (.inl rfl) (hK _ _ (he 23) (Below.refl _ _) (fun h => absurd h (by decide)))
    · refine flow_step _ 108 rfl rfl (fun d h => by simpa using h) h1 h2 fun ac xs W he hb hS K hK => ?_
      have e0 : ac.eval (.tmp 105) = _ := (he 105).trans (hS 0 (by kernel_rfl))
      have e1 : ac.eval (.tmp 106) = _ := (he 106).trans (hS 1 (by kernel_rfl))
      have e2 : ac.eval (.tmp 107) = _ := (he 107).trans (hS 2 (by kernel_rfl))
      refine op_anyw (.buildSlice 93 3 #[(0, .tmp 105), (1, .tmp 106), (2, .tmp 107)]) rfl (.slice (some ⟨W.heap.size, 0, none⟩) 3 3) (W.alloc (.cells #[.int .i64 0, .int .i64 0, .int .i64 0] 26)) (fun o' ho' => ?_) (hK _ _ ⟨_, rfl, by simp, _, heap_alloc_new _ _⟩ ((Below.refl _ _).alloc (Nat.le_refl _) _) (fun h => absurd h (by decide)))
      have f0 : ac.tmps[105]?.getD undef = .int .i64 0 := by rw [← Array.getD_eq_getD_getElem?]; exact e0
      have f1 : ac.tmps[106]?.getD undef = .int .i64 0 := by rw [← Array.getD_eq_getD_getElem?]; exact e1
      have f2 : ac.tmps[107]?.getD undef = .int .i64 0 := by rw [← Array.getD_eq_getD_getElem?]; exact e2
      clear e0 e1 e2
      simp only [execOp, ho']
      go_simp
    · refine flow_step _ 109 rfl rfl (fun d h => by simpa using h) h1 h2 fun ac xs W he hb hS K hK => ?_
      obtain ⟨g, s1, s2, ty, s3⟩ := hS 3 (by kernel_rfl)
      have e0 : ac.eval (.tmp 108) = _ := (he 108).trans s1
      refine op_call 34 _ _ rfl _ (by simp only [List.map, e0]) (by go_simp) (lall_true g 3 W (by decide) (fun i hi => ?_)) ?_
      · have k0 := cell_of_row W g 0 _ _ _ s3
        have k1 := cell_of_row W g 1 _ _ _ s3
        have k2 := cell_of_row W g 2 _ _ _ s3
        rcases i with _ | _ | _ | i
        · exact k0
        · exact k1
        · exact k2
        · omega
      · rintro e' W' ⟨rfl, hb'⟩
        exact ⟨_, rfl, hK _ _ rfl hb' (fun h => absurd h (by decide))⟩
    · refine flow_step _ 110 rfl rfl (fun d h => by simpa using h) h1 h2 fun ac xs W he hb hS K hK => ?_
      exact op_move (.tmp 109) (.inl rfl) (hK _ _ ((he 109).trans (hS 4 (by kernel_rfl))) (Below.refl _ _) (fun h => absurd h (by decide)))
    · refine flow_stepG _ 111 5 110 true rfl rfl rfl (by kernel_rfl) (fun _ => rfl) (fun v W h => h) (fun d h => by simpa using h) h1 h2 fun ac xs W he hb hS K hK => ?_
      exact wp_load_row 25 (.tmp 18) rfl g1 (he 18) _ _ _ _ (hb.blk HR1.out (blk_lt HR1.out)) Tryz.underlying25 rfl (by kernel_rfl) (hK _ _ rfl (Below.refl _ _) (fun h => absurd h (by decide)))
    · refine flow_stepG _ 112 5 110 true rfl rfl rfl (by kernel_rfl) (fun _ => rfl) (fun v W h => h) (fun d h => by simpa using h) h1 h2 fun ac xs W he hb hS K hK => ?_
      exact op_move (.tmp 2) (.inl rfl) (hK _ _ (he 2) (Below.refl _ _) (fun h => absurd h (by decide)))
    · refine flow_stepG _ 113 5 110 true rfl rfl rfl (by kernel_rfl) (fun _ => rfl) (fun v W h => h) (fun d h => by simpa using h) h1 h2 fun ac xs W he hb hS K hK => ?_
      have k0 : IntKind.i64.wrap n = n := FN.out
      have e0 : ac.eval (.tmp 112) = _ := (he 112).trans (hS 7 (by kernel_rfl))
      refine op_any (.convert 21 2 (.tmp 112)) rfl (.int .i64 n) (fun o' ho' => ?_) (hK _ _ rfl (Below.refl _ _) (fun h => absurd h (by decide)))
      simp only [execOp, ho', e0]
      go_simp
    · refine flow_stepG _ 114 5 110 true rfl rfl rfl (by kernel_rfl) (fun _ => rfl) (fun v W h => h) (fun d h => by simpa using h) h1 h2 fun ac xs W he hb hS K hK => ?_
      exact op_move (.tmp 3) (.inl rfl) (hK _ _ (he 3) (Below.refl _ _) (fun h => absurd h (by decide)))
    · refine flow_stepG _ 115 5 110 true rfl rfl rfl (by kernel_rfl) (fun _ => rfl) (fun v W h => h) (fun d h => by simpa using h) h1 h2 fun ac xs W he hb hS K hK => ?_
      have k0 : IntKind.i64.wrap m = m := FM.out
      have e0 : ac.eval (.tmp 114) = _ := (he 114).trans (hS 9 (by kernel_rfl))
      refine op_any (.convert 21 2 (.tmp 114)) rfl (.int .i64 m) (fun o' ho' => ?_) (hK _ _ rfl (Below.refl _ _) (fun h => absurd h (by decide)))
      simp only [execOp, ho', e0]
      go_simp
    · refine flow_stepG _ 116 5 110 true rfl rfl rfl (by kernel_rfl) (fun _ => rfl) (fun v W h => h) (fun d h => by simpa using h) h1 h2 fun ac xs W he hb hS K hK => ?_
      have k0 : IntKind.i64.wrap (n + m) = n + m := FS.out
      have e0 : ac.eval (.tmp 113) = _ := (he 113).trans (hS 8 (by kernel_rfl))
      have e1 : ac.eval (.tmp 115) = _ := (he 115).trans (hS 10 (by kernel_rfl))
      refine op_any (.binOp .add 2 (.tmp 113) (.tmp 115) 2) rfl (.int .i64 (n + m)) (fun o' ho' => ?_) (hK _ _ rfl (Below.refl _ _) (fun h => absurd h (by decide)))
      simp only [execOp, ho', e0, e1]
      go_simp
    · refine flow_stepG _ 117 5 110 true rfl rfl rfl (by kernel_rfl) (fun _ => rfl) (fun v W h => h) (fun d h => by simpa using h) h1 h2 fun ac xs W he hb hS K hK => ?_
      have e0 : ac.eval (.tmp 116) = _ := (he 116).trans (hS 11 (by kernel_rfl))
      refine op_call 29 _ _ rfl _ (by simp only [List.map, e0]) (by go_simp) (HIS.out W (HB9.out.thru hb)) ?_
      rintro e' W' ⟨rfl, hb'⟩
      exact ⟨_, rfl, hK _ _ (rfl) hb' (fun h => absurd h (by decide))⟩
    · refine flow_stepG _ 118 5 110 true rfl rfl rfl (by kernel_rfl) (fun _ => rfl) (fun v W h => h) (fun d h => by simpa using h) h1 h2 fun ac xs W he hb hS K hK => ?_
      have k0 := eql_same S W
      have k1 := fun x y => eql_guard S x y W
      have e0 : ac.eval (.tmp 111) = _ := (he 111).trans (hS 6 (by kernel_rfl))
      have e1 : ac.eval (.tmp 117) = _ := (he 117).trans (hS 12 (by kernel_rfl))
      refine op_any (.binOp .eql 25 (.tmp 111) (.tmp 117) 25) rfl (.bool true) (fun o' ho' => ?_) (hK _ _ rfl (Below.refl _ _) (fun h => absurd h (by decide)))
      simp only [execOp, ho', e0, e1]
      go_simp
    · refine flow_step _ 119 rfl rfl (fun d h => by simpa using h) h1 h2 fun ac xs W he hb hS K hK => ?_
      have e0 : ac.eval (.tmp 110) = _ := (he 110).trans (hS 5 (by kernel_rfl))
      have e1 : ac.eval (.tmp 118) = _ := (he 118).trans (hS 13 (by kernel_rfl))
      refine op_any (.pick (.tmp 110) (.tmp 118) (.const (.bool false))) rfl (.bool true) (fun o' ho' => ?_) (hK _ _ rfl (Below.refl _ _) (fun h => absurd h (by decide)))
      simp only [execOp, ho', e0, e1]
      go_simp
    · refine flow_step _ 120 rfl rfl (fun d h => by simpa using h) h1 h2 fun ac xs W he hb hS K hK => ?_
      exact op_move (.tmp 119) (.inl rfl) (hK _ _ ((he 119).trans (hS 14 (by kernel_rfl))) (Below.refl _ _) (fun h => absurd h (by decide)))
    · refine flow_stepG _ 121 15 120 true rfl rfl rfl (by kernel_rfl) (fun _ => rfl) (fun v W h => h) (fun d h => by simpa using h) h1 h2 fun ac xs W he hb hS K hK => ?_
      exact wp_load_row 25 (.tmp 20) rfl g2 (he 20) _ _ _ _ (hb.blk HR2.out (blk_lt HR2.out)) Tryz.underlying25 rfl (by kernel_rfl) (hK _ _ rfl (Below.refl _ _) (fun h => absurd h (by decide)))
    · refine flow_stepG _ 122 15 120 true rfl rfl rfl (by kernel_rfl) (fun _ => rfl) (fun v W h => h) (fun d h => by simpa using h) h1 h2 fun ac xs W he hb hS K hK => ?_
      exact op_move (.tmp 2) (.inl rfl) (hK _ _ (he 2) (Below.refl _ _) (fun h => absurd h (by decide)))
    · refine flow_stepG _ 123 15 120 true rfl rfl rfl (by kernel_rfl) (fun _ => rfl) (fun v W h => h) (fun d h => by simpa using h) h1 h2 fun ac xs W he hb hS K hK => ?_
      have k0 : IntKind.i64.wrap n = n := FN.out
      have e0 : ac.eval (.tmp 122) = _ := (he 122).trans (hS 17 (by kernel_rfl))
      refine op_any (.convert 21 2 (.tmp 122)) rfl (.int .i64 n) (fun o' ho' => ?_) (hK _ _ rfl (Below.refl _ _) (fun h => absurd h (by decide)))
      simp only [execOp, ho', e0]
      go_simp
    · refine flow_stepG _ 124 15 120 true rfl rfl rfl (by kernel_rfl) (fun _ => rfl) (fun v W h => h) (fun d h => by simpa using h) h1 h2 fun ac xs W he hb hS K hK => ?_
      exact op_move (.tmp 3) (.inl rfl) (hK _ _ (he 3) (Below.refl _ _) (fun h => absurd h (by decide)))
    · refine flow_stepG _ 125 15 120 true rfl rfl rfl (by kernel_rfl) (fun _ => rfl) (fun v W h => h) (fun d h => by simpa using h) h1 h2 fun ac xs W he hb hS K hK => ?_
      have k0 : IntKind.i64.wrap m = m := FM.out
      have e0 : ac.eval (.tmp 124) = _ := (he 124).trans (hS 19 (by kernel_rfl))
      refine op_any (.convert 21 2 (.tmp 124)) rfl (.int .i64 m) (fun o' ho' => ?_) (hK _ _ rfl (Below.refl _ _) (fun h => absurd h (by decide)))
      simp only [execOp, ho', e0]
      go_simp
    · refine flow_stepG _ 126 15 120 true rfl rfl rfl (by kernel_rfl) (fun _ => rfl) (fun v W h => h) (fun d h => by simpa using h) h1 h2 fun ac xs W he hb hS K hK => ?_
      have k0 : IntKind.i64.wrap (n * m) = n * m := FT.out
      have e0 : ac.eval (.tmp 123) = _ := (he 123).trans (hS 18 (by kernel_rfl))
      have e1 : ac.eval (.tmp 125) = _ := (he 125).trans (hS 20 (by kernel_rfl))
      refine op_any (.binOp .mul 2 (.tmp 123) (.tmp 125) 2) rfl (.int .i64 (n * m)) (fun o' ho' => ?_) (hK _ _ rfl (Below.refl _ _) (fun h => absurd h (by decide)))
      simp only [execOp, ho', e0, e1]
      go_simp
    · refine flow_stepG _ 127 15 120 true rfl rfl rfl (by kernel_rfl) (fun _ => rfl) (fun v W h => h) (fun d h => by simpa using h) h1 h2 fun ac xs W he hb hS K hK => ?_
      have e0 : ac.eval (.tmp 126) = _ := (he 126).trans (hS 21 (by kernel_rfl))
      refine op_call 29 _ _ rfl _ (by simp only [List.map, e0]) (by go_simp) (HIT.out W (HB9.out.thru hb)) ?_
      rintro e' W' ⟨rfl, hb'⟩
      exact ⟨_, rfl, hK _ _ (rfl) hb' (fun h => absurd h (by decide))⟩
    · refine flow_stepG _ 128 15 120 true rfl rfl rfl (by kernel_rfl) (fun _ => rfl) (fun v W h => h) (fun d h => by simpa using h) h1 h2 fun ac xs W he hb hS K hK => ?_
      have k0 := eql_same T W
      have k1 := fun x y => eql_guard T x y W
      have e0 : ac.eval (.tmp 121) = _ := (he 121).trans (hS 16 (by kernel_rfl))
      have e1 : ac.eval (.tmp 127) = _ := (he 127).trans (hS 22 (by kernel_rfl))
      refine op_any (.binOp .eql 25 (.tmp 121) (.tmp 127) 25) rfl (.bool true) (fun o' ho' => ?_) (hK _ _ rfl (Below.refl _ _) (fun h => absurd h (by decide)))
      simp only [execOp, ho', e0, e1]
      go_simp
    · refine flow_step _ 129 rfl rfl (fun d h => by simpa using h) h1 h2 fun ac xs W he hb hS K hK => ?_
      have e0 : ac.eval (.tmp 120) = _ := (he 120).trans (hS 15 (by kernel_rfl))
      have e1 : ac.eval (.tmp 128) = _ := (he 128).trans (hS 23 (by kernel_rfl))
      refine op_any (.pick (.tmp 120) (.tmp 128) (.const (.bool false))) rfl (.bool true) (fun o' ho' => ?_) (hK _ _ rfl (Below.refl _ _) (fun h => absurd h (by decide)))
      simp only [execOp, ho', e0, e1]
      go_simp
    · refine flow_step _ 130 rfl rfl (fun d h => by simpa using h) h1 h2 fun ac xs W he hb hS K hK => ?_
      exact op_move (.tmp 129) (.inl rfl) (hK _ _ ((he 129).trans (hS 24 (by kernel_rfl))) (Below.refl _ _) (fun h => absurd h (by decide)))
    · refine flow_stepG _ 131 25 130 true rfl rfl rfl (by kernel_rfl) (fun _ => rfl) (fun v W h => h) (fun d h => by simpa using h) h1 h2 fun ac xs W he hb hS K hK => ?_
      exact wp_load_row 25 (.tmp 22) rfl g3 (he 22) _ _ _ _ (hb.blk HR3.out (blk_lt HR3.out)) Tryz.underlying25 rfl (by kernel_rfl) (hK _ _ rfl (Below.refl _ _) (fun h => absurd h (by decide)))
    · refine flow_stepG _ 132 25 130 true rfl rfl rfl (by kernel_rfl) (fun _ => rfl) (fun v W h => h) (fun d h => by simpa using h) h1 h2 fun ac xs W he hb hS K hK => ?_
      exact op_move (.tmp 2) (.inl rfl) (hK _ _ (he 2) (Below.refl _ _) (fun h => absurd h (by decide)))
    · refine flow_stepG _ 133 25 130 true rfl rfl rfl (by kernel_rfl) (fun _ => rfl) (fun v W h => h) (fun d h => by simpa using h) h1 h2 fun ac xs W he hb hS K hK => ?_
      have k0 : IntKind.i64.wrap n = n := FN.out
      have e0 : ac.eval (.tmp 132) = _ := (he 132).trans (hS 27 (by kernel_rfl))
      refine op_any (.convert 21 2 (.tmp 132)) rfl (.int .i64 n) (fun o' ho' => ?_) (hK _ _ rfl (Below.refl _ _) (fun h => absurd h (by decide)))
      simp only [execOp, ho', e0]
      go_simp
    · refine flow_stepG _ 134 25 130 true rfl rfl rfl (by kernel_rfl) (fun _ => rfl) (fun v W h => h) (fun d h => by simpa using h) h1 h2 fun ac xs W he hb hS K hK => ?_
      have e0 : ac.eval (.tmp 133) = _ := (he 133).trans (hS 28 (by kernel_rfl))
      refine op_call 29 _ _ rfl _ (by simp only [List.map, e0]) (by go_simp) (HIN.out W (HB9.out.thru hb)) ?_
      rintro e' W' ⟨rfl, hb'⟩
      exact ⟨_, rfl, hK _ _ (rfl) hb' (fun h => absurd h (by decide))⟩
    · refine flow_stepG _ 135 25 130 true rfl rfl rfl (by kernel_rfl) (fun _ => rfl) (fun v W h => h) (fun d h => by simpa using h) h1 h2 fun ac xs W he hb hS K hK => ?_
      have k0 := eql_same N1 W
      have k1 := fun x y => eql_guard N1 x y W
      have e0 : ac.eval (.tmp 131) = _ := (he 131).trans (hS 26 (by kernel_rfl))
      have e1 : ac.eval (.tmp 134) = _ := (he 134).trans (hS 29 (by kernel_rfl))
      refine op_any (.binOp .eql 25 (.tmp 131) (.tmp 134) 25) rfl (.bool true) (fun o' ho' => ?_) (hK _ _ rfl (Below.refl _ _) (fun h => absurd h (by decide)))
      simp only [execOp, ho', e0, e1]
      go_simp
    · refine flow_step _ 136 rfl rfl (fun d h => by simpa using h) h1 h2 fun ac xs W he hb hS K hK => ?_
      have e0 : ac.eval (.tmp 130) = _ := (he 130).trans (hS 25 (by kernel_rfl))
      have e1 : ac.eval (.tmp 135) = _ := (he 135).trans (hS 30 (by kernel_rfl))
      refine op_any (.pick (.tmp 130) (.tmp 135) (.const (.bool false))) rfl (.bool true) (fun o' ho' => ?_) (hK _ _ rfl (Below.refl _ _) (fun h => absurd h (by decide)))
      simp only [execOp, ho', e0, e1]
      go_simp
    · refine flow_step _ 137 rfl rfl (fun d h => by simpa using h) h1 h2 fun ac xs W he hb hS K hK => ?_
      exact op_move (.tmp 136) (.inl rfl) (hK _ _ ((he 136).trans (hS 31 (by kernel_rfl))) (Below.refl _ _) (fun h => absurd h (by decide)))
    · refine flow_stepG _ 138 32 137 true rfl rfl rfl (by kernel_rfl) (fun _ => rfl) (fun v W h => h) (fun d h => by simpa using h) h1 h2 fun ac xs W he hb hS K hK => ?_
      refine op_call 14 _ _ rfl _ (by simp only [List.map]) (by go_simp) (HK.out W (HB9.out.thru hb)) ?_
      rintro e' W' ⟨rfl, hb'⟩
      exact ⟨_, rfl, hK _ _ (rfl) hb' (fun h => absurd h (by decide))⟩
    · refine flow_step _ 139 rfl rfl (fun d h => by simpa using h) h1 h2 fun ac xs W he hb hS K hK => ?_
      have e0 : ac.eval (.tmp 137) = _ := (he 137).trans (hS 32 (by kernel_rfl))
      have e1 : ac.eval (.tmp 138) = _ := (he 138).trans (hS 33 (by kernel_rfl))
      refine op_any (.pick (.tmp 137) (.tmp 138) (.const (.bool false))) rfl (.bool true) (fun o' ho' => ?_) (hK _ _ rfl (Below.refl _ _) (fun h => absurd h (by decide)))
      simp only [execOp, ho', e0, e1]
      go_simp
  · intro xs W hb hS hD
    have s34 : xs 34 = _ := hS 34 (by decide)
    generalize xs 0 = x0 at *
    generalize xs 1 = x1 at *
    generalize xs 2 = x2 at *
    generalize xs 3 = x3 at *
    generalize xs 4 = x4 at *
    generalize xs 5 = x5 at *
    generalize xs 6 = x6 at *
    generalize xs 7 = x7 at *
    generalize xs 8 = x8 at *
    generalize xs 9 = x9 at *
    generalize xs 10 = x10 at *
    generalize xs 11 = x11 at *
    generalize xs 12 = x12 at *
    generalize xs 13 = x13 at *
    generalize xs 14 = x14 at *
    generalize xs 15 = x15 at *
    generalize xs 16 = x16 at *
    generalize xs 17 = x17 at *
    generalize xs 18 = x18 at *
    generalize xs 19 = x19 at *
    generalize xs 20 = x20 at *
    generalize xs 21 = x21 at *
    generalize xs 22 = x22 at *
    generalize xs 23 = x23 at *
    generalize xs 24 = x24 at *
    generalize xs 25 = x25 at *
    generalize xs 26 = x26 at *
    generalize xs 27 = x27 at *
    generalize xs 28 = x28 at *
    generalize xs 29 = x29 at *
    generalize xs 30 = x30 at *
    generalize xs 31 = x31 at *
    generalize xs 32 = x32 at *
    generalize xs 33 = x33 at *
    simp only [layAll, s34]
    have HBB : Hid (Below w.heap.size w W) := HB9.out.thru hb
    clear hS hD s34 hb
    go_wp2
    go_ret
    exact ⟨rfl, HBB.out⟩
end Go.Proofs.YtpfnfhikhlceoaaGreatDoor
