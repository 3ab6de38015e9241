import Derived.Test.YtlbokicainimnaaGreatDoorPGO
import Derived.Test.YtlbokicainimnaaGreatDoorPQE
import Derived.Test.YtlbokicainimnaaGreatDoorPRA
import Derived.Test.YtlbokicainimnaaGreatDoorPAT
import Derived.Test.YtlbokicainimnaaGreatDoorPCE
import Derived.Test.YtlbokicainimnaaGreatDoorPRR
import Derived.Test.YtlbokicainimnaaGreatDoorPMA
import Derived.Maps.AppendAt
import Derived.Deep.AppendLies
import Derived.BigRegion
import Derived.Test.YtlbokicainimnaaGreatDoorPJD
import Derived.Test.YtlbokicainimnaaGreatDoorPRG
import Derived.Test.YtlbokicainimnaaGreatDoorPCG
import Derived.Test.YtlbokicainimnaaGreatDoorPAW
import Derived.Test.YtlbokicainimnaaGreatDoorPTE
namespace Go.Proofs.YtlbokicainimnaaGreatDoor
open Go Go.RowKit
def DivAt (B D : Nat) (xs zs : List Nat) (i r : Nat) : Prop :=
 zs.length = xs.length ∧ (∀ z ∈ zs, z < B) ∧ (∀ j, j < i → zs.getD j 0 = xs.getD j 0) ∧ r < D ∧ lval B (xs.drop i) = lval B (zs.drop i) * D + r
theorem div_start {B D : Nat} {xs : List Nat} (hD : 0 < D) (hx : ∀ x ∈ xs, x < B) : DivAt B D xs xs xs.length 0 :=
 ⟨rfl, hx, fun _ _ => rfl, hD, by rw [List.drop_length]; simp [lval_nil]⟩
theorem div_step {B D i r x : Nat} {xs zs : List Nat} (h : DivAt B D xs zs (i + 1) r) (hi : i < xs.length) (hx : ∀ x ∈ xs, x < B) (hB : 0 < B) (hD : 0 < D) (ex : x = xs.getD i 0) :
  (r * B + x) / D < B ∧ DivAt B D xs (zs.set i ((r * B + x) / D)) i ((r * B + x) % D) := by
 obtain ⟨h1, h2, h3, h4, h5⟩ := h
 have hxB : x < B := by rw [ex]; exact getD_lt hB hx i
 have hq : (r * B + x) / D < B := by
  rw [Nat.div_lt_iff_lt_mul hD]
  have : (r + 1) * B ≤ D * B := Nat.mul_le_mul_right _ (by omega)
  rw [Nat.add_mul, Nat.one_mul] at this
  rw [Nat.mul_comm B D]
  omega
 refine ⟨hq, by simp [h1], mem_set_lt h2 hq, fun j hj => ?_, Nat.mod_lt _ hD, ?_⟩
 ·rw [List.getD_eq_getElem?_getD, List.getElem?_set_ne (by omega), ← List.getD_eq_getElem?_getD]
  exact h3 j (by omega)
 ·rw [lval_drop_next B xs i hi, lval_drop_next B (zs.set i ((r * B + x) / D)) i (by simp; omega), getD_set_same (by omega), List.drop_set_of_lt (by omega), ← ex, h5]
  generalize lval B (zs.drop (i + 1)) = Q
  have h6 := Nat.div_add_mod (r * B + x) D
  generalize (r * B + x) / D = q at *
  generalize (r * B + x) % D = s at *
  have e1 : B * (Q * D + r) = B * Q * D + r * B := by rw [Nat.mul_add, Nat.mul_assoc, Nat.mul_comm B r]
  have e2 : (q + B * Q) * D = D * q + B * Q * D := by rw [Nat.add_mul, Nat.mul_comm q D]
  rw [e1, e2]
  omega
theorem div_end {B D r : Nat} {xs zs : List Nat} (h : DivAt B D xs zs 0 r) : lval B zs = lval B xs / D ∧ r = lval B xs % D := by
 obtain ⟨-, -, -, h4, h5⟩ := h
 rw [List.drop_zero, List.drop_zero] at h5
 have hD : 0 < D := by omega
 rw [h5]
 refine ⟨?_, ?_⟩
 ·rw [Nat.mul_comm, Nat.mul_add_div hD, Nat.div_eq_of_lt h4, Nat.add_zero]
 ·rw [Nat.mul_comm, Nat.mul_add_mod, Nat.mod_eq_of_lt h4]
def TxAt (N n : Nat) (zs : List Nat) : Prop := zs.length = n ∧ ∀ p, p < n → zs.getD p 0 = 48 + dg N p
theorem tx_start (N : Nat) : TxAt N 0 [] := ⟨rfl, fun _ hp => absurd hp (Nat.not_lt_zero _)⟩
theorem tx_push {N n d : Nat} {zs : List Nat} (h : TxAt N n zs) (hd : d = dg N n) : TxAt N (n + 1) (zs ++ [48 + d]) := by
 obtain ⟨h1, h2⟩ := h
 refine ⟨by simp [h1], fun p hp => ?_⟩
 rw [List.getD_eq_getElem?_getD]
 by_cases e : p = n
 ·subst e
  rw [List.getElem?_append_right (by omega), h1, Nat.sub_self, hd]; rfl
 ·rw [List.getElem?_append_left (by omega), ← List.getD_eq_getElem?_getD]
  exact h2 p (by omega)
theorem ninth_dg {N n i : Nat} (hi : i < 9) : N / 10 ^ n % 1000000000 / 10 ^ i % 10 = dg N (n + i) := by
 unfold dg
 obtain ⟨k, hk⟩ : ∃ k, 9 = i + (k + 1) := ⟨8 - i, by omega⟩
 have e : (1000000000 : Nat) = 10 ^ i * 10 ^ (k + 1) := by rw [← Nat.pow_add, ← hk]
 rw [e, Nat.mod_mul_right_div_self, Nat.mod_mod_of_dvd _ ⟨10 ^ k, by rw [Nat.pow_succ, Nat.mul_comm]⟩, Nat.div_div_eq_div_mul, ← Nat.pow_add]
theorem tx_drop {N n : Nat} {zs : List Nat} (h : TxAt N (n + 1) zs) (hN : N < 10 ^ (n + 1)) (h0 : zs.getD n 0 = 48) : TxAt N n (zs.take n) ∧ N < 10 ^ n := by
 obtain ⟨h1, h2⟩ := h
 refine ⟨⟨by simp [h1], fun p hp => ?_⟩, ?_⟩
 ·rw [List.getD_eq_getElem?_getD, List.getElem?_take, if_pos hp, ← List.getD_eq_getElem?_getD]
  exact h2 p (by omega)
 ·have h3 := h2 n (by omega)
  rw [h0] at h3
  unfold dg at h3
  have hp : 0 < (10 : Nat) ^ n := Nat.pow_pos (by decide)
  have h4 : N / 10 ^ n < 10 := by rw [Nat.div_lt_iff_lt_mul hp, Nat.mul_comm, ← Nat.pow_succ]; exact hN
  have h5 : N / 10 ^ n = 0 := by
   generalize N / 10 ^ n = q at h3 h4 ⊢
   omega
  rcases (Nat.div_eq_zero_iff).1 h5 with h | h
  ·omega
  ·exact h
theorem tx_bare {N n : Nat} {zs : List Nat} (h : TxAt N n zs) (hN : N < 10 ^ n) (h0 : n = 0 ∨ zs.getD (n - 1) 0 ≠ 48) : bareD N = padK n N := by
 have hlen : (bareD N).length = n := by
  have h1 := bare_len_le N n hN
  rcases Nat.eq_zero_or_pos n with e | e
  ·omega
  ·have h2 : 10 ^ (n - 1) ≤ N := by
    refine Nat.le_of_not_lt fun hlt => ?_
    rcases h0 with h0 | h0
    ·omega
    ·rw [h.2 (n - 1) (by omega)] at h0
     have : dg N (n - 1) = 0 := dg_zero hlt (Nat.le_refl _)
     omega
   have := bare_len_ge N (n - 1) h2
   omega
 refine eq_padK _ _ _ hlen fun i hi => ?_
 have := dg_of (bareD N) (bare_all N) i (by omega)
 rw [dval_bare] at this
 simp only [hlen] at this
 apply UInt8.toNat_inj.1
 rw [this]
 have := dg_lt N i
 simp; omega
def RevAt (xs zs : List Nat) (i : Nat) : Prop := zs.length = xs.length ∧ ∀ p, p < xs.length → zs.getD p 0 = if p < i ∨ xs.length - i ≤ p then xs.getD (xs.length - 1 - p) 0 else xs.getD p 0
theorem rev_start (xs : List Nat) : RevAt xs xs 0 := ⟨rfl, fun p hp => by rw [if_neg (by omega)]⟩
theorem rev_step {xs zs : List Nat} {i u v : Nat} (h : RevAt xs zs i) (hi : i < xs.length / 2) (hu : u = zs.getD i 0) (hv : v = zs.getD (xs.length - 1 - i) 0) : RevAt xs ((zs.set i v).set (xs.length - 1 - i) u) (i + 1) := by
 obtain ⟨h1, h2⟩ := h
 refine ⟨by simp [h1], fun p hp => ?_⟩
 have a1 := h2 i (by omega)
 have a2 := h2 (xs.length - 1 - i) (by omega)
 rw [if_neg (by omega)] at a1 a2
 rw [List.getD_eq_getElem?_getD]
 by_cases e1 : p = xs.length - 1 - i
 ·subst e1
  rw [List.getElem?_set_self (by simp; omega), if_pos (by omega), hu, a1, show xs.length - 1 - (xs.length - 1 - i) = i by omega]; rfl
 ·rw [List.getElem?_set_ne (by omega)]
  by_cases e2 : p = i
  ·subst e2
   rw [List.getElem?_set_self (by omega), if_pos (by omega), hv, a2]; rfl
  ·rw [List.getElem?_set_ne (by omega), ← List.getD_eq_getElem?_getD, h2 p hp]
   by_cases e3 : p < i ∨ xs.length - i ≤ p
   ·rw [if_pos e3, if_pos (by omega)]
   ·rw [if_neg e3, if_neg (by omega)]
theorem rev_end {xs zs : List Nat} {i : Nat} (h : RevAt xs zs i) (hi : xs.length / 2 ≤ i) : ∀ p, p < xs.length → zs.getD (xs.length - 1 - p) 0 = xs.getD p 0 := fun p hp => by
 rw [h.2 _ (by omega)]
 split
 ·congr 1; omega
 ·rename_i g
  congr 1; omega
theorem rev_text {N n i : Nat} {xs zs : List Nat} (h : TxAt N n xs) (hr : RevAt xs zs i) (hi : n / 2 ≤ i) (hb : bareD N = padK n N) : bytesN zs = bareD N := by
 rw [hb]
 have hl := h.1
 refine own_pad (by rw [hr.1, hl]) fun p hp => ?_
 have := rev_end hr (by omega) p (by omega)
 rw [hl] at this
 rw [this]
 exact h.2 p hp
end Go.Proofs.YtlbokicainimnaaGreatDoor
set_option maxRecDepth 100000
namespace Go.Proofs.YtlbokicainimnaaGreatDoor
open Go.RowKit
theorem five_lt2 (k : Nat) : 5 ^ k < 2 ^ (4 * k + 1) := Nat.lt_of_le_of_lt (Nat.pow_le_pow_left (by decide) k) (ten_lt2 k)
theorem npow5_v (n : Nat) (w : World) (hn : n ≤ 90000) :
  Calls Tryz.prog 57 #[.int .i64 (n : Nat)] w (NatQ (5 ^ n) w) := by
 have H1 : Hid (∀ W, Calls Tryz.prog 54 #[.int .u64 1] W (NatQ 1 W)) := fun W => of_any 1 W (by decide)
 go_enter Tryz.func57, Tryz.ntmps57
 go_wp2_with fail
 refine (H1.out _).mono ?_
 rintro e w1 ⟨v, rfl, hnum, hb⟩
 obtain ⟨a, m, c, rfl⟩ := hnum.shape
 have HN1 : Hid (Num .u32 4294967296 w1 (.slice a m c) 1) := hnum
 have HB1 : Hid (Below w.heap.size w w1) := hb
 clear hnum hb H1
 go_wp2
 go_loopw [3, 0] (fun v i wr => ∃ j k : Nat, j + k = n ∧ i = .int .i64 (j : Nat) ∧ Num .u32 4294967296 wr v (5 ^ k) ∧ Below w.heap.size w wr) (fun _ i _ => (intOf i).toNat)
 case atStart => exact ⟨n, 0, by omega, rfl, HN1.out, HB1.out⟩
 case round =>
  obtain ⟨j, k, hjk, rfl, hnum, hb⟩ := hrel
  have HB : Hid (Below w.heap.size w wr) := hb
  obtain ⟨a, m, c, rfl⟩ := hnum.shape
  have HNM : Hid (Num .u32 4294967296 wr (.slice a m c) (5 ^ k)) := hnum
  have HT : Hid _ := ntimes_any _ _ 1220703125 0 wr HNM.out (by decide) (by decide) (five_lt2 k) (by omega)
  clear hb hnum HN1 HB1
  by_cases hj : 13 ≤ j
  ·have hjI : (13 : Int) ≤ j := by omega
   go_wp2_with fail
   refine Calls.mono HT.out ?_
   rintro e w' ⟨v, rfl, hnum, hb⟩
   have HB2 : Hid (Below w.heap.size w w') := HB.out.thru hb
   have HN2 : Hid (Num .u32 4294967296 w' v (5 ^ (k + 13))) := by rw [Nat.add_zero] at hnum; rw [Nat.pow_add, show (5 : Nat) ^ 13 = 1220703125 from rfl]; exact hnum
   clear hb hnum
   go_wp2
   go_roundw
   case rel => exact ⟨j - 13, k + 13, by omega, by go_num, HN2.out, HB2.out⟩
   case measure => simp [intOf]; omega
  ·have hjI : ¬ (13 : Int) ≤ j := by omega
   clear HT
   go_wp2
   go_loopw [3, 0] (fun v i wr => ∃ j k : Nat, j + k = n ∧ i = .int .i64 (j : Nat) ∧ Num .u32 4294967296 wr v (5 ^ k) ∧ Below w.heap.size w wr) (fun _ i _ => (intOf i).toNat)
   case atStart => exact ⟨j, k, hjk, rfl, HNM.out, HB.out⟩
   case round =>
    rename_i wp
    obtain ⟨j2, k2, hjk2, rfl, hnum, hb⟩ := hrel
    have HB3 : Hid (Below w.heap.size w wr) := hb
    obtain ⟨a, m, c, rfl⟩ := hnum.shape
    have HNM3 : Hid (Num .u32 4294967296 wr (.slice a m c) (5 ^ k2)) := hnum
    have HT : Hid _ := ntimes_any _ _ 5 0 wr HNM3.out (by decide) (by decide) (five_lt2 k2) (by omega)
    clear hb hnum HNM HB
    by_cases hj0 : 0 < j2
    ·have hjI2 : (0 : Int) < j2 := by omega
     go_wp2_with fail
     refine Calls.mono HT.out ?_
     rintro e w' ⟨v, rfl, hnum, hb⟩
     have HB2 : Hid (Below w.heap.size w w') := HB3.out.thru hb
     have HN2 : Hid (Num .u32 4294967296 w' v (5 ^ (k2 + 1))) := by rw [Nat.add_zero] at hnum; rw [Nat.pow_succ]; exact hnum
     clear hb hnum
     go_wp2
     go_roundw
     case rel => exact ⟨j2 - 1, k2 + 1, by omega, by go_num, HN2.out, HB2.out⟩
     case measure => simp [intOf]; omega
    ·have hjI2 : ¬ (0 : Int) < j2 := by omega
     go_wp2
     go_ret
     have e : k2 = n := by omega
     subst e
     exact ⟨_, rfl, HNM3.out, HB3.out⟩
theorem or_low32 (R x : Nat) (hR : R < 4294967296) (hx : x < 4294967296) : bits .or .u64 ((R : Int) * 4294967296) (x : Int) = ((R * 4294967296 + x : Nat) : Int) := by
 have e : (R : Int) * 4294967296 = ((R * 4294967296 : Nat) : Int) := (Int.natCast_mul R 4294967296).symm
 rw [e]
 have := u64_or_nat (R * 4294967296) x (by omega) (by omega)
 rw [Nat.or_comm, or_add (a := x) (b := R * 4294967296) (r := 32) (by omega) (by omega), Nat.add_comm] at this
 exact this
theorem ownsRow_take {w : World} {base : Nat} {e : TypeId} {g n c m : Nat} {xs : List Value} (h : w.ownsRow base e 1 (.slice (some ⟨g, 0, none⟩) n c) n xs) (hm : m ≤ n) : w.ownsRow base e 1 (.slice (some ⟨g, 0, none⟩) m c) m (xs.take m) := by
 obtain ⟨h1, h2⟩ := h
 refine ⟨by simp; omega, ?_⟩
 rcases h2 with ⟨h3, -⟩ | ⟨g', c', cur, h3, h4, h5, h6, h7, h8, h9⟩
 ·cases h3
 ·simp only [Value.slice.injEq, Option.some.injEq, Addr.mk.injEq, and_true, true_and] at h3
  obtain ⟨rfl, rfl⟩ := h3
  refine .inr ⟨g, c, cur, rfl, h4, h5, by omega, h7, h8, ?_⟩
  rw [← h9, List.take_take]
  congr 1
  omega
def wds (l : List Nat) : List Value := l.map (fun x : Nat => Value.int .u32 x)
def byn (l : List Nat) : List Value := l.map (fun x : Nat => Value.int .u8 x)
theorem wds_get {l : List Nat} {k : Nat} (h : k < l.length) : (wds l)[k]? = some (.int .u32 (l.getD k 0 : Nat)) := by
 unfold wds; simp [List.getD, h]
theorem byn_get {l : List Nat} {k : Nat} (h : k < l.length) : (byn l)[k]? = some (.int .u8 (l.getD k 0 : Nat)) := by
 unfold byn; simp [List.getD, h]
theorem byn_text {W : World} {base g n c : Nat} {zs : List Nat} (h : W.ownsRow base 5 1 (.slice (some ⟨g, 0, none⟩) n c) n (byn zs)) (hz : ∀ p, p < n → zs.getD p 0 < 256) :
  (convert 151 9 (.slice (some ⟨g, 0, none⟩) n c)).run Tryz.prog W = .ok (.string (bs (bytesN zs))) W := by
 have hl : zs.length = n := by have := h.1; simpa [byn] using this
 have hl2 : (bytesN zs).length = n := by rw [bytesN_len]; exact hl
 have := run_convert_bytes_back (P := Tryz.prog) W 151 9 5 ⟨g, 0, none⟩ c (bytesN zs) Tryz.underlying151 Tryz.underlying5 Tryz.underlying9 (fun j hj => by
  rw [bytesN_get zs j hj (hz j (by omega))]
  have := World.ownsRow.cellAt h j (by omega)
  rw [byn_get (by omega)] at this
  rw [show (Addr.mk g 0 none).add j = ⟨g, j, none⟩ by unfold Addr.add; split <;> simp_all]
  exact this)
 rw [hl2] at this
 exact this
theorem trim_own (a : Option Addr) (n c : Nat) (xs : List Nat) (w : World) (h : Limbs .u32 4294967296 w (.slice a n c) xs) :
  Calls Tryz.prog 117 #[.slice a n c] w fun e w' => (∃ m, e = .returned (.slice a m c) ∧ m ≤ n ∧ (∀ i, m ≤ i → i < n → xs.getD i 0 = 0) ∧ (m = 0 ∨ xs.getD (m - 1) 0 ≠ 0)) ∧ w = w' := by
 obtain ⟨a', n', c', he, hn, hnc, hc, hx, hcell⟩ := h
 cases he
 clear hx
 go_enter Tryz.func117, Tryz.ntmps117
 go_wp2
 go_loop [0] (fun v => ∃ m, m ≤ n ∧ v = .slice a m c ∧ ∀ i, m ≤ i → i < n → xs.getD i 0 = 0) (fun v => match v with | .slice _ m _ => m | _ => 0)
 case atStart => exact ⟨n, Nat.le_refl _, rfl, fun i h1 h2 => by omega⟩
 case round =>
  obtain ⟨m, hm, rfl, hz⟩ := hrel
  have HZ : Hid (∀ i, m ≤ i → i < n → xs.getD i 0 = 0) := hz
  clear hz
  by_cases hm0 : 0 < m
  ·obtain ⟨b, o, rfl, hb, hcc⟩ := hcell (by omega)
   have h1 := hcc (m - 1) (by omega)
   go_wp2
   ·go_round
    case rel =>
     have hlast : xs.getD (m - 1) 0 = 0 := by
      have : (((xs[m - 1]?.getD 0 : Nat) : Int) == 0) = true := by assumption
      simpa using this
     refine ⟨m - 1, by omega, rfl, fun i h1 h2 => ?_⟩
     by_cases h3 : i = m - 1
     ·rw [h3]; exact hlast
     ·exact HZ.out i (by omega) h2
    case measure => simp; omega
   all_goals
    have hlast : xs.getD (m - 1) 0 ≠ 0 := by
     have : (((xs[m - 1]?.getD 0 : Nat) : Int) == 0) = false := by assumption
     simpa using this
    go_ret
    exact ⟨⟨m, rfl, hm, HZ.out, .inr hlast⟩, rfl⟩
  ·go_wp2
   all_goals
    go_ret
    exact ⟨⟨m, rfl, hm, HZ.out, .inl (by omega)⟩, rfl⟩
theorem info_byteT : ∃ i, Tryz.prog.info? 5 = some i ∧ i.zero = some (.int .u8 0) ∧ i.size = 1 ∧ i.bytes = 1 := by
 have hi : (Tryz.prog.info? 5).map (fun i => (i.zero, i.size, i.bytes)) = some (some (.int .u8 0), 1, 1) := by kernel_rfl
 obtain ⟨i, h1, h2⟩ := Option.map_eq_some_iff.1 hi
 simp only [Prod.mk.injEq] at h2
 exact ⟨i, h1, h2.1, h2.2.1, h2.2.2⟩
def lenV : Value → Nat
 | .slice _ n _ => n
 | _ => 0
theorem own_shape {w : World} {base : Nat} {e : TypeId} {v : Value} {n : Nat} {xs : List Value} (h : w.ownsRow base e 1 v n xs) : ∃ a c, v = .slice a n c := by
 rcases h.2 with ⟨h1, h2⟩ | ⟨g, c, cur, h1, -⟩
 ·exact ⟨none, 0, by rw [h1, h2]⟩
 ·exact ⟨_, c, h1⟩
theorem own_lenV {w : World} {base : Nat} {e : TypeId} {v : Value} {n : Nat} {xs : List Value} (h : w.ownsRow base e 1 v n xs) : lenV v = n := by
 obtain ⟨a, c, rfl⟩ := own_shape h
 rfl
theorem own_someT {w : World} {base : Nat} {e : TypeId} {v : Value} {n : Nat} {xs : List Value} (h : w.ownsRow base e 1 v n xs) (hn : 0 < n) : ∃ g c, v = .slice (some ⟨g, 0, none⟩) n c ∧ base ≤ g ∧ g < w.heap.size ∧ n ≤ c ∧ c ≤ maxLen := by
 obtain ⟨h1, h2⟩ := h
 rcases h2 with ⟨rfl, rfl⟩ | ⟨g, c, cur, rfl, h3, h4, h5, h6, -⟩
 ·omega
 ·exact ⟨g, c, rfl, h3, blk_lt h4, h5, h6⟩
def TxW (w w1 : World) (g cp N : Nat) (wr : World) (t n : Nat) (v : Value) (ys zs : List Nat) : Prop :=
 (wr.ownsRow w.heap.size 149 1 (.slice (some ⟨g, 0, none⟩) n cp) n (wds ys) ∧ (∀ y ∈ ys, y < 4294967296) ∧ Norm ys ∧ lval 4294967296 ys = N / 10 ^ (9 * t)) ∧
 (wr.ownsRow w1.heap.size 5 1 v (9 * t) (byn zs) ∧ TxAt N (9 * t) zs) ∧ Below w.heap.size w wr ∧ w1.heap.size ≤ wr.heap.size
theorem wds_len {l : List Nat} : (wds l).length = l.length := by simp [wds]
theorem wds_set (l : List Nat) (j v : Nat) : (wds l).set j (.int .u32 (v : Nat)) = wds (l.set j v) := by unfold wds; rw [List.map_set]
theorem byn_set (l : List Nat) (j v : Nat) : (byn l).set j (.int .u8 (v : Nat)) = byn (l.set j v) := by unfold byn; rw [List.map_set]
theorem wds_take (l : List Nat) (m : Nat) : (wds l).take m = wds (l.take m) := by unfold wds; rw [List.map_take]
theorem byn_take (l : List Nat) (m : Nat) : (byn l).take m = byn (l.take m) := by unfold byn; rw [List.map_take]
theorem byn_push (l : List Nat) (v : Nat) : byn l ++ [.int .u8 (v : Nat)] = byn (l ++ [v]) := by unfold byn; rw [List.map_append]; rfl
theorem own_max {w : World} {base : Nat} {e : TypeId} {v : Value} {n : Nat} {xs : List Value} (h : w.ownsRow base e 1 v n xs) : n ≤ maxLen := by
 rcases h.2 with ⟨-, h2⟩ | ⟨g, c, cur, -, -, -, h4, h5, -⟩
 ·omega
 ·omega
theorem row_limbs {W : World} {base g n c : Nat} {ys : List Nat} (h : W.ownsRow base 149 1 (.slice (some ⟨g, 0, none⟩) n c) n (wds ys)) (hy : ∀ y ∈ ys, y < 4294967296) : Limbs .u32 4294967296 W (.slice (some ⟨g, 0, none⟩) n c) ys := by
 have hl : ys.length = n := by have := h.1; rw [wds_len] at this; omega
 have hb := (World.ownsRow.lt h g rfl).2
 rcases h.2 with ⟨h1, -⟩ | ⟨g', c', cur, h1, h2, h3, h4, h5, -⟩
 ·cases h1
 ·simp only [Value.slice.injEq, Option.some.injEq, Addr.mk.injEq, and_true, true_and] at h1
  obtain ⟨rfl, rfl⟩ := h1
  refine ⟨_, n, c, rfl, hl, h4, by unfold maxLen at h5; omega, hy, fun _ => ⟨g, 0, rfl, hb, fun i hi => ?_⟩⟩
  rw [Nat.zero_add, World.ownsRow.cellAt h i (by omega), wds_get (by omega)]
theorem ten_le_of {N t : Nat} (h : N / 10 ^ t ≠ 0) {bb : Nat} (hN : N < 2 ^ bb) : t < bb := by
 have h1 : 10 ^ t ≤ N := by
  refine Nat.le_of_not_lt fun g => h (Nat.div_eq_of_lt g)
 have h2 : 2 ^ t ≤ 10 ^ t := Nat.pow_le_pow_left (by decide) t
 exact (Nat.pow_lt_pow_iff_right (a := 2) (by decide)).1 (by omega)
set_option maxHeartbeats 8000000 in
theorem ntext_v (s : Value) (N : Nat) (w : World) (h : Num .u32 4294967296 w s N) {bb : Nat} (hN : N < 2 ^ bb) (hbb : bb ≤ 100000) (h0 : 0 < N) :
  Calls Tryz.prog 59 #[s] w fun e w' => e = .returned (.string (bs (bareD N))) ∧ Below w.heap.size w w' := by
 obtain ⟨xs, hL, hv, hnm, hml⟩ := num_len h hN (by omega)
 obtain ⟨a, m, cap, rfl, hm, hmc, hcap, hx, hcell⟩ := hL
 have hm0 : 0 < m := by
  refine Nat.pos_of_ne_zero fun e => ?_
  rw [e] at hm
  rw [List.eq_nil_of_length_eq_zero hm] at hv
  rw [lval_nil] at hv
  omega
 obtain ⟨b0, o0, rfl, hb0, hc0⟩ := hcell hm0
 have HC0 : Hid (∀ i, i < m → w.cell? ⟨b0, o0 + i, none⟩ = some (.int .u32 (xs.getD i 0 : Nat))) := hc0
 have HXS : Hid ((∀ x ∈ xs, x < 4294967296) ∧ Norm xs ∧ lval 4294967296 xs = N ∧ xs.length = m) := ⟨hx, hnm, hv, hm⟩
 have HNB : Hid (N < 2 ^ bb) := hN
 have HB0 : Hid (b0 < w.heap.size) := hb0
 obtain ⟨i0, hi, hz0, hz1, hz2⟩ := info_parts Tryz.infoV
 obtain ⟨i1, hj, hy0, hy1, hy2⟩ := info_byteT
 clear hc0 hcell hx hnm hv hm hN h hb0
 go_enter Tryz.func59, Tryz.ntmps59
 go_wp2_with (at_builtin; (refine wpList_append_own _ rfl _ _ 85 rfl w.heap.size 149 i0 (.int .u32 0) 1 4 Tryz.underlying85 hi hz0 hz1 hz2 rfl (by decide) _ _ _ rfl (World.ownsRow_made w #[] 0 (Nat.le_refl _) (by decide) rfl) ⟨b0, o0, none⟩ m cap (wds xs) rfl (by rw [wds_len, HXS.out.2.2.2, Nat.mul_one]) (by intro j v hj; have hj2 : j < m := (by have := (List.getElem?_eq_some_iff.1 hj).1; rw [wds_len, HXS.out.2.2.2] at this; exact this); rw [wds_get (by have := HXS.out.2.2.2; omega)] at hj; cases hj; rw [show (Addr.mk b0 o0 none).add j = ⟨b0, o0 + j, none⟩ by unfold Addr.add; split <;> simp_all, ((Below.refl w.heap.size w).alloc (Nat.le_refl _) _).cell HB0.out]; exact HC0.out j hj2) (by intro z hz; obtain ⟨y, _, rfl⟩ := List.mem_map.mp hz; rfl) (by unfold maxLen; have := HXS.out.2.2.2; omega) (by have := HXS.out.2.2.2; omega) (by simp) ?_; intro v' w1 hown hgrow _; have HO1 : Hid (w1.ownsRow w.heap.size 149 1 v' m (wds xs)) := (by rw [Nat.zero_add, List.nil_append] at hown; exact hown); have HB1 : Hid (Below w.heap.size w w1) := ((Below.refl w.heap.size w).alloc (Nat.le_refl _) _).grown hgrow (by simp) (fun k hk => by cases hk; exact Nat.le_refl _); clear hown hgrow))
 obtain ⟨g, cp, rfl, hg1, hg2, hg3, hg4⟩ := own_someT HO1.out hm0
 have HG : Hid (g < w1.heap.size ∧ cp ≤ 9223372036854775807) := ⟨hg2, hg4⟩
 have HB1S : Hid (w.heap.size ≤ w1.heap.size) := HB1.out.size
 clear hg1 hg2 hg3 hg4 HC0 HB0
 go_wp2_with fail
 go_loopw [3, 4] (fun bv ov wr => ∃ (t n : Nat) (ys zs : List Nat), bv = .slice (some ⟨g, 0, none⟩) n cp ∧ TxW w w1 g cp N wr t n ov ys zs) (fun _ ov _ => bb + 9 - lenV ov)
 case atStart => exact ⟨0, m, xs, [], rfl, ⟨⟨HO1.out, HXS.out.1, HXS.out.2.1, by rw [HXS.out.2.2.1, Nat.mul_zero, Nat.pow_zero, Nat.div_one]⟩, ⟨World.ownsRow_nil _ _ _ _, tx_start N⟩, HB1.out, Nat.le_refl _⟩⟩
 case round =>
  obtain ⟨t, n, ys, zs, rfl, htx⟩ := hrel
  have HTX : Hid (TxW w w1 g cp N wr t n u4 ys zs) := htx
  obtain ⟨⟨hb1, hb2, hb3, hb4⟩, ⟨ho1, ho2⟩, hbl, hsz⟩ := htx
  have hyl : ys.length = n := by have := hb1.1; rw [wds_len] at this; omega
  obtain ⟨oa, oc, rfl⟩ := own_shape ho1
  have h9 : 9 * t ≤ 9223372036854775807 := own_max ho1
  have hcp := HG.out.2
  have hnc : n ≤ 9223372036854775807 := own_max hb1
  by_cases hn : 0 < n
  ·have hV : N / 10 ^ (9 * t) ≠ 0 := by
    intro e
    rw [e] at hb4
    have := (norm_zero hb3 (by decide)).1 hb4
    omega
   have h9b := ten_le_of hV HNB.out
   have HYS : Hid ((∀ y ∈ ys, y < 4294967296) ∧ lval 4294967296 ys = N / 10 ^ (9 * t) ∧ ys.length = n) := ⟨hb2, hb4, hyl⟩
   have HZS : Hid (TxAt N (9 * t) zs) := ho2
   have hDV := div_start (B := 4294967296) (D := 1000000000) (by decide) hb2
   rw [hyl] at hDV
   have HDV : Hid (DivAt 4294967296 1000000000 ys ys n 0) := hDV
   have HOB : Hid _ := hb1
   have HOZ : Hid _ := ho1
   have HBL : Hid _ := hbl
   have HSZ : Hid (w1.heap.size ≤ wr.heap.size) := hsz
   have wk : IntKind.i64.wrap ((n : Int) - 1) = (n : Int) - 1 := IntWalk.i64_in _ (by omega)
   have hn1 : (0 : Int) < n := by omega
   clear hV hb1 hb2 hb3 hb4 ho1 ho2 hbl hsz hyl hDV hn HTX HB1 HO1
   go_wp2_with fail
   go_loopw [5, 6] (fun rv iv wq => ∃ (i R : Nat) (us : List Nat), (rv = .int .u64 (R : Nat) ∧ iv = .int .i64 ((i : Int) - 1) ∧ i ≤ n) ∧ DivAt 4294967296 1000000000 ys us i R ∧ wq.ownsRow w.heap.size 149 1 (.slice (some ⟨g, 0, none⟩) n cp) n (wds us) ∧ wq.ownsRow w1.heap.size 5 1 (.slice oa (9 * t) oc) (9 * t) (byn zs) ∧ Below w.heap.size w wq ∧ w1.heap.size ≤ wq.heap.size) (fun _ iv _ => (intOf iv + 1).toNat)
   case atStart => exact ⟨n, 0, ys, ⟨rfl, rfl, Nat.le_refl _⟩, HDV.out, HOB.out, HOZ.out, HBL.out, HSZ.out⟩
   case round =>
    obtain ⟨i, R, us, ⟨rfl, rfl, hin⟩, hdv, hob, hoz, hbq, hsq⟩ := hrel
    have HDV2 : Hid (DivAt 4294967296 1000000000 ys us i R) := hdv
    have HOB2 : Hid _ := hob
    have HOZ2 : Hid _ := hoz
    have HBQ : Hid _ := hbq
    have HSQ : Hid (w1.heap.size ≤ wr.heap.size) := hsq
    have hul : us.length = n := by rw [hdv.1]; exact HYS.out.2.2
    have hR := hdv.2.2.2.1
    by_cases hi0 : 0 < i
    ·obtain ⟨k, rfl⟩ : ∃ k, i = k + 1 := ⟨i - 1, by omega⟩
     obtain ⟨x, hx⟩ : ∃ x, x = ys.getD k 0 := ⟨_, rfl⟩
     obtain ⟨d1, d2⟩ := div_step hdv (by have := HYS.out.2.2; omega) HYS.out.1 (by decide) (by decide) hx
     have hxk : us.getD k 0 = x := by rw [hdv.2.2.1 k (by omega), hx]
     have hxb : x < 4294967296 := by rw [hx]; exact getD_lt (by decide) HYS.out.1 k
     have hc1 := World.ownsRow.cellAt hob k (by omega)
     rw [wds_get (by omega), hxk] at hc1
     have hf1 := World.ownsRow.frozenAt hob k
     obtain ⟨T, hT⟩ : ∃ T, T = R * 4294967296 + x := ⟨_, rfl⟩
     have hor := or_low32 R x (by omega) hxb
     rw [← hT] at d1 d2 hor
     have hTb : T < 18446744073709551616 := by omega
     have hsh : IntKind.u64.wrap ((R : Int) * 4294967296) = (R : Int) * 4294967296 := IntWalk.u64_in _ (by omega)
     have hw1 : IntKind.i64.wrap ((k : Int) - 1) = (k : Int) - 1 := IntWalk.i64_in _ (by omega)
     have e1 : ((k + 1 : Nat) : Int) - 1 = (k : Int) := by omega
     have t1 : (T : Int).tdiv 1000000000 = ((T / 1000000000 : Nat) : Int) := by rw [Int.tdiv_eq_ediv_of_nonneg (by omega)]; omega
     have t2 : (T : Int).tmod 1000000000 = ((T % 1000000000 : Nat) : Int) := by rw [Int.tmod_eq_emod_of_nonneg (by omega)]; omega
     obtain ⟨q, hq⟩ : ∃ q, q = T / 1000000000 := ⟨_, rfl⟩
     obtain ⟨r, hr⟩ : ∃ r, r = T % 1000000000 := ⟨_, rfl⟩
     rw [← hq] at t1 d1 d2
     rw [← hr] at t2 d2
     have hrb : r < 1000000000 := by omega
     have hq1 : IntKind.u64.wrap (q : Int) = (q : Int) := IntWalk.u64_in _ (by omega)
     have hq2 : (q : Int) % 4294967296 = (q : Int) := by omega
     have hq3 : IntKind.u64.wrap (r : Int) = (r : Int) := IntWalk.u64_in _ (by omega)
     have D2 : Hid (DivAt 4294967296 1000000000 ys (us.set k q) k r) := d2
     clear hdv hob hoz hbq hsq hul hx hxk hT HDV HOB HOZ HBL HSZ hq hr
     have hgw := (World.ownsRow.lt HOB2.out g rfl).1
     have hne : (Value.slice oa (9 * t) oc).ownBlock = none ∨ (Value.slice oa (9 * t) oc).ownBlock ≠ some g := .inr fun e => by
      have := (World.ownsRow.lt HOZ2.out g e).1
      have := HG.out.1
      omega
     have HNE : Hid _ := hne
     clear hne
     simp only [e1]
     go_wp2
     go_roundw
     case rel => exact ⟨k, r, us.set k q, ⟨by first | rfl | rw [hq3], by first | rfl | rw [hw1], by omega⟩, D2.out, by rw [← wds_set]; exact (World.ownsRow.stored HOB2.out k _).1, World.ownsRow.kept HOZ2.out (World.ownsRow.stored HOB2.out k _).2 HNE.out, HBQ.out.setCell hgw _, by simpa using HSQ.out⟩
     case measure => simp [intOf]
    ·obtain rfl : i = 0 := by omega
     obtain ⟨v1, v2⟩ := div_end hdv
     rw [HYS.out.2.1] at v1 v2
     have hlm := row_limbs hob hdv.2.1
     have HUB : Hid (∀ z ∈ us, z < 4294967296) := hdv.2.1
     have V1 : Hid (lval 4294967296 us = N / 10 ^ (9 * t) / 1000000000) := v1
     have V2 : Hid (R = N / 10 ^ (9 * t) % 1000000000) := v2
     clear v1 v2
     have hHT := trim_own (some ⟨g, 0, none⟩) n cp us wr hlm
     have HUL : Hid (us.length = n) := hul
     clear hdv hob hoz hbq hsq HDV HOB HOZ HBL HSZ HDV2 hlm
     go_wp2_with (go_at_call 117; refine Calls.mono hHT ?_; rintro e w' ⟨⟨m2, rfl, hm2, hz2, hl2⟩, rfl⟩)
     have HRW : Hid (wr.ownsRow w.heap.size 149 1 (.slice (some ⟨g, 0, none⟩) m2 cp) m2 (wds (us.take m2))) := by
      have := ownsRow_take HOB2.out hm2
      rw [wds_take] at this
      exact this
     have HRV : Hid ((∀ y ∈ us.take m2, y < 4294967296) ∧ Norm (us.take m2) ∧ lval 4294967296 (us.take m2) = N / 10 ^ (9 * (t + 1))) := by
      have hul := HUL.out
      refine ⟨fun y hy => HUB.out y (List.mem_of_mem_take hy), ?_, ?_⟩
      ·have hlt : (us.take m2).length = m2 := by simp; omega
       unfold Norm
       rw [hlt]
       rcases hl2 with h | h
       ·exact .inl h
       ·rcases Nat.eq_zero_or_pos m2 with e | e
        ·exact .inl e
        ·right
         rw [List.getD_eq_getElem?_getD, List.getElem?_take, if_pos (by omega), ← List.getD_eq_getElem?_getD]; exact h
      ·rw [lval_take_of_zeros _ us m2 (by omega) (by rw [hul]; exact hz2), V1.out, Nat.mul_add, Nat.pow_add, ← Nat.div_div_eq_div_mul]
     clear hz2 hl2 HUB HUL HYS V1 HOB2 hHT
     go_wp2_with fail
     go_loopw [4, 5, 7] (fun ov rv iv wq => ∃ (j : Nat) (zz : List Nat), (j ≤ 9 ∧ iv = .int .i64 (j : Nat) ∧ rv = .int .u64 ((R / 10 ^ j : Nat) : Int)) ∧ wq.ownsRow w.heap.size 149 1 (.slice (some ⟨g, 0, none⟩) m2 cp) m2 (wds (us.take m2)) ∧ wq.ownsRow w1.heap.size 5 1 ov (9 * t + j) (byn zz) ∧ TxAt N (9 * t + j) zz ∧ Below w.heap.size w wq ∧ w1.heap.size ≤ wq.heap.size) (fun _ _ iv _ => 9 - (intOf iv).toNat)
     case atStart => exact ⟨0, zs, ⟨Nat.zero_le _, by first | rfl | go_num, by rw [Nat.pow_zero, Nat.div_one]⟩, HRW.out, HOZ2.out, HZS.out, HBQ.out, HSQ.out⟩
     case round =>
      rename_i wo
      obtain ⟨j, zz, ⟨hj9, rfl, rfl⟩, hor, hoz, htz, hbj, hsj⟩ := hrel
      have HOR3 : Hid (wr.ownsRow w.heap.size 149 1 (.slice (some ⟨g, 0, none⟩) m2 cp) m2 (wds (us.take m2))) := hor
      have HOZ3 : Hid (wr.ownsRow w1.heap.size 5 1 u4 (9 * t + j) (byn zz)) := hoz
      have HTZ : Hid (TxAt N (9 * t + j) zz) := htz
      have HBJ : Hid (Below w.heap.size w wr) := hbj
      have HSJ : Hid (w1.heap.size ≤ wr.heap.size) := hsj
      clear HRW HOZ2 HZS HBQ HSQ hor hoz htz hbj hsj
      by_cases hj8 : j < 9
      ·obtain ⟨X, hX⟩ : ∃ X, X = R / 10 ^ j := ⟨_, rfl⟩
       have hRb : R < 1000000000 := hR
       have hXR : X ≤ R := by rw [hX]; exact Nat.div_le_self _ _
       have hd : X % 10 = dg N (9 * t + j) := by rw [hX, V2.out]; exact ninth_dg hj8
       have hX2 : X / 10 = R / 10 ^ (j + 1) := by rw [hX, Nat.pow_succ, Nat.div_div_eq_div_mul]
       obtain ⟨d, hdd⟩ : ∃ d, d = X % 10 := ⟨_, rfl⟩
       obtain ⟨Y, hYY⟩ : ∃ Y, Y = X / 10 := ⟨_, rfl⟩
       have t1 : (X : Int).tmod 10 = (d : Int) := by rw [Int.tmod_eq_emod_of_nonneg (by omega)]; omega
       have t2 : (X : Int).tdiv 10 = (Y : Int) := by rw [Int.tdiv_eq_ediv_of_nonneg (by omega)]; omega
       have w1a : IntKind.u64.wrap (d : Int) = (d : Int) := IntWalk.u64_in _ (by omega)
       have w1b : IntKind.u64.wrap (Y : Int) = (Y : Int) := IntWalk.u64_in _ (by omega)
       obtain ⟨E, hE⟩ : ∃ E, E = 48 + d := ⟨_, rfl⟩
       have w1c : (48 : Int) + (d : Int) = (E : Int) := by omega
       have w1d : IntKind.u64.wrap (E : Int) = (E : Int) := IntWalk.u64_in _ (by omega)
       have w1e : (E : Int) % 256 = (E : Int) := by omega
       have hw1 : IntKind.i64.wrap ((j : Int) + 1) = ((j + 1 : Nat) : Int) := by rw [IntWalk.i64_in _ (by omega)]; omega
       have HPU : Hid (TxAt N (9 * t + (j + 1)) (zz ++ [E]) ∧ Y = R / 10 ^ (j + 1)) := ⟨by rw [hE]; show TxAt N (9 * t + j + 1) _; exact tx_push HTZ.out (by rw [hdd, hd]), by rw [hYY, hX2]⟩
       have hj10 : (j : Int) < 9 := by omega
       rw [← hX]
       clear hX hXR hd hX2 hdd hYY hE HTZ
       go_wp2_with (at_builtin; (refine wpList_append_own _ rfl _ _ 151 rfl w1.heap.size 5 i1 (.int .u8 0) 1 1 Tryz.underlying151 hj hy0 hy1 hy2 rfl (by decide) _ _ _ rfl (World.ownsRow.alloc HOZ3.out _) ⟨wr.heap.size, 0, none⟩ 1 1 [.int .u8 (E : Nat)] rfl rfl (by intro j z hj; match j with | 0 => (obtain rfl : z = .int .u8 (E : Nat) := by simpa using hj.symm); exact cell_of_row _ _ _ _ _ _ (heap_alloc_new _ _) | j + 1 => simp at hj) (by intro z hz; simp at hz; subst hz; rfl) (by unfold maxLen; omega) (by omega) (by have := HSJ.out; simp at this ⊢; omega) ?_; intro v' w4 hown hgrow _; have HOZ4 : Hid (w4.ownsRow w1.heap.size 5 1 v' (9 * t + (j + 1)) (byn (zz ++ [E]))) := (by rw [← byn_push]; exact hown); have HOR4 : Hid (w4.ownsRow w.heap.size 149 1 (.slice (some ⟨g, 0, none⟩) m2 cp) m2 (wds (us.take m2))) := World.ownsRow.kept (World.ownsRow.alloc HOR3.out _) hgrow (.inr fun e => by have := (World.ownsRow.lt HOZ3.out g e.symm).1; have := HG.out.1; omega); have HBJ2 : Hid (Below w.heap.size w w4) := (HBJ.out.alloc HBJ.out.size _).grown hgrow (by have := HBJ.out.size; simp at this ⊢; omega) (fun k hk => by have := (World.ownsRow.lt HOZ3.out k hk).1; have := HB1S.out; omega); have HSJ2 : Hid (w1.heap.size ≤ w4.heap.size) := (by have := hgrow.size; simp at this; have := HSJ.out; show _ ≤ _; omega); clear hown hgrow))
       go_roundw
       case rel => exact ⟨j + 1, zz ++ [E], ⟨by omega, by first | rfl | rw [hw1], by rw [← HPU.out.2]⟩, HOR4.out, HOZ4.out, HPU.out.1, HBJ2.out, HSJ2.out⟩
       case measure => simp [intOf]; omega
      ·obtain rfl : j = 9 := by omega
       have hj10 : ¬ ((9 : Nat) : Int) < 9 := by omega
       have HLN : Hid (lenV u4 = 9 * t + 9) := own_lenV HOZ3.out
       go_wp2
       go_roundw
       case rel => exact ⟨t + 1, m2, us.take m2, zz, rfl, ⟨⟨HOR3.out, HRV.out.1, HRV.out.2.1, HRV.out.2.2⟩, ⟨HOZ3.out, HTZ.out⟩, HBJ.out, HSJ.out⟩⟩
       case measure =>
        rw [HLN.out]
        show bb + 9 - (9 * t + 9) < bb + 9 - lenV (.slice oa (9 * t) oc)
        show bb + 9 - (9 * t + 9) < bb + 9 - 9 * t
        omega
  ·obtain rfl : n = 0 := by omega
   have hy0' : ys = [] := List.eq_nil_of_length_eq_zero hyl
   rw [hy0', lval_nil] at hb4
   have hNt : N < 10 ^ (9 * t) := by
    rcases Nat.div_eq_zero_iff.1 hb4.symm with h | h
    ·exact absurd h (Nat.pos_iff_ne_zero.1 (Nat.pow_pos (by decide)))
    ·exact h
   have ht0 : 0 < 9 * t := by
    refine Nat.pos_of_ne_zero fun e => ?_
    rw [e] at hNt
    omega
   obtain ⟨go, oc', heq, ho3, ho4, ho5, ho6⟩ := own_someT ho1 ht0
   cases heq
   have HOZ : Hid (wr.ownsRow w1.heap.size 5 1 (.slice (some ⟨go, 0, none⟩) (9 * t) oc) (9 * t) (byn zs)) := ho1
   have HTZ : Hid (TxAt N (9 * t) zs) := ho2
   have HBL : Hid (Below w.heap.size w wr) := hbl
   have HGO : Hid (w1.heap.size ≤ go ∧ oc ≤ 9223372036854775807) := ⟨ho3, ho6⟩
   have HZL : Hid (zs.length = 9 * t) := ho2.1
   have hoc : oc ≤ 9223372036854775807 := ho6
   obtain ⟨L, hL⟩ : ∃ L, L = 9 * t := ⟨_, rfl⟩
   rw [← hL] at HOZ HTZ HZL h9 hNt ht0 ho5 ⊢
   have HN0 : Hid (0 < N) := h0
   clear hb1 hb2 hb3 hb4 ho1 ho2 ho3 ho4 ho6 hbl hsz hyl hy0' HTX HO1 HB1 hn HXS hL
   go_wp2_with fail
   go_loopw [4] (fun ov wq => ∃ k : Nat, k ≤ L ∧ ov = .slice (some ⟨go, 0, none⟩) k oc ∧ TxAt N k (zs.take k) ∧ N < 10 ^ k ∧ wq = wr) (fun ov _ => lenV ov)
   case atStart => exact ⟨L, Nat.le_refl _, rfl, by rw [← HZL.out, List.take_length, HZL.out]; exact HTZ.out, hNt, rfl⟩
   case round =>
    rename_i wo
    obtain ⟨k, hk, rfl, htk, hNk, rfl⟩ := hrel
    have hk0 : 0 < k := by
     refine Nat.pos_of_ne_zero fun e => ?_
     rw [e] at hNk
     have := HN0.out
     omega
    obtain ⟨j, rfl⟩ : ∃ j, k = j + 1 := ⟨k - 1, by omega⟩
    have hc1 := World.ownsRow.cellAt HOZ.out j (by omega)
    rw [byn_get (by have := HZL.out; omega)] at hc1
    have HTK : Hid (TxAt N (j + 1) (zs.take (j + 1)) ∧ N < 10 ^ (j + 1)) := ⟨htk, hNk⟩
    have hzj : (zs.take (j + 1)).getD j 0 = zs.getD j 0 := by
     rw [List.getD_eq_getElem?_getD, List.getElem?_take, if_pos (by omega), ← List.getD_eq_getElem?_getD]
    have hd := htk.2 j (by omega)
    rw [hzj] at hd
    have hdl := dg_lt N j
    obtain ⟨z, hz⟩ : ∃ z, z = zs.getD j 0 := ⟨_, rfl⟩
    rw [← hz] at hc1 hd hzj
    have hw1 : IntKind.i64.wrap (((j + 1 : Nat) : Int) - 1) = (j : Int) := by rw [IntWalk.i64_in _ (by omega)]; omega
    have hj0 : (0 : Int) < ((j + 1 : Nat) : Int) := by omega
    have HZJ : Hid ((zs.take (j + 1)).getD j 0 = z) := hzj
    clear htk hNk hz hNt hzj
    by_cases h48 : z = 48
    ·subst h48
     have HND : Hid (TxAt N j (zs.take j) ∧ N < 10 ^ j) := by
      obtain ⟨a1, a2⟩ := tx_drop HTK.out.1 HTK.out.2 HZJ.out
      rw [List.take_take, Nat.min_eq_left (by omega)] at a1
      exact ⟨a1, a2⟩
     have hc1 : wr.cell? ⟨go, j, none⟩ = some (.int .u8 48) := hc1
     clear hd hdl HTK HZJ
     go_wp2
     go_roundw
     case rel => exact ⟨j, by omega, by first | rfl | rw [hw1], HND.out.1, HND.out.2, by first | rfl | trivial⟩
     case measure => show j < j + 1; omega
    ·have hbe := tx_bare HTK.out.1 HTK.out.2 (.inr (by rw [Nat.add_sub_cancel, HZJ.out]; exact h48))
     have HBE : Hid (bareD N = padK (j + 1) N) := hbe
     have hro := ownsRow_take HOZ.out hk
     rw [byn_take] at hro
     obtain ⟨xs, hxs⟩ : ∃ xs, xs = zs.take (j + 1) := ⟨_, rfl⟩
     rw [← hxs] at hro HTK
     have HRO : Hid (wr.ownsRow w1.heap.size 5 1 (.slice (some ⟨go, 0, none⟩) (j + 1) oc) (j + 1) (byn xs)) := hro
     have HXL : Hid (xs.length = j + 1) := HTK.out.1.1
     have hz48 : ((z : Int) == 48) = false := by rw [beq_eq_false_iff_ne]; omega
     have hgw : w.heap.size ≤ go := Nat.le_trans HB1S.out HGO.out.1
     obtain ⟨H, hH⟩ : ∃ H, H = (j + 1) / 2 := ⟨_, rfl⟩
     have t1 : ((j + 1 : Nat) : Int).tdiv 2 = (H : Int) := by rw [Int.tdiv_eq_ediv_of_nonneg (by omega)]; omega
     have t2 : IntKind.i64.wrap (H : Int) = (H : Int) := IntWalk.i64_in _ (by omega)
     clear hd hdl hbe hro hxs HOZ HZJ
     go_wp2_with fail
     clear hc1 hz48
     go_loopw [8] (fun iv wq => ∃ (i : Nat) (us : List Nat), (i ≤ H ∧ iv = .int .i64 (i : Nat)) ∧ RevAt xs us i ∧ wq.ownsRow w1.heap.size 5 1 (.slice (some ⟨go, 0, none⟩) (j + 1) oc) (j + 1) (byn us) ∧ Below w.heap.size w wq) (fun iv _ => H - (intOf iv).toNat)
     case atStart => exact ⟨0, xs, ⟨Nat.zero_le _, by first | rfl | go_num⟩, rev_start xs, HRO.out, HBL.out⟩
     case round =>
      rename_i wz
      obtain ⟨i, us, ⟨hi, rfl⟩, hrv, hru, hbu⟩ := hrel
      have hul : us.length = j + 1 := by rw [hrv.1]; exact HXL.out
      by_cases hiH : i < H
      ·obtain ⟨q, hq⟩ : ∃ q, q = j - i := ⟨_, rfl⟩
       obtain ⟨u, hu⟩ : ∃ u, u = us.getD i 0 := ⟨_, rfl⟩
       obtain ⟨v, hv⟩ : ∃ v, v = us.getD q 0 := ⟨_, rfl⟩
       have hql : xs.length - 1 - i = q := by have := HXL.out; omega
       have hst := rev_step (u := u) (v := v) hrv (by have := HXL.out; omega) hu (by rw [hql]; exact hv)
       rw [hql] at hst
       have c1 := World.ownsRow.cellAt hru i (by omega)
       have c2 := World.ownsRow.cellAt hru q (by omega)
       rw [byn_get (by omega), ← hu] at c1
       rw [byn_get (by omega), ← hv] at c2
       have f1 := World.ownsRow.frozenAt hru i
       have f2 := World.ownsRow.frozenAt hru q
       have s1 := (World.ownsRow.stored hru i (.int .u8 (v : Nat))).1
       rw [byn_set] at s1
       have s2 := (World.ownsRow.stored s1 q (.int .u8 (u : Nat))).1
       rw [byn_set] at s2
       have HS2 : Hid _ := s2
       have HST : Hid (RevAt xs ((us.set i v).set q u) (i + 1)) := hst
       have HBS : Hid (Below w.heap.size w ((wr.setCell ⟨go, i, none⟩ (.int .u8 (v : Nat))).setCell ⟨go, q, none⟩ (.int .u8 (u : Nat)))) := (hbu.setCell hgw _).setCell hgw _
       have k1 : (i : Int) < ((j + 1 : Nat) : Int) := by omega
       have k2 : (q : Int) < ((j + 1 : Nat) : Int) := by omega
       have k3 : (0 : Int) ≤ (q : Int) := by omega
       have k4 : (i : Int) < (H : Int) := by omega
       have w2 : IntKind.i64.wrap ((j : Int) - (i : Int)) = (q : Int) := by rw [IntWalk.i64_in _ (by omega)]; omega
       have w3 : IntKind.i64.wrap ((i : Int) + 1) = ((i + 1 : Nat) : Int) := by rw [IntWalk.i64_in _ (by omega)]; omega
       have n1 : ¬ i = q := by omega
       have n2 : ¬ q = i := by omega
       clear hrv hru hbu hul hq hu hv hql hst s1 s2 HRO HTK HBE HXL
       go_wp2_with fail
       go_region
       go_wp2
       go_roundw
       case rel => exact ⟨i + 1, _, ⟨by omega, by first | rfl | rw [w3]⟩, HST.out, World.ownsRow.drew HS2.out, HBS.out.drew⟩
       case measure => simp [intOf]; omega
      ·have k4 : ¬ (i : Int) < (H : Int) := by omega
       have hby : ∀ p, p < j + 1 → us.getD p 0 < 256 := fun p hp => by
        rw [hrv.2 p (by have := HXL.out; omega)]
        have dl := fun q => dg_lt N q
        split
        ·rw [HTK.out.1.2 _ (by have := HXL.out; omega)]
         have := dl (xs.length - 1 - p)
         omega
        ·rw [HTK.out.1.2 p hp]
         have := dl p
         omega
       have hcv := byn_text hru hby
       rw [rev_text HTK.out.1 hrv (by omega) HBE.out] at hcv
       have HBU : Hid (Below w.heap.size w wr) := hbu
       clear hrv hru hbu hul hby
       go_wp2
       go_ret
       exact ⟨rfl, HBU.out⟩
theorem left_9 (v : Value) (M n : Nat) (w : World) (h : Num .u32 4294967296 w v M) {bb : Nat} (hM : M < 2 ^ bb) (hbb : bb ≤ 4294967296) (h1 : n ≤ 100000) : Calls Tryz.prog 55 #[v, .int .i64 (n : Nat)] w (NatQ (M * 2 ^ n) w) := by
 have hq : 32 * (n / 32) + n % 32 = n := by omega
 have := nleft_any v M (n / 32) (n % 32) (n : Nat) w h (by omega) (Nat.mod_lt _ (by decide)) (by omega) hM hbb
 rw [hq] at this
 exact this
set_option maxHeartbeats 4000000 in
theorem decof3_v (b : Nat) (hb : W64 b) (w : World) : Calls Tryz.prog 17 #[.int .u64 (b : Nat)] w (DcQ (ofD b) (ofX b) w) := by
 have HS : Hid (∀ W, Calls Tryz.prog 53 #[.int .u64 b] W fun e w' => e = .returned (.tuple #[.bool (spS b), .int .u64 (spM b), .int .i64 (spE b), .int .i64 (spX b)]) ∧ W = w') := fun W => ref_split b W hb
 obtain ⟨D, hD⟩ : ∃ D, D = ofD b := ⟨_, rfl⟩
 obtain ⟨X, hX⟩ : ∃ X, X = ofX b := ⟨_, rfl⟩
 rw [← hD, ← hX]
 have HB0 : Hid (Below w.heap.size w (w.alloc (.cells #[.bool false, .string ⟨#[]⟩, .int .i64 0] 35))) := (Below.refl _ _).alloc (Nat.le_refl _) _
 have HQ0 : Hid _ := new_blk w (.cells #[.bool false, .string ⟨#[]⟩, .int .i64 0] 35)
 have HSZ : Hid (w.heap.size < (w.alloc (.cells #[.bool false, .string ⟨#[]⟩, .int .i64 0] 35)).heap.size) := by show _ < _; simp
 obtain ⟨k1, k2, k3⟩ := sp_bd b
 by_cases hx : spX b = 0
 ·by_cases hm : spM b = 0
  ·have hN : ofN b = 0 := by unfold ofN; rw [hm]; split <;> simp
   have hd : D = Dc.none ∧ X = 0 := by
    rw [hD, hX]
    unfold ofD ofX
    rw [if_pos hx, if_pos hx, hN]
    exact ⟨rfl, rfl⟩
   obtain ⟨rfl, rfl⟩ := hd
   rw [hx, hm] at HS
   generalize spE b = E at HS
   generalize spS b = S at HS
   clear hD hX hx hm hN k1 k2 k3
   go_enter Tryz.func17, Tryz.ntmps17
   go_wp2_with fail
   refine (HS.out _).mono ?_
   rintro e w1 ⟨rfl, rfl⟩
   obtain ⟨f0, c0, f1, c1, f2, c2, r3⟩ := rw3 HQ0.out
   clear r3
   go_wp2
   exact dc_end rfl rfl rfl HQ0.out rfl rfl HB0.out
  ·have hfin : finB b = true := of_fin hx
   have hX0 : X = 0 := by rw [hX]; exact of_room hfin
   have hmx : madeX (ofN b) (ofE b) = 0 := by
    have := of_room hfin
    unfold ofX at this
    rwa [if_pos hx] at this
   have hDM : D = ⟨madeS (spS b) (ofN b) (ofE b), madeL (ofN b) (ofE b), madeE (ofN b) (ofE b)⟩ := by rw [hD]; unfold ofD; rw [if_pos hx]
   have HMD : Hid (∀ W N e, N = ofN b → e = ofE b → Calls Tryz.prog 58 #[.bool (spS b), .string (bs (bareD N)), .int .i64 e] W fun en w' => en = .returned (.tuple #[.agg #[.bool D.neg, .string (bs D.s), .int .i64 D.e], .bool true]) ∧ Below W.heap.size W w') := fun W N e h1 h2 => by
    have hl : (bareD N).length ≤ 1100 := by
     have := bare_len_le N dP (by rw [h1]; exact ofN_pow b)
     have := dP_eq
     omega
    have he : -1000000 ≤ e ∧ e ≤ 1000000 := by
     rw [h2]; unfold ofE; split <;> omega
    have := rmade3_v (spS b) (bs (bareD N)) e W (bare_all _) (by show (bareD N).length ≤ _; omega) he
    refine this.mono ?_
    rintro en w' ⟨d, ok, rfl, g1, g2, hb⟩
    rw [bl_bs, dval_bare, h1, h2] at g1 g2
    cases ok
    ·exact absurd hmx (g2 rfl)
    ·rw [(g1 rfl).1, ← hDM]
     exact ⟨rfl, hb⟩
   have HTX : Hid (∀ W v N, N = ofN b → Num .u32 4294967296 W v N → Calls Tryz.prog 59 #[v] W fun e w' => e = .returned (.string (bs (bareD N))) ∧ Below W.heap.size W w') := fun W v N h1 hv => by
    have hpos : 0 < N := by
     rw [h1]; unfold ofN
     split
     ·exact Nat.mul_pos (by omega) (Nat.pow_pos (by decide))
     ·exact Nat.mul_pos (by omega) (Nat.pow_pos (by decide))
    exact ntext_v v N W hv (bb := 4 * dP + 1) (by
     rw [h1]
     exact Nat.lt_trans (ofN_pow b) (ten_lt2 dP)) (by have := dP_eq; omega) hpos
   have HE1 : Hid (∀ n : Nat, spE b = n → spM b * 2 ^ n = ofN b ∧ (0 : Int) = ofE b) := fun n h => by
    unfold ofN ofE; rw [h, if_pos (by omega), if_pos (by omega)]; exact ⟨rfl, rfl⟩
   have HE2 : Hid (∀ n : Nat, 0 < n → spE b = -(n : Int) → spM b * 5 ^ n = ofN b ∧ -(n : Int) = ofE b) := fun n h0 h => by
    unfold ofN ofE; rw [h, if_neg (by omega), if_neg (by omega)]; exact ⟨by congr 2; omega, rfl⟩
   rw [hx] at HS
   generalize spM b = m at *
   generalize spE b = E at *
   generalize spS b = S at *
   clear hD hX hx hDM hmx hfin
   subst hX0
   have HOF : Hid (∀ W, Calls Tryz.prog 54 #[.int .u64 (m : Nat)] W (NatQ m W)) := fun W => of_any m W (by omega)
   have hm0 : ((m : Int) == 0) = false := by rw [beq_eq_false_iff_ne]; omega
   by_cases hE : 0 ≤ E
   ·obtain ⟨n, rfl⟩ : ∃ n : Nat, E = n := ⟨E.toNat, by omega⟩
    have HLF : Hid (∀ W v, Num .u32 4294967296 W v m → Calls Tryz.prog 55 #[v, .int .i64 (n : Nat)] W (NatQ (m * 2 ^ n) W)) := fun W v hv => left_9 v m n W hv (bb := 53) (by omega) (by decide) (by omega)
    obtain ⟨e1, e2⟩ := HE1.out n rfl
    have HTX1 : Hid (∀ W v, Num .u32 4294967296 W v (m * 2 ^ n) → Calls Tryz.prog 59 #[v] W fun e w' => e = .returned (.string (bs (bareD (m * 2 ^ n)))) ∧ Below W.heap.size W w') := fun W v hv => HTX.out W v _ e1 hv
    have HMD1 : Hid (∀ W, Calls Tryz.prog 58 #[.bool S, .string (bs (bareD (m * 2 ^ n))), .int .i64 0] W fun en w' => en = .returned (.tuple #[.agg #[.bool D.neg, .string (bs D.s), .int .i64 D.e], .bool true]) ∧ Below W.heap.size W w') := fun W => HMD.out W _ 0 e1 e2
    clear HTX HMD HE1 HE2 e1 e2
    go_enter Tryz.func17, Tryz.ntmps17
    go_wp2_with fail
    refine (HS.out _).mono ?_
    rintro e w1 ⟨rfl, rfl⟩
    go_wp2_with fail
    refine (HOF.out _).mono ?_
    rintro e w2 ⟨v, rfl, hv, hb2⟩
    have HV : Hid (Num .u32 4294967296 w2 v m) := hv
    have HB2 : Hid (Below (w.alloc (.cells #[.bool false, .string ⟨#[]⟩, .int .i64 0] 35)).heap.size (w.alloc (.cells #[.bool false, .string ⟨#[]⟩, .int .i64 0] 35)) w2) := hb2
    clear hv hb2 HS HOF
    go_wp2_with fail
    refine (HLF.out _ _ HV.out).mono ?_
    rintro e w3 ⟨v3, rfl, hv, hb3⟩
    have HV3 : Hid (Num .u32 4294967296 w3 v3 (m * 2 ^ n)) := hv
    have HB3 : Hid (Below (w.alloc (.cells #[.bool false, .string ⟨#[]⟩, .int .i64 0] 35)).heap.size (w.alloc (.cells #[.bool false, .string ⟨#[]⟩, .int .i64 0] 35)) w3) := HB2.out.thru hb3
    clear hv hb3 HB2 HV HLF
    go_wp2_with fail
    refine (HTX1.out _ _ HV3.out).mono ?_
    rintro e w4 ⟨rfl, hb4⟩
    have HB4 : Hid (Below (w.alloc (.cells #[.bool false, .string ⟨#[]⟩, .int .i64 0] 35)).heap.size (w.alloc (.cells #[.bool false, .string ⟨#[]⟩, .int .i64 0] 35)) w4) := HB3.out.thru hb4
    clear hb4 HB3 HV3 HTX1
    go_wp2_with fail
    refine (HMD1.out _).mono ?_
    rintro e w5 ⟨rfl, hb5⟩
    have HB5 : Hid (Below (w.alloc (.cells #[.bool false, .string ⟨#[]⟩, .int .i64 0] 35)).heap.size (w.alloc (.cells #[.bool false, .string ⟨#[]⟩, .int .i64 0] 35)) w5) := HB4.out.thru hb5
    have HBW : Hid (Below w.heap.size w w5) := HB0.out.trans (HB5.out.mono (Nat.le_of_lt HSZ.out))
    have HQ1 : Hid _ := HB5.out.blk HQ0.out HSZ.out
    have HQ2 : Hid _ := ((Below.refl w5.heap.size w5).alloc (Nat.le_refl _) (.cells #[.bool D.neg, .string (bs D.s), .int .i64 D.e] 35)).blk HQ1.out (blk_lt HQ1.out)
    have HK5 : Hid (Kept _ (w5.alloc (.cells #[.bool D.neg, .string (bs D.s), .int .i64 D.e] 35))) := (Kept.nil w5).dec D
    obtain ⟨a0, a1, a2⟩ := HK5.out.decs (d := D) (.head _)
    obtain ⟨f0, c0, f1, c1, f2, c2, r3⟩ := rw3 HQ2.out
    have HR : Hid _ := r3
    clear hb5 r3 HB4 HMD1
    go_wp2
    exact dc_end rfl rfl rfl (HR.out _ _ _) rfl rfl (below_row3 (HBW.out.alloc HBW.out.size _) (Nat.le_refl _) _ _ _)
   ·obtain ⟨n, rfl⟩ : ∃ n : Nat, E = -(n : Int) := ⟨(-E).toNat, by omega⟩
    have hn0 : 0 < n := by omega
    have hw1 : IntKind.i64.wrap (- -(n : Int)) = (n : Int) := by rw [IntWalk.i64_in _ (by omega)]; omega
    have HP5 : Hid (∀ W, Calls Tryz.prog 57 #[.int .i64 (n : Nat)] W (NatQ (5 ^ n) W)) := fun W => npow5_v n W (by omega)
    have HML : Hid (∀ W x y, Num .u32 4294967296 W x m → Num .u32 4294967296 W y (5 ^ n) → Calls Tryz.prog 56 #[x, y] W (NatQ (m * 5 ^ n) W)) := fun W x y hx hy => nmul_any x y m (5 ^ n) W hx hy (bb := 4 * n + 64) (Nat.lt_of_lt_of_le (show m < 2 ^ 64 by omega) (Nat.pow_le_pow_right (by decide) (by omega))) (Nat.lt_of_lt_of_le (five_lt2 n) (Nat.pow_le_pow_right (by decide) (by omega))) (by omega)
    obtain ⟨e1, e2⟩ := HE2.out n hn0 rfl
    have HTX1 : Hid (∀ W v, Num .u32 4294967296 W v (m * 5 ^ n) → Calls Tryz.prog 59 #[v] W fun e w' => e = .returned (.string (bs (bareD (m * 5 ^ n)))) ∧ Below W.heap.size W w') := fun W v hv => HTX.out W v _ e1 hv
    have HMD1 : Hid (∀ W, Calls Tryz.prog 58 #[.bool S, .string (bs (bareD (m * 5 ^ n))), .int .i64 (-(n : Int))] W fun en w' => en = .returned (.tuple #[.agg #[.bool D.neg, .string (bs D.s), .int .i64 D.e], .bool true]) ∧ Below W.heap.size W w') := fun W => HMD.out W _ _ e1 e2
    clear HTX HMD HE1 HE2 e1 e2
    go_enter Tryz.func17, Tryz.ntmps17
    go_wp2_with fail
    refine (HS.out _).mono ?_
    rintro e w1 ⟨rfl, rfl⟩
    go_wp2_with fail
    refine (HOF.out _).mono ?_
    rintro e w2 ⟨v, rfl, hv, hb2⟩
    have HV : Hid (Num .u32 4294967296 w2 v m) := hv
    have HB2 : Hid (Below (w.alloc (.cells #[.bool false, .string ⟨#[]⟩, .int .i64 0] 35)).heap.size (w.alloc (.cells #[.bool false, .string ⟨#[]⟩, .int .i64 0] 35)) w2) := hb2
    clear hv hb2 HS HOF
    go_wp2_with fail
    refine (HP5.out _).mono ?_
    rintro e wp ⟨vp, rfl, hv, hbp⟩
    have HVP : Hid (Num .u32 4294967296 wp vp (5 ^ n)) := hv
    have HVM : Hid (Num .u32 4294967296 wp v m) := HV.out.below (Nat.le_refl _) hbp
    have HBP : Hid (Below (w.alloc (.cells #[.bool false, .string ⟨#[]⟩, .int .i64 0] 35)).heap.size (w.alloc (.cells #[.bool false, .string ⟨#[]⟩, .int .i64 0] 35)) wp) := HB2.out.thru hbp
    clear hv hbp HB2 HV HP5
    go_wp2_with fail
    refine (HML.out _ _ _ HVM.out HVP.out).mono ?_
    rintro e w3 ⟨v3, rfl, hv, hb3⟩
    have HV3 : Hid (Num .u32 4294967296 w3 v3 (m * 5 ^ n)) := hv
    have HB3 : Hid (Below (w.alloc (.cells #[.bool false, .string ⟨#[]⟩, .int .i64 0] 35)).heap.size (w.alloc (.cells #[.bool false, .string ⟨#[]⟩, .int .i64 0] 35)) w3) := HBP.out.thru hb3
    clear hv hb3 HBP HVP HVM HML
    go_wp2_with fail
    refine (HTX1.out _ _ HV3.out).mono ?_
    rintro e w4 ⟨rfl, hb4⟩
    have HB4 : Hid (Below (w.alloc (.cells #[.bool false, .string ⟨#[]⟩, .int .i64 0] 35)).heap.size (w.alloc (.cells #[.bool false, .string ⟨#[]⟩, .int .i64 0] 35)) w4) := HB3.out.thru hb4
    clear hb4 HB3 HV3 HTX1
    go_wp2_with fail
    refine (HMD1.out _).mono ?_
    rintro e w5 ⟨rfl, hb5⟩
    have HB5 : Hid (Below (w.alloc (.cells #[.bool false, .string ⟨#[]⟩, .int .i64 0] 35)).heap.size (w.alloc (.cells #[.bool false, .string ⟨#[]⟩, .int .i64 0] 35)) w5) := HB4.out.thru hb5
    have HBW : Hid (Below w.heap.size w w5) := HB0.out.trans (HB5.out.mono (Nat.le_of_lt HSZ.out))
    have HQ1 : Hid _ := HB5.out.blk HQ0.out HSZ.out
    have HQ2 : Hid _ := ((Below.refl w5.heap.size w5).alloc (Nat.le_refl _) (.cells #[.bool D.neg, .string (bs D.s), .int .i64 D.e] 35)).blk HQ1.out (blk_lt HQ1.out)
    have HK5 : Hid (Kept _ (w5.alloc (.cells #[.bool D.neg, .string (bs D.s), .int .i64 D.e] 35))) := (Kept.nil w5).dec D
    obtain ⟨a0, a1, a2⟩ := HK5.out.decs (d := D) (.head _)
    obtain ⟨f0, c0, f1, c1, f2, c2, r3⟩ := rw3 HQ2.out
    have HR : Hid _ := r3
    clear hb5 r3 HB4 HMD1
    go_wp2
    exact dc_end rfl rfl rfl (HR.out _ _ _) rfl rfl (below_row3 (HBW.out.alloc HBW.out.size _) (Nat.le_refl _) _ _ _)
 ·have hx2 : spX b = 10 := by
   rcases spX_cases b with h | h
   ·exact absurd h hx
   ·exact h
  have hd : D = Dc.none ∧ X = 10 := by
   rw [hD, hX]
   unfold ofD ofX
   rw [if_neg hx, if_neg hx]
   exact ⟨rfl, rfl⟩
  obtain ⟨rfl, rfl⟩ := hd
  rw [hx2] at HS
  generalize spE b = E at HS
  generalize spM b = m at HS
  generalize spS b = S at HS
  clear hD hX hx hx2 k1 k2 k3
  go_enter Tryz.func17, Tryz.ntmps17
  go_wp2_with fail
  refine (HS.out _).mono ?_
  rintro e w1 ⟨rfl, rfl⟩
  obtain ⟨f0, c0, f1, c1, f2, c2, r3⟩ := rw3 HQ0.out
  clear r3
  go_wp2
  exact dc_end rfl rfl rfl HQ0.out rfl rfl HB0.out
set_option maxHeartbeats 4000000 in
theorem r7places_v (b : Nat) (n m : Int) (w : World) (hb : W64 b) :
  Calls Tryz.prog 14 #[.int .u64 (b : Nat), .int .i64 n, .int .i64 m] w fun e w' => e = .returned (.tuple #[.int .u64 ((tplA 15 b n m).1 : Nat), .int .i64 (tplA 15 b n m).2]) ∧ Below w.heap.size w w' := by
 obtain ⟨T, hT⟩ : ∃ T, T = tplA 15 b n m := ⟨_, rfl⟩
 rw [← hT]
 have HT : Hid (T = tplA 15 b n m) := hT
 clear hT
 have HFI : Hid (∀ W, Calls Tryz.prog 16 #[.int .u64 b] W fun e w' => e = .returned (.bool (finB b)) ∧ W = w') := fun W => ref_finite b W hb
 by_cases hr : -400 ≤ n ∧ n ≤ 400 ∧ 1 ≤ m ∧ m ≤ 6
 ·have g1 : ¬ n < -400 := by omega
  have g2 : ¬ 400 < n := by omega
  have g3 : ¬ m < 1 := by omega
  have g4 : ¬ 6 < m := by omega
  cases hf : finB b
  ·have ht := HT.out
   unfold tplA at ht
   rw [if_neg (fun h => h hr), if_pos hf] at ht
   subst ht
   rw [hf] at HFI
   clear HT hr hb hf
   go_enter Tryz.func14, Tryz.ntmps14
   go_wp2_with (go_at_call 16; with_reducible refine (HFI.out _).mono ?_; rintro e w' ⟨rfl, rfl⟩)
   go_ret2
   exact ⟨rfl, Below.refl _ _⟩
  ·obtain ⟨D, hD⟩ : ∃ D, D = ofD b := ⟨_, rfl⟩
   obtain ⟨F, hF⟩ : ∃ F, F = placesA D n m := ⟨_, rfl⟩
   have hdl : D.s.length ≤ 8192 := by rw [hD]; exact of_dlen b
   have H1 : Hid (Calls Tryz.prog 17 #[.int .u64 (b : Nat)] w (fun e w' => e = .returned (.tuple #[.agg #[.bool D.neg, .string (bs D.s), .int .i64 D.e], .int .i64 0]) ∧ Below w.heap.size w w')) := by rw [hD]; have := decof3_v b hb w; rw [of_room hf] at this; exact this
   have H2 : Hid (∀ W, Calls Tryz.prog 51 #[.agg #[.bool D.neg, .string (bs D.s), .int .i64 D.e], .int .i64 n, .int .i64 m] W (DcQ F.1 F.2 W)) := fun W => by rw [hF]; exact rplaces3_w D n m W (by omega)
   have HFL : F.1.s.length ≤ 8192 := by rw [hF, hD]; exact placesA_len (ofD_ok b)
   obtain ⟨R, hR⟩ : ∃ R, R = to64A F.1 1 := ⟨_, rfl⟩
   have H3 : Hid (∀ W, Calls Tryz.prog 52 #[.agg #[.bool F.1.neg, .string (bs F.1.s), .int .i64 F.1.e], .int .i64 1] W (RefQ .u64 R W)) := fun W => by rw [hR]; exact rto64_v F.1 1 W (by omega)
   have HX : Hid (F.2 = 0 ∧ R.err = 0 ∧ (F.1.s = [] → T = (sgnW b, 0)) ∧ (F.1.s ≠ [] → T = if R.ov = true then (0, 15) else (R.bits, 0))) := by
    obtain ⟨-, p1, -, -⟩ := places_of b (n := n) (m := m) (by omega) (by omega)
    obtain ⟨-, q2, -, -, q5, q6⟩ := tpl_doc hb hf (n := n) (m := m) (by omega) (by omega) (F := F.1) (x := F.2) (by rw [← hD, ← hF]) hR
    rw [← hD, ← hF] at p1
    have ht := HT.out
    unfold tplA at ht
    rw [if_neg (fun h => h hr), if_neg (by rw [hf]; decide), ← hD, ← hF, ← hR] at ht
    refine ⟨p1, q2, fun h => ?_, fun h => ?_⟩
    ·obtain ⟨o1, o2⟩ := q5 h
     rw [ht, o1, o2]; rfl
    ·rw [ht, q6 h]
   have HB : Hid (W64 b) := hb
   obtain ⟨F, fe⟩ := F
   obtain ⟨rb, ri, ro, ru, re⟩ := R
   unfold DcQ dcV at H2
   unfold RefQ at H3
   obtain ⟨h1, h2, -, -⟩ := HX.out
   dsimp only at h1 h2
   subst h1 h2
   have HSL : Hid (bits .and .u64 (b : Int) 9223372036854775808 = ((sgnW b : Nat) : Int)) := w_and_sign b hb
   rw [hf] at HFI
   clear hD hF hR HFL hdl HT hr hb hf
   go_enter Tryz.func14, Tryz.ntmps14
   go_wp2_with (go_at_call 16; with_reducible refine (HFI.out _).mono ?_; rintro e w' ⟨rfl, rfl⟩)
   refine H1.out.mono ?_
   rintro e w1 ⟨rfl, hb1⟩
   have HB1 : Hid (Below w.heap.size w (w1.alloc (.cells #[.bool D.neg, .string (bs D.s), .int .i64 D.e] 35))) := hb1.alloc hb1.size _
   have HK1 : Hid (Kept _ (w1.alloc (.cells #[.bool D.neg, .string (bs D.s), .int .i64 D.e] 35))) := (Kept.nil w1).dec D
   clear hb1 H1 HFI g1 g2 g3 g4
   obtain ⟨a0, a1, a2⟩ := HK1.out.decs (d := D) (.head _)
   go_wp2_with fail
   refine (H2.out _).mono ?_
   rintro e w2 ⟨rfl, hb2⟩
   have HB2 : Hid (Below w.heap.size w (w2.alloc (.cells #[.bool F.neg, .string (bs F.s), .int .i64 F.e] 35))) := (HB1.out.thru hb2).alloc (HB1.out.thru hb2).size _
   have HK2 : Hid (Kept _ (w2.alloc (.cells #[.bool F.neg, .string (bs F.s), .int .i64 F.e] 35))) := (Kept.nil w2).dec F
   clear hb2 HB1 HK1 a0 a1 a2 H2
   obtain ⟨a0, a1, a2⟩ := HK2.out.decs (d := F) (.head _)
   by_cases hs : F.s = []
   ·have he := emp_slice hs
    have ht := HX.out.2.2.1 hs
    have hsl := HSL.out
    subst ht
    clear HX hs
    go_wp2
    go_ret2
    exact ⟨rfl, HB2.out⟩
   ·have he := emp_not hs
    have ht := HX.out.2.2.2 hs
    have HT : Hid _ := ht
    clear HX hs ht
    go_wp2_with fail
    refine (H3.out _).mono ?_
    rintro e w3 ⟨rfl, hb3⟩
    have HB3 : Hid (Below w.heap.size w (w3.alloc (.cells #[.bool ri, .bool ro, .bool ru] 76))) := (HB2.out.thru hb3).alloc (HB2.out.thru hb3).size _
    clear hb3 HB2 HK2 a0 a1 a2 H3
    cases ro
    ·have ht := HT.out
     rw [if_neg (by decide)] at ht
     subst ht
     clear HT
     go_wp2
     go_ret2
     exact ⟨rfl, HB3.out⟩
    ·have ht := HT.out
     rw [if_pos rfl] at ht
     subst ht
     clear HT
     go_wp2
     go_ret2
     exact ⟨rfl, HB3.out⟩
 ·have ht := HT.out
  unfold tplA at ht
  rw [if_pos hr] at ht
  subst ht
  have hc : n < -400 ∨ (¬ n < -400 ∧ 400 < n) ∨ (¬ n < -400 ∧ ¬ 400 < n ∧ m < 1) ∨ (¬ n < -400 ∧ ¬ 400 < n ∧ ¬ m < 1 ∧ 6 < m) := by omega
  clear HT hb hr
  generalize finB b = fb at HFI
  rcases hc with g1 | ⟨g1, g2⟩ | ⟨g1, g2, g3⟩ | ⟨g1, g2, g3, g4⟩
  all_goals
   go_enter Tryz.func14, Tryz.ntmps14
   go_wp2_with (go_at_call 16; with_reducible refine (HFI.out _).mono ?_; rintro e w' ⟨rfl, rfl⟩)
   go_ret2
   exact ⟨rfl, Below.refl _ _⟩
set_option maxHeartbeats 4000000 in
theorem tablePlaces_walk (a : Nat) (n m : Int) (w : World) (ha : W64 a) (_ : -9223372036854775808 ≤ n) (_ : n ≤ 9223372036854775807) (_ : -9223372036854775808 ≤ m) (_ : m ≤ 9223372036854775807) (htab : Tab w) (hT : Tab9 w 1 totZ) (hQ : Tab9 w 2 quoZ) :
  Calls Tryz.prog 3 #[.int .u64 (a : Nat), .int .i64 n, .int .i64 m] w fun e w' => e = .returned (.bool true) ∧ Below w.heap.size w w' := by
 have HW : Hid (Calls Tryz.prog 11 #[] w fun e w' => e = .returned (.bool true) ∧ Below w.heap.size w w') := awake7_any w hT hQ
 obtain ⟨T, hTT⟩ : ∃ T, T = tplA 15 a n m := ⟨_, rfl⟩
 have H1 : Hid (∀ W, Below w.heap.size w W → Calls Tryz.prog 12 #[.float .f64 a, .int .i64 n, .int .i64 m] W fun e w' => e = .returned (.tuple #[.float .f64 T.1, .int .i64 T.2]) ∧ Below W.heap.size W w') := fun W hW => by rw [hTT]; exact tplaces_v a n m W ha (htab.below hW)
 have H2 : Hid (∀ W, Calls Tryz.prog 14 #[.int .u64 (a : Nat), .int .i64 n, .int .i64 m] W fun e w' => e = .returned (.tuple #[.int .u64 (T.1 : Nat), .int .i64 T.2]) ∧ Below W.heap.size W w') := fun W => by rw [hTT]; exact r7places_v a n m W ha
 have HIS : Hid (∀ x W, Calls Tryz.prog 15 #[.float .f64 x, .int .u64 (x : Nat)] W fun e w' => e = .returned (.bool true) ∧ W = w') := fun x W => by
  have := is7_any x x W
  rw [decide_eq_true rfl] at this
  exact this
 obtain ⟨t, x⟩ := T
 have e1 : ((x : Int) == x) = true := by simp
 clear hTT htab hT hQ
 go_enter Tryz.func3, Tryz.ntmps3
 go_wp2_with fail
 refine HW.out.mono ?_
 rintro e w1 ⟨rfl, hb1⟩
 have HB1 : Hid (Below w.heap.size w w1) := hb1
 clear hb1
 go_wp2_with fail
 refine (H1.out _ HB1.out).mono ?_
 rintro e w2 ⟨rfl, hb2⟩
 have HB2 : Hid (Below w.heap.size w w2) := HB1.out.thru hb2
 clear hb2 HB1
 go_wp2_with fail
 refine (H2.out _).mono ?_
 rintro e w3 ⟨rfl, hb3⟩
 have HB3 : Hid (Below w.heap.size w w3) := HB2.out.thru hb3
 clear hb3 HB2
 go_wp2_with (go_at_call 15; with_reducible refine (HIS.out _ _).mono ?_; rintro e w' ⟨rfl, rfl⟩)
 go_ret
 exact ⟨rfl, HB3.out⟩
end Go.Proofs.YtlbokicainimnaaGreatDoor
