/- Parts Wd, We of the proof, in one text. -/
import Derived.Test.YtpfnfhikhlceoaaGreatDoorQG
import Derived.Test.YtpfnfhikhlceoaaGreatDoorQE
import Derived.Test.YtpfnfhikhlceoaaGreatDoorQD
import Derived.BigRegion

/- Walks: wide's Low, Bits, Sign, compare. -/
namespace Go.Proofs.YtpfnfhikhlceoaaGreatDoor
open Go.RowKit

theorem norm_zero {B : Nat} {xs : List Nat} (hn : Norm xs) (hB : 0 < B) : lval B xs = 0 ↔ xs.length = 0 := by
  constructor
  · intro h
    rcases hn with hn | hn
    · exact hn
    · by_cases h0 : xs.length = 0
      · exact h0
      exfalso
      have h1 := lval_take_succ B xs (xs.length - 1) (by omega)
      rw [show xs.length - 1 + 1 = xs.length by omega, List.take_length, h] at h1
      have h2 : B ^ (xs.length - 1) * xs.getD (xs.length - 1) 0 = 0 := by omega
      rcases Nat.mul_eq_zero.mp h2 with h2 | h2
      · have := Nat.pow_pos (n := xs.length - 1) hB; omega
      · exact hn h2
  · intro h
    rw [List.eq_nil_of_length_eq_zero h]; rfl

theorem lval_mod {B : Nat} {xs : List Nat} (h : ∀ x ∈ xs, x < B) : lval B xs % B = xs.getD 0 0 := by
  cases xs with
  | nil => simp [lval]
  | cons x t => rw [lval_cons, Nat.add_mul_mod_self_left, Nat.mod_eq_of_lt (h x (by simp))]; rfl

theorem blen_top {s : Nat} {xs : List Nat} (hn : Norm xs) (h : ∀ x ∈ xs, x < 2 ^ s) (h0 : 0 < xs.length) : blen (lval (2 ^ s) xs) = s * (xs.length - 1) + blen (xs.getD (xs.length - 1) 0) := by
  have hlast : xs.getD (xs.length - 1) 0 ≠ 0 := by rcases hn with hn | hn; omega; exact hn
  have h1 := lval_take_succ (2 ^ s) xs (xs.length - 1) (by omega)
  rw [show xs.length - 1 + 1 = xs.length by omega, List.take_length] at h1
  have h2 := lval_lt (B := 2 ^ s) (xs.take (xs.length - 1)) fun x hx => h x (List.mem_of_mem_take hx)
  rw [List.length_take, Nat.min_eq_left (by omega)] at h2
  obtain ⟨b1, b2, b3⟩ := blen_pos hlast
  have e1 : (2 ^ s) ^ (xs.length - 1) = 2 ^ (s * (xs.length - 1)) := (Nat.pow_mul ..).symm
  rw [e1] at h1 h2
  have lo : 2 ^ (s * (xs.length - 1) + (blen (xs.getD (xs.length - 1) 0) - 1)) ≤ lval (2 ^ s) xs := by
    rw [Nat.pow_add, h1]
    have := Nat.mul_le_mul_left (2 ^ (s * (xs.length - 1))) b1
    omega
  have hi : lval (2 ^ s) xs < 2 ^ (s * (xs.length - 1) + blen (xs.getD (xs.length - 1) 0)) := by
    rw [Nat.pow_add, h1]
    have := Nat.mul_le_mul_left (2 ^ (s * (xs.length - 1))) (show xs.getD (xs.length - 1) 0 + 1 ≤ _ from b2)
    rw [Nat.mul_add] at this
    omega
  have := blen_le hi
  have := blen_ge lo
  omega

set_option maxRecDepth 100000 in
theorem sign_any (neg : Bool) (s : Value) (N : Nat) (w : World) (h : Num .u64 18446744073709551616 w s N) :
    Calls Tryz.prog 90 #[.agg #[.bool neg, s]] w fun e w' => e = .returned (.int .i64 (if N = 0 then 0 else if neg then -1 else 1)) ∧ Below w.heap.size w w' := by
  obtain ⟨xs, ⟨a, m, c, rfl, hm, hmc, hc, hx, hcell⟩, rfl, hnorm⟩ := h
  have hz := norm_zero (B := 18446744073709551616) hnorm (by decide)
  rw [hm] at hz
  clear hx hcell hc
  by_cases h0 : 0 < m
  · rw [if_neg (fun h => by rw [hz] at h; omega)]
    clear hz
    cases neg
    all_goals
      go_enter Tryz.func90, Tryz.ntmps90
      go_wp2
      go_ret
      exact ⟨rfl, (Below.refl _ _).alloc (Nat.le_refl _) _⟩
  · have : m = 0 := by omega
    rw [if_pos (hz.mpr this)]
    subst this
    clear hz
    go_enter Tryz.func90, Tryz.ntmps90
    go_wp2
    go_ret
    exact ⟨rfl, (Below.refl _ _).alloc (Nat.le_refl _) _⟩
end Go.Proofs.YtpfnfhikhlceoaaGreatDoor

/- Walks: wide's compare. -/
namespace Go.Proofs.YtpfnfhikhlceoaaGreatDoor
open Go.RowKit

theorem lval_split (B : Nat) (xs : List Nat) (i : Nat) (hi : i < xs.length) : lval B xs = lval B (xs.take i) + B ^ i * (xs.getD i 0 + B * lval B (xs.drop (i + 1))) := by
  conv => lhs; rw [← List.take_append_drop (i + 1) xs, lval_append]
  rw [lval_take_succ B xs i hi, List.length_take, Nat.min_eq_left (by omega), Nat.mul_add, Nat.pow_succ, Nat.mul_assoc]
  omega

theorem lval_less {B : Nat} {xs ys : List Nat} {i : Nat} (hl : xs.length = ys.length) (hi : i < xs.length) (hx : ∀ x ∈ xs, x < B) (hd : xs.drop (i + 1) = ys.drop (i + 1)) (h : xs.getD i 0 < ys.getD i 0) :
    lval B xs < lval B ys := by
  rw [lval_split B xs i hi, lval_split B ys i (by omega), hd]
  have h1 := lval_lt (B := B) (xs.take i) fun x h => hx x (List.mem_of_mem_take h)
  rw [List.length_take, Nat.min_eq_left (by omega)] at h1
  have h2 : B ^ i * (xs.getD i 0 + 1 + B * lval B (ys.drop (i + 1))) ≤ B ^ i * (ys.getD i 0 + B * lval B (ys.drop (i + 1))) := Nat.mul_le_mul_left _ (by omega)
  rw [show xs.getD i 0 + 1 + B * lval B (ys.drop (i + 1)) = (xs.getD i 0 + B * lval B (ys.drop (i + 1))) + 1 by omega, Nat.mul_add, Nat.mul_one] at h2
  omega

theorem lval_longer {B : Nat} {xs ys : List Nat} (hl : ys.length < xs.length) (hn : Norm xs) (hy : ∀ y ∈ ys, y < B) (hB : 0 < B) : lval B ys < lval B xs := by
  have h1 := lval_lt (B := B) ys hy
  have h2 := lval_take_succ B xs (xs.length - 1) (by omega)
  rw [show xs.length - 1 + 1 = xs.length by omega, List.take_length] at h2
  have hlast : xs.getD (xs.length - 1) 0 ≠ 0 := by rcases hn with hn | hn; omega; exact hn
  have h3 : B ^ ys.length ≤ B ^ (xs.length - 1) := Nat.pow_le_pow_right hB (by omega)
  have h4 := Nat.le_mul_of_pos_right (B ^ (xs.length - 1)) (show 0 < xs.getD (xs.length - 1) 0 by omega)
  omega

theorem drop_one {xs ys : List Nat} {i : Nat} (hl : xs.length = ys.length) (hi : i < xs.length) (hd : xs.drop (i + 1) = ys.drop (i + 1)) (h : xs.getD i 0 = ys.getD i 0) : xs.drop i = ys.drop i := by
  rw [List.drop_eq_getElem_cons hi, List.drop_eq_getElem_cons (by omega : i < ys.length), hd]
  congr 1
  simpa [List.getElem?_eq_getElem hi, List.getElem?_eq_getElem (show i < ys.length by omega)] using h

/-- What a comparison hands back. -/
def CmpQ (M N : Nat) (w : World) (e : Ending) (w' : World) : Prop := ∃ r : Int, e = .returned (.int .i64 r) ∧ (r < 0 ↔ M < N) ∧ (0 < r ↔ N < M) ∧ Below w.heap.size w w'

theorem CmpQ.mk {M N : Nat} {w w' : World} (r : Int) (h1 : r < 0 ↔ M < N) (h2 : 0 < r ↔ N < M) (hb : Below w.heap.size w w') : CmpQ M N w (.returned (.int .i64 r)) w' := ⟨r, rfl, h1, h2, hb⟩

set_option maxRecDepth 100000 in
theorem compare_any (s t : Value) (M N : Nat) (w : World) (h : Num .u64 18446744073709551616 w s M) (h' : Num .u64 18446744073709551616 w t N) :
    Calls Tryz.prog 93 #[s, t] w (CmpQ M N w) := by
  obtain ⟨xs, ⟨a, m, c, rfl, hm, hmc, hc, hx, hcell⟩, rfl, hnorm⟩ := h
  obtain ⟨ys, ⟨a', m', c', rfl, hm', hmc', hc', hy, hcell'⟩, rfl, hnorm'⟩ := h'
  have HX : Hid (∀ x ∈ xs, x < 18446744073709551616) := hx
  have HY : Hid (∀ x ∈ ys, x < 18446744073709551616) := hy
  clear hx hy
  by_cases hne : m = m'
  · subst hne
    clear hmc' hc'
    go_enter Tryz.func93, Tryz.ntmps93
    go_wp2
    go_loopw [5] (fun i wr => ∃ k : Nat, k ≤ m ∧ i = .int .i64 ((k : Int) - 1) ∧ Below w.heap.size w wr ∧ Hid (xs.drop k = ys.drop k)) (fun i _ => (intOf i + 1).toNat)
    case atStart =>
      refine ⟨m, Nat.le_refl _, rfl, Below.refl _ _, ?_⟩
      show xs.drop m = ys.drop m
      rw [List.drop_eq_nil_of_le (by omega), List.drop_eq_nil_of_le (by omega)]
    case round =>
      obtain ⟨k, hk, rfl, hbk, hd⟩ := hrel
      by_cases hk0 : k = 0
      · subst hk0
        have e : xs = ys := by simpa using hd.out
        go_wp2
        go_ret
        exact CmpQ.mk 0 (by rw [e]; omega) (by rw [e]; omega) hbk
      · obtain ⟨j, rfl⟩ : ∃ j, k = j + 1 := ⟨k - 1, by omega⟩
        obtain ⟨b, o, rfl, hb, hcc⟩ := hcell (by omega)
        obtain ⟨b', o', rfl, hb', hcc'⟩ := hcell' (by omega)
        have h1 := (hbk.cell (p := ⟨b, o + j, none⟩) hb).trans (hcc j (by omega))
        have h2 := (hbk.cell (p := ⟨b', o' + j, none⟩) hb').trans (hcc' j (by omega))
        obtain ⟨x, hxe⟩ : ∃ x, x = xs.getD j 0 := ⟨_, rfl⟩
        obtain ⟨y, hye⟩ : ∃ y, y = ys.getD j 0 := ⟨_, rfl⟩
        rw [← hxe] at h1
        rw [← hye] at h2
        have HXE : Hid (x = xs.getD j 0) := hxe
        have HYE : Hid (y = ys.getD j 0) := hye
        clear hcc hcc' hcell hcell' hxe hye
        have hlt : (j : Int) < m := by omega
        rcases Nat.lt_trichotomy x y with hxy | hxy | hxy
        · have hxy' : (x : Int) < y := by omega
          go_wp2
          go_region
          go_wp2
          go_ret
          have hl := lval_less (B := 18446744073709551616) (xs := xs) (ys := ys) (i := j) (by omega) (by omega) HX.out hd.out (by rw [← HXE.out, ← HYE.out]; exact hxy)
          exact CmpQ.mk (-1) (by omega) (by omega) hbk.drew
        · subst hxy
          go_wp2
          go_region
          go_wp2
          go_region
          go_wp2
          go_roundw
          case rel => exact ⟨j, by omega, by go_num, hbk.drew.drew, drop_one (by omega) (by omega) hd.out (by rw [← HXE.out, ← HYE.out])⟩
          case measure => simp [intOf]
        · have hxy' : (y : Int) < x := by omega
          have hxy2 : ¬ (x : Int) < y := by omega
          go_wp2
          go_region
          go_wp2
          go_region
          go_wp2
          go_ret
          have hl := lval_less (B := 18446744073709551616) (xs := ys) (ys := xs) (i := j) (by omega) (by omega) HY.out hd.out.symm (by rw [← HXE.out, ← HYE.out]; exact hxy)
          exact CmpQ.mk 1 (by omega) (by omega) hbk.drew.drew
  · go_enter Tryz.func93, Tryz.ntmps93
    go_wp2
    go_ret
    refine CmpQ.mk _ ?_ ?_ (Below.refl _ _)
    · constructor
      · intro h
        exact lval_longer (by omega) hnorm' HX.out (by decide)
      · intro h
        by_cases h2 : m' < m
        · have := lval_longer (B := 18446744073709551616) (by omega) hnorm HY.out (by decide); omega
        · omega
    · constructor
      · intro h
        exact lval_longer (by omega) hnorm HY.out (by decide)
      · intro h
        by_cases h2 : m < m'
        · have := lval_longer (B := 18446744073709551616) (by omega) hnorm' HX.out (by decide); omega
        · omega
end Go.Proofs.YtpfnfhikhlceoaaGreatDoor
