/- Parts Gq of the proof, in one text. -/
import Derived.Test.YtpfnfhikhlceoaaGreatDoorRS

/- Walks: agree; the law DecOf. -/
namespace Go.Proofs.YtpfnfhikhlceoaaGreatDoor
open Go.RowKit

theorem cell_lt {w : World} {p : Addr} {v : Value} (h : w.cell? p = some v) : p.block < w.heap.size := by
  rcases Nat.lt_or_ge p.block w.heap.size with g | g
  · exact g
  · unfold World.cell? at h
    rw [Array.getElem?_eq_none g] at h
    cases h
set_option maxRecDepth 100000 in
theorem agree_same (d : Dc) (x : Int) (w : World) : Calls Tryz.prog 18 #[.agg #[.bool d.neg, .string (bs d.s), .int .i64 d.e], .int .i64 x, .agg #[.bool d.neg, .string (bs d.s), .int .i64 d.e], .int .i64 x] w fun e w' => e = .returned (.bool true) ∧ Below w.heap.size w w' := by
  have HB : Hid (Below w.heap.size w ((w.alloc (.cells #[.bool d.neg, .string (bs d.s), .int .i64 d.e] 25)).alloc (.cells #[.bool d.neg, .string (bs d.s), .int .i64 d.e] 25))) := ((Below.refl _ _).alloc (Nat.le_refl _) _).alloc (by simp) _
  go_enter Tryz.func18, Tryz.ntmps18
  go_wp2
  go_ret
  exact ⟨rfl, HB.out⟩
theorem big_lt0 : 9007199254740992 * (5 ^ 179) ^ 6 < (10 ^ 59) ^ 13 := Nat.le_of_ble_eq_true (by kernel_rfl)
theorem big_lt {n k : Nat} (hn : n = 1074) (hk : k = 767) : 9007199254740992 * 5 ^ n < 10 ^ k := by
  have h := big_lt0
  rw [← Nat.pow_mul, ← Nat.pow_mul, show 179 * 6 = n by omega, show 59 * 13 = k by omega] at h
  exact h
theorem ofN_lt (b : Nat) {q : Nat} (hq : q = 767) : ofN b < 10 ^ q := by
  obtain ⟨k1, k2, k3⟩ := sp_bd b
  obtain ⟨t, ht⟩ : ∃ t, t = 1074 := ⟨_, rfl⟩
  have key : ∀ n k : Nat, n ≤ t → k ≤ 5 → spM b * k ^ n < 10 ^ q := fun n k hn hk => by
    refine Nat.lt_of_le_of_lt ?_ (big_lt ht hq)
    have h1 : k ^ n ≤ 5 ^ t := Nat.le_trans (Nat.pow_le_pow_left hk n) (Nat.pow_le_pow_right (by decide) hn)
    exact Nat.mul_le_mul (Nat.le_of_lt k3) h1
  unfold ofN
  split
  · exact key _ 2 (by omega) (by decide)
  · exact key _ 5 (by omega) (by decide)
theorem of_len (b : Nat) : (ofD b).s.length ≤ 767 := by
  unfold ofD
  by_cases h : spX b = 0
  · rw [if_pos h]
    show (madeL (ofN b) (ofE b)).length ≤ 767
    by_cases g : ofN b = 0 ∨ madeX (ofN b) (ofE b) ≠ 0
    · rw [(made_none (neg := false) g).2.1]; exact Nat.zero_le _
    · have h0 : 0 < ofN b := by omega
      rw [(made_some (neg := false) h0 (by omega)).2.1]
      have h1 := bare_len_le _ _ (ofN_lt b rfl)
      have h2 := bare_len_tz (ofN b) h0
      omega
  · rw [if_neg h]; exact Nat.zero_le _

set_option maxHeartbeats 2000000 in
set_option maxRecDepth 100000 in
theorem decOf_walk (a : Option Addr) (n cp : Nat) (zs : Nat → Nat) (w : World) (hn : n ≤ 9223372036854775807) (hz : ∀ i, i < n → W64 (zs i)) (hc : 0 < n → ∃ b o, a = some ⟨b, o, none⟩ ∧ ∀ i, i < n → w.cell? ⟨b, o + i, none⟩ = some (.int .u64 (zs i : Nat))) (htab : Tab w) :
    Calls Tryz.prog 4 #[.slice a n cp] w fun e w' => e = .returned (.bool true) ∧ Below w.heap.size w w' := by
  have HZ : Hid (∀ i, i < n → W64 (zs i)) := hz
  have HTAB : Hid (Tab w) := htab
  have KN : Hid (∀ W, Below w.heap.size w W → Calls Tryz.prog 14 #[] W fun e w' => e = .returned (.bool true) ∧ Below W.heap.size W w') := fun W hW => known_any W (HTAB.out.below hW)
  clear hz htab
  go_enter Tryz.func4, Tryz.ntmps4
  go_upto_region 2 with fail
  go_loopw [3] (fun v wr => ∃ i : Nat, i ≤ n ∧ v = .int .i64 (i : Nat) ∧ Below w.heap.size w wr) (fun v _ => n - (intOf v).toNat)
  case atStart => exact ⟨0, Nat.zero_le _, rfl, Below.refl _ _⟩
  case round =>
    obtain ⟨i, hi, rfl, hb⟩ := hrel
    have HB0 : Hid (Below w.heap.size w wr) := hb
    clear hb
    by_cases hin : i < n
    · obtain ⟨b, o, rfl, hcell⟩ := hc (by omega)
      obtain ⟨x, hx⟩ : ∃ x, x = zs i := ⟨_, rfl⟩
      have hxw : W64 x := by rw [hx]; exact HZ.out i hin
      have hci := hcell i hin
      rw [← hx] at hci
      have HC : Hid (∀ W, Below w.heap.size w W → W.cell? ⟨b, o + i, none⟩ = some (.int .u64 (x : Nat))) := fun W hW => (hW.cell (cell_lt hci)).trans hci
      obtain ⟨D, hD⟩ : ∃ D, D = ofD x := ⟨_, rfl⟩
      obtain ⟨X, hX⟩ : ∃ X, X = ofX x := ⟨_, rfl⟩
      have C1 : Hid (∀ W, Below w.heap.size w W → Calls Tryz.prog 15 #[.float .f64 x] W fun e w' => e = .returned (.tuple #[.agg #[.bool D.neg, .string (bs D.s), .int .i64 D.e], .int .i64 X]) ∧ Below W.heap.size W w') := fun W hW => by
        rw [hD, hX]; exact of_v x hxw W (HTAB.out.below hW)
      have C2 : Hid (∀ W, Calls Tryz.prog 17 #[.int .u64 x] W fun e w' => e = .returned (.tuple #[.agg #[.bool D.neg, .string (bs D.s), .int .i64 D.e], .int .i64 X]) ∧ Below W.heap.size W w') := fun W => by
        rw [hD, hX]; exact rof_v x hxw W
      have hlen : ¬ (767 : Int) < ((bs D.s).size : Int) := by
        have := of_len x
        rw [← hD] at this
        have e : (bs D.s).size = D.s.length := rfl
        omega
      have HL : Hid _ := hlen
      clear hx hci hcell hc hD hX hlen
      have c1 := HC.out _ HB0.out
      go_wp2_with fail
      refine (C1.out _ HB0.out).mono ?_
      rintro e v1 ⟨rfl, hb⟩
      have HK1 : Hid (Kept _ (v1.alloc (.cells #[.bool D.neg, .string (bs D.s), .int .i64 D.e] 25))) := (Kept.nil v1).dec D
      have HB1 : Hid (Below w.heap.size w (v1.alloc (.cells #[.bool D.neg, .string (bs D.s), .int .i64 D.e] 25))) := (HB0.out.thru hb).alloc (HB0.out.thru hb).size _
      clear hb c1 HB0
      have c1 := HC.out _ HB1.out
      go_wp2_with fail
      refine (C2.out _).mono ?_
      rintro e v2 ⟨rfl, hb⟩
      have HK2 : Hid (Kept _ (v2.alloc (.cells #[.bool D.neg, .string (bs D.s), .int .i64 D.e] 25))) := (HK1.out.below hb).dec D
      have HB2 : Hid (Below w.heap.size w (v2.alloc (.cells #[.bool D.neg, .string (bs D.s), .int .i64 D.e] 25))) := (HB1.out.thru hb).alloc (HB1.out.thru hb).size _
      clear hb c1 HB1 HK1
      obtain ⟨a0, a1, a2⟩ := HK2.out.decs (.tail _ (.head _))
      obtain ⟨b0, b1, b2⟩ := HK2.out.decs (.head _)
      go_wp2_with fail
      refine (agree_same D X _).mono ?_
      rintro e v3 ⟨rfl, hb⟩
      have HK3 : Hid (Kept _ v3) := HK2.out.below hb
      have HB3 : Hid (Below w.heap.size w v3) := HB2.out.thru hb
      clear hb HB2 HK2 a0 a1 a2 b0 b1 b2
      obtain ⟨a0, a1, a2⟩ := HK3.out.decs (.tail _ (.head _))
      have hl := HL.out
      go_wp2_with fail
      go_roundw
      case rel => exact ⟨i + 1, by omega, by go_num, HB3.out⟩
      case measure => simp [intOf]; omega
    · obtain rfl : i = n := by omega
      go_wp2_with fail
      refine (KN.out _ HB0.out).mono ?_
      rintro e v1 ⟨rfl, hb⟩
      have HBZ : Hid (Below w.heap.size w v1) := HB0.out.thru hb
      clear hb
      go_wp2
      go_ret
      exact ⟨rfl, HBZ.out⟩
end Go.Proofs.YtpfnfhikhlceoaaGreatDoor
