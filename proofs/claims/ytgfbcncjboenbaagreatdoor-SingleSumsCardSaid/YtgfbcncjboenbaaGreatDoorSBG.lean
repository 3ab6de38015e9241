/- Parts Bg of the proof, in one text. -/
import Derived.Test.YtgfbcncjboenbaaGreatDoorSRR
import Derived.Laws.BitsAllLaws

/- Walks: the document's bits of a single. -/
namespace Go.Proofs.YtgfbcncjboenbaaGreatDoor
open Go.RowKit

theorem or_top (x : Nat) (h : x < 2147483648) : bits .or .u32 (x : Int) 2147483648 = ((2147483648 + x : Nat) : Int) := by
  have h1 := u32_or_nat x 2147483648 (by omega) (by decide)
  have h2 := Nat.two_pow_add_eq_or_of_lt (i := 31) (b := x) (by omega) 1
  rw [Nat.or_comm, show (2147483648 : Nat) = 2 ^ 31 * 1 from rfl, ← h2] at h1
  exact h1
theorem and_low23 (m : Nat) (h : m < 16777216) : bits .and .u32 (m : Int) 8388607 = ((m % 8388608 : Nat) : Int) := by
  have h1 := u32_and_nat m 8388607 (by omega) (by decide)
  have h2 := Nat.and_two_pow_sub_one_eq_mod m 23
  rw [show (8388607 : Nat) = 2 ^ 23 - 1 from rfl, h2] at h1
  exact h1
theorem or_low23 (X r : Nat) (hX : X < 512) (hr : r < 8388608) : bits .or .u32 ((X * 8388608 : Nat) : Int) (r : Int) = ((X * 8388608 + r : Nat) : Int) := by
  have h1 := u32_or_nat (X * 8388608) r (by omega) (by omega)
  have h2 := Nat.two_pow_add_eq_or_of_lt (i := 23) (b := r) (by omega) X
  rw [show X * 8388608 = 2 ^ 23 * X by omega, ← h2] at h1
  rw [show X * 8388608 = 2 ^ 23 * X by omega]
  exact h1
set_option maxRecDepth 100000 in
theorem bits32_small (neg : Bool) (m : Nat) (e : Int) (w : World) (hm : m < 8388608) : Calls Tryz.prog 114 #[.agg #[.bool neg, .bool false, .int .u64 (m : Nat), .int .i64 e]] w fun en w' => en = .returned (.int .u32 ((if neg = true then 2147483648 + m else m : Nat) : Int)) ∧ Below w.heap.size w w' := by
  have HB : Hid (∀ F, Below w.heap.size w (w.alloc F)) := fun F => (Below.refl _ _).alloc (Nat.le_refl _) _
  have h1 : ¬ (8388608 : Int) ≤ m := by omega
  have h2 : IntKind.u32.wrap (m : Int) = m := IntWalk.u32_in _ (by omega)
  have h3 := or_top m (by omega)
  cases neg
  · go_enter Tryz.func114, Tryz.ntmps114
    go_wp2
    go_ret
    exact ⟨rfl, HB.out _⟩
  · go_enter Tryz.func114, Tryz.ntmps114
    go_wp2
    go_ret
    exact ⟨rfl, HB.out _⟩
set_option maxRecDepth 100000 in
theorem bits32_big (neg : Bool) (m X : Nat) (w : World) (hm : m < 16777216) (hm2 : 8388608 ≤ m) (h3 : 1 ≤ X) (h4 : X ≤ 254) : Calls Tryz.prog 114 #[.agg #[.bool neg, .bool false, .int .u64 (m : Nat), .int .i64 ((X : Int) - 150)]] w fun en w' => en = .returned (.int .u32 ((if neg = true then 2147483648 + ((X - 1) * 8388608 + m) else (X - 1) * 8388608 + m : Nat) : Int)) ∧ Below w.heap.size w w' := by
  have HB : Hid (∀ F, Below w.heap.size w (w.alloc F)) := fun F => (Below.refl _ _).alloc (Nat.le_refl _) _
  have h1 : (8388608 : Int) ≤ m := by omega
  have h2 : IntKind.u32.wrap (m : Int) = m := IntWalk.u32_in _ (by omega)
  have e1 : (X : Int) - 150 + 150 = X := by omega
  obtain ⟨r, hr⟩ : ∃ r, r = m % 8388608 := ⟨_, rfl⟩
  obtain ⟨Y, hY⟩ : ∃ Y, Y = (X - 1) * 8388608 + m := ⟨_, rfl⟩
  rw [← hY]
  have h5 := and_low23 m hm
  rw [← hr] at h5
  have h6 : bits .or .u32 ((X : Int) * 8388608) (r : Int) = (Y : Int) := by
    have := or_low23 X r (by omega) (by omega)
    rw [show ((X * 8388608 : Nat) : Int) = (X : Int) * 8388608 by omega] at this
    rw [this]
    have : X * 8388608 + r = Y := by omega
    rw [this]
  have h7 := or_top Y (by omega)
  have h8 : IntKind.u32.wrap (X : Int) = X := IntWalk.u32_in _ (by omega)
  have h9 : IntKind.u32.wrap ((X : Int) * 8388608) = (X : Int) * 8388608 := IntWalk.u32_in _ (by omega)
  clear hr hY
  cases neg
  · go_enter Tryz.func114, Tryz.ntmps114
    go_wp2
    go_ret
    exact ⟨rfl, HB.out _⟩
  · go_enter Tryz.func114, Tryz.ntmps114
    go_wp2
    go_ret
    exact ⟨rfl, HB.out _⟩
set_option maxRecDepth 100000 in
theorem bits32_inf (neg : Bool) (m : Nat) (e : Int) (w : World) : Calls Tryz.prog 114 #[.agg #[.bool neg, .bool true, .int .u64 (m : Nat), .int .i64 e]] w fun en w' => en = .returned (.int .u32 (if neg = true then 4286578688 else 2139095040)) ∧ Below w.heap.size w w' := by
  have HB : Hid (∀ F, Below w.heap.size w (w.alloc F)) := fun F => (Below.refl _ _).alloc (Nat.le_refl _) _
  cases neg
  · go_enter Tryz.func114, Tryz.ntmps114
    go_wp2
    go_ret
    exact ⟨rfl, HB.out _⟩
  · go_enter Tryz.func114, Tryz.ntmps114
    go_wp2
    go_ret
    exact ⟨rfl, HB.out _⟩
theorem bits32_out (neg : Bool) (mode : Int) (g : Mag) (hg : g.Ok) (w : World) : Calls Tryz.prog 114 #[.agg #[.bool neg, .bool (outG 24 (-149) 104 neg mode g).inf, .int .u64 ((outG 24 (-149) 104 neg mode g).m : Nat), .int .i64 (outG 24 (-149) 104 neg mode g).e]] w
    fun en w' => en = .returned (.int .u32 (bits32 neg (outG 24 (-149) 104 neg mode g) : Nat)) ∧ Below w.heap.size w w' := by
  rcases out_range (b := 24) (L := -149) (T := 104) (neg := neg) (mode := mode) (by decide) (by decide) hg with h | ⟨h1, h2, h3, h4, h5⟩
  · generalize outG 24 (-149) 104 neg mode g = o at *
    rw [h]
    refine (bits32_inf neg _ _ w).mono fun en w' hq => ⟨?_, hq.2⟩
    rw [hq.1]
    unfold bits32 Out.rung
    rw [if_pos h]
    cases neg <;> rfl
  · generalize outG 24 (-149) 104 neg mode g = o at *
    have hr : o.rung 24 (-149) 104 = (o.e - -149).toNat * 8388608 + o.m := by
      unfold Out.rung
      rw [if_neg (by rw [h1]; decide)]
    rw [h1]
    rcases Nat.lt_or_ge o.m 8388608 with hs | hs
    · have he : o.e = -149 := h5.resolve_right (by omega)
      refine (bits32_small neg o.m o.e w hs).mono fun en w' hq => ⟨?_, hq.2⟩
      rw [hq.1]
      unfold bits32
      rw [hr, he]
      congr 2
      cases neg <;> simp
    · obtain ⟨X, hX⟩ : ∃ X : Nat, o.e = (X : Int) - 150 := ⟨(o.e + 150).toNat, by omega⟩
      rw [hX]
      refine (bits32_big neg o.m X w h2 hs (by omega) (by omega)).mono fun en w' hq => ⟨?_, hq.2⟩
      rw [hq.1]
      unfold bits32
      rw [hr, hX, show ((X : Int) - 150 - -149).toNat = X - 1 by omega]
      congr 2
      cases neg <;> simp
end Go.Proofs.YtgfbcncjboenbaaGreatDoor
