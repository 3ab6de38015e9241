/- Parts Ma, Mb of the proof, in one text. -/
import Derived.Test.YtgfbcncjboenbaaGreatDoorRows
import Derived.Test.YtgfbcncjboenbaaGreatDoorUQE
import Derived.BigRegion

/- Walks: the reference's whole numbers (base 2^32): trim, Of. -/
namespace Go.Proofs.YtgfbcncjboenbaaGreatDoor
open Go.RowKit

/-- What a call leaves that hands back a whole number of the reference. -/
def NatQ (N : Nat) (w : World) (e : Ending) (w' : World) : Prop := ∃ v, e = .returned v ∧ Num .u32 4294967296 w' v N ∧ Below w.heap.size w w'

set_option maxRecDepth 100000 in
theorem trim_any (s : Value) (xs : List Nat) (w : World) (h : Limbs .u32 4294967296 w s xs) :
    Calls Tryz.prog 153 #[s] w (NatQ (lval 4294967296 xs) w) := by
  have HL : Hid (Limbs .u32 4294967296 w s xs) := h
  obtain ⟨a, n, c, rfl, hn, hnc, hc, hx, hcell⟩ := h
  clear hx
  go_enter Tryz.func153, Tryz.ntmps153
  go_wp2
  go_loop [0] (fun v => ∃ m, m ≤ n ∧ v = .slice a m c ∧ ∀ i, m ≤ i → i < n → xs.getD i 0 = 0) (fun v => match v with | .slice _ m _ => m | _ => 0)
  case atStart => exact ⟨n, Nat.le_refl _, rfl, fun i h1 h2 => by omega⟩
  case round =>
    obtain ⟨m, hm, rfl, hz⟩ := hrel
    have HZ : Hid (∀ i, m ≤ i → i < n → xs.getD i 0 = 0) := hz
    clear hz
    by_cases hm0 : 0 < m
    · obtain ⟨b, o, rfl, hb, hcc⟩ := hcell (by omega)
      have h1 := hcc (m - 1) (by omega)
      go_wp2
      · go_round
        case rel =>
          have hlast : xs.getD (m - 1) 0 = 0 := by
            have : (((xs[m - 1]?.getD 0 : Nat) : Int) == 0) = true := by assumption
            simpa using this
          refine ⟨m - 1, by omega, rfl, fun i h1 h2 => ?_⟩
          by_cases h3 : i = m - 1
          · rw [h3]; exact hlast
          · exact HZ.out i (by omega) h2
        case measure => simp; omega
      all_goals
        have hlast : xs.getD (m - 1) 0 ≠ 0 := by
          have : (((xs[m - 1]?.getD 0 : Nat) : Int) == 0) = false := by assumption
          simpa using this
        go_ret
        exact ⟨_, rfl, trim_num HL.out hm HZ.out (.inr hlast), Below.refl _ _⟩
    · go_wp2
      all_goals
        go_ret
        exact ⟨_, rfl, trim_num HL.out hm HZ.out (.inl (by omega)), Below.refl _ _⟩

set_option maxRecDepth 100000 in
theorem of_any (n : Nat) (w : World) (hn : n < 18446744073709551616) : Calls Tryz.prog 94 #[.int .u64 n] w (NatQ n w) := by
  have HN : Hid (n < 18446744073709551616) := hn
  clear hn
  go_enter Tryz.func94, Tryz.ntmps94
  go_wp2_with fail
  have hc := fun A B => heap_alloc_new w (Obj.cells #[A, B] 41)
  refine (trim_any _ [n % 4294967296, n / 4294967296] _ ⟨_, 2, 2, rfl, rfl, Nat.le_refl _, by decide, ?_, fun _ => ⟨_, 0, rfl, by simp, fun i hi => ?_⟩⟩).mono ?_
  · have := HN.out
    intro x hx
    simp at hx
    omega
  · rw [cell_of_row _ _ _ _ _ _ (hc _ _)]
    have hn := HN.out
    match i, hi with
    | 0, _ => simp
    | 1, _ => simp; omega
  rintro e w' ⟨v, rfl, hnum, hb⟩
  go_wp2
  go_ret
  refine ⟨_, rfl, ?_, ((Below.refl _ _).alloc (Nat.le_refl _) _).trans (hb.mono (by simp))⟩
  have e : lval 4294967296 [n % 4294967296, n / 4294967296] = n := by simp [lval]; omega
  rwa [e] at hnum
end Go.Proofs.YtgfbcncjboenbaaGreatDoor

/- Walks: the reference's Mul. -/
namespace Go.Proofs.YtgfbcncjboenbaaGreatDoor
open Go.RowKit

theorem Tryz.infoV : (Tryz.prog.info? 41).map (fun i => (i.zero, i.size, i.bytes)) = some (some (.int .u32 0), 1, 4) := by kernel_rfl

/-- How long a number of the reference is. -/
theorem num_len {w : World} {s : Value} {N bb : Nat} (h : Num .u32 4294967296 w s N) (hN : N < 2 ^ bb) (hbb : bb ≤ 4294967296) : ∃ xs, Limbs .u32 4294967296 w s xs ∧ lval 4294967296 xs = N ∧ Norm xs ∧ xs.length ≤ 134217729 := by
  obtain ⟨xs, h1, h2, h3⟩ := h
  refine ⟨xs, h1, h2, h3, ?_⟩
  by_cases h0 : 0 < xs.length
  · have := norm_length (s := 32) h3 (b := bb) (by rw [show (2 ^ 32 : Nat) = 4294967296 from rfl, h2]; exact hN) h0
    omega
  · omega

end Go.Proofs.YtgfbcncjboenbaaGreatDoor
