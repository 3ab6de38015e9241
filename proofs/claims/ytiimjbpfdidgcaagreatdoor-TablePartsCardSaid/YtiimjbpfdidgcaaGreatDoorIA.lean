/- Parts Rh, Ri of the proof, in one text. -/
import Derived.Test.YtiimjbpfdidgcaaGreatDoorHZ
import Derived.Test.YtiimjbpfdidgcaaGreatDoorHY

/- Walks: the document's answer for layer 7: anyNaN, Neg, Add, Sub, Mul. -/
namespace Go.Proofs.YtiimjbpfdidgcaaGreatDoor
open Go.RowKit

def flipB (b : Nat) : Nat := if sgnB b then absB b else b + 9223372036854775808
theorem flip_D (b : Nat) (h : W64 b) : Go.Op.negFloat .f64 b = flipB b := negFloat_D b h
theorem flip_W (b : Nat) (h : W64 b) : W64 (flipB b) := by
  unfold flipB; split
  · exact absB_W b
  · rename_i hs; unfold sgnB at hs; unfold W64 at *; simp at hs; omega
theorem flip_abs (b : Nat) : absB (flipB b) = absB b := by
  unfold flipB; split
  · exact absB_abs b
  · unfold absB; omega
theorem flip_sgn (b : Nat) : sgnB (flipB b) = !sgnB b := by
  unfold flipB
  cases hs : sgnB b
  · unfold sgnB at *; simp at hs ⊢
  · simp [sgnB_abs]
theorem flip_nan (b : Nat) : nanB (flipB b) = nanB b := by unfold nanB; rw [flip_abs b]
theorem w_xor_sign (b : Nat) (h : W64 b) : Go.bits .xor .u64 (b : Int) 9223372036854775808 = ((flipB b : Nat) : Int) := by
  rw [show (9223372036854775808 : Int) = ((9223372036854775808 : Nat) : Int) from rfl, Go.u64_xor_nat b _ h (by decide), ← flip_D b h]
  rfl

set_option maxRecDepth 100000 in
theorem r7_anynan (xs : List Nat) (b n c : Nat) (w : World) (hl : xs.length = n) (hc : ∀ i, i < n → w.cell? ⟨b, i, none⟩ = some (.int .u64 (xs.getD i 0 : Nat))) (hx : ∀ x ∈ xs, W64 x) (hn : n ≤ c) (hcc : c ≤ 9223372036854775807) :
    Calls Tryz.prog 20 #[.slice (some ⟨b, 0, none⟩) n c] w fun e w' => e = .returned (.bool (xs.any nanB)) ∧ w = w' := by
  have HX : Hid (∀ i, i < n → W64 (xs.getD i 0)) := fun i hi => hx _ (by rw [List.getD_eq_getElem?_getD, List.getElem?_eq_getElem (by omega)]; exact List.getElem_mem _)
  have HC : Hid (∀ i, i < n → w.cell? ⟨b, i, none⟩ = some (.int .u64 (xs.getD i 0 : Nat))) := hc
  clear hx hc
  go_enter Tryz.func20, Tryz.ntmps20
  go_wp2
  go_loop [3] (fun v => ∃ k : Nat, k ≤ n ∧ v = .int .i64 (k : Nat) ∧ (xs.take k).any nanB = false) (fun v => n - (intOf v).toNat)
  case atStart => exact ⟨0, by omega, rfl, by simp⟩
  case round =>
    obtain ⟨k, hk, rfl, hd⟩ := hrel
    rcases Nat.lt_or_ge k n with hlt | hge
    · have hcl := HC.out k hlt
      obtain ⟨x, hxe⟩ : ∃ x, x = xs.getD k 0 := ⟨_, rfl⟩
      have hw := HX.out k hlt
      rw [← hxe] at hcl hw
      have htk : xs.take (k + 1) = xs.take k ++ [x] := by
        rw [List.take_succ_eq_append_getElem (by omega), hxe, List.getD_eq_getElem?_getD, List.getElem?_eq_getElem (by omega)]; rfl
      clear hxe
      cases hnx : nanB x
      · go_wp2_with (go_at_call 49; refine (ref_isnan x _ hw).mono ?_; rintro e w' ⟨rfl, rfl⟩)
        go_round
        case rel => exact ⟨k + 1, by omega, by simp, by rw [htk, List.any_append, hd]; simp [hnx]⟩
        case measure => simp [intOf]; omega
      · go_wp2_with (go_at_call 49; refine (ref_isnan x _ hw).mono ?_; rintro e w' ⟨rfl, rfl⟩)
        go_ret
        refine ⟨?_, rfl⟩
        have : xs.any nanB = true := by
          rw [← List.take_append_drop (k + 1) xs, List.any_append, htk, List.any_append]; simp [hnx]
        rw [this]; rfl
    · obtain rfl : k = n := by omega
      rw [List.take_of_length_le (by omega)] at hd
      go_wp2
      go_ret
      exact ⟨rfl, rfl⟩

def negR (b : Nat) : Nat := if nanB b then theNaN else flipB b
theorem negR_W (b : Nat) (h : W64 b) : W64 (negR b) := by
  unfold negR
  split
  · unfold W64 theNaN; decide
  · exact flip_W b h

theorem Term.below {w w' : World} {v : Value} {neg : Bool} {M : Nat} {E : Int} (h : Term w v neg M E) {B : Nat} (hB : w.heap.size ≤ B) (hb : Below B w w') : Term w' v neg M E := by
  obtain ⟨s, rfl, h1⟩ := h
  exact ⟨s, rfl, h1.below hB hb⟩

theorem term_small {M K : Nat} {e : Int} (h : M < 2^53) (he : e ≤ K) : M * 2^e.toNat < 2^(53 + K) := by
  rw [Nat.pow_add]
  exact Nat.mul_lt_mul_of_lt_of_le h (Nat.pow_le_pow_right (by decide) (by omega)) (Nat.two_pow_pos _)
theorem sumM_small (na nb : Bool) {X Y B : Nat} (hX : X < 2^B) (hY : Y < 2^B) : sumM na nb X Y < 2^(B + 1) := by
  have : sumM na nb X Y ≤ X + Y := by unfold sumM; split; omega; split <;> omega
  rw [Nat.pow_succ]
  generalize 2^B = K at *
  omega

/-- Two numbers of which a sum is no number. -/
def addBad (a b : Nat) : Bool := nanB a || nanB b || (infB a && infB b && (sgnB a != sgnB b))
def addB (a b R : Nat) : Nat := if addBad a b then theNaN else if infB a then a else if infB b then b else if a = 9223372036854775808 ∧ b = 9223372036854775808 then 9223372036854775808 else if valB a + valB b = 0 then 0 else resB (decide (valB a + valB b < 0)) R
def addX (a b R : Nat) : Int := if addBad a b || infB a || infB b then 0 else if valB a + valB b = 0 then 0 else resX R

end Go.Proofs.YtiimjbpfdidgcaaGreatDoor

/- Walks: the document's answer for layer 7: Mul. -/
namespace Go.Proofs.YtiimjbpfdidgcaaGreatDoor
open Go.RowKit

def mulB (a b R : Nat) : Nat := if nanB a || nanB b then theNaN else if infB a || infB b then (if infB a && zeroB b || zeroB a && infB b then theNaN else sgW (sgnB a != sgnB b) + 9218868437227405312) else if zeroB a || zeroB b then sgW (sgnB a != sgnB b) else resB (sgnB a != sgnB b) R
def mulX (a b R : Nat) : Int := if nanB a || nanB b then 0 else if infB a || infB b then 0 else if zeroB a || zeroB b then 0 else resX R

end Go.Proofs.YtiimjbpfdidgcaaGreatDoor
