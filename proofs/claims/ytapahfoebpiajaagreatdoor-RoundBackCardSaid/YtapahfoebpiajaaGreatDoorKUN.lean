/- Parts Un of the proof, in one text. -/
import Derived.Test.YtapahfoebpiajaaGreatDoorKRR
import Derived.Test.YtapahfoebpiajaaGreatDoorKQA

/- Walks: Unit, Single, the laws' helpers of layer 1. -/
namespace Go.Proofs.YtapahfoebpiajaaGreatDoor
open Go.RowKit

theorem fin_spX (b : Nat) (h : finB b = true) : spX b = 0 := by
  cases hl : lowB b
  · exact (sp_norm b h hl).2.2.2.1
  · cases hz : zeroB b
    · exact (sp_sub b h hl hz).2.2.2.1
    · exact (sp_nought b h hl hz).2.2.2.1
/-- What the second loop keeps: k = m / 2^j, top = e + j. -/
def TopRel (m : Nat) (E : Int) (t k : Value) : Prop := ∃ (j : Nat) (K T : Int), k = .int .u64 K ∧ t = .int .i64 T ∧ K = ((m / 2^j : Nat) : Int) ∧ T = E + j ∧ 1 ≤ m / 2^j
set_option maxHeartbeats 1000000 in
set_option maxRecDepth 100000 in
theorem rsingle_any (b : Nat) (w : World) (hb : W64 b) :
    Calls Tryz.prog 32 #[.int .u64 b] w fun e' w' => e' = .returned (.bool (singB b)) ∧ w = w' := by
  cases hf : finB b
  · have h1 := (sp_not b hf).2.2.2
    have : singB b = true := by unfold singB; rw [hf]; rfl
    rw [this]; clear this
    go_enter Tryz.func32, Tryz.ntmps32
    go_wp2_with (go_at_call 67; refine (ref_split _ _ hb).mono ?_; rintro e w' ⟨rfl, rfl⟩)
    go_ret
    exact ⟨rfl, rfl⟩
  have h1 := fin_spX b hf
  by_cases h2 : spM b = 0
  · have h3 : ((spM b : Int) == 0) = true := by rw [h2]; rfl
    have : singB b = true := by
      unfold singB
      cases hz : zeroB b
      · exact absurd h2 (spM_zero b hf hz)
      · rw [hf]; rfl
    rw [this]; clear this h2
    go_enter Tryz.func32, Tryz.ntmps32
    go_wp2_with (go_at_call 67; refine (ref_split _ _ hb).mono ?_; rintro e w' ⟨rfl, rfl⟩)
    go_ret
    exact ⟨rfl, rfl⟩
  have h3 : ((spM b : Int) == 0) = false := by simp; omega
  have hm := spM_W b
  obtain ⟨p1, p2, p3, p4⟩ := join_parts (spM b) hm h2
  obtain ⟨he1, he2⟩ := spE_lo b
  have hz : zeroB b = false := by
    cases z : zeroB b
    · rfl
    · exfalso; apply h2
      cases hl : lowB b
      · rw [zero_low b z] at hl; cases hl
      · exact (sp_nought b hf hl z).2.1
  have hs : singB b = (decide ((joO (spM b) : Int) < 16777216) && decide (-149 ≤ spE b + joZ (spM b)) && decide (spE b + joZ (spM b) + (joO (spM b)).log2 ≤ 127)) := by
    unfold singB
    rw [hf, hz]
    have : (blen (joO (spM b)) : Int) = (joO (spM b)).log2 + 1 := by unfold blen; rw [if_neg (by omega)]; rfl
    rw [this, Bool.eq_iff_iff]; simp; omega
  rw [hs]; clear hs h2 hz hf
  obtain ⟨m, hmm⟩ : ∃ m, m = spM b := ⟨_, rfl⟩
  obtain ⟨e, hee⟩ : ∃ e, e = spE b := ⟨_, rfl⟩
  have hsp : spM b = m := hmm.symm
  have hse : spE b = e := hee.symm
  rw [← hmm] at hm p1 p2 p3 p4 h3 ⊢
  rw [← hee] at he1 he2 ⊢
  clear hmm hee
  have P1 := Lib.hid p1; clear p1
  have P2 := Lib.hid p2; clear p2
  have P4 := Lib.hid p4; clear p4
  go_enter Tryz.func32, Tryz.ntmps32
  go_wp2_with (go_at_call 67; refine (ref_split _ _ hb).mono ?_; rintro e w' ⟨rfl, rfl⟩)
  clear hsp hse
  go_loop [4, 5] (JoDown m e) (fun v _ => (intOf v).toNat)
  case atStart => exact ⟨joZ m, m, e, rfl, rfl, P1.out, by omega, Nat.le_refl _⟩
  case round =>
    obtain ⟨i, M, E, rfl, rfl, hM, hE, hi⟩ := hrel
    have HM := Lib.hid hM; clear hM
    have HE := Lib.hid hE; clear hE
    have hE1 : -3000 ≤ E := by have := HE.out; omega
    have hE2 : E ≤ 4000 := by have := HE.out; omega
    cases i with
    | succ j =>
      have h1 : M = 2 * (joO m * 2^j) := by rw [HM.out, Nat.pow_succ, ← Nat.mul_assoc, Nat.mul_comm]
      have h2 : ((M : Int) % 2 == 0) = true := by rw [h1]; simp
      have h3 : (M : Int) / 2 = ((joO m * 2^j : Nat) : Int) := by omega
      have h5 : 0 < joO m * 2^j := Nat.mul_pos (by have := P2.out; omega) (Nat.two_pow_pos _)
      have hMW : (M : Int) ≤ 18446744073709551615 := by
        have h1 := HM.out; have h2 := P1.out; unfold W64 at hm
        have : joO m * 2^(j+1) ≤ joO m * 2^joZ m := Nat.mul_le_mul_left _ (Nat.pow_le_pow_right (by decide) hi)
        omega
      have H1 := Lib.hid h1; clear h1
      have H3 := Lib.hid h3; clear h3
      go_wp2
      go_round
      case rel => exact ⟨j, joO m * 2^j, E + 1, by rw [H3.out], rfl, rfl, by have := HE.out; omega, by omega⟩
      case measure => have := H1.out; simp [intOf]; omega
    | zero =>
      have h1 : (M : Int) = (joO m : Nat) := by rw [HM.out, Nat.pow_zero, Nat.mul_one]
      have h2 : ((M : Int) % 2 == 0) = false := by have := P2.out; simp; omega
      have h5 : E = e + joZ m := by have := HE.out; omega
      have h6 : (M : Int) ≤ 18446744073709551615 := by have := P4.out; unfold W64 at hm; omega
      have h7 : 1 ≤ joO m := by have := P2.out; omega
      have hlog : (joO m).log2 < 64 := (Nat.log2_lt (by omega)).2 (by have := P4.out; unfold W64 at hm; omega)
      obtain ⟨O, hO⟩ : ∃ O : Int, O = (joO m : Nat) := ⟨_, rfl⟩
      rw [← hO] at h1
      rw [h1] at h2 h6
      rw [h1]
      have HO := Lib.hid hO; clear hO
      have H5 := Lib.hid h5; clear h5
      clear HM h1
      have h8 : 0 ≤ O := by have := HO.out; omega
      go_wp2
      clear h2
      go_loop [7, 8] (TopRel (joO m) E) (fun _ k => (intOf k).toNat)
      case atStart => exact ⟨0, O, E, rfl, rfl, by rw [HO.out]; simp, by simp, by simpa using h7⟩
      case round =>
        obtain ⟨j, K, T, rfl, rfl, hK, hT, hj⟩ := hrel
        have HK := Lib.hid hK; clear hK
        have HT := Lib.hid hT; clear hT
        have HJ := Lib.hid hj; clear hj
        have hjl : j ≤ (joO m).log2 := by
          have := HJ.out
          have h2 : 2^j ≤ joO m := by
            rcases Nat.lt_or_ge (joO m) (2^j) with g | g
            · rw [Nat.div_eq_of_lt g] at this; omega
            · exact g
          exact (Nat.le_log2 (by omega)).2 h2
        have hT1 : T ≤ 5000 := by have := HT.out; omega
        have hT2 : -5000 ≤ T := by have := HT.out; omega
        have hK1 : 1 ≤ K := by have := HJ.out; have := HK.out; omega
        have hK2 : K ≤ 18446744073709551615 := by
          have h1 := HK.out; have h2 := HO.out
          have : joO m / 2^j ≤ joO m := Nat.div_le_self _ _
          omega
        by_cases c : 1 < K
        · have hdiv : joO m / 2^(j+1) = joO m / 2^j / 2 := by rw [Nat.pow_succ, Nat.div_div_eq_div_mul]
          have HD := Lib.hid hdiv; clear hdiv
          go_wp2
          go_round
          case rel => exact ⟨j + 1, K / 2, T + 1, rfl, rfl, by rw [HD.out]; have := HK.out; omega, by have := HT.out; omega, by rw [HD.out]; have := HK.out; omega⟩
          case measure => simp [intOf]; omega
        · have hjj : j = (joO m).log2 := by
            have h1 := HK.out
            have h2 := Nat.div_add_mod (joO m) (2^j)
            have h3 := Nat.mod_lt (joO m) (Nat.two_pow_pos j)
            have h4 : joO m / 2^j = 1 := by omega
            rw [h4] at h2
            refine Nat.le_antisymm hjl ?_
            rcases Nat.lt_or_ge j (joO m).log2 with g | g
            · have : 2^(j+1) ≤ 2^(joO m).log2 := Nat.pow_le_pow_right (by decide) g
              have := Nat.log2_self_le (n := joO m) (by omega)
              rw [Nat.pow_succ] at *
              omega
            · exact g
          have hTT : e + (joZ m : Int) + ((joO m).log2 : Nat) = T := by rw [← H5.out, HT.out, hjj]
          have HTT := Lib.hid hTT; clear hTT hjj
          by_cases c1 : O < 16777216
          · by_cases c2 : -149 ≤ E
            · by_cases c3 : T ≤ 127
              · go_wp2
                go_ret
                refine ⟨ret_bool ?_, rfl⟩
                rw [HTT.out, ← H5.out, ← HO.out, decide_eq_true c1, decide_eq_true c2, decide_eq_true c3]; rfl
              · go_wp2
                go_ret
                refine ⟨ret_bool ?_, rfl⟩
                rw [HTT.out, ← H5.out, ← HO.out, decide_eq_true c1, decide_eq_true c2, decide_eq_false (by omega)]; rfl
            · go_wp2
              go_ret
              refine ⟨ret_bool ?_, rfl⟩
              rw [HTT.out, ← H5.out, ← HO.out, decide_eq_true c1, decide_eq_false (by omega)]; rfl
          · go_wp2
            go_ret
            refine ⟨ret_bool ?_, rfl⟩
            rw [HTT.out, ← H5.out, ← HO.out, decide_eq_false (by omega)]; rfl
end Go.Proofs.YtapahfoebpiajaaGreatDoor
