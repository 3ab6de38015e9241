/- Parts Qb of the proof, in one text. -/
import Derived.Test.YtlffojopfilfeaaGreatDoorLOA

/- Plain: the laws of sums: one number many times; opposites; ones. -/
namespace Go.Proofs.YtlffojopfilfeaaGreatDoor
open Go Go.RowKit

theorem cnt_rep (n b k : Nat) : cntT (tmL (List.replicate n b)) k = if srtB b = k then n else 0 := by
  unfold cntT tmL
  rw [List.map_replicate, List.countP_replicate]
  show (if (srtB b == k) = true then n else 0) = _
  simp
theorem sum_rep (n b : Nat) : sumT (tmL (List.replicate n b)) = (n : Int) * vN b := by
  induction n with
  | zero => simp [tmL, sumT]
  | succ n ih =>
    have e : sumT (tmL (List.replicate (n + 1) b)) = vN b + sumT (tmL (List.replicate n b)) := by
      rw [List.replicate_succ]; unfold sumT tmL tmS; simp
    rw [e, ih]
    push_cast
    grind
theorem inf_eq {b : Nat} (hb : W64 b) (h : infB b = true) : b = if sgnB b = true then 18442240474082181120 else 9218868437227405312 := by
  have h0 : absB b = 9218868437227405312 := by unfold infB at h; simpa using h
  have := bits_join hb
  rw [h0] at this
  rw [this]
  unfold sgW
  cases hs : sgnB b
  · rw [if_neg (by decide)]
    have : sgnB (0 + 9218868437227405312) = false := by decide
    simp
    rw [this]
  · rw [if_pos rfl]
    have : sgnB (9223372036854775808 + 9218868437227405312) = true := by decide
    simp
    rw [this]
theorem same_mean {b n : Nat} (hb : W64 b) (hn : 0 < n) (hn2 : n ≤ 65536) : mnX (List.replicate n b) = 0 ∧ ((nanB b = true ∧ nanB (mnB (List.replicate n b)) = true) ∨ (nanB b = false ∧ mnB (List.replicate n b) = b)) := by
  have hlen : (List.replicate n b).length = n := List.length_replicate
  have h1 : ¬ 65536 < n := by omega
  have h2 : n ≠ 0 := by omega
  unfold mnX mnB
  rw [hlen, if_neg h1, if_neg h2, if_neg h1, if_neg h2]
  have hc := cnt_rep n b
  have hs := sum_rep n b
  obtain ⟨c, hce⟩ : ∃ c, c = cntT (tmL (List.replicate n b)) := ⟨_, rfl⟩
  rw [← hce] at hc ⊢
  rw [hs]
  have hsrt : srtB b = if nanB b = true then 0 else if infB b = true then (if sgnB b = true then 2 else 1) else if zeroB b = true then (if sgnB b = true then 3 else 4) else 4 := rfl
  cases hna : nanB b
  · cases hi : infB b
    · rw [hna, hi] at hsrt
      have hf : finB b = true := by rw [finB_eq, hna, hi]; rfl
      cases hz : zeroB b
      · rw [hz] at hsrt
        have hsrt : srtB b = 4 := hsrt
        obtain ⟨m1, m2, m3⟩ := mean_one hb hf hz hn
        have hsp : spcI c = false := by unfold spcI; rw [hc, hc, hc, hsrt]; simp
        unfold ansX ansB
        rw [hsp]
        simp [m3, m1, m2]
      · rw [hz] at hsrt
        have h0 : absB b = 0 := by unfold zeroB at hz; simpa using hz
        have hv : vN b = 0 := by
          unfold vN valB
          rw [hf, h0, rv_zero]
          cases sgnB b <;> simp
        rw [hv, Int.mul_zero]
        have hj := bits_join hb
        rw [h0] at hj
        cases hsg : sgnB b
        · rw [hsg] at hsrt hj
          have hsrt : srtB b = 4 := hsrt
          have hj : b = 0 := hj
          have hsp : spcI c = false := by unfold spcI; rw [hc, hc, hc, hsrt]; simp
          unfold ansX ansB nilB
          rw [hsp, hc 3, hsrt]
          simp [hj]
        · rw [hsg] at hsrt hj
          have hsrt : srtB b = 3 := hsrt
          have hj : b = 9223372036854775808 := hj
          have hsp : spcI c = false := by unfold spcI; rw [hc, hc, hc, hsrt]; simp
          unfold ansX ansB nilB allC
          rw [hsp, hc 0, hc 1, hc 2, hc 3, hc 4, hsrt]
          simp [hj, hn]
    · rw [hna, hi] at hsrt
      have hbi := inf_eq hb hi
      cases hsg : sgnB b
      · rw [hsg] at hsrt hbi
        have hsrt : srtB b = 1 := hsrt
        have hbi : b = 9218868437227405312 := hbi
        have hsp : spcI c = true := by unfold spcI; rw [hc, hc, hc, hsrt]; simp [hn]
        unfold ansX ansB spcB
        rw [hsp, hc 0, hc 1, hc 2, hsrt]
        simp [hn, hbi]
      · rw [hsg] at hsrt hbi
        have hsrt : srtB b = 2 := hsrt
        have hbi : b = 18442240474082181120 := hbi
        have hsp : spcI c = true := by unfold spcI; rw [hc, hc, hc, hsrt]; simp [hn]
        unfold ansX ansB spcB
        rw [hsp, hc 0, hc 1, hc 2, hsrt]
        simp [hbi]
  · rw [hna] at hsrt
    have hsrt : srtB b = 0 := hsrt
    have hsp : spcI c = true := by unfold spcI; rw [hc, hc, hc, hsrt]; simp [hn]
    unfold ansX ansB spcB
    rw [hsp, hc 0, hsrt]
    refine ⟨rfl, .inl ⟨rfl, ?_⟩⟩
    simp only [if_true, hn, decide_true, Bool.true_or]
    decide
theorem ansX_ne (c : Nat → Nat) (V : Int) (n : Nat) : ansX c V n ≠ 2 := by
  unfold ansX totX
  split
  · decide
  · split
    · decide
    · split <;> decide
end Go.Proofs.YtlffojopfilfeaaGreatDoor
