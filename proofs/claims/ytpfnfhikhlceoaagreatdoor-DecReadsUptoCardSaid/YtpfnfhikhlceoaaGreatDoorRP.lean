/- Parts Gl of the proof, in one text. -/
import Derived.Test.YtpfnfhikhlceoaaGreatDoorRO
import Derived.Test.YtpfnfhikhlceoaaGreatDoorRK

/- Walks: the document's answer: Int. -/
namespace Go.Proofs.YtpfnfhikhlceoaaGreatDoor
open Go.RowKit

set_option maxHeartbeats 2000000 in
set_option maxRecDepth 100000 in
theorem rint_v (n : Int) (w : World) (h0 : -9223372036854775808 ≤ n) (h1 : n ≤ 9223372036854775807) :
    Calls Tryz.prog 30 #[.int .i64 n] w fun e w' => e = .returned (dcV (mkD n 0)) ∧ Below w.heap.size w w' := by
  have HB0 : Hid (Below w.heap.size w (w.alloc (.cells #[.bool false, .string ⟨#[]⟩, .int .i64 0] 25))) := (Below.refl _ _).alloc (Nat.le_refl _) _
  have HQ0 : Hid _ := new_blk w (.cells #[.bool false, .string ⟨#[]⟩, .int .i64 0] 25)
  have HSZ : Hid (w.heap.size < (w.alloc (.cells #[.bool false, .string ⟨#[]⟩, .int .i64 0] 25)).heap.size) := by show _ < _; simp
  obtain ⟨D, hD⟩ : ∃ D, D = mkD n 0 := ⟨_, rfl⟩
  rw [← hD]
  have HMD : Hid (∀ W (t : ByteArray), bl t = bareD n.natAbs → Calls Tryz.prog 28 #[.bool (decide (n < 0)), .string t, .int .i64 0] W fun e w' => e = .returned (.tuple #[.agg #[.bool D.neg, .string (bs D.s), .int .i64 D.e], .int .i64 (mkX n 0)]) ∧ Below W.heap.size W w') := fun W t ht => by
    have hl : t.size ≤ 4611686018427387904 := by
      rw [← bl_len, ht]
      have := bare_len_le n.natAbs 19 (by omega)
      omega
    have := rmade_v (decide (n < 0)) t 0 W (by rw [ht]; exact bare_all _) hl
    rw [ht, dval_bare] at this
    rw [hD]
    exact this
  generalize mkX n 0 = X at *
  clear hD
  go_enter Tryz.func30, Tryz.ntmps30
  go_upto_region 3 with fail
  go_loopw [3, 4] (fun sv mv wr => ∃ (S : ByteArray) (M : Int), sv = .string S ∧ mv = .int .i64 M ∧ bareD n.natAbs = bareD M.natAbs ++ bl S ∧ M.natAbs ≤ n.natAbs ∧ Below (w.alloc (.cells #[.bool false, .string ⟨#[]⟩, .int .i64 0] 25)).heap.size (w.alloc (.cells #[.bool false, .string ⟨#[]⟩, .int .i64 0] 25)) wr) (fun _ mv _ => (intOf mv).natAbs)
  case atStart => exact ⟨_, n, rfl, rfl, (List.append_nil _).symm, Nat.le_refl _, Below.refl _ _⟩
  case round =>
    obtain ⟨S, M, rfl, rfl, hS, hM, hb⟩ := hrel
    have HS : Hid (bareD n.natAbs = bareD M.natAbs ++ bl S) := hS
    have HBR : Hid _ := hb
    have hsz : S.size ≤ 19 := by
      have h2 := bare_len_le n.natAbs 19 (by omega)
      have h3 := congrArg List.length hS
      rw [List.length_append, bl_len] at h3
      omega
    clear hS hb
    by_cases hz : M = 0
    · subst hz
      have HE : Hid (bl S = bareD n.natAbs) := by show _ = _; rw [HS.out]; rfl
      go_wp2_with fail
      refine (HMD.out _ S HE.out).mono ?_
      rintro e w2 ⟨rfl, hb⟩
      have HB2 : Hid (Below w.heap.size w w2) := (HB0.out.trans (HBR.out.mono (Nat.le_of_lt HSZ.out))).thru hb
      have HQ1 : Hid _ := HBR.out.blk HQ0.out HSZ.out
      have HQ2 : Hid _ := hb.blk HQ1.out (blk_lt HQ1.out)
      have a1 := ((Below.refl w2.heap.size w2).alloc (Nat.le_refl _) (.cells #[.bool D.neg, .string (bs D.s), .int .i64 D.e] 25)).blk HQ2.out (blk_lt HQ2.out)
      obtain ⟨f0, c0, f1, c1, f2, c2, r3⟩ := rw3 a1
      have HR : Hid _ := r3
      clear hb a1 r3
      go_wp2
      exact bodyPost_ret (dec_one rfl _ _ w.heap.size _ _ _ rfl (HR.out _ _ _)) rfl ⟨rfl, below_row3 (HB2.out.alloc HB2.out.size _) (Nat.le_refl _) _ _ _⟩
    · obtain ⟨a, ha⟩ : ∃ a, a = M.natAbs := ⟨_, rfl⟩
      obtain ⟨c, hc⟩ : ∃ c, c = 48 + a % 10 := ⟨_, rfl⟩
      have hzb : (M == 0) = false := by simpa using hz
      have kk : ∀ v : Int, v = (c : Int) → (convert 70 9 (.slice (some ⟨wr.heap.size, 0, none⟩) 1 1)).run Tryz.prog (wr.alloc (.cells #[.int .u8 v] 5)) = .ok (.string (bs [UInt8.ofNat c])) (wr.alloc (.cells #[.int .u8 v] 5)) := fun v hv => by
        subst hv; exact one_byte c (by omega) _ wr.heap.size 5 (new_blk _ _)
      obtain ⟨u, hu⟩ : ∃ u, u = bs [UInt8.ofNat c] := ⟨_, rfl⟩
      rw [← hu] at kk
      have hus : u.size = 1 := by rw [hu]; rfl
      have HNX : Hid (bareD n.natAbs = bareD (a / 10) ++ bl (u ++ S)) := by
        show _ = _
        rw [HS.out, ← ha, bare_step a (by omega), bl_append, hu, hc, bl_bs, List.append_assoc]
      have HBN : Hid (∀ v, Below (w.alloc (.cells #[.bool false, .string ⟨#[]⟩, .int .i64 0] 25)).heap.size (w.alloc (.cells #[.bool false, .string ⟨#[]⟩, .int .i64 0] 25)) (wr.alloc (.cells #[.int .u8 v] 5))) := fun v => HBR.out.alloc HBR.out.size _
      by_cases hneg : M < 0
      · obtain rfl : M = -(a : Int) := by omega
        have t1 : (-(a : Int)).tmod 10 = -((a % 10 : Nat) : Int) := by rw [Int.neg_tmod, Int.tmod_eq_emod_of_nonneg (by omega)]; rfl
        have t2 : (-(a : Int)).tdiv 10 = -((a / 10 : Nat) : Int) := by rw [Int.neg_tdiv, Int.tdiv_eq_ediv_of_nonneg (by omega)]; rfl
        have t3 : IntKind.i64.wrap (-((a % 10 : Nat) : Int)) = -((a % 10 : Nat) : Int) := IntWalk.i64_in _ (by omega)
        have t4 : IntKind.i64.wrap (-((a / 10 : Nat) : Int)) = -((a / 10 : Nat) : Int) := IntWalk.i64_in _ (by omega)
        have hM2 : a ≤ n.natAbs := by omega
        by_cases hd : a % 10 = 0
        · have z : (a : Int) % 10 = 0 := by omega
          have k1 := kk 48 (by omega)
          clear hc hu ha hM kk hd
          go_wp2_with fail
          refine ⟨⟨_, _, rfl, rfl, ?_, ?_, HBN.out _⟩, ?_⟩
          · rw [show (-((a : Int) / 10)).natAbs = a / 10 by omega]; exact HNX.out
          · omega
          · show (-((a : Int) / 10)).natAbs < (-(a : Int)).natAbs
            omega
        · have z : 0 < (a : Int) % 10 := by omega
          have k1 := kk (48 + (a : Int) % 10) (by omega)
          clear hc hu ha hM kk hd
          go_wp2_with fail
          refine ⟨⟨_, _, rfl, rfl, ?_, ?_, HBN.out _⟩, ?_⟩
          · rw [show (-((a : Int) / 10)).natAbs = a / 10 by omega]; exact HNX.out
          · omega
          · show (-((a : Int) / 10)).natAbs < (-(a : Int)).natAbs
            omega
      · obtain rfl : M = (a : Int) := by omega
        have hM2 : a ≤ n.natAbs := by omega
        have z : 0 ≤ (a : Int) % 10 := by omega
        have k1 := kk (48 + (a : Int) % 10) (by omega)
        clear hc hu ha hM kk
        go_wp2_with fail
        refine ⟨⟨_, _, rfl, rfl, ?_, ?_, HBN.out _⟩, ?_⟩
        · rw [show ((a : Int) / 10).natAbs = a / 10 by omega]; exact HNX.out
        · omega
        · show ((a : Int) / 10).natAbs < ((a : Int)).natAbs
          omega
end Go.Proofs.YtpfnfhikhlceoaaGreatDoor
