/- Parts Gp of the proof, in one text. -/
import Derived.Test.YtpfnfhikhlceoaaGreatDoorRQ
import Derived.Test.YtpfnfhikhlceoaaGreatDoorRR

/- Walks: the document's answer: Of. -/
namespace Go.Proofs.YtpfnfhikhlceoaaGreatDoor
open Go.RowKit

theorem pow_bare {m i k : Nat} (hm : m < 9007199254740992) (hk : k ≤ 5) (hi : i ≤ 1100) : (bareD (m * k ^ i)).length ≤ 1200 := by
  have h1 : m * k ^ i < 10 ^ (16 + i) := by
    rw [Nat.pow_add]
    have h2 : k ^ i ≤ 10 ^ i := Nat.pow_le_pow_left (by omega) i
    calc m * k ^ i ≤ m * 10 ^ i := Nat.mul_le_mul_left _ h2
      _ < 10 ^ 16 * 10 ^ i := Nat.mul_lt_mul_of_pos_right (Nat.lt_of_lt_of_le hm (by decide)) (Nat.pow_pos (by decide))
  have := bare_len_le _ _ h1
  omega
theorem times_step (m i k : Nat) (hm : m < 9007199254740992) (hk : k ≤ 5) (hi : i ≤ 1100) (W : World) :
    Calls Tryz.prog 46 #[.string (bs (bareD (m * k ^ i))), .int .i64 (k : Nat)] W fun e w' => e = .returned (.string (bs (bareD (m * k ^ (i + 1))))) ∧ Below W.heap.size W w' := by
  have := rtimes_v (bs (bareD (m * k ^ i))) k (by omega) W (bare_all _) (by have := pow_bare (m := m) hm hk hi; show (bareD (m * k ^ i)).length ≤ _; omega)
  rw [bl_bs, dval_bare, Nat.mul_assoc, ← Nat.pow_succ] at this
  exact this

set_option maxRecDepth 100000 in
theorem rof_v (b : Nat) (hb : W64 b) (w : World) : Calls Tryz.prog 17 #[.int .u64 b] w (DcQ (ofD b) (ofX b) w) := by
  have HS : Hid (∀ W, Calls Tryz.prog 45 #[.int .u64 b] W fun e w' => e = .returned (.tuple #[.bool (spS b), .int .u64 (spM b), .int .i64 (spE b), .int .i64 (spX b)]) ∧ W = w') := fun W => ref_split b W hb
  obtain ⟨D, hD⟩ : ∃ D, D = ofD b := ⟨_, rfl⟩
  obtain ⟨X, hX⟩ : ∃ X, X = ofX b := ⟨_, rfl⟩
  rw [← hD, ← hX]
  have HB0 : Hid (Below w.heap.size w (w.alloc (.cells #[.bool false, .string ⟨#[]⟩, .int .i64 0] 25))) := (Below.refl _ _).alloc (Nat.le_refl _) _
  have HQ0 : Hid _ := new_blk w (.cells #[.bool false, .string ⟨#[]⟩, .int .i64 0] 25)
  have HSZ : Hid (w.heap.size < (w.alloc (.cells #[.bool false, .string ⟨#[]⟩, .int .i64 0] 25)).heap.size) := by show _ < _; simp
  obtain ⟨k1, k2, k3⟩ := sp_bd b
  rcases spX_cases b with hx | hx
  · have hD' : D = ⟨madeS (spS b) (ofN b) (ofE b), madeL (ofN b) (ofE b), madeE (ofN b) (ofE b)⟩ := by rw [hD]; unfold ofD; rw [if_pos hx]
    have hX' : X = madeX (ofN b) (ofE b) := by rw [hX]; unfold ofX; rw [if_pos hx]
    have HMD : Hid (∀ W N e, N = ofN b → e = ofE b → (bareD N).length ≤ 2000 → Calls Tryz.prog 28 #[.bool (spS b), .string (bs (bareD N)), .int .i64 e] W fun en w' => en = .returned (.tuple #[.agg #[.bool D.neg, .string (bs D.s), .int .i64 D.e], .int .i64 X]) ∧ Below W.heap.size W w') := fun W N e h1 h2 h3 => by
      have := rmade_v (spS b) (bs (bareD N)) e W (bare_all _) (by show (bareD N).length ≤ _; omega)
      rw [bl_bs, dval_bare, h1, h2, ← hD', ← hX', ← h1, ← h2] at this
      exact this
    have HE1 : Hid (∀ n : Nat, spE b = n → ofN b = spM b * 2 ^ n ∧ ofE b = 0) := fun n h => by
      unfold ofN ofE; rw [h, if_pos (by omega), if_pos (by omega)]; exact ⟨rfl, rfl⟩
    have HE2 : Hid (∀ n : Nat, 0 < n → spE b = -(n : Int) → ofN b = spM b * 5 ^ n ∧ ofE b = -(n : Int)) := fun n h0 h => by
      unfold ofN ofE; rw [h, if_neg (by omega), if_neg (by omega)]; exact ⟨by congr 2; omega, rfl⟩
    rw [hx] at HS
    generalize spM b = m at *
    generalize spE b = E at *
    generalize spS b = S at *
    clear hD hX hD' hX' hx
    have HT0 : Hid (∀ t : ByteArray, bareD m = bareD 0 ++ bl t → t = bs (bareD m)) := fun t h => bl_inj (by rw [bl_bs, h]; rfl)
    go_enter Tryz.func17, Tryz.ntmps17
    go_wp2_with fail
    refine (HS.out _).mono ?_
    rintro e w1 ⟨rfl, rfl⟩
    go_upto_region 6 with fail
    go_loopw [8, 9] (fun sv nv wr => ∃ (t : ByteArray) (n : Nat), sv = .string t ∧ nv = .int .u64 n ∧ bareD m = bareD n ++ bl t ∧ n ≤ m ∧ Below (w.alloc (.cells #[.bool false, .string ⟨#[]⟩, .int .i64 0] 25)).heap.size (w.alloc (.cells #[.bool false, .string ⟨#[]⟩, .int .i64 0] 25)) wr) (fun _ nv _ => (intOf nv).toNat)
    case atStart => exact ⟨_, m, rfl, rfl, (List.append_nil _).symm, Nat.le_refl _, Below.refl _ _⟩
    case round =>
      obtain ⟨t, n, rfl, rfl, ht, hn, hbr⟩ := hrel
      have HTT : Hid (bareD m = bareD n ++ bl t) := ht
      have HBR : Hid _ := hbr
      have hsz : t.size ≤ 17 := by
        have h2 := bare_len_le m 17 (by omega)
        have h3 := congrArg List.length ht
        rw [List.length_append, bl_len] at h3
        omega
      clear ht hbr
      by_cases hz : n = 0
      · subst hz
        have ht0 := HT0.out t HTT.out
        subst ht0
        simp only [show ((0 : Nat) : Int) = 0 from rfl]
        generalize wr = w5 at *
        by_cases hE : 0 ≤ E
        · obtain ⟨N, rfl⟩ : ∃ N : Nat, E = N := ⟨E.toNat, by omega⟩
          obtain ⟨Tf, hTf⟩ : ∃ f : Nat → ByteArray, f = fun i => bs (bareD (m * 2 ^ i)) := ⟨_, rfl⟩
          have h0 : bs (bareD m) = Tf 0 := by rw [hTf]; simp
          rw [h0]
          have HTM : Hid (∀ W i, i < 1100 → Calls Tryz.prog 46 #[.string (Tf i), .int .i64 2] W fun e w' => e = .returned (.string (Tf (i + 1))) ∧ Below W.heap.size W w') := fun W i hi => by rw [hTf]; exact times_step m i 2 k3 (by decide) (by omega) W
          have HMD2 : Hid (∀ W, Calls Tryz.prog 28 #[.bool S, .string (Tf N), .int .i64 0] W fun en w' => en = .returned (.tuple #[.agg #[.bool D.neg, .string (bs D.s), .int .i64 D.e], .int .i64 X]) ∧ Below W.heap.size W w') := fun W => by
            obtain ⟨e1, e2⟩ := HE1.out N rfl
            rw [hTf]
            exact HMD.out W _ 0 e1.symm e2.symm (by have := pow_bare (m := m) (k := 2) (i := N) k3 (by decide) (by omega); omega)
          clear h0 hTf HE1 HE2 HMD HTT HT0 hsz
          go_upto_region 10 with fail
          go_loopw [8, 10] (fun sv iv wz => ∃ i : Nat, i ≤ N ∧ sv = .string (Tf i) ∧ iv = .int .i64 (i : Nat) ∧ Below w5.heap.size w5 wz) (fun _ iv _ => N - (intOf iv).toNat)
          case atStart => exact ⟨0, Nat.zero_le _, rfl, rfl, Below.refl _ _⟩
          case round =>
            obtain ⟨i, hi, rfl, rfl, hbz⟩ := hrel
            have HBZ : Hid (Below w5.heap.size w5 wr) := hbz
            clear hbz
            by_cases hiN : i < N
            · go_wp2_with fail
              refine (HTM.out _ i (by omega)).mono ?_
              rintro e w3 ⟨rfl, hb3⟩
              have HB3 : Hid (Below w5.heap.size w5 w3) := HBZ.out.thru hb3
              clear hb3
              go_wp2_with fail
              go_roundw
              case rel => exact ⟨i + 1, by omega, rfl, by go_num, HB3.out⟩
              case measure => simp [intOf]; omega
            · obtain rfl : i = N := by omega
              go_wp2_with fail
              refine (HMD2.out _).mono ?_
              rintro e w3 ⟨rfl, hb3⟩
              have HB3 : Hid (Below w.heap.size w w3) := ((HB0.out.trans (HBR.out.mono (Nat.le_of_lt HSZ.out))).thru HBZ.out).thru hb3
              have q1 := HBR.out.blk HQ0.out HSZ.out
              have q2 := HBZ.out.blk q1 (blk_lt q1)
              obtain ⟨f0, c0, f1, c1, f2, c2, r3⟩ := rw3 (hb3.blk q2 (blk_lt q2))
              have HR : Hid _ := r3
              clear hb3 r3 q1 q2
              go_wp2
              exact dc_end rfl rfl rfl (HR.out _ _ _) rfl rfl (below_row3 HB3.out (Nat.le_refl _) _ _ _)
        · obtain ⟨N, hN0, rfl⟩ : ∃ N : Nat, 0 < N ∧ E = -(N : Int) := ⟨(-E).toNat, by omega, by omega⟩
          obtain ⟨Tf, hTf⟩ : ∃ f : Nat → ByteArray, f = fun i => bs (bareD (m * 5 ^ i)) := ⟨_, rfl⟩
          have h0 : bs (bareD m) = Tf 0 := by rw [hTf]; simp
          rw [h0]
          have HTM : Hid (∀ W i, i < 1100 → Calls Tryz.prog 46 #[.string (Tf i), .int .i64 5] W fun e w' => e = .returned (.string (Tf (i + 1))) ∧ Below W.heap.size W w') := fun W i hi => by rw [hTf]; exact times_step m i 5 k3 (by decide) (by omega) W
          have HMD2 : Hid (∀ W, Calls Tryz.prog 28 #[.bool S, .string (Tf N), .int .i64 (-(N : Int))] W fun en w' => en = .returned (.tuple #[.agg #[.bool D.neg, .string (bs D.s), .int .i64 D.e], .int .i64 X]) ∧ Below W.heap.size W w') := fun W => by
            obtain ⟨e1, e2⟩ := HE2.out N hN0 rfl
            rw [hTf]
            exact HMD.out W _ _ e1.symm e2.symm (by have := pow_bare (m := m) (k := 5) (i := N) k3 (by decide) (by omega); omega)
          have hwn : IntKind.i64.wrap (- -(N : Int)) = (N : Int) := by rw [Int.neg_neg]; exact IntWalk.i64_in _ (by omega)
          have hN1 : ¬ (0 : Int) < -(N : Int) := by omega
          have hN2 : ¬ (0 : Int) ≤ -(N : Int) := by omega
          clear h0 hTf HE1 HE2 HMD HTT HT0 hsz hE
          go_upto_region 10 with fail
          go_loopw [8, 10] (fun sv iv wz => sv = .string (Tf 0) ∧ iv = .int .i64 0 ∧ wz = w5) (fun _ _ _ => 0)
          case atStart => exact ⟨rfl, rfl, rfl⟩
          case round =>
            obtain ⟨rfl, rfl, hw5⟩ := hrel
            have hw5 := hw5.symm
            subst hw5
            go_upto_region 16 with fail
            go_loopw [8, 11] (fun sv iv wz => ∃ i : Nat, i ≤ N ∧ sv = .string (Tf i) ∧ iv = .int .i64 (i : Nat) ∧ Below w5.heap.size w5 wz) (fun _ iv _ => N - (intOf iv).toNat)
            case atStart => exact ⟨0, Nat.zero_le _, rfl, rfl, Below.refl _ _⟩
            case round =>
              obtain ⟨i, hi, rfl, rfl, hbz⟩ := hrel
              have HBZ : Hid (Below w5.heap.size w5 wr) := hbz
              clear hbz
              by_cases hiN : i < N
              · go_wp2_with fail
                refine (HTM.out _ i (by omega)).mono ?_
                rintro e w3 ⟨rfl, hb3⟩
                have HB3 : Hid (Below w5.heap.size w5 w3) := HBZ.out.thru hb3
                clear hb3
                go_wp2_with fail
                go_roundw
                case rel => exact ⟨i + 1, by omega, rfl, by go_num, HB3.out⟩
                case measure => simp [intOf]; omega
              · obtain rfl : i = N := by omega
                go_wp2_with fail
                refine (HMD2.out _).mono ?_
                rintro e w3 ⟨rfl, hb3⟩
                have HB3 : Hid (Below w.heap.size w w3) := ((HB0.out.trans (HBR.out.mono (Nat.le_of_lt HSZ.out))).thru HBZ.out).thru hb3
                have q1 := HBR.out.blk HQ0.out HSZ.out
                have q2 := HBZ.out.blk q1 (blk_lt q1)
                obtain ⟨f0, c0, f1, c1, f2, c2, r3⟩ := rw3 (hb3.blk q2 (blk_lt q2))
                have HR : Hid _ := r3
                clear hb3 r3 q1 q2
                go_wp2
                exact dc_end rfl rfl rfl (HR.out _ _ _) rfl rfl (below_row3 HB3.out (Nat.le_refl _) _ _ _)
      · obtain ⟨c, hc⟩ : ∃ c, c = 48 + n % 10 := ⟨_, rfl⟩
        have kk := one_byte c (by omega) (wr.alloc (.cells #[.int .u8 (48 + (n : Int) % 10)] 5)) wr.heap.size 5 (by rw [show (48 + (n : Int) % 10) = (c : Int) by omega]; exact new_blk _ _)
        obtain ⟨u, hu⟩ : ∃ u, u = bs [UInt8.ofNat c] := ⟨_, rfl⟩
        rw [← hu] at kk
        have hus : u.size = 1 := by rw [hu]; rfl
        have hnz : 0 < (n : Int) := by omega
        have HNX : Hid (bareD m = bareD (n / 10) ++ bl (u ++ t)) := by
          show _ = _
          rw [HTT.out, bare_step n (by omega), bl_append, hu, hc, bl_bs, List.append_assoc]
        have HBN : Hid (∀ v, Below (w.alloc (.cells #[.bool false, .string ⟨#[]⟩, .int .i64 0] 25)).heap.size (w.alloc (.cells #[.bool false, .string ⟨#[]⟩, .int .i64 0] 25)) (wr.alloc (.cells #[.int .u8 v] 5))) := fun v => HBR.out.alloc HBR.out.size _
        clear hc hu
        go_wp2_with fail
        refine ⟨⟨u ++ t, n / 10, rfl, by rw [show ((n : Int) / 10) = ((n / 10 : Nat) : Int) by omega], HNX.out, by omega, HBN.out _⟩, ?_⟩
        show ((n : Int) / 10).toNat < (n : Int).toNat
        omega
  · have hD' : D = Dc.none := by rw [hD]; unfold ofD; rw [if_neg (by rw [hx]; decide)]
    have hX' : X = 10 := by rw [hX]; unfold ofX; rw [if_neg (by rw [hx]; decide)]
    rw [hx] at HS
    clear hD hX
    subst hX' hD'
    clear hx k1 k2 k3
    go_enter Tryz.func17, Tryz.ntmps17
    go_wp2_with fail
    refine (HS.out _).mono ?_
    rintro e w1 ⟨rfl, rfl⟩
    go_wp2
    exact dc_end rfl rfl rfl HQ0.out rfl rfl HB0.out
end Go.Proofs.YtpfnfhikhlceoaaGreatDoor
