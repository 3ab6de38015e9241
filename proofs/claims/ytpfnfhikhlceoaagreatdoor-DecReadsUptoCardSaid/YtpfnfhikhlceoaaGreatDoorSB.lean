/- Parts Hf of the proof, in one text. -/
import Derived.Test.YtpfnfhikhlceoaaGreatDoorSA

/- Walks: the document's answer: Mul. -/
namespace Go.Proofs.YtpfnfhikhlceoaaGreatDoor
open Go.RowKit

/-- A text's digit. -/
def da (l : List UInt8) (i : Nat) : Nat := (l.getD i 0).toNat - 48
theorem da_take (l : List UInt8) (k : Nat) (hk : k < l.length) : dval (l.take (k + 1)) = 10 * dval (l.take k) + da l k := by
  rw [dval_take_next l k hk]; unfold da; rw [List.getD_eq_getElem?_getD, List.getElem?_eq_getElem hk]; rfl
theorem da_byte {s : ByteArray} (h : allDig (bl s)) (i : Nat) (hi : i < s.size) : (s[i]).toNat = 48 + da (bl s) i ∧ da (bl s) i ≤ 9 := by
  have hm : (bl s)[i]'(by rw [bl_len]; exact hi) ∈ bl s := List.getElem_mem _
  obtain ⟨-, h4, h5⟩ := dig_back _ (h _ hm)
  rw [bl_get s i hi]
  unfold da
  rw [List.getD_eq_getElem?_getD, List.getElem?_eq_getElem (by rw [bl_len]; exact hi)]
  show _ = 48 + (_ - 48) ∧ _
  simp only [Option.getD_some]
  omega
theorem mul_in_next {us : List Nat} {bsl : List UInt8} {P D la lb i k at' : Nat} (hn : at' < us.length) (hat : at' + (i + k + 2) = la + lb) (hi : i < la) (hk : k < lb) (hlb : bsl.length = lb)
    (h : lval 10 us = P + D * 10 ^ (la - 1 - i) * (dval (bsl.take k) * 10 ^ (lb - k))) :
    lval 10 (us.set at' (us.getD at' 0 + D * da bsl k)) = P + D * 10 ^ (la - 1 - i) * (dval (bsl.take (k + 1)) * 10 ^ (lb - (k + 1))) := by
  have h1 := lval_set 10 us at' (us.getD at' 0 + D * da bsl k) hn
  rw [da_take bsl k (by omega)]
  have e1 : 10 ^ (lb - k) = 10 * 10 ^ (lb - (k + 1)) := by rw [← Nat.pow_succ']; congr 1; omega
  have e2 : 10 ^ at' = 10 ^ (la - 1 - i) * 10 ^ (lb - (k + 1)) := by rw [← Nat.pow_add]; congr 1; omega
  rw [e1] at h
  rw [e2] at h1
  generalize 10 ^ (la - 1 - i) = p at *
  generalize 10 ^ (lb - (k + 1)) = q at *
  generalize dval (bsl.take k) = T at *
  generalize da bsl k = E at *
  generalize us.getD at' 0 = z at *
  have e3 : p * q * (z + D * E) = p * q * z + D * p * (E * q) := by
    rw [Nat.mul_add]; congr 1
    simp only [Nat.mul_comm, Nat.mul_left_comm]
  have e4 : D * p * ((10 * T + E) * q) = D * p * (T * (10 * q)) + D * p * (E * q) := by
    rw [← Nat.mul_add]; congr 1
    rw [Nat.add_mul]; congr 1
    simp only [Nat.mul_comm, Nat.mul_left_comm]
  rw [e3] at h1
  rw [e4]
  omega
theorem mul_out_next {asl bsl : List UInt8} {la lb i B : Nat} (hi : i < la) (hla : asl.length = la) (hlb : bsl.length = lb) (hB : B = dval bsl) :
    dval (asl.take i) * 10 ^ (la - i) * B + da asl i * 10 ^ (la - 1 - i) * (dval (bsl.take lb) * 10 ^ (lb - lb)) = dval (asl.take (i + 1)) * 10 ^ (la - (i + 1)) * B := by
  rw [da_take asl i (by omega), List.take_of_length_le (l := bsl) (by omega), ← hB, Nat.sub_self, Nat.pow_zero, Nat.mul_one]
  have e1 : 10 ^ (la - i) = 10 * 10 ^ (la - (i + 1)) := by rw [← Nat.pow_succ']; congr 1; omega
  rw [e1, show la - 1 - i = la - (i + 1) by omega, ← Nat.add_mul]
  congr 1
  rw [Nat.add_mul]; congr 1
  simp only [Nat.mul_assoc, Nat.mul_comm, Nat.mul_left_comm]
theorem low_next {zs : List Nat} {V i c : Nat} (hi : i < zs.length) (hV : V = lval 10 zs) (hc : c = lval 10 (zs.take i) / 10 ^ i) :
    (zs.getD i 0 + c) % 10 = dg V i ∧ (zs.getD i 0 + c) / 10 = lval 10 (zs.take (i + 1)) / 10 ^ (i + 1) := by
  have hp : 0 < 10 ^ i := Nat.pow_pos (by decide)
  have h1 := lval_take_nextG 10 zs i
  have h2 : lval 10 (zs.take (i + 1)) / 10 ^ i = zs.getD i 0 + c := by rw [h1, Nat.add_mul_div_left _ _ hp, hc, Nat.add_comm]
  have h3 := lval_take_drop 10 zs (i + 1) (by omega)
  refine ⟨?_, ?_⟩
  · unfold dg
    rw [hV, h3, Nat.pow_succ, Nat.mul_assoc, Nat.add_mul_div_left _ _ hp, h2, Nat.add_mul_mod_self_left]
  · rw [← h2, Nat.div_div_eq_div_mul, ← Nat.pow_succ]
theorem mk_ints (k : Nat) (w : World) (hk : k ≤ 1000000) : (Instr.makeSlice 117 (.int .i64 k) (.int .i64 k)).run Tryz.prog w = .ok (.slice (some ⟨w.heap.size, 0, none⟩) k k) (w.alloc (.cells (Array.replicate k (.int .i64 0)) 3)) := by
  have hi : (Tryz.prog.info? 3).map (fun i => (i.zero, i.size, i.bytes)) = some (some (.int .i64 0), 1, 8) := by kernel_rfl
  obtain ⟨i, h1, h2⟩ := Option.map_eq_some_iff.1 hi
  obtain ⟨h2, h3, h4⟩ : i.zero = some (.int .i64 0) ∧ i.size = 1 ∧ i.bytes = 8 := by
    simp only [Prod.mk.injEq] at h2; exact ⟨h2.1, h2.2.1, h2.2.2⟩
  have := run_makeSlice (P := Tryz.prog) w 117 3 i (.int .i64 0) Tryz.underlying117 h1 h2 .i64 .i64 k k (by omega) (by omega) (by rw [h3]; omega) (by rw [h4]; omega) (by omega)
  rw [this, h3]
  have e : madeCells (Value.int IntKind.i64 0).cells ((k : Int).toNat * 1) = Array.replicate k (.int .i64 0) := by
    apply Array.ext
    · simp [madeCells]
    · intro j h1 h2
      simp [madeCells, Value.cells, Nat.mod_one]
  rw [e]; rfl
theorem own_ints (k : Nat) (w : World) (hk : k ≤ 4611686018427387904) (t : TypeId) : OwnW .i64 t (w.alloc (.cells (Array.replicate k (.int .i64 0)) t)) w.heap.size k (List.replicate k 0) := by
  refine ⟨by simp, .inr ⟨w.heap.size, k, Array.replicate k (.int .i64 0), rfl, Nat.le_refl _, new_blk _ _, Nat.le_refl _, by unfold maxLen; omega, by simp, ?_⟩⟩
  rw [Nat.mul_one, List.take_of_length_le (by simp)]
  simp
theorem getD_set_le {zs : List Nat} {q v M : Nat} (h : ∀ j, zs.getD j 0 ≤ M) (hv : v ≤ M) : ∀ j, (zs.set q v).getD j 0 ≤ M := by
  intro j
  have := h j
  rw [List.getD_eq_getElem?_getD] at this ⊢
  rw [List.getElem?_set]
  split
  · split
    · exact hv
    · exact Nat.zero_le _
  · exact this

set_option maxHeartbeats 4000000 in
set_option maxRecDepth 100000 in
theorem rmul_v (a b : Dc) (w : World) (hsa : a.s.length ≤ 9223372036854775807) (hsb : b.s.length ≤ 9223372036854775807) :
    Calls Tryz.prog 69 #[dcV a, dcV b] w (DcQ (if (a.okB && b.okB) = true then mulD a b else Dc.none) (if (a.okB && b.okB) = true then mulX a b else 1) w) := by
  have HV : Hid (∀ W, Calls Tryz.prog 66 #[.agg #[.bool a.neg, .string (bs a.s), .int .i64 a.e]] W fun en w' => en = .returned (.bool a.okB) ∧ Below W.heap.size W w') := fun W => rvalid_v a W hsa
  have HU : Hid (∀ W, Calls Tryz.prog 66 #[.agg #[.bool b.neg, .string (bs b.s), .int .i64 b.e]] W fun en w' => en = .returned (.bool b.okB) ∧ Below W.heap.size W w') := fun W => rvalid_v b W hsb
  have hb0 : Below w.heap.size w (((w.alloc (.cells #[.bool a.neg, .string (bs a.s), .int .i64 a.e] 25)).alloc (.cells #[.bool b.neg, .string (bs b.s), .int .i64 b.e] 25)).alloc (.cells #[.bool false, .string ⟨#[]⟩, .int .i64 0] 25)) := (((Below.refl _ _).alloc (Nat.le_refl _) _).alloc (by simp) _).alloc (by simp; omega) _
  have q0 := heap_alloc3_0 w (.cells #[.bool a.neg, .string (bs a.s), .int .i64 a.e] 25) (.cells #[.bool b.neg, .string (bs b.s), .int .i64 b.e] 25) (.cells #[.bool false, .string ⟨#[]⟩, .int .i64 0] 25)
  have q1 := heap_alloc3_1 w (.cells #[.bool a.neg, .string (bs a.s), .int .i64 a.e] 25) (.cells #[.bool b.neg, .string (bs b.s), .int .i64 b.e] 25) (.cells #[.bool false, .string ⟨#[]⟩, .int .i64 0] 25)
  have q2 := heap_alloc3_2 w (.cells #[.bool a.neg, .string (bs a.s), .int .i64 a.e] 25) (.cells #[.bool b.neg, .string (bs b.s), .int .i64 b.e] 25) (.cells #[.bool false, .string ⟨#[]⟩, .int .i64 0] 25)
  have HQ0 : Hid _ := q0
  have HQ1 : Hid _ := q1
  have HQ2 : Hid _ := q2
  have HB0 : Hid _ := hb0
  clear hb0 q0 q1 q2
  cases hao : a.okB
  · rw [hao] at HV
    rw [Bool.false_and, if_neg (by simp), if_neg (by simp)]
    clear hao HU hsa hsb
    show Calls Tryz.prog 69 #[.agg #[.bool a.neg, .string (bs a.s), .int .i64 a.e], .agg #[.bool b.neg, .string (bs b.s), .int .i64 b.e]] w _
    go_enter Tryz.func69, Tryz.ntmps69
    go_wp2_with fail
    refine (HV.out _).mono ?_
    rintro e' w1 ⟨rfl, hb⟩
    have r2 := hb.blk HQ2.out (blk_lt HQ2.out)
    obtain ⟨f0, c0, f1, c1, f2, c2, r3⟩ := rw3 r2
    have HR : Hid _ := r3
    have HBB : Hid (Below w.heap.size w w1) := HB0.out.thru hb
    clear r2 r3 hb
    go_wp2
    exact dc_end rfl rfl rfl (HR.out _ _ _) rfl rfl (below_row3 HBB.out (Nat.le_add_right _ 2) _ _ _)
  · rw [hao] at HV
    cases hbo : b.okB
    · rw [hbo] at HU
      rw [Bool.and_false, if_neg (by simp), if_neg (by simp)]
      clear hao hbo hsa hsb
      show Calls Tryz.prog 69 #[.agg #[.bool a.neg, .string (bs a.s), .int .i64 a.e], .agg #[.bool b.neg, .string (bs b.s), .int .i64 b.e]] w _
      go_enter Tryz.func69, Tryz.ntmps69
      go_wp2_with fail
      refine (HV.out _).mono ?_
      rintro e' w1 ⟨rfl, hb⟩
      have HQ11 : Hid _ := hb.blk HQ1.out (blk_lt HQ1.out)
      have HB1 : Hid (Below w.heap.size w w1) := HB0.out.thru hb
      have HQ12 : Hid _ := hb.blk HQ2.out (blk_lt HQ2.out)
      have k0 := cell_of_row _ _ 0 _ _ _ HQ11.out
      have k1 := cell_of_row _ _ 1 _ _ _ HQ11.out
      have k2 := cell_of_row _ _ 2 _ _ _ HQ11.out
      clear hb
      go_wp2_with fail
      refine (HU.out _).mono ?_
      rintro e' w2 ⟨rfl, hb⟩
      have r2 := hb.blk HQ12.out (blk_lt HQ12.out)
      obtain ⟨f0, c0, f1, c1, f2, c2, r3⟩ := rw3 r2
      have HR : Hid _ := r3
      have HBB : Hid (Below w.heap.size w w2) := HB1.out.thru hb
      clear r2 r3 hb
      go_wp2
      exact dc_end rfl rfl rfl (HR.out _ _ _) rfl rfl (below_row3 HBB.out (Nat.le_add_right _ 2) _ _ _)
    · rw [hbo] at HU
      have hA := (okB_iff a).1 hao
      have hB := (okB_iff b).1 hbo
      rw [Bool.and_true, if_pos rfl, if_pos rfl]
      obtain ⟨n, hn⟩ : ∃ n, n = a.s.length + b.s.length + 1 := ⟨_, rfl⟩
      have hla := ok_len hA
      have hlb := ok_len hB
      obtain ⟨PT, hPT⟩ : ∃ S, S = bs (padK n (dval a.s * dval b.s)) := ⟨_, rfl⟩
      have hVn : dval a.s * dval b.s < 10 ^ n := by
        have h1 := ok_val hA
        have h2 := ok_val hB
        have h3 : dval a.s * dval b.s < 10 ^ (a.s.length + b.s.length) := by rw [Nat.pow_add]; exact Nat.lt_of_le_of_lt (Nat.mul_le_mul_left _ (Nat.le_of_lt h2)) (Nat.mul_lt_mul_of_pos_right h1 (Nat.pow_pos (by decide)))
        exact Nat.lt_of_lt_of_le h3 (Nat.pow_le_pow_right (by decide) (by omega))
      have HMD : Hid (∀ W, Calls Tryz.prog 28 #[.bool (a.neg != b.neg), .string PT, .int .i64 (a.e + b.e)] W (DcQ (mulD a b) (mulX a b) W)) := fun W => by
        have := rmade_v (a.neg != b.neg) PT (a.e + b.e) W (by rw [hPT, bl_bs]; exact padK_all _ _) (by rw [hPT]; show (padK _ _).length ≤ _; rw [padK_len]; omega)
        rw [hPT, bl_bs, padK_val, Nat.mod_eq_of_lt hVn, ← hPT] at this
        have e : a.v * b.v = sg (a.neg != b.neg) (dval a.s * dval b.s) := by
          show sg _ _ * sg _ _ = _
          unfold sg; cases a.neg <;> cases b.neg <;> simp [Int.neg_mul, Int.mul_neg]
        unfold mulD mulX
        rw [e, (mkD_sg _ _ _).1, (mkD_sg _ _ _).2]
        exact this
      have HPT : Hid (PT = bs (padK n (dval a.s * dval b.s))) := hPT
      have HN : Hid (n = a.s.length + b.s.length + 1) := hn
      have HE : Hid (IntKind.i64.wrap (a.e + b.e) = a.e + b.e) := by have := ok_exp hA; have := ok_exp hB; exact IntWalk.i64_in _ (by omega)
      have HDA : Hid (∀ i (h : i < (bs a.s).size), ((bs a.s)[i]).toNat = 48 + da a.s i ∧ da a.s i ≤ 9) := fun i h => da_byte (s := bs a.s) (ok_dig hA) i h
      have HDB : Hid (∀ i (h : i < (bs b.s).size), ((bs b.s)[i]).toNat = 48 + da b.s i ∧ da b.s i ≤ 9) := fun i h => da_byte (s := bs b.s) (ok_dig hB) i h
      have HLA : Hid ((bs a.s).size = a.s.length ∧ (bs b.s).size = b.s.length) := ⟨rfl, rfl⟩
      clear hPT hVn hn hla hlb
      have hlA : (bs a.s).size ≤ 8192 := ok_len hA
      have hlB : (bs b.s).size ≤ 8192 := ok_len hB
      clear hao hbo hsa hsb hA hB
      show Calls Tryz.prog 69 #[.agg #[.bool a.neg, .string (bs a.s), .int .i64 a.e], .agg #[.bool b.neg, .string (bs b.s), .int .i64 b.e]] w _
      go_enter Tryz.func69, Tryz.ntmps69
      go_wp2_with fail
      refine (HV.out _).mono ?_
      rintro e' w1 ⟨rfl, hb⟩
      have P0 : Hid _ := hb.blk HQ0.out (blk_lt HQ0.out)
      have P1 : Hid _ := hb.blk HQ1.out (blk_lt HQ1.out)
      have P2 : Hid _ := hb.blk HQ2.out (blk_lt HQ2.out)
      have HB1 : Hid (Below w.heap.size w w1) := HB0.out.thru hb
      have k0 := cell_of_row _ _ 0 _ _ _ P1.out
      have k1 := cell_of_row _ _ 1 _ _ _ P1.out
      have k2 := cell_of_row _ _ 2 _ _ _ P1.out
      clear hb
      go_wp2_with fail
      refine (HU.out _).mono ?_
      rintro e' w2 ⟨rfl, hb⟩
      have R0 : Hid _ := hb.blk P0.out (blk_lt P0.out)
      have R1 : Hid _ := hb.blk P1.out (blk_lt P1.out)
      have R2 : Hid _ := hb.blk P2.out (blk_lt P2.out)
      have HB2 : Hid (Below w.heap.size w w2) := HB1.out.thru hb
      have j0 := cell_of_row _ _ 0 _ _ _ R0.out
      have j1 := cell_of_row _ _ 1 _ _ _ R0.out
      have j2 := cell_of_row _ _ 2 _ _ _ R0.out
      have i0 := cell_of_row _ _ 0 _ _ _ R1.out
      have i1 := cell_of_row _ _ 1 _ _ _ R1.out
      have i2 := cell_of_row _ _ 2 _ _ _ R1.out
      clear hb k0 k1 k2
      clear j0 j2 i0 i2
      have hnn : n = (bs a.s).size + (bs b.s).size + 1 := HN.out
      have kn : IntKind.i64.wrap ((((bs a.s).size : Int) + ((bs b.s).size : Int)) + 1) = (n : Int) := by rw [IntWalk.i64_in _ (by omega)]; omega
      have hmk := mk_ints n w2 (by omega)
      generalize bs a.s = sa at *
      generalize bs b.s = sb at *
      clear hnn
      go_upto_region 5 with fail
      have HO1 : Hid _ := own_ints n w2 (by have := HN.out; have := HLA.out; omega) 3
      have HBx : Hid _ := (Below.refl w2.heap.size w2).alloc (Nat.le_refl _) (.cells (Array.replicate n (.int .i64 0)) 3)
      obtain ⟨w3, hw3⟩ : ∃ w3, w3 = w2.alloc (.cells (Array.replicate n (.int .i64 0)) 3) := ⟨_, rfl⟩
      rw [← hw3] at HO1 HBx ⊢
      clear hw3 hmk kn j1 i1
      go_loopw [7] (fun iv wr => ∃ (r : Nat) (zs : List Nat), r ≤ sa.size ∧ iv = .int .i64 (r : Nat) ∧ OwnW .i64 3 wr w2.heap.size n zs ∧ lval 10 zs = dval (a.s.take r) * 10 ^ (a.s.length - r) * dval b.s ∧ (∀ j, zs.getD j 0 ≤ 81 * (8192 * r)) ∧ Below w2.heap.size w2 wr) (fun iv _ => sa.size - (intOf iv).toNat)
      case atStart => exact ⟨0, _, Nat.zero_le _, rfl, HO1.out, by rw [lval_zeros, List.take_zero, dval_nil, Nat.zero_mul, Nat.zero_mul], fun j => by rw [List.getD_eq_getElem?_getD, List.getElem?_replicate]; split <;> simp, HBx.out⟩
      case round =>
        obtain ⟨r, zs, hi, rfl, ho, hv, hm, hb⟩ := hrel
        have HO : Hid (OwnW .i64 3 wr w2.heap.size n zs) := ho
        have HV : Hid (lval 10 zs = dval (a.s.take r) * 10 ^ (a.s.length - r) * dval b.s) := hv
        have HM : Hid (∀ j, zs.getD j 0 ≤ 81 * (8192 * r)) := hm
        have HB : Hid (Below w2.heap.size w2 wr) := hb
        clear hv hm ho
        have j1 := cell_of_row _ _ 1 _ _ _ (hb.blk R0.out (blk_lt R0.out))
        have i1 := cell_of_row _ _ 1 _ _ _ (hb.blk R1.out (blk_lt R1.out))
        clear hb
        by_cases hin : r < sa.size
        · obtain ⟨D, hD⟩ : ∃ D, D = da a.s r := ⟨_, rfl⟩
          have HAD : Hid ((sa[r]'hin).toNat = 48 + D ∧ D ≤ 9) := by rw [hD]; exact HDA.out r hin
          have HD : Hid (D = da a.s r) := hD
          clear hD
          go_upto_region 8 with fail
          clear j1 i1
          generalize wr = w4 at *
          go_loopw [8] (fun kv wr => ∃ (k : Nat) (us : List Nat), k ≤ sb.size ∧ kv = .int .i64 (k : Nat) ∧ OwnW .i64 3 wr w2.heap.size n us ∧ lval 10 us = dval (a.s.take r) * 10 ^ (a.s.length - r) * dval b.s + D * 10 ^ (a.s.length - 1 - r) * (dval (b.s.take k) * 10 ^ (b.s.length - k)) ∧ (∀ j, us.getD j 0 ≤ 81 * (8192 * r + k)) ∧ Below w2.heap.size w2 wr) (fun kv _ => sb.size - (intOf kv).toNat)
          case atStart => exact ⟨0, zs, Nat.zero_le _, rfl, HO.out, by rw [HV.out, List.take_zero, dval_nil, Nat.zero_mul, Nat.mul_zero, Nat.add_zero], HM.out, HB.out⟩
          case round =>
            obtain ⟨k, us, hk, rfl, ho, hv, hm, hb⟩ := hrel
            have HO2 : Hid (OwnW .i64 3 wr w2.heap.size n us) := ho
            have HV2 : Hid (lval 10 us = dval (a.s.take r) * 10 ^ (a.s.length - r) * dval b.s + D * 10 ^ (a.s.length - 1 - r) * (dval (b.s.take k) * 10 ^ (b.s.length - k))) := hv
            have HM2 : Hid (∀ j, us.getD j 0 ≤ 81 * (8192 * r + k)) := hm
            have HB2a : Hid (Below w2.heap.size w2 wr) := hb
            clear hv hm ho
            have j1 := cell_of_row _ _ 1 _ _ _ (hb.blk R0.out (blk_lt R0.out))
            have i1 := cell_of_row _ _ 1 _ _ _ (hb.blk R1.out (blk_lt R1.out))
            clear hb
            by_cases hkn : k < sb.size
            · obtain ⟨E, hE⟩ : ∃ E, E = da b.s k := ⟨_, rfl⟩
              have HBE : Hid ((sb[k]'hkn).toNat = 48 + E ∧ E ≤ 9) := by rw [hE]; exact HDB.out k hkn
              have HE2 : Hid (E = da b.s k) := hE
              obtain ⟨q, hq⟩ : ∃ q, q + (r + k + 2) = sa.size + sb.size := ⟨sa.size + sb.size - (r + k + 2), by omega⟩
              have HQ : Hid (q + (r + k + 2) = sa.size + sb.size) := hq
              have hqn : q < n := by have := HN.out; have := HLA.out; omega
              have kq : IntKind.i64.wrap ((sa.size : Int) - 1 - (r : Int) + (sb.size : Int) - 1 - (k : Int)) = (q : Int) := by rw [IntWalk.i64_in _ (by omega)]; omega
              obtain ⟨z, hz⟩ : ∃ z, z = us.getD q 0 := ⟨_, rfl⟩
              have c1 := HO2.out.cell hqn
              rw [← hz] at c1
              have HZ : Hid (z = us.getD q 0) := hz
              have hz9 : z ≤ 5500000000 := by have := HM2.out q; omega
              have f1 := HO2.out.frozen q
              have HC1 : Hid _ := c1
              have HGL : Hid (w2.heap.size < wr.heap.size) := (World.ownsRow.lt HO2.out w2.heap.size rfl).2
              have HGW : Hid (w2.heap.size < wr.heap.size) := HGL.out
              have HRA : Hid _ := HB2a.out.blk R0.out (blk_lt R0.out)
              have HRB : Hid _ := HB2a.out.blk R1.out (blk_lt R1.out)
              have HQN : Hid (q < n) := hqn
              have FX : Hid (((sa[r]'hin).toNat : Int) = 48 + (D : Int)) := by show _ = _; rw [HAD.out.1]; omega
              have FY : Hid (((sb[k]'hkn).toNat : Int) = 48 + (E : Int)) := by show _ = _; rw [HBE.out.1]; omega
              have HS1 : Hid (IntKind.u8.wrap (48 + (D : Int) - 48) = (D : Int)) := by show _ = _; have := HAD.out.2; unfold IntKind.wrap; simp [IntKind.bits, IntKind.signed]; omega
              have HS2 : Hid (IntKind.u8.wrap (48 + (E : Int) - 48) = (E : Int)) := by show _ = _; have := HBE.out.2; unfold IntKind.wrap; simp [IntKind.bits, IntKind.signed]; omega
              have HDE9 : Hid (D * E ≤ 81) := Nat.mul_le_mul HAD.out.2 HBE.out.2
              have HS3 : Hid (IntKind.i64.wrap ((D : Int) * (E : Int)) = (D : Int) * (E : Int)) := by show _ = _; have := HDE9.out; rw [← Int.natCast_mul]; exact IntWalk.i64_in _ (by omega)
              have HS4 : Hid (IntKind.i64.wrap ((z : Int) + (D : Int) * (E : Int)) = (z : Int) + (D : Int) * (E : Int)) := by show _ = _; have := HDE9.out; rw [← Int.natCast_mul, ← Int.natCast_add]; exact IntWalk.i64_in _ (by omega)
              have HW1 : Hid (IntKind.i64.wrap (D : Int) = (D : Int)) := by have := HAD.out.2; exact IntWalk.i64_in _ (by omega)
              have HW2 : Hid (IntKind.i64.wrap (E : Int) = (E : Int)) := by have := HBE.out.2; exact IntWalk.i64_in _ (by omega)
              clear hE hz hq c1
              go_upto_region 11 with fail
              clear j1 i1 kq
              have h1 : once [(59, 0), (60, 1), (61, 2), (62, 3), (63, 4), (64, 5), (65, 6), (66, 7), (67, 8), (68, 9), (69, 10), (70, 11), (71, 12), (72, 13), (73, 14), (74, 15), (75, 16), (76, 17), (77, 18), (78, 19), (79, 20)] = true := by kernel_rfl
              have h2 : within [(59, 0), (60, 1), (61, 2), (62, 3), (63, 4), (64, 5), (65, 6), (66, 7), (67, 8), (68, 9), (69, 10), (70, 11), (71, 12), (72, 13), (73, 14), (74, 15), (75, 16), (76, 17), (77, 18), (78, 19), (79, 20)] 123 = true := by kernel_rfl
              refine wp_region_flow 21 22 [(59, 0), (60, 1), (61, 2), (62, 3), (63, 4), (64, 5), (65, 6), (66, 7), (67, 8), (68, 9), (69, 10), (70, 11), (71, 12), (72, 13), (73, 14), (74, 15), (75, 16), (76, 17), (77, 18), (78, 19), (79, 20)] [] (fun i v W => match i with
                | 0 => v = .slice (some ⟨w2.heap.size, 0, none⟩) n n
                | 1 => v = .int .i64 (q : Nat)
                | 2 => v = .slice (some ⟨w2.heap.size, 0, none⟩) n n
                | 3 => v = .int .i64 (q : Nat)
                | 4 => v = .pointer (some ⟨w2.heap.size, q, none⟩)
                | 5 => v = .int .i64 (z : Nat)
                | 6 => v = .pointer (some ⟨w.heap.size, 1, none⟩)
                | 7 => v = .string sa
                | 8 => v = .int .i64 (r : Nat)
                | 9 => v = .int .u8 (48 + (D : Int))
                | 10 => v = .int .u8 (D : Nat)
                | 11 => v = .int .i64 (D : Nat)
                | 12 => v = .pointer (some ⟨w.heap.size + 1, 1, none⟩)
                | 13 => v = .string sb
                | 14 => v = .int .i64 (k : Nat)
                | 15 => v = .int .u8 (48 + (E : Int))
                | 16 => v = .int .u8 (E : Nat)
                | 17 => v = .int .i64 (E : Nat)
                | 18 => v = .int .i64 ((D : Int) * (E : Int))
                | 19 => v = .int .i64 ((z : Int) + (D : Int) * (E : Int))
                | _ => v = .pointer (some ⟨w2.heap.size, q, none⟩)) wr.heap.size (Nat.le_refl _) (by kernel_rfl) (by kernel_rfl) (by kernel_rfl) (by decide) (by kernel_rfl) h1 (by kernel_rfl) ?_ ?_ ?_ ?_
              · intro j v W W' h hb
                match j, h with
                | 0, h => exact h
                | 1, h => exact h
                | 2, h => exact h
                | 3, h => exact h
                | 4, h => exact h
                | 5, h => exact h
                | 6, h => exact h
                | 7, h => exact h
                | 8, h => exact h
                | 9, h => exact h
                | 10, h => exact h
                | 11, h => exact h
                | 12, h => exact h
                | 13, h => exact h
                | 14, h => exact h
                | 15, h => exact h
                | 16, h => exact h
                | 17, h => exact h
                | 18, h => exact h
                | 19, h => exact h
                | _ + 20, h => exact h
              · exact fun j hj => by cases hj
              · refine ⟨⟨⟨⟨⟨⟨⟨⟨⟨⟨⟨⟨⟨⟨⟨⟨⟨⟨⟨⟨⟨trivial, ?_⟩, ?_⟩, ?_⟩, ?_⟩, ?_⟩, ?_⟩, ?_⟩, ?_⟩, ?_⟩, ?_⟩, ?_⟩, ?_⟩, ?_⟩, ?_⟩, ?_⟩, ?_⟩, ?_⟩, ?_⟩, ?_⟩, ?_⟩, ?_⟩
                · refine flow_step _ 59 rfl rfl (fun d h => by simpa using h) h1 h2 fun ac xs W he hb hS K hK => ?_
                  exact op_move (.tmp 6) (.inl rfl) (hK _ _ (he 6) (Below.refl _ _) (fun h => absurd h (by decide)))
                · refine flow_step _ 60 rfl rfl (fun d h => by simpa using h) h1 h2 fun ac xs W he hb hS K hK => ?_
                  exact op_move (.tmp 9) (.inl rfl) (hK _ _ (he 9) (Below.refl _ _) (fun h => absurd h (by decide)))
                · refine flow_step _ 61 rfl rfl (fun d h => by simpa using h) h1 h2 fun ac xs W he hb hS K hK => ?_
                  exact op_move (.tmp 6) (.inl rfl) (hK _ _ (he 6) (Below.refl _ _) (fun h => absurd h (by decide)))
                · refine flow_step _ 62 rfl rfl (fun d h => by simpa using h) h1 h2 fun ac xs W he hb hS K hK => ?_
                  exact op_move (.tmp 9) (.inl rfl) (hK _ _ (he 9) (Below.refl _ _) (fun h => absurd h (by decide)))
                · refine flow_step _ 63 rfl rfl (fun d h => by simpa using h) h1 h2 fun ac xs W he hb hS K hK => ?_
                  have e0 : ac.eval (.tmp 61) = _ := (he 61).trans (hS 2 (by kernel_rfl))
                  have e1 : ac.eval (.tmp 62) = _ := (he 62).trans (hS 3 (by kernel_rfl))
                  refine op_any (.indexAddr 117 (.tmp 61) (.tmp 62)) rfl (.pointer (some ⟨w2.heap.size, q, none⟩)) (fun o' ho' => ?_) (hK _ _ rfl (Below.refl _ _) (fun h => absurd h (by decide)))
                  simp only [execOp, ho', e0, e1]
                  go_simp
                · refine flow_step _ 64 rfl rfl (fun d h => by simpa using h) h1 h2 fun ac xs W he hb hS K hK => ?_
                  have e0 : ac.eval (.tmp 63) = _ := (he 63).trans (hS 4 (by kernel_rfl))
                  refine op_any (.load 3 (.tmp 63)) rfl (.int .i64 (z : Nat)) (fun o' ho' => ?_) (hK _ _ rfl (Below.refl _ _) (fun h => absurd h (by decide)))
                  simp only [execOp, ho', e0]
                  have hc := (hb.cell (p := ⟨w2.heap.size, q, none⟩) HGW.out).trans HC1.out
                  go_simp
                · refine flow_step _ 65 rfl rfl (fun d h => by simpa using h) h1 h2 fun ac xs W he hb hS K hK => ?_
                  have e0 : ac.eval (.tmp 2) = .pointer (some ⟨w.heap.size, 0, none⟩) := he 2
                  refine op_any (.fieldAddr 25 (.tmp 2) 1) rfl (.pointer (some ⟨w.heap.size, 1, none⟩)) (fun o' ho' => ?_) (hK _ _ rfl (Below.refl _ _) (fun h => absurd h (by decide)))
                  simp only [execOp, ho', e0]
                  go_simp
                · refine flow_step _ 66 rfl rfl (fun d h => by simpa using h) h1 h2 fun ac xs W he hb hS K hK => ?_
                  have e0 : ac.eval (.tmp 65) = _ := (he 65).trans (hS 6 (by kernel_rfl))
                  refine op_any (.load 9 (.tmp 65)) rfl (.string sa) (fun o' ho' => ?_) (hK _ _ rfl (Below.refl _ _) (fun h => absurd h (by decide)))
                  simp only [execOp, ho', e0]
                  have hc := cell_of_row W _ 1 _ _ _ (hb.blk HRA.out (blk_lt HRA.out))
                  go_simp
                · refine flow_step _ 67 rfl rfl (fun d h => by simpa using h) h1 h2 fun ac xs W he hb hS K hK => ?_
                  exact op_move (.tmp 7) (.inl rfl) (hK _ _ (he 7) (Below.refl _ _) (fun h => absurd h (by decide)))
                · refine flow_step _ 68 rfl rfl (fun d h => by simpa using h) h1 h2 fun ac xs W he hb hS K hK => ?_
                  have e0 : ac.eval (.tmp 66) = _ := (he 66).trans (hS 7 (by kernel_rfl))
                  refine op_any (.index 9 (.tmp 66) (.tmp 67)) rfl (.int .u8 (48 + (D : Int))) (fun o' ho' => ?_) (hK _ _ rfl (Below.refl _ _) (fun h => absurd h (by decide)))
                  simp only [execOp, ho', e0]
                  have f1 : ac.tmps[67]?.getD undef = .int .i64 (r : Nat) := by rw [← Array.getD_eq_getD_getElem?]; exact (he 67).trans (hS 8 (by kernel_rfl))
                  have k0 := FX.out
                  go_simp
                · refine flow_step _ 69 rfl rfl (fun d h => by simpa using h) h1 h2 fun ac xs W he hb hS K hK => ?_
                  have e0 : ac.eval (.tmp 68) = _ := (he 68).trans (hS 9 (by kernel_rfl))
                  refine op_any (.binOp .sub 5 (.tmp 68) (.const (.int .u8 48)) 5) rfl (.int .u8 (D : Nat)) (fun o' ho' => ?_) (hK _ _ rfl (Below.refl _ _) (fun h => absurd h (by decide)))
                  simp only [execOp, ho', e0]
                  have k0 := HS1.out
                  go_simp
                · refine flow_step _ 70 rfl rfl (fun d h => by simpa using h) h1 h2 fun ac xs W he hb hS K hK => ?_
                  have e0 : ac.eval (.tmp 69) = _ := (he 69).trans (hS 10 (by kernel_rfl))
                  refine op_any (.convert 5 3 (.tmp 69)) rfl (.int .i64 (D : Nat)) (fun o' ho' => ?_) (hK _ _ rfl (Below.refl _ _) (fun h => absurd h (by decide)))
                  simp only [execOp, ho', e0]
                  have k0 := HW1.out
                  go_simp
                · refine flow_step _ 71 rfl rfl (fun d h => by simpa using h) h1 h2 fun ac xs W he hb hS K hK => ?_
                  have e0 : ac.eval (.tmp 3) = .pointer (some ⟨w.heap.size + 1, 0, none⟩) := he 3
                  refine op_any (.fieldAddr 25 (.tmp 3) 1) rfl (.pointer (some ⟨w.heap.size + 1, 1, none⟩)) (fun o' ho' => ?_) (hK _ _ rfl (Below.refl _ _) (fun h => absurd h (by decide)))
                  simp only [execOp, ho', e0]
                  go_simp
                · refine flow_step _ 72 rfl rfl (fun d h => by simpa using h) h1 h2 fun ac xs W he hb hS K hK => ?_
                  have e0 : ac.eval (.tmp 71) = _ := (he 71).trans (hS 12 (by kernel_rfl))
                  refine op_any (.load 9 (.tmp 71)) rfl (.string sb) (fun o' ho' => ?_) (hK _ _ rfl (Below.refl _ _) (fun h => absurd h (by decide)))
                  simp only [execOp, ho', e0]
                  have hc := cell_of_row W _ 1 _ _ _ (hb.blk HRB.out (blk_lt HRB.out))
                  go_simp
                · refine flow_step _ 73 rfl rfl (fun d h => by simpa using h) h1 h2 fun ac xs W he hb hS K hK => ?_
                  exact op_move (.tmp 8) (.inl rfl) (hK _ _ (he 8) (Below.refl _ _) (fun h => absurd h (by decide)))
                · refine flow_step _ 74 rfl rfl (fun d h => by simpa using h) h1 h2 fun ac xs W he hb hS K hK => ?_
                  have e0 : ac.eval (.tmp 72) = _ := (he 72).trans (hS 13 (by kernel_rfl))
                  refine op_any (.index 9 (.tmp 72) (.tmp 73)) rfl (.int .u8 (48 + (E : Int))) (fun o' ho' => ?_) (hK _ _ rfl (Below.refl _ _) (fun h => absurd h (by decide)))
                  simp only [execOp, ho', e0]
                  have f1 : ac.tmps[73]?.getD undef = .int .i64 (k : Nat) := by rw [← Array.getD_eq_getD_getElem?]; exact (he 73).trans (hS 14 (by kernel_rfl))
                  have k0 := FY.out
                  go_simp
                · refine flow_step _ 75 rfl rfl (fun d h => by simpa using h) h1 h2 fun ac xs W he hb hS K hK => ?_
                  have e0 : ac.eval (.tmp 74) = _ := (he 74).trans (hS 15 (by kernel_rfl))
                  refine op_any (.binOp .sub 5 (.tmp 74) (.const (.int .u8 48)) 5) rfl (.int .u8 (E : Nat)) (fun o' ho' => ?_) (hK _ _ rfl (Below.refl _ _) (fun h => absurd h (by decide)))
                  simp only [execOp, ho', e0]
                  have k0 := HS2.out
                  go_simp
                · refine flow_step _ 76 rfl rfl (fun d h => by simpa using h) h1 h2 fun ac xs W he hb hS K hK => ?_
                  have e0 : ac.eval (.tmp 75) = _ := (he 75).trans (hS 16 (by kernel_rfl))
                  refine op_any (.convert 5 3 (.tmp 75)) rfl (.int .i64 (E : Nat)) (fun o' ho' => ?_) (hK _ _ rfl (Below.refl _ _) (fun h => absurd h (by decide)))
                  simp only [execOp, ho', e0]
                  have k0 := HW2.out
                  go_simp
                · refine flow_step _ 77 rfl rfl (fun d h => by simpa using h) h1 h2 fun ac xs W he hb hS K hK => ?_
                  have e0 : ac.eval (.tmp 70) = _ := (he 70).trans (hS 11 (by kernel_rfl))
                  have e1 : ac.eval (.tmp 76) = _ := (he 76).trans (hS 17 (by kernel_rfl))
                  refine op_any (.binOp .mul 3 (.tmp 70) (.tmp 76) 3) rfl (.int .i64 ((D : Int) * (E : Int))) (fun o' ho' => ?_) (hK _ _ rfl (Below.refl _ _) (fun h => absurd h (by decide)))
                  simp only [execOp, ho', e0, e1]
                  have k0 := HS3.out
                  go_simp
                · refine flow_step _ 78 rfl rfl (fun d h => by simpa using h) h1 h2 fun ac xs W he hb hS K hK => ?_
                  have e0 : ac.eval (.tmp 64) = _ := (he 64).trans (hS 5 (by kernel_rfl))
                  have e1 : ac.eval (.tmp 77) = _ := (he 77).trans (hS 18 (by kernel_rfl))
                  refine op_any (.binOp .add 3 (.tmp 64) (.tmp 77) 3) rfl (.int .i64 ((z : Int) + (D : Int) * (E : Int))) (fun o' ho' => ?_) (hK _ _ rfl (Below.refl _ _) (fun h => absurd h (by decide)))
                  simp only [execOp, ho', e0, e1]
                  have k0 := HS4.out
                  go_simp
                · refine flow_step _ 79 rfl rfl (fun d h => by simpa using h) h1 h2 fun ac xs W he hb hS K hK => ?_
                  have e0 : ac.eval (.tmp 59) = _ := (he 59).trans (hS 0 (by kernel_rfl))
                  have e1 : ac.eval (.tmp 60) = _ := (he 60).trans (hS 1 (by kernel_rfl))
                  refine op_any (.indexAddr 117 (.tmp 59) (.tmp 60)) rfl (.pointer (some ⟨w2.heap.size, q, none⟩)) (fun o' ho' => ?_) (hK _ _ rfl (Below.refl _ _) (fun h => absurd h (by decide)))
                  simp only [execOp, ho', e0, e1]
                  go_simp
              · intro xs w5 hb hS hD
                have s19 : xs 19 = _ := hS 19 (by decide)
                have s20 : xs 20 = _ := hS 20 (by decide)
                generalize xs 0 = y0 at *
                generalize xs 1 = y1 at *
                generalize xs 2 = y2 at *
                generalize xs 3 = y3 at *
                generalize xs 4 = y4 at *
                generalize xs 5 = y5 at *
                generalize xs 6 = y6 at *
                generalize xs 7 = y7 at *
                generalize xs 8 = y8 at *
                generalize xs 9 = y9 at *
                generalize xs 10 = y10 at *
                generalize xs 11 = y11 at *
                generalize xs 12 = y12 at *
                generalize xs 13 = y13 at *
                generalize xs 14 = y14 at *
                generalize xs 15 = y15 at *
                generalize xs 16 = y16 at *
                generalize xs 17 = y17 at *
                generalize xs 18 = y18 at *
                simp only [layAll, s19, s20]
                have HO5 : Hid (OwnW .i64 3 w5 w2.heap.size n us) := HO2.out.far hb HGL.out
                have HB5 : Hid (Below w2.heap.size w2 w5) := HB2a.out.trans (hb.mono HB2a.out.size)
                have f2 := HO5.out.frozen q
                have c2 := HO5.out.cell HQN.out
                clear hS hD s19 s20 hb
                go_wp2_with fail
                refine ⟨⟨k + 1, us.set q (us.getD q 0 + D * E), by omega, by go_num, ?_, ?_, ?_, ?_⟩, by simp [intOf]; omega⟩
                · rw [show ((z : Int) + (D : Int) * (E : Int)) = ((us.getD q 0 + D * E : Nat) : Int) by rw [← HZ.out, Int.natCast_add, Int.natCast_mul]]; exact HO5.out.set _ _
                · rw [HE2.out]; exact mul_in_next (by rw [HO5.out.length]; exact HQN.out) (by rw [← HLA.out.1, ← HLA.out.2]; exact HQ.out) (by rw [← HLA.out.1]; exact hin) (by rw [← HLA.out.2]; exact hkn) rfl HV2.out
                · exact getD_set_le (fun j => by have := HM2.out j; omega) (by have := HM2.out q; have := HDE9.out; omega)
                · exact HB5.out.setCell (Nat.le_refl _) _
            · have hk2 : k = sb.size := by omega
              have kn := HV2.out
              rw [hk2, HLA.out.2, HD.out, mul_out_next (lb := b.s.length) (by rw [← HLA.out.1]; exact hin) rfl rfl rfl] at kn
              have HV3 : Hid _ := kn
              clear kn
              go_wp2_with fail
              go_roundw
              case rel => exact ⟨r + 1, us, by omega, by go_num, HO2.out, HV3.out, fun j => by have := HM2.out j; omega, HB2a.out⟩
              case measure => simp [intOf]; omega
        · have hr2 : r = sa.size := by omega
          have kn := HV.out
          rw [hr2, HLA.out.1, List.take_of_length_le (Nat.le_refl _), Nat.sub_self, Nat.pow_zero, Nat.mul_one] at kn
          have HV3 : Hid (dval a.s * dval b.s = lval 10 zs) := kn.symm
          have hn9 : n ≤ 16385 := by have := HN.out; have := HLA.out; omega
          have hmk := mk_bytes2 n wr (by omega)
          have HM3 : Hid (∀ j, zs.getD j 0 ≤ 5500000000) := fun j => by have := HM.out j; omega
          have HGL : Hid (w2.heap.size < wr.heap.size) := (World.ownsRow.lt HO.out w2.heap.size rfl).2
          clear kn hr2
          generalize dval a.s * dval b.s = V at *
          generalize wr = w4 at *
          go_upto_region 15 with fail
          have HO6 : Hid _ := own_bytes n w4 (by omega) 5
          have HBy : Hid _ := (Below.refl w4.heap.size w4).alloc (Nat.le_refl _) (.cells (Array.replicate n (.int .u8 0)) 5)
          obtain ⟨w5, hw5⟩ : ∃ w5, w5 = w4.alloc (.cells (Array.replicate n (.int .u8 0)) 5) := ⟨_, rfl⟩
          rw [← hw5] at HO6 HBy ⊢
          clear hw5 hmk j1 i1
          go_loopw [11, 12] (fun cv pv wr => ∃ (p c : Nat) (us : List Nat), p ≤ n ∧ cv = .int .i64 (c : Nat) ∧ pv = .int .i64 (p : Nat) ∧ OwnW .u8 5 wr w4.heap.size n us ∧ (∀ x, x < p → us.getD (n - 1 - x) 0 = 48 + dg V x) ∧ c = lval 10 (zs.take p) / 10 ^ p ∧ c ≤ 5500000000 ∧ Below w4.heap.size w4 wr) (fun _ pv _ => n - (intOf pv).toNat)
          case atStart => exact ⟨0, 0, _, Nat.zero_le _, rfl, rfl, HO6.out, fun x hx => absurd hx (Nat.not_lt_zero _), by rw [List.take_zero]; rfl, by decide, HBy.out⟩
          case round =>
            obtain ⟨p, c, us, hp, rfl, rfl, ho, hz, hc, hc9, hb⟩ := hrel
            have HO2 : Hid (OwnW .u8 5 wr w4.heap.size n us) := ho
            have HZ : Hid (∀ x, x < p → us.getD (n - 1 - x) 0 = 48 + dg V x) := hz
            have HC : Hid (c = lval 10 (zs.take p) / 10 ^ p) := hc
            have HB3 : Hid (Below w4.heap.size w4 wr) := hb
            clear hz hc ho
            by_cases hpn : p < n
            · obtain ⟨z, hz⟩ : ∃ z, z = zs.getD p 0 := ⟨_, rfl⟩
              have c1 := (hb.cell (p := ⟨w2.heap.size, p, none⟩) HGL.out).trans (HO.out.cell hpn)
              obtain ⟨h1, h2⟩ := low_next (zs := zs) (V := V) (i := p) (c := c) (by rw [HO.out.length]; exact hpn) HV3.out HC.out
              have hz9 := HM3.out p
              rw [← hz] at c1 h1 h2 hz9
              have HT1 : Hid ((z + c) % 10 = dg V p ∧ (z + c) / 10 = lval 10 (zs.take (p + 1)) / 10 ^ (p + 1)) := ⟨h1, h2⟩
              have hqN : n - 1 - p < n := by omega
              have c2 := HO2.out.cell hqN
              have f2 := HO2.out.frozen (n - 1 - p)
              clear h1 h2 hz hb
              go_wp2_with fail
              obtain ⟨G, hG⟩ : ∃ G, G = z + c := ⟨_, rfl⟩
              have h1 := HT1.out
              rw [← hG] at h1
              rw [show ((z : Int) + (c : Int)) = (G : Int) by omega, show (48 + (G : Int) % 10) = ((48 + G % 10 : Nat) : Int) by omega, show ((G : Int) / 10) = ((G / 10 : Nat) : Int) by omega]
              exact ⟨⟨p + 1, G / 10, us.set (n - 1 - p) (48 + G % 10), by omega, rfl, by go_num, HO2.out.set _ _, pad_set HO2.out.length rfl hpn HZ.out h1.1, h1.2, by omega, HB3.out.setCell (Nat.le_refl _) _⟩, by simp [intOf]; omega⟩
            · have hp2 : p = n := by omega
              subst hp2
              have hpd := own_pad HO2.out.length HZ.out
              have CV := text_own HO2.out (fun m hm => by have := HZ.out (p - 1 - m) (by omega); rw [show p - 1 - (p - 1 - m) = m by omega] at this; have := dg_lt V (p - 1 - m); omega)
              rw [hpd, ← HPT.out] at CV
              have q0 := hb.blk (HB.out.blk R0.out (blk_lt R0.out)) (by have := blk_lt (HB.out.blk R0.out (blk_lt R0.out)); exact this)
              have q1 := hb.blk (HB.out.blk R1.out (blk_lt R1.out)) (by have := blk_lt (HB.out.blk R1.out (blk_lt R1.out)); exact this)
              have HQ2x : Hid _ := hb.blk (HB.out.blk R2.out (blk_lt R2.out)) (by have := blk_lt (HB.out.blk R2.out (blk_lt R2.out)); exact this)
              have j0 := cell_of_row _ _ 0 _ _ _ q0
              have j2 := cell_of_row _ _ 2 _ _ _ q0
              have i0 := cell_of_row _ _ 0 _ _ _ q1
              have i2 := cell_of_row _ _ 2 _ _ _ q1
              have kE := HE.out
              have HB6 : Hid (Below w.heap.size w wr) := (HB2.out.trans (HB.out.mono HB2.out.size)).trans (hb.mono (HB2.out.trans (HB.out.mono HB2.out.size)).size)
              clear hpd hp hb q0 q1
              go_wp2_with fail
              refine (HMD.out _).mono ?_
              rintro e' w7 ⟨rfl, hb⟩
              have r2 := hb.blk HQ2x.out (blk_lt HQ2x.out)
              obtain ⟨f0, c0, f1, c1, f2, c2, r3⟩ := rw3 r2
              have HR : Hid _ := r3
              have HBB : Hid (Below w.heap.size w w7) := HB6.out.thru hb
              clear r2 r3 hb CV kE j0 j2 i0 i2
              simp only [dcV]
              go_wp2
              exact dc_end rfl rfl rfl (HR.out _ _ _) rfl rfl (below_row3 HBB.out (Nat.le_add_right _ 2) _ _ _)
end Go.Proofs.YtpfnfhikhlceoaaGreatDoor
