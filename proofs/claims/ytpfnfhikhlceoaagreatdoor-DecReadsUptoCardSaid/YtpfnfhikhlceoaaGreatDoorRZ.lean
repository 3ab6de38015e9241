/- Parts Hb, Hc of the proof, in one text. -/
import Derived.Test.YtpfnfhikhlceoaaGreatDoorRY

/- Walks: the document's answer: minus. -/
namespace Go.Proofs.YtpfnfhikhlceoaaGreatDoor
open Go.RowKit

set_option maxHeartbeats 2000000 in
set_option maxRecDepth 100000 in
theorem rminus_v (s t : ByteArray) (w : World) (hd : allDig (bl s)) (he : allDig (bl t)) (hs : s.size ≤ 100000) (ht : t.size ≤ 100000) (hle : dval (bl t) ≤ dval (bl s)) :
    Calls Tryz.prog 101 #[.string s, .string t] w fun e w' => e = .returned (.string (bs (bareD (dval (bl s) - dval (bl t))))) ∧ Below w.heap.size w w' := by
  obtain ⟨X, hX⟩ : ∃ X, X = dval (bl s) := ⟨_, rfl⟩
  obtain ⟨Y, hY⟩ : ∃ Y, Y = dval (bl t) := ⟨_, rfl⟩
  rw [← hX, ← hY] at hle ⊢
  have HLE : Hid (Y ≤ X) := hle
  have HDX : Hid (∀ j (h : j < s.size), (s[s.size - 1 - j]'(by omega)).toNat = 48 + dg X j) := fun j h => by
    have := dg_of (bl s) hd j (by rw [bl_len]; exact h)
    rw [← hX] at this; exact this
  have HDY : Hid (∀ j (h : j < t.size), (t[t.size - 1 - j]'(by omega)).toNat = 48 + dg Y j) := fun j h => by
    have := dg_of (bl t) he j (by rw [bl_len]; exact h)
    rw [← hY] at this; exact this
  have HX0 : Hid (X < 10 ^ s.size) := by
    have h1 := dval_lt _ hd
    rw [← hX, bl_len] at h1; exact h1
  have HY0 : Hid (Y < 10 ^ t.size) := by
    have h1 := dval_lt _ he
    rw [← hY, bl_len] at h1; exact h1
  obtain ⟨T, hT⟩ : ∃ T, T = bs (bareD (X - Y)) := ⟨_, rfl⟩
  rw [← hT]
  have HT : Hid (T = bs (bareD (X - Y))) := hT
  have hmk := mk_bytes2 s.size w (by omega)
  clear hX hY hd he hT hle
  go_enter Tryz.func101, Tryz.ntmps101
  go_upto_region 4 with fail
  have HO1 : Hid _ := own_bytes s.size w (by omega) 5
  have HB1 : Hid _ := (Below.refl w.heap.size w).alloc (Nat.le_refl _) (.cells (Array.replicate s.size (.int .u8 0)) 5)
  obtain ⟨w1, hw1⟩ : ∃ w1, w1 = w.alloc (.cells (Array.replicate s.size (.int .u8 0)) 5) := ⟨_, rfl⟩
  rw [← hw1] at HO1 HB1 ⊢
  clear hw1 hmk
  go_loopw [6, 7] (fun cv iv wr => ∃ (i c : Nat) (zs : List Nat), i ≤ s.size ∧ cv = .int .i64 (c : Nat) ∧ iv = .int .i64 (i : Nat) ∧ OwnW .u8 5 wr w.heap.size s.size zs ∧ (∀ p, p < i → zs.getD (s.size - 1 - p) 0 = 48 + dg (X - Y) p) ∧ c = (if X % 10 ^ i < Y % 10 ^ i then 1 else 0) ∧ Below w.heap.size w wr) (fun _ iv _ => s.size - (intOf iv).toNat)
  case atStart => exact ⟨0, 0, _, Nat.zero_le _, rfl, rfl, HO1.out, fun p hp => absurd hp (Nat.not_lt_zero _), by rw [Nat.pow_zero, Nat.mod_one, Nat.mod_one]; rfl, HB1.out⟩
  case round =>
    obtain ⟨i, c, zs, hi, rfl, rfl, ho, hz, hc, hb⟩ := hrel
    have HO : Hid (OwnW .u8 5 wr w.heap.size s.size zs) := ho
    have HZ : Hid (∀ p, p < i → zs.getD (s.size - 1 - p) 0 = 48 + dg (X - Y) p) := hz
    have HC : Hid (c = (if X % 10 ^ i < Y % 10 ^ i then 1 else 0)) := hc
    have HB : Hid (Below w.heap.size w wr) := hb
    have hck : c ≤ 1 := by rw [hc]; split <;> decide
    clear hz hc hb ho
    by_cases hin : i < s.size
    · have hqN : s.size - 1 - i < s.size := by omega
      have c1 := HO.out.cell hqN
      have f1 := HO.out.frozen (s.size - 1 - i)
      obtain ⟨t1, t2⟩ := borrow_next HC.out HLE.out
      obtain ⟨D, hD⟩ : ∃ D, D = dg X i := ⟨_, rfl⟩
      obtain ⟨E, hE⟩ : ∃ E, E = dg Y i := ⟨_, rfl⟩
      rw [← hD, ← hE] at t1 t2
      have HT1 : Hid ((D + 10 - c - E) % 10 = dg (X - Y) i ∧ (if D < c + E then 1 else 0) = (if X % 10 ^ (i + 1) < Y % 10 ^ (i + 1) then 1 else 0)) := ⟨t1, t2⟩
      have HD : Hid (D = dg X i) := hD
      have HE : Hid (E = dg Y i) := hE
      have hD9 : D < 10 := by rw [hD]; exact dg_lt _ _
      have hE9 : E < 10 := by rw [hE]; exact dg_lt _ _
      clear t1 t2 hD hE
      by_cases hit : i < t.size
      · by_cases hde : D < c + E
        · skip
          have ha : (s[s.size - 1 - i]'(by omega)).toNat = 48 + D := by rw [HD.out]; exact HDX.out i hin
          have hb : (t[t.size - 1 - i]'(by omega)).toNat = 48 + E := by rw [HE.out]; exact HDY.out i hit
          have HAB : Hid ((s[s.size - 1 - i]'(by omega)).toNat = 48 + D ∧ (t[t.size - 1 - i]'(by omega)).toNat = 48 + E) := ⟨ha, hb⟩
          have hng : ((((s[s.size - 1 - i]'(by omega)).toNat : Int) - 48) % 256 - (c : Int) - (((t[t.size - 1 - i]'(by omega)).toNat : Int) - 48) % 256 < 0) := by rw [ha, hb]; omega
          clear ha hb
          go_wp2_with fail
          obtain ⟨g1, g2⟩ := HAB.out
          simp only [g1, g2]
          rw [show (48 + ((((48 + D : Nat) : Int) - 48) % 256 - (c : Int) - (((48 + E : Nat) : Int) - 48) % 256 + 10)) % 256 = ((48 + (D + 10 - c - E) % 10 : Nat) : Int) by omega]
          have h1 := HT1.out.2
          rw [if_pos (show D < c + E by omega)] at h1
          refine ⟨⟨i + 1, 1, zs.set (s.size - 1 - i) (48 + (D + 10 - c - E) % 10), by omega, rfl, by go_num, HO.out.set _ _, pad_set HO.out.length (by omega) hin HZ.out HT1.out.1, h1, HB.out.setCell (Nat.le_refl _) _⟩, by simp [intOf]; omega⟩
        · skip
          have ha : (s[s.size - 1 - i]'(by omega)).toNat = 48 + D := by rw [HD.out]; exact HDX.out i hin
          have hb : (t[t.size - 1 - i]'(by omega)).toNat = 48 + E := by rw [HE.out]; exact HDY.out i hit
          have HAB : Hid ((s[s.size - 1 - i]'(by omega)).toNat = 48 + D ∧ (t[t.size - 1 - i]'(by omega)).toNat = 48 + E) := ⟨ha, hb⟩
          have hng : ¬ ((((s[s.size - 1 - i]'(by omega)).toNat : Int) - 48) % 256 - (c : Int) - (((t[t.size - 1 - i]'(by omega)).toNat : Int) - 48) % 256 < 0) := by rw [ha, hb]; omega
          clear ha hb
          go_wp2_with fail
          obtain ⟨g1, g2⟩ := HAB.out
          simp only [g1, g2]
          rw [show (48 + ((((48 + D : Nat) : Int) - 48) % 256 - (c : Int) - (((48 + E : Nat) : Int) - 48) % 256)) % 256 = ((48 + (D + 10 - c - E) % 10 : Nat) : Int) by omega]
          have h1 := HT1.out.2
          rw [if_neg (show ¬ D < c + E by omega)] at h1
          refine ⟨⟨i + 1, 0, zs.set (s.size - 1 - i) (48 + (D + 10 - c - E) % 10), by omega, rfl, by go_num, HO.out.set _ _, pad_set HO.out.length (by omega) hin HZ.out HT1.out.1, h1, HB.out.setCell (Nat.le_refl _) _⟩, by simp [intOf]; omega⟩
      · have hE0 : E = 0 := by rw [HE.out]; exact dg_zero HY0.out (by omega)
        by_cases hde : D < c
        · skip
          have ha : (s[s.size - 1 - i]'(by omega)).toNat = 48 + D := by rw [HD.out]; exact HDX.out i hin
          have HAB : Hid ((s[s.size - 1 - i]'(by omega)).toNat = 48 + D) := ha
          have hng : ((((s[s.size - 1 - i]'(by omega)).toNat : Int) - 48) % 256 - (c : Int) < 0) := by rw [ha]; omega
          clear ha
          go_wp2_with fail
          have g1 := HAB.out
          simp only [g1]
          rw [show 48 + ((((48 + D : Nat) : Int) - 48) % 256 - (c : Int) + 10) = ((48 + (D + 10 - c - E) % 10 : Nat) : Int) by omega]
          have h1 := HT1.out.2
          rw [if_pos (show D < c + E by omega)] at h1
          refine ⟨⟨i + 1, 1, zs.set (s.size - 1 - i) (48 + (D + 10 - c - E) % 10), by omega, rfl, by go_num, HO.out.set _ _, pad_set HO.out.length (by omega) hin HZ.out HT1.out.1, h1, HB.out.setCell (Nat.le_refl _) _⟩, by simp [intOf]; omega⟩
        · skip
          have ha : (s[s.size - 1 - i]'(by omega)).toNat = 48 + D := by rw [HD.out]; exact HDX.out i hin
          have HAB : Hid ((s[s.size - 1 - i]'(by omega)).toNat = 48 + D) := ha
          have hng : ¬ ((((s[s.size - 1 - i]'(by omega)).toNat : Int) - 48) % 256 - (c : Int) < 0) := by rw [ha]; omega
          clear ha
          go_wp2_with fail
          have g1 := HAB.out
          simp only [g1]
          rw [show (48 + ((((48 + D : Nat) : Int) - 48) % 256 - (c : Int))) % 256 = ((48 + (D + 10 - c - E) % 10 : Nat) : Int) by omega]
          have h1 := HT1.out.2
          rw [if_neg (show ¬ D < c + E by omega)] at h1
          refine ⟨⟨i + 1, 0, zs.set (s.size - 1 - i) (48 + (D + 10 - c - E) % 10), by omega, rfl, by go_num, HO.out.set _ _, pad_set HO.out.length (by omega) hin HZ.out HT1.out.1, h1, HB.out.setCell (Nat.le_refl _) _⟩, by simp [intOf]; omega⟩
    · have hi2 : i = s.size := by omega
      subst hi2
      have hpd := own_pad HO.out.length HZ.out
      have CV := text_own HO.out (fun m hm => by have := HZ.out (s.size - 1 - m) (by omega); rw [show s.size - 1 - (s.size - 1 - m) = m by omega] at this; have := dg_lt (X - Y) (s.size - 1 - m); omega)
      rw [hpd] at CV
      have HBR : Hid (∀ W, Calls Tryz.prog 57 #[.string (bs (padK s.size (X - Y)))] W fun e w' => e = .returned (.string T) ∧ Below W.heap.size W w') := fun W => by
        have := rbare_v (bs (padK s.size (X - Y))) W (by show (padK s.size (X - Y)).length ≤ _; rw [padK_len]; omega)
        rw [bl_bs, show (padK s.size (X - Y)).dropWhile (· == 48) = bareD (X - Y) from bare_pad (Nat.lt_of_le_of_lt (Nat.sub_le _ _) HX0.out), ← HT.out] at this
        exact this
      clear hpd hi
      go_wp2_with fail
      refine (HBR.out _).mono ?_
      rintro e w2 ⟨rfl, hb⟩
      have HB2 : Hid (Below w.heap.size w w2) := HB.out.thru hb
      clear hb CV
      go_wp2
      go_ret
      exact ⟨rfl, HB2.out⟩
end Go.Proofs.YtpfnfhikhlceoaaGreatDoor

/- Walks: the document's answer: raised. -/
namespace Go.Proofs.YtpfnfhikhlceoaaGreatDoor
open Go.RowKit

/-- Digits brought to an exponent. -/
def liftN (a : Dc) (f : Int) : Nat := dval a.s * 10 ^ (a.e - f).toNat
theorem liftV_N (a : Dc) (f : Int) : liftV a f = sg a.neg (liftN a f) := by
  unfold liftV liftN Dc.v
  cases a.neg
  · show ((dval a.s : Nat) : Int) * 10 ^ _ = ((dval a.s * 10 ^ _ : Nat) : Int); push_cast; rfl
  · show (-((dval a.s : Nat) : Int)) * 10 ^ _ = -((dval a.s * 10 ^ _ : Nat) : Int); push_cast; rw [Int.neg_mul]
theorem bare_pow {n : Nat} (h : 0 < n) : ∀ k : Nat, bareD (n * 10 ^ k) = bareD n ++ List.replicate k 48
  | 0 => by rw [Nat.pow_zero, Nat.mul_one]; exact (List.append_nil _).symm
  | k + 1 => by
    have h1 : 0 < n * 10 ^ k := Nat.mul_pos h (Nat.pow_pos (by decide))
    have := bare_snoc (n * 10 ^ k) 0 (by decide) (by omega)
    rw [Nat.pow_succ, ← Nat.mul_assoc, Nat.mul_comm _ 10, ← Nat.add_zero (10 * _), this, bare_pow h k, List.append_assoc, List.replicate_succ']
    rfl
theorem lift_text {a : Dc} (h : a.ok) (h0 : a.s ≠ []) (k : Nat) : bs a.s ++ bs (List.replicate k 48) = bs (bareD (dval a.s * 10 ^ k)) := by
  refine bl_inj ?_
  rw [bl_append, bl_bs, bl_bs, bl_bs, bare_pow (ok_pos h h0), ← ok_bare h]
theorem lift_nil {a : Dc} (h0 : a.s = []) (f : Int) : (ByteArray.mk #[]) = bs (bareD (liftN a f)) := by
  unfold liftN; rw [h0, dval_nil, Nat.zero_mul]; rfl
theorem liftN_len {a : Dc} (ha : a.ok) {f : Int} (hf : -20000 ≤ f) : (bareD (liftN a f)).length ≤ 48192 := by
  have h1 := ok_val ha
  have h2 := ok_len ha
  have h3 := ok_exp ha
  refine bare_len_le _ _ ?_
  unfold liftN
  calc dval a.s * 10 ^ (a.e - f).toNat < 10 ^ a.s.length * 10 ^ (a.e - f).toNat := Nat.mul_lt_mul_of_pos_right h1 (Nat.pow_pos (by decide))
    _ = 10 ^ (a.s.length + (a.e - f).toNat) := (Nat.pow_add _ _ _).symm
    _ ≤ 10 ^ 48192 := Nat.pow_le_pow_right (by decide) (by omega)

set_option maxHeartbeats 4000000 in
set_option maxRecDepth 100000 in
theorem rraised_v (a b : Dc) (w : World) (ha : a.ok) (hbk : b.ok) : Calls Tryz.prog 98 #[dcV a, dcV b] w fun en w' =>
    en = .returned (.tuple #[.string (bs (bareD (liftN a (liftE a b)))), .string (bs (bareD (liftN b (liftE a b)))), .int .i64 (liftE a b)]) ∧ Below w.heap.size w w' := by
  simp only [dcV]
  obtain ⟨S, hS⟩ : ∃ S, S = bs (bareD (liftN a (liftE a b))) := ⟨_, rfl⟩
  obtain ⟨T, hT⟩ : ∃ T, T = bs (bareD (liftN b (liftE a b))) := ⟨_, rfl⟩
  obtain ⟨F, hF⟩ : ∃ F, F = liftE a b := ⟨_, rfl⟩
  rw [← hS, ← hT, ← hF]
  rw [← hF] at hS hT
  have HS : Hid (S = bs (bareD (liftN a F))) := hS
  have HT : Hid (T = bs (bareD (liftN b F))) := hT
  have HF : Hid (F = liftE a b) := hF
  have hx1 := ok_exp ha
  have hx2 := ok_exp hbk
  have hl1 := ok_len ha
  have hl2 := ok_len hbk
  have HTA : Hid (∀ k : Nat, a.s ≠ [] → bs a.s ++ bs (List.replicate k 48) = bs (bareD (dval a.s * 10 ^ k))) := fun k h => lift_text ha h k
  have HTB : Hid (∀ k : Nat, b.s ≠ [] → bs b.s ++ bs (List.replicate k 48) = bs (bareD (dval b.s * 10 ^ k))) := fun k h => lift_text hbk h k
  have HNO : Hid (∀ W (n : Nat), n ≤ 40000 → Calls Tryz.prog 121 #[.int .i64 (n : Nat)] W fun e w' => e = .returned (.string (bs (List.replicate n 48))) ∧ Below W.heap.size W w') := fun W n hn => rnoughts_v n W (by omega)
  have HB0 : Hid (Below w.heap.size w ((w.alloc (.cells #[.bool a.neg, .string (bs a.s), .int .i64 a.e] 25)).alloc (.cells #[.bool b.neg, .string (bs b.s), .int .i64 b.e] 25))) :=
    ((Below.refl _ _).alloc (Nat.le_refl _) _).alloc (by simp) _
  have HQA : Hid _ := heap_alloc2_old w (.cells #[.bool a.neg, .string (bs a.s), .int .i64 a.e] 25) (.cells #[.bool b.neg, .string (bs b.s), .int .i64 b.e] 25)
  have HQB : Hid _ := heap_alloc2_new w (.cells #[.bool a.neg, .string (bs a.s), .int .i64 a.e] 25) (.cells #[.bool b.neg, .string (bs b.s), .int .i64 b.e] 25)
  have a0 := cell_of_row _ _ 0 _ _ _ HQA.out
  have a1 := cell_of_row _ _ 1 _ _ _ HQA.out
  have a2 := cell_of_row _ _ 2 _ _ _ HQA.out
  have b0 := cell_of_row _ _ 0 _ _ _ HQB.out
  have b1 := cell_of_row _ _ 1 _ _ _ HQB.out
  have b2 := cell_of_row _ _ 2 _ _ _ HQB.out
  obtain ⟨Z0, hZ0⟩ : ∃ Z, Z = bs (List.replicate 0 48) := ⟨_, rfl⟩
  have HZ0 : Hid (Z0 = bs (List.replicate 0 48)) := hZ0
  have hzs0 : Z0.size = 0 := by rw [hZ0]; rfl
  have HN0 : Hid (∀ W, Calls Tryz.prog 121 #[.int .i64 0] W fun e w' => e = .returned (.string Z0) ∧ Below W.heap.size W w') := fun W => by rw [hZ0]; exact HNO.out W 0 (by omega)
  clear hZ0
  have hzsA : (bs a.s).size ≤ 8192 := hl1
  have hzsB : (bs b.s).size ≤ 8192 := hl2
  clear hS hT hF ha hbk
  by_cases hA : a.s = []
  · have hzA : (((bs a.s).size : Int) == 0) = true := by rw [hA]; rfl
    have hyA : ¬ (0 : Int) < ((bs a.s).size : Int) := by rw [hA]; decide
    have HA : Hid (a.s = []) := hA
    have HFE : Hid (F = b.e) := by show F = _; rw [HF.out]; unfold liftE; rw [if_pos hA]
    clear hA
    by_cases hB : b.s = []
    · have hyB : ¬ (0 : Int) < ((bs b.s).size : Int) := by rw [hB]; decide
      have HB : Hid (b.s = []) := hB
      clear hB
      go_enter Tryz.func98, Tryz.ntmps98
      go_wp2_with fail
      go_ret3
      refine ⟨?_, HB0.out⟩
      rw [HS.out, HT.out, HFE.out]
      have ea : bs a.s = bs (bareD (liftN a b.e)) := by have := lift_nil HA.out b.e; rw [← this, HA.out]; rfl
      have eb : bs b.s = bs (bareD (liftN b b.e)) := by have := lift_nil HB.out b.e; rw [← this, HB.out]; rfl
      rw [← ea, ← eb]; rfl
    · have hyB : (0 : Int) < ((bs b.s).size : Int) := by
        have : 0 < b.s.length := List.length_pos_iff.2 hB
        have e : (bs b.s).size = b.s.length := rfl
        omega
      have HB : Hid (b.s ≠ []) := hB
      clear hB
      go_enter Tryz.func98, Tryz.ntmps98
      go_wp2_with fail
      refine (HN0.out _).mono ?_
      rintro e w1 ⟨rfl, hb⟩
      have hb1 : Below w.heap.size w w1 := (HB0.out).thru hb
      have HB1 : Hid _ := hb1
      clear hb hb1
      go_wp2_with fail
      go_ret3
      refine ⟨?_, HB1.out⟩
      rw [HS.out, HT.out, HFE.out]
      have ea : bs a.s = bs (bareD (liftN a b.e)) := by have := lift_nil HA.out b.e; rw [← this, HA.out]; rfl
      have eb : bs b.s ++ Z0 = bs (bareD (liftN b b.e)) := by rw [HZ0.out, HTB.out 0 HB.out]; unfold liftN; rw [show (b.e - b.e).toNat = 0 by omega]
      rw [← ea, ← eb]; rfl
  · have hyA : (0 : Int) < ((bs a.s).size : Int) := by
      have : 0 < a.s.length := List.length_pos_iff.2 hA
      have e : (bs a.s).size = a.s.length := rfl
      omega
    have hzA : (((bs a.s).size : Int) == 0) = false := by rw [beq_eq_false_iff_ne]; omega
    have HA : Hid (a.s ≠ []) := hA
    clear hA
    by_cases hB : b.s = []
    · have hyB : ¬ (0 : Int) < ((bs b.s).size : Int) := by rw [hB]; decide
      have HB : Hid (b.s = []) := hB
      have HFE : Hid (F = a.e) := by show F = _; rw [HF.out]; unfold liftE; rw [if_neg HA.out, if_pos hB]
      clear hB
      go_enter Tryz.func98, Tryz.ntmps98
      go_wp2_with fail
      refine (HN0.out _).mono ?_
      rintro e w1 ⟨rfl, hb⟩
      have hb1 : Below w.heap.size w w1 := (HB0.out).thru hb
      have HB1 : Hid _ := hb1
      clear hb hb1
      go_wp2_with fail
      go_ret3
      refine ⟨?_, HB1.out⟩
      rw [HS.out, HT.out, HFE.out]
      have ea : bs a.s ++ Z0 = bs (bareD (liftN a a.e)) := by rw [HZ0.out, HTA.out 0 HA.out]; unfold liftN; rw [show (a.e - a.e).toNat = 0 by omega]
      have eb : bs b.s = bs (bareD (liftN b a.e)) := by have := lift_nil HB.out a.e; rw [← this, HB.out]; rfl
      rw [← ea, ← eb]; rfl
    · have hyB : (0 : Int) < ((bs b.s).size : Int) := by
        have : 0 < b.s.length := List.length_pos_iff.2 hB
        have e : (bs b.s).size = b.s.length := rfl
        omega
      have HB : Hid (b.s ≠ []) := hB
      have HFM : Hid (F = min a.e b.e) := by show F = _; rw [HF.out]; unfold liftE; rw [if_neg HA.out, if_neg hB]
      clear hB
      by_cases hab : b.e < a.e
      · have HFE : Hid (F = b.e) := by show F = _; rw [HFM.out]; omega
        obtain ⟨k, hk⟩ : ∃ k : Nat, a.e - b.e = k := ⟨(a.e - b.e).toNat, by omega⟩
        have kw : IntKind.i64.wrap (a.e - b.e) = ((k : Nat) : Int) := by rw [hk]; exact IntWalk.i64_in _ (by omega)
        have HK : Hid (a.e = b.e + k) := by show _ = _; omega
        have hk4 : k ≤ 40000 := by omega
        obtain ⟨Zk, hZk⟩ : ∃ Z, Z = bs (List.replicate k 48) := ⟨_, rfl⟩
        have HZk : Hid (Zk = bs (List.replicate k 48)) := hZk
        have hzsk : Zk.size = k := by rw [hZk]; show (List.replicate k (48 : UInt8)).length = k; simp
        have HNk : Hid (∀ W, Calls Tryz.prog 121 #[.int .i64 (k : Nat)] W fun e w' => e = .returned (.string Zk) ∧ Below W.heap.size W w') := fun W => by rw [hZk]; exact HNO.out W k (by omega)
        clear hZk
        clear hk
        go_enter Tryz.func98, Tryz.ntmps98
        go_wp2_with fail
        refine (HNk.out _).mono ?_
        rintro e w1 ⟨rfl, hb⟩
        have hb1 : Below w.heap.size w w1 := (HB0.out).thru hb
        have HB1 : Hid _ := hb1
        have q1 := hb.blk HQB.out (blk_lt HQB.out)
        clear b0 b1 b2
        have b0 := cell_of_row _ _ 0 _ _ _ q1
        have b1 := cell_of_row _ _ 1 _ _ _ q1
        have b2 := cell_of_row _ _ 2 _ _ _ q1
        clear q1
        clear hb hb1
        go_wp2_with fail
        refine (HN0.out _).mono ?_
        rintro e w2 ⟨rfl, hb⟩
        have hb2 : Below w.heap.size w w2 := (HB1.out).thru hb
        have HB2 : Hid _ := hb2
        clear hb hb2
        go_wp2_with fail
        go_ret3
        refine ⟨?_, HB2.out⟩
        rw [HS.out, HT.out, HFE.out]
        have ea : bs a.s ++ Zk = bs (bareD (liftN a b.e)) := by rw [HZk.out, HTA.out k HA.out]; unfold liftN; rw [show (a.e - b.e).toNat = k by have := HK.out; omega]
        have eb : bs b.s ++ Z0 = bs (bareD (liftN b b.e)) := by rw [HZ0.out, HTB.out 0 HB.out]; unfold liftN; rw [show (b.e - b.e).toNat = 0 by omega]
        rw [← ea, ← eb]; rfl
      · have HFE : Hid (F = a.e) := by show F = _; rw [HFM.out]; omega
        obtain ⟨k, hk⟩ : ∃ k : Nat, b.e - a.e = k := ⟨(b.e - a.e).toNat, by omega⟩
        have kw : IntKind.i64.wrap (b.e - a.e) = ((k : Nat) : Int) := by rw [hk]; exact IntWalk.i64_in _ (by omega)
        have HK : Hid (b.e = a.e + k) := by show _ = _; omega
        have hk4 : k ≤ 40000 := by omega
        obtain ⟨Zk, hZk⟩ : ∃ Z, Z = bs (List.replicate k 48) := ⟨_, rfl⟩
        have HZk : Hid (Zk = bs (List.replicate k 48)) := hZk
        have hzsk : Zk.size = k := by rw [hZk]; show (List.replicate k (48 : UInt8)).length = k; simp
        have HNk : Hid (∀ W, Calls Tryz.prog 121 #[.int .i64 (k : Nat)] W fun e w' => e = .returned (.string Zk) ∧ Below W.heap.size W w') := fun W => by rw [hZk]; exact HNO.out W k (by omega)
        clear hZk
        clear hk
        go_enter Tryz.func98, Tryz.ntmps98
        go_wp2_with fail
        refine (HN0.out _).mono ?_
        rintro e w1 ⟨rfl, hb⟩
        have hb1 : Below w.heap.size w w1 := (HB0.out).thru hb
        have HB1 : Hid _ := hb1
        have q1 := hb.blk HQB.out (blk_lt HQB.out)
        clear b0 b1 b2
        have b0 := cell_of_row _ _ 0 _ _ _ q1
        have b1 := cell_of_row _ _ 1 _ _ _ q1
        have b2 := cell_of_row _ _ 2 _ _ _ q1
        clear q1
        clear hb hb1
        go_wp2_with fail
        refine (HNk.out _).mono ?_
        rintro e w2 ⟨rfl, hb⟩
        have hb2 : Below w.heap.size w w2 := (HB1.out).thru hb
        have HB2 : Hid _ := hb2
        clear hb hb2
        go_wp2_with fail
        go_ret3
        refine ⟨?_, HB2.out⟩
        rw [HS.out, HT.out, HFE.out]
        have ea : bs a.s ++ Z0 = bs (bareD (liftN a a.e)) := by rw [HZ0.out, HTA.out 0 HA.out]; unfold liftN; rw [show (a.e - a.e).toNat = 0 by omega]
        have eb : bs b.s ++ Zk = bs (bareD (liftN b a.e)) := by rw [HZk.out, HTB.out k HB.out]; unfold liftN; rw [show (b.e - a.e).toNat = k by have := HK.out; omega]
        rw [← ea, ← eb]; rfl
end Go.Proofs.YtpfnfhikhlceoaaGreatDoor
