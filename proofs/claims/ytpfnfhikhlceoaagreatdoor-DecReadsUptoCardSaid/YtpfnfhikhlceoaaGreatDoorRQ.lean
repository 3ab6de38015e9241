/- Parts Go of the proof, in one text. -/
import Derived.Test.YtpfnfhikhlceoaaGreatDoorRP

/- Walks: the document's answer: times. -/
namespace Go.Proofs.YtpfnfhikhlceoaaGreatDoor
open Go.RowKit

/-- A row of made bytes that holds a number's digits from its end. -/
theorem own_pad {zs : List Nat} {n P : Nat} (hn : zs.length = n) (h : ∀ p, p < n → zs.getD (n - 1 - p) 0 = 48 + dg P p) : bytesN zs = padK n P := by
  refine eq_padK _ _ _ (by rw [bytesN_len, hn]) fun i hi => ?_
  have e := h i hi
  have hg := bytesN_get zs (n - 1 - i) (by rw [bytesN_len]; omega) (by rw [e]; have := dg_lt P i; omega)
  rw [e] at hg
  apply UInt8.toNat_inj.1
  rw [hg]
  have := dg_lt P i
  simp; omega
theorem carry_le (X j k : Nat) : X % 10 ^ j * k / 10 ^ j ≤ k := by
  refine Nat.div_le_of_le_mul ?_
  exact Nat.mul_le_mul_right _ (Nat.le_of_lt (Nat.mod_lt _ (Nat.pow_pos (by decide))))

theorem w64_in {x : Int} (h0 : -9223372036854775808 ≤ x) (h1 : x ≤ 9223372036854775807) : wrap64 x = x := by unfold wrap64; omega
theorem byte_facts (E : Nat) (hE : E ≤ 1000) : (E : Int).tdiv 10 = ((E / 10 : Nat) : Int) ∧ wrap64 ((E / 10 : Nat) : Int) = ((E / 10 : Nat) : Int) ∧ (E : Int).tmod 10 = ((E % 10 : Nat) : Int) ∧ wrap64 (48 + ((E % 10 : Nat) : Int)) % 256 = ((48 + E % 10 : Nat) : Int) := by
  have h1 : (E : Int).tdiv 10 = ((E / 10 : Nat) : Int) := by rw [Int.tdiv_eq_ediv_of_nonneg (by omega)]; rfl
  have h2 : (E : Int).tmod 10 = ((E % 10 : Nat) : Int) := by rw [Int.tmod_eq_emod_of_nonneg (by omega)]; rfl
  refine ⟨h1, w64_in (by omega) (by omega), h2, ?_⟩
  rw [w64_in (by omega) (by omega)]; omega
/-- A made row with one digit more. -/
theorem pad_set {zs : List Nat} {n j q P d : Nat} (hl : zs.length = n) (hq : q = n - 1 - j) (hj : j < n) (hz : ∀ p, p < j → zs.getD (n - 1 - p) 0 = 48 + dg P p) (hd : d = dg P j) : ∀ p, p < j + 1 → (zs.set q (48 + d)).getD (n - 1 - p) 0 = 48 + dg P p := by
  intro p hp
  by_cases e : p = j
  · subst e
    rw [← hq, getD_set_same (by omega), hd]
  · rw [getD_set_other (by omega)]; exact hz p (by omega)

set_option maxHeartbeats 2000000 in
set_option maxRecDepth 100000 in
theorem rtimes_v (s : ByteArray) (k : Nat) (hk : k ≤ 9) (w : World) (hd : allDig (bl s)) (hs : s.size ≤ 2000) :
    Calls Tryz.prog 46 #[.string s, .int .i64 (k : Nat)] w fun e w' => e = .returned (.string (bs (bareD (dval (bl s) * k)))) ∧ Below w.heap.size w w' := by
  obtain ⟨X, hX⟩ : ∃ X, X = dval (bl s) := ⟨_, rfl⟩
  rw [← hX]
  have HDG : Hid (∀ j (h : j < s.size), (s[s.size - 1 - j]'(by omega)).toNat = 48 + dg X j) := fun j h => by
    have := dg_of (bl s) hd j (by rw [bl_len]; exact h)
    rw [← hX] at this; exact this
  obtain ⟨n, hn⟩ : ∃ n, n = s.size + 2 := ⟨_, rfl⟩
  have HXN : Hid (X * k < 10 ^ n) := by
    show _ < _
    have h1 := dval_lt _ hd
    rw [← hX, bl_len] at h1
    rw [hn, Nat.pow_add]
    calc X * k ≤ X * 100 := Nat.mul_le_mul_left _ (by omega)
      _ < 10 ^ s.size * 10 ^ 2 := Nat.mul_lt_mul_of_pos_right h1 (by decide)
  have HZ0 : Hid (∀ j, s.size ≤ j → dg X j = 0) := fun j hj => by
    have h1 := dval_lt _ hd
    rw [← hX, bl_len] at h1
    exact dg_zero h1 hj
  obtain ⟨T, hT⟩ : ∃ T, T = bs (bareD (X * k)) := ⟨_, rfl⟩
  rw [← hT]
  have HT : Hid (T = bs (bareD (X * k))) := hT
  have kn : IntKind.i64.wrap ((s.size : Int) + 2) = (n : Int) := by rw [IntWalk.i64_in _ (by omega)]; omega
  have kn1 : IntKind.i64.wrap ((n : Int) - 1) = (n : Int) - 1 := IntWalk.i64_in _ (by omega)
  have hmk := mk_bytes n w (by omega)
  have HN : Hid (n = s.size + 2) := hn
  have hn2 : n ≤ 2002 := by omega
  have hn3 : 2 ≤ n := by omega
  clear hX hd hT hn
  go_enter Tryz.func46, Tryz.ntmps46
  go_upto_region 4 with fail
  have HO1 : Hid _ := own_bytes n w (by omega) 5
  have HB1 : Hid _ := (Below.refl w.heap.size w).alloc (Nat.le_refl _) (.cells (Array.replicate n (.int .u8 0)) 5)
  obtain ⟨w1, hw1⟩ : ∃ w1, w1 = w.alloc (.cells (Array.replicate n (.int .u8 0)) 5) := ⟨_, rfl⟩
  rw [← hw1] at HO1 HB1 ⊢
  clear hw1 hmk kn kn1
  go_loopw [6, 7] (fun cv iv wr => ∃ (j c : Nat) (Q : Int) (zs : List Nat), j ≤ n ∧ cv = .int .i64 (c : Nat) ∧ iv = .int .i64 Q ∧ Q + 1 + j = n ∧ OwnW .u8 5 wr w.heap.size n zs ∧ (∀ p, p < j → zs.getD (n - 1 - p) 0 = 48 + dg (X * k) p) ∧ c = X % 10 ^ j * k / 10 ^ j ∧ Below w.heap.size w wr) (fun _ iv _ => (intOf iv + 1).toNat)
  case atStart => exact ⟨0, 0, (n : Int) - 1, _, Nat.zero_le _, rfl, by first | rfl | go_num, by omega, HO1.out, fun p hp => absurd hp (Nat.not_lt_zero _), by rw [Nat.pow_zero, Nat.mod_one, Nat.zero_mul, Nat.zero_div], HB1.out⟩
  case round =>
    obtain ⟨j, c, Q, zs, hj, rfl, rfl, hQ, ho, hz, hc, hb⟩ := hrel
    have HO : Hid (OwnW .u8 5 wr w.heap.size n zs) := ho
    have HZ : Hid (∀ p, p < j → zs.getD (n - 1 - p) 0 = 48 + dg (X * k) p) := hz
    have HC : Hid (c = X % 10 ^ j * k / 10 ^ j) := hc
    have HB : Hid (Below w.heap.size w wr) := hb
    have hck : c ≤ 9 := by have := carry_le X j k; omega
    clear hz hc hb ho
    by_cases hjn : j < n
    · obtain ⟨q, rfl⟩ : ∃ q : Nat, Q = q := ⟨Q.toNat, by omega⟩
      have hq : q = n - 1 - j := by omega
      have HQ : Hid (q = n - 1 - j) := hq
      have hqn : q < n := by omega
      have c1 := HO.out.cell hqn
      have f1 := HO.out.frozen q
      obtain ⟨t1, t2⟩ := times_next HC.out
      by_cases hjs : j < s.size
      · obtain ⟨m, rfl⟩ : ∃ m, q = m + 2 := ⟨q - 2, by have := HN.out; omega⟩
        have hm : m < s.size := by have := HN.out; omega
        obtain ⟨D, hD⟩ : ∃ D, D = dg X j := ⟨_, rfl⟩
        have hD9 : D < 10 := by rw [hD]; exact dg_lt _ _
        have hsm : ((s[m]'hm).toNat : Int) = 48 + (D : Int) := by
          have := HDG.out j hjs
          have e : s.size - 1 - j = m := by have := HN.out; omega
          simp only [e] at this
          rw [this, hD]; rfl
        obtain ⟨M, hM⟩ : ∃ M, M = k * D := ⟨_, rfl⟩
        have hM9 : M ≤ 81 := by rw [hM]; exact Nat.le_trans (Nat.mul_le_mul hk (by omega : D ≤ 9)) (by decide)
        have HT1 : Hid ((c + M) % 10 = dg (X * k) j ∧ (c + M) / 10 = X % 10 ^ (j + 1) * k / 10 ^ (j + 1)) := by rw [hM, hD]; exact ⟨t1, t2⟩
        have HM : Hid (M = k * D) := hM
        clear t1 t2 hD hM hq hjs
        go_wp2_with fail
        have e1 : wrap64 ((k : Int) * (48 + (D : Int) - 48)) = (M : Int) := by
          rw [show (48 + (D : Int) - 48) = D by omega, show (k : Int) * (D : Int) = (M : Int) by rw [HM.out]; exact (Int.natCast_mul k D).symm]
          exact w64_in (by omega) (by omega)
        obtain ⟨E, hE⟩ : ∃ E, E = c + M := ⟨_, rfl⟩
        have e2 : wrap64 ((c : Int) + (M : Int)) = (E : Int) := by rw [w64_in (by omega) (by omega)]; omega
        have hE2 : E ≤ 1000 := by rw [hE]; exact Nat.le_trans (Nat.add_le_add hck hM9) (by decide)
        obtain ⟨e3, e4, e5, e6⟩ := byte_facts E hE2
        rw [← hE] at HT1
        simp only [e1, e2, e3, e4, e5, e6]
        refine ⟨⟨j + 1, E / 10, _, zs.set (m + 2) (48 + E % 10), by omega, rfl, rfl, by omega, HO.out.set _ _, ?_, HT1.out.2, HB.out.setCell (Nat.le_refl _) _⟩, by simp [intOf]; omega⟩
        exact pad_set HO.out.length HQ.out hjn HZ.out HT1.out.1
      · have hq2 : q < 2 := by have := HN.out; omega
        have hq2' : ¬ (2 : Int) ≤ (q : Int) := by omega
        have HT1 : Hid (c % 10 = dg (X * k) j ∧ c / 10 = X % 10 ^ (j + 1) * k / 10 ^ (j + 1)) := by
          rw [HZ0.out j (by omega), Nat.mul_zero, Nat.add_zero] at t1 t2; exact ⟨t1, t2⟩
        clear t1 t2 hq hjs
        go_wp2_with fail
        refine ⟨⟨j + 1, c / 10, _, zs.set q (48 + c % 10), by omega, by rw [show ((c : Int) / 10) = ((c / 10 : Nat) : Int) by omega], rfl, by omega, ?_, ?_, HT1.out.2, HB.out.setCell (Nat.le_refl _) _⟩, by simp [intOf]⟩
        · rw [show (48 + (c : Int) % 10) = ((48 + c % 10 : Nat) : Int) by omega]; exact HO.out.set _ _
        · exact pad_set HO.out.length HQ.out hjn HZ.out HT1.out.1
    · have hj2 : n = j := by omega
      have hQ2 : Q = -1 := by omega
      subst hQ2
      subst hj2
      have hpd := own_pad HO.out.length HZ.out
      have CV := text_own HO.out (fun m hm => by have := HZ.out (n - 1 - m) (by omega); rw [show n - 1 - (n - 1 - m) = m by omega] at this; have := dg_lt (X * k) (n - 1 - m); omega)
      rw [hpd] at CV
      have HBR : Hid (∀ W, Calls Tryz.prog 57 #[.string (bs (padK n (X * k)))] W fun e w' => e = .returned (.string T) ∧ Below W.heap.size W w') := fun W => by
        have := rbare_v (bs (padK n (X * k))) W (by show (padK n (X * k)).length ≤ _; rw [padK_len]; omega)
        rw [bl_bs, show (padK n (X * k)).dropWhile (· == 48) = bareD (X * k) from bare_pad HXN.out, ← HT.out] at this
        exact this
      clear hpd hQ hj
      go_wp2_with fail
      refine (HBR.out _).mono ?_
      rintro e w2 ⟨rfl, hb⟩
      have HB2 : Hid (Below w.heap.size w w2) := HB.out.thru hb
      clear hb CV
      go_wp2
      go_ret
      exact ⟨rfl, HB2.out⟩
end Go.Proofs.YtpfnfhikhlceoaaGreatDoor
