/- Parts Gi, Gj of the proof, in one text. -/
import Derived.Test.YtpfnfhikhlceoaaGreatDoorRG
import Derived.Laws.IdiomStrings

/- Walks: the document's answer: digit, digits, bare. -/
namespace Go.Proofs.YtpfnfhikhlceoaaGreatDoor
open Go.RowKit

theorem rdigit_v (c : UInt8) (w : World) : Calls Tryz.prog 53 #[.int .u8 (c.toNat : Nat)] w fun e w' => e = .returned (.bool (isDig c)) ∧ Below w.heap.size w w' := by
  have hi := isDig_iff c
  obtain ⟨n, hn⟩ : ∃ n, n = c.toNat := ⟨_, rfl⟩
  rw [← hn] at hi ⊢
  obtain ⟨b, hb⟩ : ∃ b, b = isDig c := ⟨_, rfl⟩
  rw [← hb] at hi ⊢
  clear hn hb
  by_cases h1 : 48 ≤ n
  · have h1' : ¬ (n : Int) < 48 := by omega
    have h1'' : (48 : Int) ≤ n := by omega
    by_cases h2 : n ≤ 57
    · have h2' : (n : Int) ≤ 57 := by omega
      obtain rfl : b = true := hi.2 ⟨h1, h2⟩
      clear hi h1 h2
      go_enter Tryz.func53, Tryz.ntmps53
      go_wp2
      go_ret
      exact ⟨rfl, Below.refl _ _⟩
    · have h2' : ¬ (n : Int) ≤ 57 := by omega
      obtain rfl : b = false := by cases b; rfl; exact absurd (hi.1 rfl).2 h2
      clear hi h1 h2
      go_enter Tryz.func53, Tryz.ntmps53
      go_wp2
      go_ret
      exact ⟨rfl, Below.refl _ _⟩
  · have h1' : ¬ (48 : Int) ≤ n := by omega
    obtain rfl : b = false := by cases b; rfl; exact absurd (hi.1 rfl).1 h1
    clear hi h1
    go_enter Tryz.func53, Tryz.ntmps53
    go_wp2
    go_ret
    exact ⟨rfl, Below.refl _ _⟩

set_option maxRecDepth 100000 in
theorem rdigits_v (s : ByteArray) (w : World) (hs : s.size ≤ 9223372036854775807) :
    Calls Tryz.prog 54 #[.string s] w fun e w' => e = .returned (.bool ((bl s).all isDig)) ∧ Below w.heap.size w w' := by
  obtain ⟨r, hr⟩ : ∃ r, r = (bl s).all isDig := ⟨_, rfl⟩
  rw [← hr]
  have HR : Hid (r = (bl s).all isDig) := hr
  clear hr
  go_enter Tryz.func54, Tryz.ntmps54
  go_wp2_with fail
  go_loopw [3] (fun i wr => ∃ k : Nat, k ≤ s.size ∧ i = .int .i64 (k : Nat) ∧ (∀ j (h : j < k) (h' : j < s.size), isDig (s[j]'h') = true) ∧ Below w.heap.size w wr) (fun i _ => s.size - (intOf i).toNat)
  case atStart => exact ⟨0, Nat.zero_le _, rfl, fun j h => absurd h (Nat.not_lt_zero _), Below.refl _ _⟩
  case round =>
    obtain ⟨k, hk, rfl, hd, hb⟩ := hrel
    have HD : Hid _ := hd
    have HB : Hid _ := hb
    clear hd hb
    by_cases hkn : k < s.size
    · go_wp2_with fail
      refine (rdigit_v _ _).mono ?_
      rintro e w1 ⟨rfl, hb1⟩
      have HB1 : Hid _ := HB.out.thru hb1
      clear hb1
      by_cases hdg : isDig (s[k]'hkn) = true
      · have HDG : Hid (isDig (s[k]'hkn) = true) := hdg
        go_wp2
        go_roundw
        case rel =>
          refine ⟨k + 1, by omega, by go_num, fun j h h' => ?_, HB1.out⟩
          by_cases e : j = k
          · subst e; exact HDG.out
          · exact HD.out j (by omega) h'
        case measure => simp [intOf]; omega
      · have hdf : isDig (s[k]'hkn) = false := eq_false_of_ne_true hdg
        have HDG : Hid (isDig (s[k]'hkn) = false) := hdf
        clear hdg
        go_wp2
        go_ret
        have hf : r = false := by
          rw [HR.out, List.all_eq_false]
          exact ⟨_, List.getElem_mem (l := bl s) (n := k) hkn, by have := HDG.out; intro h; rw [show (bl s)[k]'hkn = s[k]'hkn from rfl, this] at h; cases h⟩
        rw [hf]
        exact ⟨rfl, HB1.out⟩
    · obtain rfl : k = s.size := by omega
      go_wp2
      go_ret
      have hf : r = true := by
        rw [HR.out, List.all_eq_true]
        intro x hx
        obtain ⟨j, hj, rfl⟩ := List.mem_iff_getElem.1 hx
        exact HD.out j hj hj
      rw [hf]
      exact ⟨rfl, HB.out⟩

theorem drop_at (l : List UInt8) (i : Nat) (hi : i ≤ l.length) (h1 : ∀ j (h : j < l.length), j < i → l[j] = 48) (h2 : ∀ h : i < l.length, l[i] ≠ 48) : l.dropWhile (· == 48) = l.drop i := by
  induction i generalizing l with
  | zero =>
    cases l with
    | nil => rfl
    | cons c r =>
      have := h2 (by simp)
      rw [List.dropWhile_cons_of_neg (by simpa using this)]; rfl
  | succ i ih =>
    cases l with
    | nil => rfl
    | cons c r =>
      have h0 := h1 0 (by simp) (by omega)
      rw [List.dropWhile_cons_of_pos (by simpa using h0)]
      exact ih r (by simpa using hi) (fun j h hj => h1 (j + 1) (by simpa using h) (by omega)) (fun h => h2 (by simpa using h))
set_option maxRecDepth 100000 in
theorem rbare_v (s : ByteArray) (w : World) (hs : s.size ≤ 9223372036854775807) :
    Calls Tryz.prog 57 #[.string s] w fun e w' => e = .returned (.string (bs ((bl s).dropWhile (· == 48)))) ∧ Below w.heap.size w w' := by
  obtain ⟨r, hr⟩ : ∃ r, r = bs ((bl s).dropWhile (· == 48)) := ⟨_, rfl⟩
  rw [← hr]
  have HR : Hid (r = bs ((bl s).dropWhile (· == 48))) := hr
  clear hr
  go_enter Tryz.func57, Tryz.ntmps57
  go_wp2_with fail
  go_loopw [3] (fun i wr => ∃ k : Nat, k ≤ s.size ∧ i = .int .i64 (k : Nat) ∧ (∀ j (h : j < s.size), j < k → s[j] = 48) ∧ Below w.heap.size w wr) (fun i _ => s.size - (intOf i).toNat)
  case atStart => exact ⟨0, Nat.zero_le _, rfl, fun j h h' => absurd h' (Nat.not_lt_zero _), Below.refl _ _⟩
  case round =>
    obtain ⟨k, hk, rfl, hd, hb⟩ := hrel
    have HD : Hid (∀ j (h : j < s.size), j < k → s[j] = 48) := hd
    have HB : Hid _ := hb
    clear hd hb
    have hend : ∀ (_ : ∀ h : k < s.size, s[k] ≠ 48), s.extract k s.size = r := fun h2 => by
      rw [HR.out, drop_at (bl s) k hk HD.out h2]
      apply bl_inj
      rw [bl_extract, List.take_of_length_le (by rw [bl_len]; exact Nat.le_refl _)]; rfl
    by_cases hkn : k < s.size
    · by_cases hc : s[k]'hkn = 48
      · have HC : Hid (s[k]'hkn = 48) := hc
        have hc' : (((s[k]'hkn).toNat : Nat) : Int) == 48 := by rw [hc]; rfl
        clear hc hend
        go_wp2
        go_roundw
        case rel =>
          refine ⟨k + 1, by omega, by go_num, fun j h h' => ?_, by first | exact HB.out | exact HB.out.drew⟩
          by_cases e : j = k
          · subst e; exact HC.out
          · exact HD.out j h (by omega)
        case measure => simp [intOf]; omega
      · have he := hend (fun _ => hc)
        have hc' : ((((s[k]'hkn).toNat : Nat) : Int) == 48) = false := by
          rw [beq_eq_false_iff_ne]; intro h; exact hc (UInt8.toNat_inj.1 (by have : (48 : UInt8).toNat = 48 := rfl; omega))
        clear hc hend
        go_wp2
        go_ret
        exact ⟨rfl, HB.out⟩
    · have he := hend (fun h => absurd h hkn)
      have hk' : k = s.size := by omega
      have HE : Hid (r = ByteArray.empty) := by show _ = _; rw [← he, hk']; simp
      clear hend he
      go_wp2
      go_ret
      refine ⟨?_, HB.out⟩
      rw [HE.out]; rfl
end Go.Proofs.YtpfnfhikhlceoaaGreatDoor

/- Walks: the document's answer: Made. -/
namespace Go.Proofs.YtpfnfhikhlceoaaGreatDoor
open Go.RowKit

theorem bare_split : ∀ N : Nat, 0 < N → bareD N = bareD (strip N) ++ List.replicate (tz N) 48 := by
  intro N
  induction N using Nat.strongRecOn with
  | _ N ih =>
    intro h
    by_cases h1 : N % 10 = 0
    · rw [strip_ten h h1, tz_ten h h1, List.replicate_succ', ← List.append_assoc, ← ih (N / 10) (by omega) (by omega), bare_step N h, h1]; rfl
    · rw [strip_not h1, tz_not h1]; simp
/-- 'string([]byte(s))'. -/
theorem there_back (u : ByteArray) (w : World) : ∃ c W', (convert 9 70 (.string u)).run Tryz.prog w = .ok (.slice (some ⟨w.heap.size, 0, none⟩) u.size c) W' ∧
    (convert 70 9 (.slice (some ⟨w.heap.size, 0, none⟩) u.size c)).run Tryz.prog W' = .ok (.string u) W' ∧ Below w.heap.size w W' := by
  have h1 := run_bytes_of_string (P := Tryz.prog) w 9 70 5 u Tryz.underlying9 Tryz.underlying70 Tryz.underlying5
  refine ⟨_, _, h1, ?_, ?_⟩
  · have h2 := run_convert_bytes_back (P := Tryz.prog) (w.drew.alloc (.cells (bytesRow u (grownCap w u.size 0 5)) 5 ((bytesRow u (grownCap w u.size 0 5)).size, (bytesRow u (grownCap w u.size 0 5)).size + 1))) 70 9 5 ⟨w.heap.size, 0, none⟩ (grownCap w u.size 0 5) u.data.toList Tryz.underlying70 Tryz.underlying5 Tryz.underlying9 (fun j hj => by
      rw [show (Addr.mk w.heap.size 0 none).add j = ⟨w.heap.size, j, none⟩ by unfold Addr.add; split <;> simp_all]
      have := World.cell?_alloc_mark w.drew (bytesRow u (grownCap w u.size 0 5)) 5 ((bytesRow u (grownCap w u.size 0 5)).size, (bytesRow u (grownCap w u.size 0 5)).size + 1) j
      exact this.trans (bytesRow_at u _ j (by simpa using hj)))
    exact h2
  · exact ((Below.refl _ _).drew).alloc (Nat.le_refl _) _

set_option maxRecDepth 100000 in
theorem rmade_bad (ng : Bool) (s : ByteArray) (e : Int) (w : World) (hd : (bl s).all isDig = false) (hs : s.size ≤ 9223372036854775807) :
    Calls Tryz.prog 28 #[.bool ng, .string s, .int .i64 e] w (DcQ Dc.none 3 w) := by
  have HN : Hid (∀ W, Calls Tryz.prog 54 #[.string s] W fun e w' => e = .returned (.bool false) ∧ Below W.heap.size W w') := fun W => by
    rw [← hd]; exact rdigits_v s W hs
  have HB0 : Hid (Below w.heap.size w (w.alloc (.cells #[.bool false, .string ⟨#[]⟩, .int .i64 0] 25))) := (Below.refl _ _).alloc (Nat.le_refl _) _
  have HQ0 : Hid _ := new_blk w (.cells #[.bool false, .string ⟨#[]⟩, .int .i64 0] 25)
  clear hd hs
  go_enter Tryz.func28, Tryz.ntmps28
  go_wp2_with fail
  refine (HN.out _).mono ?_
  rintro e' w1 ⟨rfl, hb⟩
  have HB1 : Hid (Below w.heap.size w w1) := HB0.out.thru hb
  obtain ⟨f0, c0, f1, c1, f2, c2, r3⟩ := rw3 (hb.blk HQ0.out (blk_lt HQ0.out))
  have HR : Hid _ := r3
  clear hb r3
  go_wp2
  exact dc_end rfl rfl rfl (HR.out _ _ _) rfl rfl (below_row3 HB1.out (Nat.le_refl _) _ _ _)

set_option maxHeartbeats 2000000 in
set_option maxRecDepth 100000 in
theorem rmade_v (ng : Bool) (s : ByteArray) (e : Int) (w : World) (hd : allDig (bl s)) (hs : s.size ≤ 4611686018427387904) :
    Calls Tryz.prog 28 #[.bool ng, .string s, .int .i64 e] w (DcQ ⟨madeS ng (dval (bl s)) e, madeL (dval (bl s)) e, madeE (dval (bl s)) e⟩ (madeX (dval (bl s)) e) w) := by
  have HN : Hid (∀ W, Calls Tryz.prog 54 #[.string s] W fun e w' => e = .returned (.bool true) ∧ Below W.heap.size W w') := fun W => by
    rw [← all_dig.2 hd]; exact rdigits_v s W (by omega)
  obtain ⟨N, hN⟩ : ∃ N, N = dval (bl s) := ⟨_, rfl⟩
  have ht : (bl s).dropWhile (· == 48) = bareD N := by rw [hN]; exact trimL_bare (bl s) hd
  have hts : (bareD N).length ≤ s.size := by
    rw [← ht, ← bl_len]
    exact (List.dropWhile_sublist _).length_le
  obtain ⟨t, htt⟩ : ∃ t, t = bs (bareD N) := ⟨_, rfl⟩
  have htl : t.size = (bareD N).length := by rw [htt]; rfl
  have HBA : Hid (∀ W, Calls Tryz.prog 57 #[.string s] W fun e w' => e = .returned (.string t) ∧ Below W.heap.size W w') := fun W => by
    have := rbare_v s W (by omega)
    rw [ht, ← htt] at this; exact this
  rw [← hN]
  have HB0 : Hid (Below w.heap.size w (w.alloc (.cells #[.bool false, .string ⟨#[]⟩, .int .i64 0] 25))) := (Below.refl _ _).alloc (Nat.le_refl _) _
  have HQ0 : Hid _ := new_blk w (.cells #[.bool false, .string ⟨#[]⟩, .int .i64 0] 25)
  clear hN hd ht
  rcases Nat.eq_zero_or_pos N with g | g
  · subst g
    obtain ⟨m1, m2, m3, m4⟩ := made_zero ng e
    rw [m1, m2, m3, m4]
    have h0 : ((t.size : Int) == 0) = true := by rw [htl]; rfl
    clear htt htl m1 m2 m3 m4
    go_enter Tryz.func28, Tryz.ntmps28
    go_wp2_with fail
    refine (HN.out _).mono ?_
    rintro e' w1 ⟨rfl, hb⟩
    have HB1 : Hid (Below w.heap.size w w1) := HB0.out.thru hb
    have HQ1 : Hid _ := hb.blk HQ0.out (blk_lt HQ0.out)
    clear hb
    go_wp2_with fail
    refine (HBA.out _).mono ?_
    rintro e' w2 ⟨rfl, hb⟩
    have HB2 : Hid (Below w.heap.size w w2) := HB1.out.thru hb
    obtain ⟨f0, c0, f1, c1, f2, c2, r3⟩ := rw3 (hb.blk HQ1.out (blk_lt HQ1.out))
    have HR : Hid _ := r3
    clear hb r3
    go_wp2
    exact dc_end rfl rfl rfl (HR.out _ _ _) rfl rfl (below_row3 HB2.out (Nat.le_refl _) _ _ _)
  · obtain ⟨m, hm⟩ : ∃ m, m = (bareD (strip N)).length := ⟨_, rfl⟩
    obtain ⟨k, hk⟩ : ∃ k, k = tz N := ⟨_, rfl⟩
    have hlen : t.size = m + k := by rw [htl, hm, hk]; exact bare_len_tz N g
    have hm0 : 0 < m := by
      rw [hm]; have := bare_pos_ne (strip_pos g)
      exact List.length_pos_iff.2 this
    have hsp : bl t = bareD (strip N) ++ List.replicate k 48 := by rw [htt, hk]; exact bare_split N g
    have HTZ : Hid (∀ j (h : j < t.size), m ≤ j → t[j]'h = 48) := fun j h hj => by
      rw [bl_get]
      simp only [hsp]
      rw [List.getElem_append_right (by omega)]
      simp
    have HTM : Hid (∀ h : m - 1 < t.size, (t[m - 1]'h).toNat ≠ 48) := fun h h48 => by
      have hne := bare_pos_ne (strip_pos g)
      have hl := last_mod (bare_all (strip N)) hne
      rw [dval_bare, decide_eq_false (strip_odd N g)] at hl
      rw [bl_get] at h48
      simp only [hsp] at h48
      rw [List.getElem_append_left (by omega)] at h48
      have e1 : (bareD (strip N)).getLastD 0 = (bareD (strip N))[m - 1]'(by omega) := by
        rw [List.getLastD_eq_getLast?, List.getLast?_eq_getElem?]
        simp only [← hm]
        rw [List.getElem?_eq_getElem (by omega)]; rfl
      rw [e1] at hl
      have e2 : (bareD (strip N))[m - 1]'(by omega) = 48 := UInt8.toNat_inj.1 h48
      rw [e2] at hl
      cases hl
    have HX : Hid (madeX N e = if 8192 < m then 12 else if 20000 - (k : Int) < e ∨ e < -20000 - (k : Int) then 11 else 0) := by
      show _ = _; unfold madeX; rw [if_neg (show ¬ N = 0 by omega), hm, hk]
    have HM : Hid (m = (bareD (strip N)).length) := hm
    have HK : Hid (k = tz N) := hk
    have HSP : Hid (bl t = bareD (strip N) ++ List.replicate k 48) := hsp
    have HG : Hid (0 < N) := g
    have h0 : ((t.size : Int) == 0) = false := by rw [beq_eq_false_iff_ne]; omega
    have htb : t.size ≤ 4611686018427387904 := by omega
    have hkb : k ≤ 4611686018427387904 := by omega
    have hmb : m ≤ 4611686018427387904 := by omega
    clear htt htl hm hk hsp g hts
    go_enter Tryz.func28, Tryz.ntmps28
    go_wp2_with fail
    refine (HN.out _).mono ?_
    rintro e' w1 ⟨rfl, hb⟩
    have HB1 : Hid (Below w.heap.size w w1) := HB0.out.thru hb
    have HQ1 : Hid _ := hb.blk HQ0.out (blk_lt HQ0.out)
    clear hb
    go_wp2_with fail
    refine (HBA.out _).mono ?_
    rintro e' w2 ⟨rfl, hb⟩
    have HB2 : Hid (Below w.heap.size w w2) := HB1.out.thru hb
    have HQ2 : Hid _ := hb.blk HQ1.out (blk_lt HQ1.out)
    clear hb
    have HLEN : Hid (t.size = m + k) := hlen
    clear hlen
    go_wp2_with fail
    go_loop [8] (fun v => ∃ j : Nat, m ≤ j + 1 ∧ j + 1 ≤ t.size ∧ v = .int .i64 ((j : Int) + 1)) (fun v => (intOf v).toNat)
    case atStart =>
      have := HLEN.out
      refine ⟨t.size - 1, by omega, by omega, ?_⟩
      rw [show ((t.size - 1 : Nat) : Int) + 1 = t.size by omega]
    case round =>
      obtain ⟨j, hj1, hj2, rfl⟩ := hrel
      have kw : IntKind.i64.wrap ((j : Int) + 1 - 1) = (j : Int) := by rw [IntWalk.i64_in _ (by omega)]; omega
      have hjt : j < t.size := by omega
      rcases Nat.lt_or_ge j m with hjm | hjm
      · obtain rfl : j + 1 = m := by omega
        have hne : ((((t[j]'hjt).toNat : Nat) : Int) == 48) = false := by
          rw [beq_eq_false_iff_ne]; intro h; exact HTM.out hjt (by have : ((t[j]'hjt).toNat : Int) = 48 := h; show (t[j]'hjt).toNat = 48; omega)
        have hl := HLEN.out
        have hsub : IntKind.i64.wrap ((t.size : Int) - ((j : Int) + 1)) = (k : Int) := by rw [IntWalk.i64_in _ (by omega)]; omega
        have w1 : IntKind.i64.wrap (-20000 - (k : Int)) = -20000 - (k : Int) := IntWalk.i64_in _ (by omega)
        clear hl hj1 hjm
        by_cases hlong : 8192 < j + 1
        · have hL : (8192 : Int) < (j : Int) + 1 := by omega
          have hx : madeX N e = 12 := by rw [HX.out, if_pos hlong]
          have HX2 : Hid (madeX N e = 12) := hx
          clear hx hlong
          obtain ⟨f0, c0, f1, c1, f2, c2, r3⟩ := rw3 HQ2.out
          have HR : Hid _ := r3
          clear r3
          go_wp2
          obtain ⟨m2, m3, m4⟩ := made_err ng HX2.out (by decide)
          exact dc_end rfl rfl rfl (HR.out _ _ _) (by rw [m2, m3, m4]; rfl) HX2.out.symm (below_row3 HB2.out (Nat.le_refl _) _ _ _)
        · have hL : ¬ (8192 : Int) < (j : Int) + 1 := by omega
          by_cases hr1 : 20000 < e
          · have hx : madeX N e = 11 := by rw [HX.out, if_neg hlong, if_pos (.inl (by omega))]
            have HX2 : Hid (madeX N e = 11) := hx
            clear hx hlong
            obtain ⟨f0, c0, f1, c1, f2, c2, r3⟩ := rw3 HQ2.out
            have HR : Hid _ := r3
            clear r3
            go_wp2
            obtain ⟨m2, m3, m4⟩ := made_err ng HX2.out (by decide)
            exact dc_end rfl rfl rfl (HR.out _ _ _) (by rw [m2, m3, m4]; rfl) HX2.out.symm (below_row3 HB2.out (Nat.le_refl _) _ _ _)
          · by_cases hr2 : e < -20000 - (k : Int)
            · have hx : madeX N e = 11 := by rw [HX.out, if_neg hlong, if_pos (.inr hr2)]
              have HX2 : Hid (madeX N e = 11) := hx
              clear hx hlong
              obtain ⟨f0, c0, f1, c1, f2, c2, r3⟩ := rw3 HQ2.out
              have HR : Hid _ := r3
              clear r3
              go_wp2
              obtain ⟨m2, m3, m4⟩ := made_err ng HX2.out (by decide)
              exact dc_end rfl rfl rfl (HR.out _ _ _) (by rw [m2, m3, m4]; rfl) HX2.out.symm (below_row3 HB2.out (Nat.le_refl _) _ _ _)
            · have w3 : IntKind.i64.wrap (e + (k : Int)) = e + (k : Int) := IntWalk.i64_in _ (by omega)
              by_cases hr3 : 20000 < e + (k : Int)
              · have hx : madeX N e = 11 := by rw [HX.out, if_neg hlong, if_pos (.inl (by omega))]
                have HX2 : Hid (madeX N e = 11) := hx
                clear hx hlong
                obtain ⟨f0, c0, f1, c1, f2, c2, r3⟩ := rw3 HQ2.out
                have HR : Hid _ := r3
                clear r3
                go_wp2
                obtain ⟨m2, m3, m4⟩ := made_err ng HX2.out (by decide)
                exact dc_end rfl rfl rfl (HR.out _ _ _) (by rw [m2, m3, m4]; rfl) HX2.out.symm (below_row3 HB2.out (Nat.le_refl _) _ _ _)
              · have hx : madeX N e = 0 := by rw [HX.out, if_neg hlong, if_neg (by omega)]
                have HX2 : Hid (madeX N e = 0) := hx
                clear hx
                obtain ⟨u, hu⟩ : ∃ u, t.extract 0 (j + 1) = u := ⟨_, rfl⟩
                have HU : Hid (bl u = bareD (strip N)) := by
                  show _ = _
                  rw [← hu, bl_extract, HSP.out, List.drop_zero, List.take_append_of_le_length (by rw [← HM.out]; exact Nat.le_refl _), List.take_of_length_le (by rw [← HM.out]; exact Nat.le_refl _)]
                have hus : u.size = j + 1 := by rw [← bl_len, HU.out, ← HM.out]
                obtain ⟨c, W3, k1, k2, hb3⟩ := there_back u w2
                rw [hus] at k1 k2
                obtain ⟨f0, c0, f1, c1, f2, c2, r3⟩ := rw3 (hb3.blk HQ2.out (blk_lt HQ2.out))
                have HR : Hid _ := r3
                have HB3 : Hid (Below w.heap.size w W3) := HB2.out.thru hb3
                have HUS : Hid (u.size = j + 1) := hus
                clear r3 hb3 hlong hus
                go_wp2
                obtain ⟨m2, m3, m4⟩ := made_ok ng HG.out HX2.out
                exact dc_end rfl rfl rfl (HR.out _ _ _) (by rw [m2, m3, m4, HU.out, HK.out]) HX2.out.symm (below_row3 HB3.out (Nat.le_refl _) _ _ _)
      · have he : ((((t[j]'hjt).toNat : Nat) : Int) == 48) = true := by rw [HTZ.out j hjt hjm]; rfl
        go_wp2_with fail
        refine ⟨⟨j - 1, by omega, by omega, ?_⟩, by simp [intOf]⟩
        rw [show ((j - 1 : Nat) : Int) + 1 = j by omega]
end Go.Proofs.YtpfnfhikhlceoaaGreatDoor
