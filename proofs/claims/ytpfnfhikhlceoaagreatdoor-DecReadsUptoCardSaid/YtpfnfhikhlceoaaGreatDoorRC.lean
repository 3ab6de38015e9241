/- Parts Ep of the proof, in one text. -/
import Derived.Test.YtpfnfhikhlceoaaGreatDoorRB

/- Walks: dec's power (what stands behind e). -/
namespace Go.Proofs.YtpfnfhikhlceoaaGreatDoor
open Go.RowKit

/-- What power tells of a text. -/
def powL (l : List UInt8) : Option Int :=
  if (signL l).2 = [] then none else if (signL l).2.all isDig = true then some (if (signL l).1 then -((min (dval (signL l).2) 1099511627776 : Nat) : Int) else ((min (dval (signL l).2) 1099511627776 : Nat) : Int)) else none
theorem pre_one (x c : UInt8) (r : List UInt8) : Lib.hasPrefix (c :: r) [x] = (x == c) := by simp [Lib.hasPrefix, List.isPrefixOf]
theorem sign_cases (l : List UInt8) : (Lib.hasPrefix l [45] = true ∧ ∃ r, l = 45 :: r ∧ signL l = (true, r)) ∨ (Lib.hasPrefix l [45] = false ∧ Lib.hasPrefix l [43] = true ∧ ∃ r, l = 43 :: r ∧ signL l = (false, r)) ∨ (Lib.hasPrefix l [45] = false ∧ Lib.hasPrefix l [43] = false ∧ signL l = (false, l)) := by
  cases l with
  | nil => exact .inr (.inr ⟨by decide, by decide, rfl⟩)
  | cons c r =>
    by_cases h1 : c = 45
    · subst h1; exact .inl ⟨by rw [pre_one]; rfl, r, rfl, rfl⟩
    · by_cases h2 : c = 43
      · subst h2; exact .inr (.inl ⟨by rw [pre_one]; rfl, by rw [pre_one]; rfl, r, rfl, rfl⟩)
      · refine .inr (.inr ⟨by rw [pre_one, beq_eq_false_iff_ne]; exact fun e => h1 e.symm, by rw [pre_one, beq_eq_false_iff_ne]; exact fun e => h2 e.symm, ?_⟩)
        unfold signL
        split
        · next e => cases e; exact absurd rfl h1
        · next e => cases e; exact absurd rfl h2
        · rfl
theorem dval_take_next (l : List UInt8) (k : Nat) (hk : k < l.length) : dval (l.take (k + 1)) = 10 * dval (l.take k) + (l[k].toNat - 48) := by
  rw [List.take_succ_eq_append_getElem hk, dval_snoc]
theorem cap_next (a d : Nat) : min (10 * min a 1099511627776 + d) 1099511627776 = min (10 * a + d) 1099511627776 := by omega

set_option maxHeartbeats 2000000 in
set_option maxRecDepth 100000 in
theorem epow_any (s : ByteArray) (w : World) (hs : s.size ≤ 4611686018427387904) :
    Calls Tryz.prog 50 #[.string s] w fun e w' => e = .returned (.tuple #[.int .i64 ((powL (bl s)).getD 0), .bool (powL (bl s)).isSome]) ∧ Below w.heap.size w w' := by
  have HP1 : Hid (∀ W, Calls Tryz.prog 47 #[.string s, .string ⟨#[45]⟩] W fun e w' => e = .returned (.bool (Lib.hasPrefix (bl s) [45])) ∧ w' = W) := fun W => Tryz.strings_HasPrefix s ⟨#[45]⟩ W
  have HP2 : Hid (∀ W, Calls Tryz.prog 47 #[.string s, .string ⟨#[43]⟩] W fun e w' => e = .returned (.bool (Lib.hasPrefix (bl s) [43])) ∧ w' = W) := fun W => Tryz.strings_HasPrefix s ⟨#[43]⟩ W
  obtain ⟨r, hr⟩ : ∃ r, r = powL (bl s) := ⟨_, rfl⟩
  rw [← hr]
  have h1 : s.size ≤ 9223372036854775807 := by omega
  obtain ⟨ng, t, hng, hrest, hts⟩ : ∃ (ng : Bool) (t : ByteArray), (ng = true ∧ Lib.hasPrefix (bl s) [45] = true ∧ t = s.extract 1 s.size ∧ 1 ≤ s.size ∨ ng = false ∧ Lib.hasPrefix (bl s) [45] = false ∧ (Lib.hasPrefix (bl s) [43] = true ∧ t = s.extract 1 s.size ∧ 1 ≤ s.size ∨ Lib.hasPrefix (bl s) [43] = false ∧ t = s)) ∧ signL (bl s) = (ng, bl t) ∧ t.size ≤ 4611686018427387904 := by
    have hdrop : ∀ c r', bl s = c :: r' → bl (s.extract 1 s.size) = r' ∧ 1 ≤ s.size ∧ (s.extract 1 s.size).size ≤ 4611686018427387904 := fun c r' e => by
      have hsz : s.size = r'.length + 1 := by rw [← bl_len, e]; rfl
      refine ⟨?_, by omega, by rw [ByteArray.size_extract]; omega⟩
      rw [bl_extract, List.take_of_length_le (by rw [bl_len]; exact Nat.le_refl _), e]; rfl
    rcases sign_cases (bl s) with ⟨e1, r', e2, e3⟩ | ⟨e1, e2, r', e3, e4⟩ | ⟨e1, e2, e3⟩
    · obtain ⟨d1, d2, d3⟩ := hdrop _ _ e2
      exact ⟨true, _, .inl ⟨rfl, e1, rfl, d2⟩, by rw [d1]; exact e3, d3⟩
    · obtain ⟨d1, d2, d3⟩ := hdrop _ _ e3
      exact ⟨false, _, .inr ⟨rfl, e1, .inl ⟨e2, rfl, d2⟩⟩, by rw [d1]; exact e4, d3⟩
    · exact ⟨false, s, .inr ⟨rfl, e1, .inr ⟨e2, rfl⟩⟩, e3, hs⟩
  unfold powL at hr
  rw [hrest] at hr
  simp only at hr
  have HNB : Hid (∀ W, Calls Tryz.prog 56 #[.string t] W fun e w' => e = .returned (.bool ((bl t).all isDig)) ∧ Below W.heap.size W w') := fun W => number_any t W (by omega)
  clear hs hrest
  by_cases ht0 : t.size = 0
  · have hl : bl t = [] := List.eq_nil_of_length_eq_zero (by rw [bl_len]; exact ht0)
    have hte : t = ⟨#[]⟩ := bl_inj hl
    rw [if_pos hl] at hr
    subst hr
    have hea : t.toList.isEmpty = true := by rw [hte, ByteArray.toList_mk]; rfl
    clear hl hte ht0 HNB hts
    rcases hng with ⟨-, e1, e2, e3⟩ | ⟨-, e1, ⟨e2, e3, e4⟩ | ⟨e2, e3⟩⟩
    · rw [e1] at HP1
      subst e2
      clear e1 HP2
      go_enter Tryz.func50, Tryz.ntmps50
      go_wp2_with (go_at_call 47; with_reducible refine (HP1.out _).mono ?_; rintro e w' ⟨rfl, rfl⟩)
      go_ret2
      exact ⟨rfl, Below.refl _ _⟩
    · rw [e1] at HP1
      rw [e2] at HP2
      subst e3
      clear e1 e2
      go_enter Tryz.func50, Tryz.ntmps50
      go_wp2_with (first | (go_at_call 47; with_reducible refine (HP1.out _).mono ?_; rintro e w' ⟨rfl, rfl⟩) | (go_at_call 47; with_reducible refine (HP2.out _).mono ?_; rintro e w' ⟨rfl, rfl⟩))
      go_ret2
      exact ⟨rfl, Below.refl _ _⟩
    · rw [e1] at HP1
      rw [e2] at HP2
      subst e3
      clear e1 e2
      go_enter Tryz.func50, Tryz.ntmps50
      go_wp2_with (first | (go_at_call 47; with_reducible refine (HP1.out _).mono ?_; rintro e w' ⟨rfl, rfl⟩) | (go_at_call 47; with_reducible refine (HP2.out _).mono ?_; rintro e w' ⟨rfl, rfl⟩))
      go_ret2
      exact ⟨rfl, Below.refl _ _⟩
  · have hl : ¬ bl t = [] := fun e => ht0 (by rw [← bl_len, e]; rfl)
    obtain ⟨x, y, hxy⟩ : ∃ x y, bl t = x :: y := by
      cases g : bl t with
      | nil => exact absurd g hl
      | cons x y => exact ⟨x, y, rfl⟩
    have hea : t.toList.isEmpty = false := by
      have : t = ⟨(x :: y).toArray⟩ := bl_inj hxy
      rw [this, ByteArray.toList_mk]; rfl
    rw [if_neg hl] at hr
    clear hxy hl
    cases had : (bl t).all isDig
    · rw [had] at HNB hr
      rw [if_neg (by simp)] at hr
      subst hr
      clear had ht0 hts
      rcases hng with ⟨-, e1, e2, e3⟩ | ⟨-, e1, ⟨e2, e3, e4⟩ | ⟨e2, e3⟩⟩
      · rw [e1] at HP1
        subst e2
        clear e1 HP2
        go_enter Tryz.func50, Tryz.ntmps50
        go_wp2_with (first | (go_at_call 47; with_reducible refine (HP1.out _).mono ?_; rintro e w' ⟨rfl, rfl⟩) | fail)
        with_reducible refine (HNB.out _).mono ?_
        rintro e w4 ⟨rfl, hb⟩
        have HBB : Hid _ := hb
        clear hb
        go_wp2
        go_ret2
        exact ⟨rfl, HBB.out⟩
      · rw [e1] at HP1
        rw [e2] at HP2
        subst e3
        clear e1 e2
        go_enter Tryz.func50, Tryz.ntmps50
        go_wp2_with (first | (go_at_call 47; with_reducible refine (HP1.out _).mono ?_; rintro e w' ⟨rfl, rfl⟩) | (go_at_call 47; with_reducible refine (HP2.out _).mono ?_; rintro e w' ⟨rfl, rfl⟩) | fail)
        with_reducible refine (HNB.out _).mono ?_
        rintro e w4 ⟨rfl, hb⟩
        have HBB : Hid _ := hb
        clear hb
        go_wp2
        go_ret2
        exact ⟨rfl, HBB.out⟩
      · rw [e1] at HP1
        rw [e2] at HP2
        subst e3
        clear e1 e2
        go_enter Tryz.func50, Tryz.ntmps50
        go_wp2_with (first | (go_at_call 47; with_reducible refine (HP1.out _).mono ?_; rintro e w' ⟨rfl, rfl⟩) | (go_at_call 47; with_reducible refine (HP2.out _).mono ?_; rintro e w' ⟨rfl, rfl⟩) | fail)
        with_reducible refine (HNB.out _).mono ?_
        rintro e w4 ⟨rfl, hb⟩
        have HBB : Hid _ := hb
        clear hb
        go_wp2
        go_ret2
        exact ⟨rfl, HBB.out⟩
    · rw [had] at HNB hr
      rw [if_pos rfl] at hr
      have hd : allDig (bl t) := List.all_eq_true.1 had
      obtain ⟨V, hV⟩ : ∃ V, V = dval (bl t) := ⟨_, rfl⟩
      rw [← hV] at hr
      have HV : Hid (V = dval (bl t)) := hV
      have HD : Hid (allDig (bl t)) := hd
      clear had hd hV
      rcases hng with ⟨hn, e1, e2, e3⟩ | ⟨hn, e1, ⟨e2, e3, e4⟩ | ⟨e2, e3⟩⟩
      · rw [e1] at HP1
        subst hn
        rw [if_pos rfl] at hr
        clear e1 HP2
        subst hr
        have hsl : s.extract 1 s.size = t := e2.symm
        clear e2
        have h1t : t.size ≤ 9223372036854775807 := by omega
        clear hts ht0
        go_enter Tryz.func50, Tryz.ntmps50
        go_wp2_with (first | (go_at_call 47; with_reducible refine (HP1.out _).mono ?_; rintro e w' ⟨rfl, rfl⟩) | fail)
        with_reducible refine (HNB.out _).mono ?_
        rintro e w4 ⟨rfl, hb⟩
        have HBB : Hid _ := hb
        clear hb
        go_wp2
        go_loopw [5, 25] (fun nv iv wr => ∃ k : Nat, k ≤ t.size ∧ nv = .int .i64 ((min (dval ((bl t).take k)) 1099511627776 : Nat) : Int) ∧ iv = .int .i64 (k : Nat) ∧ wr = w4) (fun _ iv _ => t.size - (intOf iv).toNat)
        case atStart => exact ⟨0, Nat.zero_le _, rfl, rfl, rfl⟩
        case round =>
          obtain ⟨k, hk, rfl, rfl, rfl⟩ := hrel
          by_cases hlt : k < t.size
          · obtain ⟨n, hn⟩ : ∃ n, n = min (dval ((bl t).take k)) 1099511627776 := ⟨_, rfl⟩
            have hnb : n ≤ 1099511627776 := by omega
            obtain ⟨n2, hn2⟩ : ∃ n2, n2 = min (dval ((bl t).take (k + 1))) 1099511627776 := ⟨_, rfl⟩
            have hcd := dig_back _ (HD.out ((bl t)[k]'(by rw [bl_len]; exact hlt)) (List.getElem_mem _))
            rw [← bl_get t k hlt] at hcd
            have hnx := dval_take_next (bl t) k (by rw [bl_len]; exact hlt)
            rw [← bl_get t k hlt] at hnx
            obtain ⟨c, hc⟩ : ∃ c, c = (t[k]'hlt).toNat := ⟨_, rfl⟩
            rw [← hc] at hcd hnx
            obtain ⟨d, hdd⟩ : ∃ d, d = c - 48 := ⟨_, rfl⟩
            rw [← hdd] at hcd hnx
            have hd10 : d < 10 := hcd.2.1
            have hmin : min (10 * (n : Int) + (d : Int)) 1099511627776 = (n2 : Int) := by
              have := cap_next (dval ((bl t).take k)) d
              rw [← hnx, ← hn2, ← hn] at this
              omega
            have hw1 : IntKind.u8.wrap ((((t[k]'hlt).toNat : Nat) : Int) - 48) = (d : Int) := by rw [← hc, IntKind.wrap_u8]; have := hcd.2.2; omega
            have HN2 : Hid (n2 = min (dval ((bl t).take (k + 1))) 1099511627776) := hn2
            rw [← hn]
            clear hn hn2 hcd hnx hc hdd
            go_wp2
            go_roundw
            case rel => exact ⟨k + 1, by omega, by rw [← HN2.out], by go_num, trivial⟩
            case measure => simp [intOf]; omega
          · have hkn : k = t.size := by omega
            subst hkn
            have hfull : (bl t).take t.size = bl t := List.take_of_length_le (by rw [bl_len]; exact Nat.le_refl _)
            rw [hfull, ← HV.out]
            obtain ⟨n, hn⟩ : ∃ n, n = min V 1099511627776 := ⟨_, rfl⟩
            have hnb : n ≤ 1099511627776 := by omega
            rw [← hn]
            have HN : Hid (n = min V 1099511627776) := hn
            have hneg : IntKind.i64.wrap (-(n : Int)) = -(n : Int) := IntWalk.i64_in _ (by omega)
            clear hn
            go_wp2
            go_ret2
            exact ⟨by rw [← HN.out]; rfl, HBB.out⟩
      · rw [e1] at HP1
        rw [e2] at HP2
        subst hn
        rw [if_neg (by simp)] at hr
        clear e1
        subst hr
        have hsl : s.extract 1 s.size = t := e3.symm
        clear e2 e3
        have h1t : t.size ≤ 9223372036854775807 := by omega
        clear hts ht0
        go_enter Tryz.func50, Tryz.ntmps50
        go_wp2_with (first | (go_at_call 47; with_reducible refine (HP1.out _).mono ?_; rintro e w' ⟨rfl, rfl⟩) | (go_at_call 47; with_reducible refine (HP2.out _).mono ?_; rintro e w' ⟨rfl, rfl⟩) | fail)
        with_reducible refine (HNB.out _).mono ?_
        rintro e w4 ⟨rfl, hb⟩
        have HBB : Hid _ := hb
        clear hb
        go_wp2
        go_loopw [5, 25] (fun nv iv wr => ∃ k : Nat, k ≤ t.size ∧ nv = .int .i64 ((min (dval ((bl t).take k)) 1099511627776 : Nat) : Int) ∧ iv = .int .i64 (k : Nat) ∧ wr = w4) (fun _ iv _ => t.size - (intOf iv).toNat)
        case atStart => exact ⟨0, Nat.zero_le _, rfl, rfl, rfl⟩
        case round =>
          obtain ⟨k, hk, rfl, rfl, rfl⟩ := hrel
          by_cases hlt : k < t.size
          · obtain ⟨n, hn⟩ : ∃ n, n = min (dval ((bl t).take k)) 1099511627776 := ⟨_, rfl⟩
            have hnb : n ≤ 1099511627776 := by omega
            obtain ⟨n2, hn2⟩ : ∃ n2, n2 = min (dval ((bl t).take (k + 1))) 1099511627776 := ⟨_, rfl⟩
            have hcd := dig_back _ (HD.out ((bl t)[k]'(by rw [bl_len]; exact hlt)) (List.getElem_mem _))
            rw [← bl_get t k hlt] at hcd
            have hnx := dval_take_next (bl t) k (by rw [bl_len]; exact hlt)
            rw [← bl_get t k hlt] at hnx
            obtain ⟨c, hc⟩ : ∃ c, c = (t[k]'hlt).toNat := ⟨_, rfl⟩
            rw [← hc] at hcd hnx
            obtain ⟨d, hdd⟩ : ∃ d, d = c - 48 := ⟨_, rfl⟩
            rw [← hdd] at hcd hnx
            have hd10 : d < 10 := hcd.2.1
            have hmin : min (10 * (n : Int) + (d : Int)) 1099511627776 = (n2 : Int) := by
              have := cap_next (dval ((bl t).take k)) d
              rw [← hnx, ← hn2, ← hn] at this
              omega
            have hw1 : IntKind.u8.wrap ((((t[k]'hlt).toNat : Nat) : Int) - 48) = (d : Int) := by rw [← hc, IntKind.wrap_u8]; have := hcd.2.2; omega
            have HN2 : Hid (n2 = min (dval ((bl t).take (k + 1))) 1099511627776) := hn2
            rw [← hn]
            clear hn hn2 hcd hnx hc hdd
            go_wp2
            go_roundw
            case rel => exact ⟨k + 1, by omega, by rw [← HN2.out], by go_num, trivial⟩
            case measure => simp [intOf]; omega
          · have hkn : k = t.size := by omega
            subst hkn
            have hfull : (bl t).take t.size = bl t := List.take_of_length_le (by rw [bl_len]; exact Nat.le_refl _)
            rw [hfull, ← HV.out]
            obtain ⟨n, hn⟩ : ∃ n, n = min V 1099511627776 := ⟨_, rfl⟩
            have hnb : n ≤ 1099511627776 := by omega
            rw [← hn]
            have HN : Hid (n = min V 1099511627776) := hn
            have hneg : IntKind.i64.wrap (-(n : Int)) = -(n : Int) := IntWalk.i64_in _ (by omega)
            clear hn
            go_wp2
            go_ret2
            exact ⟨by rw [← HN.out]; rfl, HBB.out⟩
      · rw [e1] at HP1
        rw [e2] at HP2
        subst hn
        rw [if_neg (by simp)] at hr
        clear e1
        subst hr
        subst e3
        clear e2
        have h1t : t.size ≤ 9223372036854775807 := by omega
        clear hts ht0
        go_enter Tryz.func50, Tryz.ntmps50
        go_wp2_with (first | (go_at_call 47; with_reducible refine (HP1.out _).mono ?_; rintro e w' ⟨rfl, rfl⟩) | (go_at_call 47; with_reducible refine (HP2.out _).mono ?_; rintro e w' ⟨rfl, rfl⟩) | fail)
        with_reducible refine (HNB.out _).mono ?_
        rintro e w4 ⟨rfl, hb⟩
        have HBB : Hid _ := hb
        clear hb
        go_wp2
        go_loopw [5, 25] (fun nv iv wr => ∃ k : Nat, k ≤ t.size ∧ nv = .int .i64 ((min (dval ((bl t).take k)) 1099511627776 : Nat) : Int) ∧ iv = .int .i64 (k : Nat) ∧ wr = w4) (fun _ iv _ => t.size - (intOf iv).toNat)
        case atStart => exact ⟨0, Nat.zero_le _, rfl, rfl, rfl⟩
        case round =>
          obtain ⟨k, hk, rfl, rfl, rfl⟩ := hrel
          by_cases hlt : k < t.size
          · obtain ⟨n, hn⟩ : ∃ n, n = min (dval ((bl t).take k)) 1099511627776 := ⟨_, rfl⟩
            have hnb : n ≤ 1099511627776 := by omega
            obtain ⟨n2, hn2⟩ : ∃ n2, n2 = min (dval ((bl t).take (k + 1))) 1099511627776 := ⟨_, rfl⟩
            have hcd := dig_back _ (HD.out ((bl t)[k]'(by rw [bl_len]; exact hlt)) (List.getElem_mem _))
            rw [← bl_get t k hlt] at hcd
            have hnx := dval_take_next (bl t) k (by rw [bl_len]; exact hlt)
            rw [← bl_get t k hlt] at hnx
            obtain ⟨c, hc⟩ : ∃ c, c = (t[k]'hlt).toNat := ⟨_, rfl⟩
            rw [← hc] at hcd hnx
            obtain ⟨d, hdd⟩ : ∃ d, d = c - 48 := ⟨_, rfl⟩
            rw [← hdd] at hcd hnx
            have hd10 : d < 10 := hcd.2.1
            have hmin : min (10 * (n : Int) + (d : Int)) 1099511627776 = (n2 : Int) := by
              have := cap_next (dval ((bl t).take k)) d
              rw [← hnx, ← hn2, ← hn] at this
              omega
            have hw1 : IntKind.u8.wrap ((((t[k]'hlt).toNat : Nat) : Int) - 48) = (d : Int) := by rw [← hc, IntKind.wrap_u8]; have := hcd.2.2; omega
            have HN2 : Hid (n2 = min (dval ((bl t).take (k + 1))) 1099511627776) := hn2
            rw [← hn]
            clear hn hn2 hcd hnx hc hdd
            go_wp2
            go_roundw
            case rel => exact ⟨k + 1, by omega, by rw [← HN2.out], by go_num, trivial⟩
            case measure => simp [intOf]; omega
          · have hkn : k = t.size := by omega
            subst hkn
            have hfull : (bl t).take t.size = bl t := List.take_of_length_le (by rw [bl_len]; exact Nat.le_refl _)
            rw [hfull, ← HV.out]
            obtain ⟨n, hn⟩ : ∃ n, n = min V 1099511627776 := ⟨_, rfl⟩
            have hnb : n ≤ 1099511627776 := by omega
            rw [← hn]
            have HN : Hid (n = min V 1099511627776) := hn
            have hneg : IntKind.i64.wrap (-(n : Int)) = -(n : Int) := IntWalk.i64_in _ (by omega)
            clear hn
            go_wp2
            go_ret2
            exact ⟨by rw [← HN.out]; rfl, HBB.out⟩
end Go.Proofs.YtpfnfhikhlceoaaGreatDoor
