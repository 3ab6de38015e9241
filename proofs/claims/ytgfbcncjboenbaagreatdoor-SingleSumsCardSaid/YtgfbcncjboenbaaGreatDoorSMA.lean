/- Parts Ma, Mb of the proof, in one text. -/
import Derived.Test.YtgfbcncjboenbaaGreatDoorRows
import Derived.Test.YtgfbcncjboenbaaGreatDoorSQE
import Derived.BigRegion

/- Walks: the reference's whole numbers (base 2^32): trim, Of. -/
namespace Go.Proofs.YtgfbcncjboenbaaGreatDoor
open Go.RowKit

/-- What a call leaves that hands back a whole number of the reference. -/
def NatQ (N : Nat) (w : World) (e : Ending) (w' : World) : Prop := ∃ v, e = .returned v ∧ Num .u32 4294967296 w' v N ∧ Below w.heap.size w w'

set_option maxRecDepth 100000 in
theorem trim_any (s : Value) (xs : List Nat) (w : World) (h : Limbs .u32 4294967296 w s xs) :
    Calls Tryz.prog 153 #[s] w (NatQ (lval 4294967296 xs) w) := by
  have HL : Hid (Limbs .u32 4294967296 w s xs) := h
  obtain ⟨a, n, c, rfl, hn, hnc, hc, hx, hcell⟩ := h
  clear hx
  go_enter Tryz.func153, Tryz.ntmps153
  go_wp2
  go_loop [0] (fun v => ∃ m, m ≤ n ∧ v = .slice a m c ∧ ∀ i, m ≤ i → i < n → xs.getD i 0 = 0) (fun v => match v with | .slice _ m _ => m | _ => 0)
  case atStart => exact ⟨n, Nat.le_refl _, rfl, fun i h1 h2 => by omega⟩
  case round =>
    obtain ⟨m, hm, rfl, hz⟩ := hrel
    have HZ : Hid (∀ i, m ≤ i → i < n → xs.getD i 0 = 0) := hz
    clear hz
    by_cases hm0 : 0 < m
    · obtain ⟨b, o, rfl, hb, hcc⟩ := hcell (by omega)
      have h1 := hcc (m - 1) (by omega)
      go_wp2
      · go_round
        case rel =>
          have hlast : xs.getD (m - 1) 0 = 0 := by
            have : (((xs[m - 1]?.getD 0 : Nat) : Int) == 0) = true := by assumption
            simpa using this
          refine ⟨m - 1, by omega, rfl, fun i h1 h2 => ?_⟩
          by_cases h3 : i = m - 1
          · rw [h3]; exact hlast
          · exact HZ.out i (by omega) h2
        case measure => simp; omega
      all_goals
        have hlast : xs.getD (m - 1) 0 ≠ 0 := by
          have : (((xs[m - 1]?.getD 0 : Nat) : Int) == 0) = false := by assumption
          simpa using this
        go_ret
        exact ⟨_, rfl, trim_num HL.out hm HZ.out (.inr hlast), Below.refl _ _⟩
    · go_wp2
      all_goals
        go_ret
        exact ⟨_, rfl, trim_num HL.out hm HZ.out (.inl (by omega)), Below.refl _ _⟩

set_option maxRecDepth 100000 in
theorem of_any (n : Nat) (w : World) (hn : n < 18446744073709551616) : Calls Tryz.prog 94 #[.int .u64 n] w (NatQ n w) := by
  have HN : Hid (n < 18446744073709551616) := hn
  clear hn
  go_enter Tryz.func94, Tryz.ntmps94
  go_wp2_with fail
  have hc := fun A B => heap_alloc_new w (Obj.cells #[A, B] 41)
  refine (trim_any _ [n % 4294967296, n / 4294967296] _ ⟨_, 2, 2, rfl, rfl, Nat.le_refl _, by decide, ?_, fun _ => ⟨_, 0, rfl, by simp, fun i hi => ?_⟩⟩).mono ?_
  · have := HN.out
    intro x hx
    simp at hx
    omega
  · rw [cell_of_row _ _ _ _ _ _ (hc _ _)]
    have hn := HN.out
    match i, hi with
    | 0, _ => simp
    | 1, _ => simp; omega
  rintro e w' ⟨v, rfl, hnum, hb⟩
  go_wp2
  go_ret
  refine ⟨_, rfl, ?_, ((Below.refl _ _).alloc (Nat.le_refl _) _).trans (hb.mono (by simp))⟩
  have e : lval 4294967296 [n % 4294967296, n / 4294967296] = n := by simp [lval]; omega
  rwa [e] at hnum
end Go.Proofs.YtgfbcncjboenbaaGreatDoor

/- Walks: the reference's Mul. -/
namespace Go.Proofs.YtgfbcncjboenbaaGreatDoor
open Go.RowKit

theorem Tryz.infoV : (Tryz.prog.info? 41).map (fun i => (i.zero, i.size, i.bytes)) = some (some (.int .u32 0), 1, 4) := by kernel_rfl

/-- How long a number of the reference is. -/
theorem num_len {w : World} {s : Value} {N bb : Nat} (h : Num .u32 4294967296 w s N) (hN : N < 2 ^ bb) (hbb : bb ≤ 4294967296) : ∃ xs, Limbs .u32 4294967296 w s xs ∧ lval 4294967296 xs = N ∧ Norm xs ∧ xs.length ≤ 134217729 := by
  obtain ⟨xs, h1, h2, h3⟩ := h
  refine ⟨xs, h1, h2, h3, ?_⟩
  by_cases h0 : 0 < xs.length
  · have := norm_length (s := 32) h3 (b := bb) (by rw [show (2 ^ 32 : Nat) = 4294967296 from rfl, h2]; exact hN) h0
    omega
  · omega

set_option maxRecDepth 100000 in
theorem nmul_any (s t : Value) (M N : Nat) (w : World) (h : Num .u32 4294967296 w s M) (h' : Num .u32 4294967296 w t N) {bb : Nat} (hM : M < 2 ^ bb) (hN : N < 2 ^ bb) (hbb : bb ≤ 4294967296) :
    Calls Tryz.prog 99 #[s, t] w (NatQ (M * N) w) := by
  obtain ⟨xs, hL, rfl, -, hml⟩ := num_len h hM hbb
  obtain ⟨ys, hL', rfl, -, hml'⟩ := num_len h' hN hbb
  obtain ⟨a, m, c, rfl, hm, hmc, hc, hx, hcell⟩ := hL
  obtain ⟨a', m', c', rfl, hm', hmc', hc', hy, hcell'⟩ := hL'
  rw [hm] at hml
  rw [hm'] at hml'
  have HX : Hid (∀ x ∈ xs, x < 4294967296) := hx
  have HY : Hid (∀ x ∈ ys, x < 4294967296) := hy
  clear hx hy hM hN hbb hmc hmc' hc hc' h h'
  obtain ⟨i0, hi, hz0, hz1, hz2⟩ := info_parts Tryz.infoV
  go_enter Tryz.func99, Tryz.ntmps99
  go_wp2_with (at_make; refine wpList_make_full _ rfl _ _ 144 rfl w.heap.size 41 i0 (.int .u32 0) 1 Tryz.underlying144 hi hz0 hz1 .i64 .i64 _ _ (m + m') rfl rfl (by omega) (by omega) (by rw [hz2]; omega) (by unfold maxLen; omega) (by simp) ?_; intro w1 hown hgrow; have hbel : Below w.heap.size w w1 := (Below.refl _ _).grown hgrow (Nat.le_refl _) (by simp))
  have hown' : OwnW .u32 41 w1 w.heap.size (m + m') (List.replicate (m + m') 0) := OwnW.made (by simpa using hown)
  clear hown hgrow
  go_loopw [6] (fun i wr => ∃ k zs, k ≤ m ∧ i = .int .i64 (k : Nat) ∧ OwnW .u32 41 wr w.heap.size (m + m') zs ∧ Below w.heap.size w wr ∧ MulInv 4294967296 xs ys k zs) (fun i _ => m - (intOf i).toNat)
  case atStart =>
    refine ⟨0, _, Nat.zero_le _, rfl, hown', hbel, by simp [hm, hm'], ?_, ?_, ?_⟩
    · intro z hz
      simp at hz
      omega
    · simp [lval, lval_zeros]
    · intro t _
      simp only [List.getD_eq_getElem?_getD, List.getElem?_replicate]
      split <;> rfl
  case round =>
    obtain ⟨k, zs, hk, rfl, hownk, hbk, hinv⟩ := hrel
    have HI : Hid (MulInv 4294967296 xs ys k zs) := hinv
    have HO : Hid (OwnW .u32 41 wr w.heap.size (m + m') zs) := hownk
    have HB : Hid (Below w.heap.size w wr) := hbk
    clear hown' hinv hownk hbel
    by_cases hkm : k < m
    · obtain ⟨b, o, rfl, hb, hcc⟩ := hcell (by omega)
      have hx1 := hcc k hkm
      obtain ⟨x, hxe⟩ : ∃ x, x = xs.getD k 0 := ⟨_, rfl⟩
      rw [← hxe] at hx1
      have HXE : Hid (x = xs.getD k 0) := hxe
      have HX1 : Hid (w.cell? ⟨b, o + k, none⟩ = some (.int .u32 (x : Nat))) := hx1
      clear hxe hcell hcc hbk hx1
      go_wp2
      go_loopw [7, 8] (fun c j wq => ∃ l cc us, l ≤ m' ∧ j = .int .i64 (l : Nat) ∧ c = .int .u64 (cc : Nat) ∧ OwnW .u32 41 wq w.heap.size (m + m') us ∧ Below w.heap.size w wq ∧ MulIn 4294967296 xs ys k l cc us) (fun _ j _ => m' - (intOf j).toNat)
      case atStart => exact ⟨0, 0, zs, Nat.zero_le _, rfl, rfl, HO.out, HB.out, mul_start HI.out (by decide)⟩
      case round =>
        obtain ⟨l, cc, us, hl, rfl, rfl, hownl, hbl, hin⟩ := hrel
        have HI2 : Hid (MulIn 4294967296 xs ys k l cc us) := hin
        have HO2 : Hid (OwnW .u32 41 wr w.heap.size (m + m') us) := hownl
        have HB2 : Hid (Below w.heap.size w wr) := hbl
        by_cases hlm : l < m'
        · obtain ⟨b', o', rfl, hb', hcc'⟩ := hcell' (by omega)
          have hx2 := (hbl.cell (p := ⟨b, o + k, none⟩) hb).trans HX1.out
          have hy1 := (hbl.cell (p := ⟨b', o' + l, none⟩) hb').trans (hcc' l hlm)
          have hc1 := hownl.cell (j := k + l) (by omega)
          have hf1 := hownl.frozen (k + l)
          have hxb : x < 4294967296 := by rw [HXE.out]; exact getD_lt (by decide) HX.out k
          have hyb := getD_lt (B := 4294967296) (by decide) HY.out l
          have hzb := getD_lt (B := 4294967296) (by decide) hin.2.1 (k + l)
          have hcb := hin.2.2.1
          have hst := fun v c' hv hc he => mul_in hin (by omega) (by omega) (v := v) (c' := c') hv hc he
          obtain ⟨y, hye⟩ : ∃ y, y = ys.getD l 0 := ⟨_, rfl⟩
          obtain ⟨z, hze⟩ : ∃ z, z = us.getD (k + l) 0 := ⟨_, rfl⟩
          rw [← hye] at hy1 hyb
          rw [← hze] at hc1 hzb
          have hpb : x * y ≤ 4294967295 * 4294967295 := Nat.mul_le_mul (by omega) (by omega)
          have hw1 : IntKind.u64.wrap ((x : Int) * y) = ((x * y : Nat) : Int) := by rw [← Int.natCast_mul, IntKind.wrap_u64]; omega
          obtain ⟨p, hp⟩ : ∃ p, p = x * y := ⟨_, rfl⟩
          rw [← hp] at hpb hw1
          have hw2 : IntKind.u64.wrap ((z : Int) + p) = ((z + p : Nat) : Int) := by rw [IntKind.wrap_u64]; omega
          have hw3 : IntKind.u64.wrap ((cc : Int) + ((z + p : Nat) : Int)) = ((cc + (z + p) : Nat) : Int) := by rw [IntKind.wrap_u64]; omega
          have HS : Hid (MulIn 4294967296 xs ys k (l + 1) ((cc + (z + p)) / 4294967296) (us.set (k + l) ((cc + (z + p)) % 4294967296))) :=
            hst _ _ (Nat.mod_lt _ (by decide)) (by omega) (by rw [← HXE.out, ← hye, ← hze, ← hp]; omega)
          obtain ⟨q, hq⟩ : ∃ q, q = z + p := ⟨_, rfl⟩
          rw [← hq] at hw2 hw3 HS
          obtain ⟨t, ht⟩ : ∃ t, t = cc + q := ⟨_, rfl⟩
          rw [← ht] at hw3 HS
          have hw4 : (t : Int) % 4294967296 = ((t % 4294967296 : Nat) : Int) := by omega
          have hw5 : (t : Int) / 4294967296 = ((t / 4294967296 : Nat) : Int) := by omega
          obtain ⟨v, hv⟩ : ∃ v, v = t % 4294967296 := ⟨_, rfl⟩
          obtain ⟨c2, hc2⟩ : ∃ c2, c2 = t / 4294967296 := ⟨_, rfl⟩
          rw [← hv] at hw4 HS
          rw [← hc2] at hw5 HS
          clear hst hin hownl hbl hcell' hcc' hye hze hp hq ht hv hc2 hpb hcb
          go_wp2
          go_region
          go_wp2
          go_roundw
          case rel => exact ⟨l + 1, c2, _, by omega, by go_num, rfl, (HO2.out.set (k + l) v).drew, (HB2.out.setCell (Nat.le_refl _) _).drew, HS.out⟩
          case measure => simp [intOf]; omega
        · have hlm' : l = m' := by omega
          subst hlm'
          have hc1 := hownl.cell (j := k + l) (by omega)
          have hf1 := hownl.frozen (k + l)
          have hcb := hin.2.2.1
          have hw4 : IntKind.u32.wrap (cc : Int) = (cc : Int) := by rw [IntKind.wrap_u32]; omega
          clear hin hownl hbl hcell' hcb
          go_wp2
          go_roundw
          case rel =>
            have hi2 := HI2.out
            rw [← hm'] at hi2
            have := mul_out hi2 (by omega)
            rw [hm'] at this
            exact ⟨k + 1, _, by omega, by go_num, HO2.out.set (k + l) cc, HB2.out.setCell (Nat.le_refl _) _, this⟩
          case measure => simp [intOf]; omega
    · have hkm' : k = m := by omega
      subst hkm'
      have hi2 := HI.out
      have hlimb := HO.out.limbs (B := 4294967296) (by omega) hi2.2.1
      have hys : lval 4294967296 zs = lval 4294967296 xs * lval 4294967296 ys := by
        rw [← hm] at hi2
        exact mul_done hi2
      have M := trim_any _ _ _ hlimb
      rw [hys] at M
      clear hlimb hys hi2 hcell hcell'
      go_wp2_with fail
      refine Calls.mono M ?_
      rintro e w' ⟨v, rfl, hnum, hb⟩
      go_wp2
      go_ret
      exact ⟨_, rfl, hnum, hbk.trans (hb.mono hbk.size)⟩
end Go.Proofs.YtgfbcncjboenbaaGreatDoor
