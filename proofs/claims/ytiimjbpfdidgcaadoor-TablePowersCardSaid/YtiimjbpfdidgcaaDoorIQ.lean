/- Parts Rp, Pw, Rq, Px, Rr of the proof, in one text. -/
import Derived.Test.YtiimjbpfdidgcaaDoorHT
import Derived.Test.YtiimjbpfdidgcaaDoorHA
import Derived.Test.YtiimjbpfdidgcaaDoorIG
import Derived.Test.YtiimjbpfdidgcaaDoorHV
import Derived.Test.YtiimjbpfdidgcaaDoorIO
import Derived.Test.YtiimjbpfdidgcaaDoorIP
import Derived.Test.YtiimjbpfdidgcaaDoorIH

/- Walks: the reference's powers of a whole number. -/
namespace Go.Proofs.YtiimjbpfdidgcaaDoor
open Go.RowKit

set_option maxRecDepth 100000 in
theorem npower_any (s : Value) (N n : Nat) (w : World) (h : Num .u32 4294967296 w s N) {bb : Nat} (hbd : ∀ i, i ≤ n → N ^ i < 2 ^ bb) (hN : N < 2 ^ bb) (hbb : bb ≤ 4294967296) (hn : n ≤ 4294967296) :
    Calls Tryd.prog 56 #[s, .int .i64 (n : Nat)] w (NatQ (N ^ n) w) := by
  obtain ⟨a, m, c, rfl⟩ := h.shape
  have HM : Hid (∀ W v j, Below w.heap.size w W → Num .u32 4294967296 W v (N ^ j) → j ≤ n → Calls Tryd.prog 81 #[v, .slice a m c] W (NatQ (N ^ (j + 1)) W)) := fun W v j hW hv hj =>
    nmul_any v _ (N ^ j) N W hv (h.below (Nat.le_refl _) hW) (hbd j hj) hN hbb
  have HOB : Hid (∀ W, Calls Tryd.prog 57 #[.int .u64 1] W (NatQ 1 W)) := fun W => of_any 1 W (by decide)
  clear hbd hN hbb h
  go_enter Tryd.func56, Tryd.ntmps56
  go_wp2_with fail
  refine (HOB.out _).mono ?_
  rintro e w1 ⟨v1, rfl, hn1, hb1⟩
  go_wp2_with fail
  go_loopw [5, 6] (fun o i wr => ∃ j : Nat, j ≤ n ∧ i = .int .i64 (j : Nat) ∧ Hid (Num .u32 4294967296 wr o (N ^ j)) ∧ Hid (Below w.heap.size w wr)) (fun _ i _ => n - (intOf i).toNat)
  case atStart => exact ⟨0, by omega, rfl, (by rw [Nat.pow_zero]; exact hn1 : Num _ _ _ _ _), hb1⟩
  case round =>
    obtain ⟨j, hj, rfl, hnum, hb⟩ := hrel
    rcases Nat.lt_or_ge j n with hlt | hge
    · go_wp2_with fail
      refine (HM.out _ _ j hb.out hnum.out hj).mono ?_
      rintro e w2 ⟨v2, rfl, hn2, hb2⟩
      go_wp2_with fail
      go_round
      case rel => exact ⟨j + 1, by omega, by simp, hn2, hb.out.thru hb2⟩
      case measure => simp [intOf]; omega
    · obtain rfl : j = n := by omega
      go_wp2_with fail
      go_ret
      exact ⟨_, rfl, hnum.out, hb.out⟩
end Go.Proofs.YtiimjbpfdidgcaaDoor

/- Powers: whole exponents (no program in sight but its kinds). -/
namespace Go.Proofs.YtiimjbpfdidgcaaDoor
open Go.RowKit

/-- A number's magnitude, cut. -/
def whV (b : Nat) : Nat := rv 52 (absB b) / 2^LP
/-- Is it a whole number of a magnitude of at most 64? -/
def whB (b : Nat) : Bool := decide (absB b ≤ 4634204016564240384) && decide (rv 52 (absB b) % 2^LP = 0)
/-- Which? -/
def whK (b : Nat) : Int := if whB b then (if sgnB b then -(whV b : Int) else whV b) else 0

theorem cut_zero (s : Bool) (n d : Nat) : Ieee.Toward.zero.cut s n d = n / 2^d := by
  show n / (1 <<< min d (n.log2 + 2)) + 0 = _
  rw [Nat.add_zero, Nat.shiftLeft_eq, Nat.one_mul]
  rcases Nat.le_total d (n.log2 + 2) with h | h
  · rw [Nat.min_eq_left h]
  · rw [Nat.min_eq_right h]
    have h1 : n < 2^(n.log2 + 2) := Nat.lt_of_lt_of_le Nat.lt_log2_self (Nat.pow_le_pow_right (by decide) (by omega))
    rw [Nat.div_eq_of_lt h1, Nat.div_eq_of_lt (Nat.lt_of_lt_of_le h1 (Nat.pow_le_pow_right (by decide) h))]

theorem cut_read (b : Nat) (hb : W64 b) (fb : finB b = true) : (Ieee.double.read b).integral .zero = .number (sgnB b) (whV b) 0 := by
  have hl := LP_eq
  have hf : fin Ieee.double b := by unfold fin; rw [rg_D, D_inf]; unfold finB at fb; simpa using fb
  obtain ⟨m, k, h1, h2, -⟩ := read_num Ieee.double b hf
  rw [sgn_D b hb, D_lp'] at h1
  rw [rg_D] at h2
  have h2 : m * 2^k = rv 52 (absB b) := h2
  rw [h1]
  show Ieee.Datum.number _ (Ieee.Toward.zero.cut _ (m <<< (-(LP : Int) + k).toNat) (-(-(LP : Int) + k)).toNat) 0 = _
  rw [cut_zero, Nat.shiftLeft_eq]
  unfold whV
  rw [← h2]
  congr 1
  rcases Nat.le_total k LP with h | h
  · rw [show (-(LP : Int) + k).toNat = 0 by omega, show (-(-(LP : Int) + k)).toNat = LP - k by omega, Nat.pow_zero, Nat.mul_one]
    have e : 2^LP = 2^(LP - k) * 2^k := by rw [← Nat.pow_add]; congr 1; omega
    rw [e, Nat.mul_div_mul_right _ _ (Nat.two_pow_pos _)]
  · rw [show (-(-(LP : Int) + k)).toNat = 0 by omega, show (-(LP : Int) + k).toNat = k - LP by omega, Nat.pow_zero, Nat.div_one]
    have e : 2^k = 2^(k - LP) * 2^LP := by rw [← Nat.pow_add]; congr 1; omega
    rw [e, ← Nat.mul_assoc, Nat.mul_div_cancel _ (Nat.two_pow_pos _)]

theorem rv_64K (r K L : Nat) (hr : r = 4634204016564240384) (hK : K = 1028) (hL : L = 1074) : rv 52 r = 64 * 2^L := by
  have h := rv_kq K 4503599627370496 (by decide) (by decide)
  rw [show K * 4503599627370496 + 4503599627370496 = r by omega, show (4503599627370496 : Nat) = 2^52 by decide, ← Nat.pow_add] at h
  rw [h, show (64 : Nat) = 2^6 by decide, ← Nat.pow_add]
  congr 1
  omega
theorem rv_64 : rv 52 4634204016564240384 = 64 * 2^LP := rv_64K _ _ LP rfl rfl LP_eq

theorem whV_le (b : Nat) (h : absB b ≤ 4634204016564240384) : whV b ≤ 64 := by
  have := rv_le (p := 52) h
  rw [rv_64] at this
  unfold whV
  have h2 := Nat.div_le_div_right (c := 2^LP) this
  rwa [Nat.mul_div_cancel _ (Nat.two_pow_pos _)] at h2

/-- The words of the whole numbers up to 64. -/
theorem small_words : ∀ T, T < 65 → ∀ s : Bool, Ieee.double.write (.number s T 0) < 18446744073709551616 ∧ nanB (Ieee.double.write (.number s T 0)) = false ∧ sgnB (Ieee.double.write (.number s T 0)) = s ∧ rv 52 (absB (Ieee.double.write (.number s T 0))) = T * 2^LP := by
  decide +kernel

/-- Cut, it is itself just if it is whole. -/
theorem cut_same (b : Nat) (hb : W64 b) (h : absB b ≤ 4634204016564240384) :
    (Go.FloatKind.f64.format.order b (Ieee.double.write (.number (sgnB b) (whV b) 0)) != some Ordering.eq) = !whB b := by
  obtain ⟨h1, h2, h3, h4⟩ := small_words (whV b) (by have := whV_le b h; omega) (sgnB b)
  have nb : nanB b = false := by unfold nanB; simp; omega
  show (Ieee.double.order b _ != some Ordering.eq) = _
  rw [ord_D b _ hb (by unfold W64; exact h1) nb h2]
  have hv : valB (Ieee.double.write (.number (sgnB b) (whV b) 0)) = if sgnB b then -((whV b * 2^LP : Nat) : Int) else ((whV b * 2^LP : Nat) : Int) := by
    unfold valB; rw [h3, h4]
  rw [hv]
  have hd : whB b = decide (rv 52 (absB b) = whV b * 2^LP) := by
    unfold whB
    rw [decide_eq_true h, Bool.true_and, decide_eq_decide]
    unfold whV
    have := Nat.div_add_mod (rv 52 (absB b)) (2^LP)
    constructor
    · intro h0; rw [h0, Nat.add_zero, Nat.mul_comm] at this; exact this.symm
    · intro h0; rw [Nat.mul_comm, ← h0] at this; omega
  rw [hd]
  unfold valB
  generalize whV b * 2^LP = Y
  generalize rv 52 (absB b) = X
  cases sgnB b
  · simp only [Bool.false_eq_true, if_false]
    by_cases e : X = Y
    · rw [e]; simp
    · rw [decide_eq_false e]
      have : compare (X : Int) (Y : Int) ≠ .eq := by rw [Ne, Int.compare_eq_eq]; omega
      simpa using this
  · simp only [if_true]
    by_cases e : X = Y
    · rw [e]; simp
    · rw [decide_eq_false e]
      have : compare (-(X : Int)) (-(Y : Int)) ≠ .eq := by rw [Ne, Int.compare_eq_eq]; omega
      simpa using this

/-- What is no whole number small enough stays out. -/
theorem whK_range (b : Nat) : -64 ≤ whK b ∧ whK b ≤ 64 := by
  unfold whK
  split
  · rename_i h
    unfold whB at h
    simp only [Bool.and_eq_true, decide_eq_true_eq] at h
    have := whV_le b h.1
    split <;> omega
  · omega
theorem whK_zero (b : Nat) (h : whB b = true) (hz : zeroB b = false) : whK b ≠ 0 := by
  unfold whK
  rw [if_pos h]
  unfold whB at h
  simp only [Bool.and_eq_true, decide_eq_true_eq] at h
  have hx : whV b ≠ 0 := by
    intro h0
    unfold whV at h0
    have := Nat.div_add_mod (rv 52 (absB b)) (2^LP)
    rw [h0, h.2, Nat.mul_zero, Nat.add_zero] at this
    have h2 : absB b = 0 := rv_inj (p := 52) (by rw [← this, rv_zero])
    unfold zeroB at hz
    simp at hz
    exact hz h2
  split <;> omega
/-- The same out of the whole part and the exponent. -/
theorem wh_sp (b : Nat) (fb : finB b = true) (he : spE b < 0) : (spM b % 2^(-spE b).toNat = 0 ↔ rv 52 (absB b) % 2^LP = 0) ∧ whV b = spM b / 2^(-spE b).toNat := by
  have q := spE_range b
  have hl := LP_eq
  have e : 2^LP = 2^(-spE b).toNat * 2^(spE b + LP).toNat := by rw [← Nat.pow_add]; congr 1; omega
  unfold whV
  rw [rv_sp b fb, e, Nat.mul_mod_mul_right, Nat.mul_div_mul_right _ _ (Nat.two_pow_pos _)]
  refine ⟨⟨fun h => by rw [h, Nat.zero_mul], fun h => ?_⟩, rfl⟩
  rcases Nat.mul_eq_zero.1 h with h | h
  · exact h
  · have := Nat.two_pow_pos (spE b + LP).toNat; omega
theorem wh_le (b : Nat) : absB b ≤ 4634204016564240384 ↔ rv 52 (absB b) ≤ 64 * 2^LP := by rw [← rv_64, rv_le_iff]
end Go.Proofs.YtiimjbpfdidgcaaDoor

/- Walks: the document's answer for layer 7: whole exponents. -/
namespace Go.Proofs.YtiimjbpfdidgcaaDoor
open Go.RowKit

theorem fin_spS (b : Nat) (fb : finB b = true) : spS b = sgnB b := by
  rw [finB_eq] at fb
  unfold spS negB
  cases h1 : nanB b <;> cases h2 : infB b <;> simp_all
theorem fin_spX (b : Nat) : spX b = if finB b then 0 else 10 := by
  unfold spX
  rw [finB_eq]
  cases nanB b <;> cases infB b <;> rfl
/-- An exponent that is not below nought: a great number, or nought. -/
theorem sp_great (b : Nat) (fb : finB b = true) (he : 0 ≤ spE b) : (spM b = 0 ∧ spE b = 0 ∧ whB b = true ∧ whK b = 0) ∨ (4503599627370496 ≤ spM b ∧ whB b = false ∧ whK b = 0) := by
  cases hz : zeroB b
  · right
    have hm : 4503599627370496 ≤ spM b := by
      unfold spE at he
      rw [finB_eq] at fb
      have n1 : (nanB b || infB b) = false := by cases h1 : nanB b <;> cases h2 : infB b <;> simp_all
      simp only [n1, hz, Bool.false_eq_true, if_false] at he
      unfold spM
      simp only [n1, hz, Bool.false_eq_true, if_false]
      cases hl : lowB b
      · simp only [Bool.false_eq_true, if_false]; unfold mantB; omega
      · rw [hl] at he; simp at he
    have hb : whB b = false := by
      unfold whB
      have h1 := rv_sp b fb
      have : ¬ absB b ≤ 4634204016564240384 := by
        rw [wh_le, h1]
        intro h
        have h2 : 2^LP ≤ 2^(spE b + LP).toNat := Nat.pow_le_pow_right (by decide) (by omega)
        have h3 : 4503599627370496 * 2^LP ≤ spM b * 2^(spE b + LP).toNat := Nat.mul_le_mul hm h2
        have h4 := Nat.le_of_mul_le_mul_right (Nat.le_trans h3 h) (Nat.two_pow_pos _)
        omega
      rw [decide_eq_false this, Bool.false_and]
    exact ⟨hm, hb, by unfold whK; rw [hb]; rfl⟩
  · left
    have hm := (spM_nought b fb).2 hz
    have ha : absB b = 0 := by unfold zeroB at hz; simpa using hz
    have he : spE b = 0 := by
      unfold spE
      split
      · rfl
      · rfl
    have hv : whV b = 0 := by unfold whV; rw [ha, rv_zero, Nat.zero_div]
    refine ⟨hm, he, ?_, ?_⟩
    · unfold whB; rw [ha, rv_zero]; simp
    · unfold whK; rw [hv]; split <;> (try split) <;> rfl

/-- Out of the halves. -/
theorem wh_odd (b m j : Nat) (fb : finB b = true) (he : spE b < 0) (h : m * 2^j = spM b) (hj : j < (-spE b).toNat) (ho : m % 2 = 1) : whB b = false ∧ whK b = 0 := by
  have h1 := (wh_sp b fb he).1
  have hb : whB b = false := by
    unfold whB
    have : ¬ rv 52 (absB b) % 2^LP = 0 := by
      rw [← h1, ← h]
      intro h2
      have h3 : 2^(j + 1) ∣ m * 2^j := Nat.dvd_trans (Nat.pow_dvd_pow 2 (by omega)) (Nat.dvd_of_mod_eq_zero h2)
      rw [Nat.pow_succ, Nat.mul_comm m] at h3
      have h4 := Nat.dvd_of_mul_dvd_mul_left (Nat.two_pow_pos j) h3
      omega
    rw [decide_eq_false this, Bool.and_false]
  exact ⟨hb, by unfold whK; rw [hb]; rfl⟩
theorem wh_end (b m : Nat) (fb : finB b = true) (he : spE b < 0) (h : m * 2^(-spE b).toNat = spM b) : (m ≤ 64 → whB b = true ∧ whK b = if sgnB b then -(m : Int) else m) ∧ (64 < m → whB b = false ∧ whK b = 0) := by
  obtain ⟨h1, h2⟩ := wh_sp b fb he
  have hr : rv 52 (absB b) % 2^LP = 0 := by rw [← h1, ← h]; exact Nat.mul_mod_left _ _
  have hv : whV b = m := by rw [h2, ← h, Nat.mul_div_cancel _ (Nat.two_pow_pos _)]
  have hx : rv 52 (absB b) = m * 2^LP := by
    have := Nat.div_add_mod (rv 52 (absB b)) (2^LP)
    rw [hr, Nat.add_zero] at this
    rw [← this, Nat.mul_comm]
    unfold whV at hv
    rw [hv]
  have hle : absB b ≤ 4634204016564240384 ↔ m ≤ 64 := by
    rw [wh_le, hx]
    exact ⟨fun h => Nat.le_of_mul_le_mul_right h (Nat.two_pow_pos _), fun h => Nat.mul_le_mul_right _ h⟩
  constructor
  · intro hm
    have hb : whB b = true := by unfold whB; rw [decide_eq_true (hle.2 hm), decide_eq_true hr]; rfl
    exact ⟨hb, by unfold whK; rw [if_pos hb, hv]⟩
  · intro hm
    have hb : whB b = false := by unfold whB; rw [decide_eq_false (by rw [hle]; omega), Bool.false_and]
    exact ⟨hb, by unfold whK; rw [hb]; rfl⟩

set_option maxHeartbeats 1000000 in
set_option maxRecDepth 100000 in
theorem r7_whole (b : Nat) (w : World) (hb : W64 b) :
    Calls Tryd.prog 51 #[.int .u64 b] w fun e w' => e = .returned (.tuple #[.int .i64 (whK b), .bool (whB b)]) ∧ w = w' := by
  have HSP := fun W => ref_split b W hb
  have q := spE_range b
  have qm := spM_lt b
  obtain ⟨k, hk⟩ : ∃ k, k = whK b := ⟨_, rfl⟩
  obtain ⟨t, ht⟩ : ∃ t, t = whB b := ⟨_, rfl⟩
  cases fb : finB b
  · have hx : spX b = 10 := by rw [fin_spX, fb]; rfl
    have ht0 : whB b = false := by
      unfold whB
      unfold finB at fb
      simp at fb
      rw [decide_eq_false (by omega), Bool.false_and]
    have hk0 : whK b = 0 := by unfold whK; rw [ht0]; rfl
    rw [hk0, ht0]
    rw [hx] at HSP
    have HS : Hid (∀ W, _) := HSP
    clear HSP hk ht hk0 ht0 fb hx
    go_enter Tryd.func51, Tryd.ntmps51
    go_wp2_with (go_at_call 77; with_reducible refine (HS.out _).mono ?_; rintro e w' ⟨rfl, rfl⟩)
    go_ret2
    exact ⟨rfl, rfl⟩
  · have hx : spX b = 0 := by rw [fin_spX, fb]; rfl
    rw [hx, fin_spS b fb] at HSP
    have hg := sp_great b fb
    have ho := fun m j he => wh_odd b m j fb he
    have he := fun m he => wh_end b m fb he
    rw [← hk, ← ht] at hg ⊢
    simp only [← hk, ← ht] at ho he
    obtain ⟨M, hM⟩ : ∃ M, M = spM b := ⟨_, rfl⟩
    obtain ⟨E, hE⟩ : ∃ E, E = spE b := ⟨_, rfl⟩
    obtain ⟨s, hs⟩ : ∃ s, s = sgnB b := ⟨_, rfl⟩
    rw [← hE, ← hM] at hg
    simp only [← hE, ← hM] at ho q qm
    simp only [← hE, ← hM, ← hs] at he HSP
    have HS : Hid (∀ W, _) := HSP
    clear hk ht hM hE hs HSP hx fb
    rcases Int.lt_or_le E 0 with hneg | hpos
    · -- below nought: halves
      have HO : Hid (∀ m j, m * 2^j = M → j < (-E).toNat → m % 2 = 1 → t = false ∧ k = 0) := fun m j => ho m j hneg
      have HE : Hid (∀ m, m * 2^(-E).toNat = M → (m ≤ 64 → t = true ∧ k = if s then -(m : Int) else m) ∧ (64 < m → t = false ∧ k = 0)) := fun m => he m hneg
      clear ho he hg
      go_enter Tryd.func51, Tryd.ntmps51
      go_wp2_with (go_at_call 77; with_reducible refine (HS.out _).mono ?_; rintro e w' ⟨rfl, rfl⟩)
      go_loop [5, 6] (fun v u => ∃ m j : Nat, v = .int .u64 (m : Nat) ∧ u = .int .i64 (E + j) ∧ Hid (m * 2^j = M) ∧ m < 9007199254740992 ∧ j ≤ (-E).toNat) (fun _ u => (-(intOf u)).toNat)
      case atStart => exact ⟨M, 0, rfl, by simp, (by simp : M * 2^0 = M), qm, Nat.zero_le _⟩
      case round =>
        obtain ⟨m, j, rfl, rfl, hm, hml, hj⟩ := hrel
        rcases Nat.lt_or_ge j (-E).toNat with hlt | hge
        · have hneg2 : E + (j : Int) < 0 := by omega
          rcases Nat.mod_two_eq_zero_or_one m with h0 | h1
          · have h3 : IntKind.u64.wrap ((m : Int).tdiv 2) = ((m / 2 : Nat) : Int) := by rw [Int.tdiv_eq_ediv_of_nonneg (by omega), IntKind.wrap_u64]; omega
            have h4 : ((m : Int) % 2 == 1) = false := by simp; omega
            have H0 : Hid (m % 2 = 0) := h0
            have HL : Hid (m < 9007199254740992) := hml
            go_wp2
            go_round
            case rel => exact ⟨m / 2, j + 1, rfl, by push_cast; rw [Int.add_assoc], (by rw [← hm.out, Nat.pow_succ, Nat.mul_comm (2^j) 2, ← Nat.mul_assoc, Nat.div_mul_cancel (Nat.dvd_of_mod_eq_zero H0.out)] : m / 2 * 2^(j + 1) = M), by omega, by omega⟩
            case measure => simp [intOf]; omega
          · obtain ⟨rfl, rfl⟩ := HO.out m j hm.out hlt h1
            have h4 : ((m : Int) % 2 == 1) = true := by simp; omega
            go_wp2
            go_ret2
            exact ⟨rfl, rfl⟩
        · obtain rfl : j = (-E).toNat := by omega
          obtain ⟨c1, c2⟩ := HE.out m hm.out
          have e0 : E + ((-E).toNat : Int) = 0 := by omega
          rw [e0]
          clear hm hj e0 HO HE hge
          go_wp2
          go_loop [5, 6] (fun v u => v = .int .u64 (m : Nat) ∧ u = .int .i64 0) (fun _ _ => 0)
          case atStart => exact ⟨rfl, rfl⟩
          case round =>
            obtain ⟨rfl, rfl⟩ := hrel
            rcases Nat.lt_or_ge 64 m with hgt | hle
            · obtain ⟨rfl, rfl⟩ := c2 hgt
              clear c1 c2
              go_wp2
              go_ret2
              exact ⟨rfl, rfl⟩
            · obtain ⟨rfl, rfl⟩ := c1 hle
              clear c1 c2
              cases s
              · go_wp2
                go_ret2
                exact ⟨rfl, rfl⟩
              · go_wp2
                go_ret2
                exact ⟨rfl, rfl⟩
    · have hg := hg hpos
      clear ho he
      go_enter Tryd.func51, Tryd.ntmps51
      go_wp2_with (go_at_call 77; with_reducible refine (HS.out _).mono ?_; rintro e w' ⟨rfl, rfl⟩)
      go_loop [5, 6] (fun v u => v = .int .u64 (M : Nat) ∧ u = .int .i64 E) (fun _ _ => 0)
      case atStart => exact ⟨rfl, rfl⟩
      case round =>
        obtain ⟨rfl, rfl⟩ := hrel
        go_wp2
        go_loop [5, 6] (fun v u => v = .int .u64 (M : Nat) ∧ u = .int .i64 E) (fun _ _ => 0)
        case atStart => exact ⟨rfl, rfl⟩
        case round =>
          obtain ⟨rfl, rfl⟩ := hrel
          rcases hg with ⟨rfl, rfl, rfl, rfl⟩ | ⟨h1, rfl, rfl⟩
          · cases s
            · go_wp2
              go_ret2
              exact ⟨rfl, rfl⟩
            · go_wp2
              go_ret2
              exact ⟨rfl, rfl⟩
          · go_wp2
            all_goals
              go_ret2
              exact ⟨rfl, rfl⟩
end Go.Proofs.YtiimjbpfdidgcaaDoor

/- Powers: what a power is (no program in sight). -/
namespace Go.Proofs.YtiimjbpfdidgcaaDoor
open Go.RowKit

/-- What a number's power is rounded to. -/
def PowR (a : Nat) (k : Int) (R : Nat) : Prop :=
  Near 52 ((if decide (k < 0) = true then 1 else spM a ^ k.natAbs) * 2^(k * spE a).toNat * 2^LP) ((if decide (k < 0) = true then spM a ^ k.natAbs else 1) * 2^(-(k * spE a)).toNat) R

def powN (a b : Nat) : Bool := sgnB a && decide (whK b % 2 ≠ 0)
def powB (a b R S : Nat) : Nat := if nanB a || nanB b then theNaN else if zeroB b then 4607182418800017408 else if b = 4602678819172646912 then rootB a S else if whB b = false then 0
  else if zeroB a && decide (whK b < 0) then 0 else if zeroB a || infB a && decide (0 < whK b) then sgW (powN a b) + absB a else if infB a then sgW (powN a b) else resB (powN a b) R
def powX (a b R S : Nat) : Int := if nanB a || nanB b then 0 else if zeroB b then 0 else if b = 4602678819172646912 then rootX a S else if whB b = false then 11
  else if zeroB a && decide (whK b < 0) then 13 else if zeroB a || infB a then 0 else resX R

theorem near_least (P : Nat → Prop) : ∀ n, P n → ∃ m, P m ∧ (m = 0 ∨ ¬ P (m - 1))
  | 0, h => ⟨0, h, .inl rfl⟩
  | n + 1, h => by
    by_cases g : P n
    · exact near_least P n g
    · exact ⟨n + 1, h, .inr g⟩
theorem near_ex (p M S : Nat) (hS : 0 < S) : ∃ R, Near p M S R := by
  obtain ⟨R, h1, h2⟩ := near_least (fun R => 2*M < (rv p R + rv p (R+1)) * S ∨ (2*M = (rv p R + rv p (R+1)) * S ∧ R % 2 = 0)) (2 * M) (by
    left
    have := le_rv p (2 * M)
    have := le_rv p (2 * M + 1)
    exact Nat.lt_of_lt_of_le (by omega : 2 * M < rv p (2 * M) + rv p (2 * M + 1)) (Nat.le_mul_of_pos_right _ hS))
  refine ⟨R, ?_, h1⟩
  rcases h2 with h2 | h2
  · exact .inl h2
  · by_cases hR : R = 0
    · exact .inl hR
    · right
      rw [show R - 1 + 1 = R by omega] at h2
      have h3 : ¬ 2*M < (rv p (R-1) + rv p R) * S := fun h => h2 (.inl h)
      have h4 : ¬ (2*M = (rv p (R-1) + rv p R) * S ∧ (R-1) % 2 = 0) := fun h => h2 (.inr h)
      by_cases h5 : (rv p (R-1) + rv p R) * S < 2*M
      · exact .inl h5
      · right
        have h6 : (rv p (R-1) + rv p R) * S = 2*M := by omega
        refine ⟨h6, ?_⟩
        have h7 : ¬ (R-1) % 2 = 0 := fun h => h4 ⟨h6.symm, h⟩
        omega

theorem pow_ex (a : Nat) (k : Int) (hM : 0 < spM a) : ∃ R, PowR a k R := by
  refine near_ex _ _ _ (Nat.mul_pos ?_ (Nat.two_pow_pos _))
  split
  · exact Nat.pow_pos hM
  · exact Nat.one_pos
theorem near_shift (N D : Nat) (e : Int) (R : Nat) (hD : 0 < D) (h : Near 52 (N * 2^e.toNat * 2^LP) (D * 2^(-e).toNat) R) : Near 52 (N * 2^(e + LP).toNat) (D * 2^(-(e + LP)).toNat) R := by
  refine h.cross (Nat.mul_pos hD (Nat.two_pow_pos _)) (Nat.mul_pos hD (Nat.two_pow_pos _)) ?_
  have e1 : N * 2^e.toNat * 2^LP * (D * 2^(-(e + LP)).toNat) = N * D * 2^(e.toNat + LP + (-(e + LP)).toNat) := by
    rw [Nat.mul_assoc N, ← Nat.pow_add, Nat.mul_mul_mul_comm, ← Nat.pow_add]
  have e2 : N * 2^(e + LP).toNat * (D * 2^(-e).toNat) = N * D * 2^((e + LP).toNat + (-e).toNat) := by
    rw [Nat.mul_mul_mul_comm, ← Nat.pow_add]
  rw [e1, e2]
  congr 2
  omega
theorem pow_small (a i B : Nat) (hi : i ≤ 64) (hB : B = 3393) : spM a ^ i < 2 ^ B := by
  have h : spM a ≤ 2^53 := Nat.le_of_lt (Nat.lt_of_lt_of_le (spM_lt a) (by decide))
  calc spM a ^ i ≤ (2^53) ^ i := Nat.pow_le_pow_left h i
    _ = 2^(53 * i) := (Nat.pow_mul ..).symm
    _ < 2^B := Nat.pow_lt_pow_right (by decide) (by omega)
theorem pow_range (k E : Int) (hk : -64 ≤ k ∧ k ≤ 64) (hE : -1074 ≤ E ∧ E ≤ 972) : -68736 ≤ k * E ∧ k * E ≤ 68736 := by
  have h1 : (k * E).natAbs ≤ 64 * 1074 := by
    rw [Int.natAbs_mul]
    exact Nat.mul_le_mul (by omega) (by omega)
  omega
/-- The two cases. -/
theorem pow_up {a : Nat} {k : Int} {R : Nat} (h : PowR a k R) (hk : 0 < k) : Near 52 (spM a ^ k.natAbs * 2^(k * spE a + LP).toNat) (1 * 2^(-(k * spE a + LP)).toNat) R := by
  unfold PowR at h
  rw [decide_eq_false (by omega)] at h
  exact near_shift _ _ _ _ (by decide) h
theorem pow_down {a : Nat} {k : Int} {R : Nat} (h : PowR a k R) (hk : k < 0) (hM : 0 < spM a) : Near 52 (1 * 2^(k * spE a + LP).toNat) (spM a ^ k.natAbs * 2^(-(k * spE a + LP)).toNat) R := by
  unfold PowR at h
  rw [decide_eq_true hk] at h
  exact near_shift _ _ _ _ (Nat.pow_pos hM) h
theorem powN_eq' (a b : Nat) (s p : Bool) (hs : sgnB a = s) (hp : (whK b % 2 != 0) = p) : powN a b = (s && p) := by
  unfold powN
  rw [hs, ← hp]
  congr 1
  rw [Bool.eq_iff_iff]
  simp
end Go.Proofs.YtiimjbpfdidgcaaDoor

/- Walks: the document's answer for layer 7: Power. -/
namespace Go.Proofs.YtiimjbpfdidgcaaDoor
open Go.RowKit

theorem signed_any (b : Nat) (neg : Bool) (W : World) (hb : W64 b) : Calls Tryd.prog 53 #[.int .u64 b, .bool neg] W fun e w' => e = .returned (.int .u64 (sgW neg + absB b : Nat)) ∧ W = w' := by
  have h := r7_signed b neg W hb
  have e : (if neg then absB b + 9223372036854775808 else absB b) = sgW neg + absB b := by cases neg <;> simp [sgW] <;> omega
  rwa [e] at h

theorem powN_eq (a b : Nat) (s p : Bool) (hs : sgnB a = s) (hp : (whK b % 2 != 0) = p) : powN a b = (s && p) := by
  unfold powN
  rw [hs, ← hp]
  congr 1
  rw [Bool.eq_iff_iff]
  simp

set_option maxHeartbeats 2000000 in
set_option maxRecDepth 100000 in
theorem r7_power (a b R S : Nat) (w : World) (ha : W64 a) (hb : W64 b) (hR : finB a = true → zeroB a = false → sgnB a = false → RootR a S) (hP : finB a = true → zeroB a = false → whB b = true → PowR a (whK b) R) :
    Calls Tryd.prog 11 #[.int .u64 a, .int .u64 b] w fun e w' => e = .returned (.tuple #[.int .u64 (powB a b R S : Nat), .int .i64 (powX a b R S)]) ∧ Below w.heap.size w w' := by
  have HANY : Hid (∀ W g, W.cell? ⟨g, 0, none⟩ = some (.int .u64 (a : Nat)) → W.cell? ⟨g, 1, none⟩ = some (.int .u64 (b : Nat)) → Calls Tryd.prog 48 #[.slice (some ⟨g, 0, none⟩) 2 2] W fun e w' => e = .returned (.bool (nanB a || nanB b)) ∧ W = w') := fun W g h0 h1 => any2 a b ha hb W g h0 h1
  have HB1 : Hid (∀ F, Below w.heap.size w (w.alloc F)) := fun F => (Below.refl _ _).alloc (Nat.le_refl _) _
  have HZB : Hid (∀ W, Calls Tryd.prog 49 #[.int .u64 b] W fun e w' => e = .returned (.bool (zeroB b)) ∧ W = w') := fun W => ref_nought b W hb
  have HWH : Hid (∀ W, Calls Tryd.prog 51 #[.int .u64 b] W fun e w' => e = .returned (.tuple #[.int .i64 (whK b), .bool (whB b)]) ∧ W = w') := fun W => r7_whole b W hb
  have HWA : Hid (W64 a) := ha
  obtain ⟨n, hn⟩ : ∃ n, n = (nanB a || nanB b) := ⟨_, rfl⟩
  rw [← hn] at HANY
  cases n
  case true =>
    have HE1 : Hid (powB a b R S = theNaN) := by show _ = _; unfold powB; simp only [← hn, if_true]
    have HE2 : Hid (powX a b R S = 0) := by show _ = _; unfold powX; simp only [← hn, if_true]
    clear hn hR hP ha hb
    go_enter Tryd.func11, Tryd.ntmps11
    go_wp2_with (first | (go_at_call 48; refine (HANY.out _ _ (by go_simp) (by go_simp)).mono ?_; rintro e w' ⟨rfl, rfl⟩) | (go_at_call 49; with_reducible refine (HZB.out _).mono ?_; rintro e w' ⟨rfl, rfl⟩))
    go_ret2
    exact ⟨by rw [HE1.out, HE2.out]; rfl, HB1.out _⟩
  case false =>
  have HN2 : Hid (nanB a = false ∧ nanB b = false) := by show _ ∧ _; rw [← Bool.or_eq_false_iff]; exact hn.symm
  cases hz : zeroB b
  case true =>
    have HE1 : Hid (powB a b R S = 4607182418800017408) := by show _ = _; unfold powB; simp only [← hn, hz, if_true, Bool.false_eq_true, if_false]
    have HE2 : Hid (powX a b R S = 0) := by show _ = _; unfold powX; simp only [← hn, hz, if_true, Bool.false_eq_true, if_false]
    rw [hz] at HZB
    clear hn hR hP ha hb hz
    go_enter Tryd.func11, Tryd.ntmps11
    go_wp2_with (first | (go_at_call 48; refine (HANY.out _ _ (by go_simp) (by go_simp)).mono ?_; rintro e w' ⟨rfl, rfl⟩) | (go_at_call 49; with_reducible refine (HZB.out _).mono ?_; rintro e w' ⟨rfl, rfl⟩))
    go_ret2
    exact ⟨by rw [HE1.out, HE2.out]; rfl, HB1.out _⟩
  case false =>
  by_cases hh : b = 4602678819172646912
  · have HE1 : Hid (powB a b R S = rootB a S) := by show _ = _; unfold powB; simp only [← hn, hz, Bool.false_eq_true, if_false]; exact if_pos hh
    have HE2 : Hid (powX a b R S = rootX a S) := by show _ = _; unfold powX; simp only [← hn, hz, Bool.false_eq_true, if_false]; exact if_pos hh
    have HRT : Hid (∀ W, Calls Tryd.prog 50 #[.int .u64 a] W fun e w' => e = .returned (.tuple #[.int .u64 (rootB a S : Nat), .int .i64 (rootX a S)]) ∧ Below W.heap.size W w') := fun W => r7_root a S W ha hR
    have hbh : ((b : Int) == 4602678819172646912) = true := by simp; omega
    rw [hz] at HZB
    clear hn hR hP ha hb hz hh
    go_enter Tryd.func11, Tryd.ntmps11
    go_wp2_with (first | (go_at_call 48; refine (HANY.out _ _ (by go_simp) (by go_simp)).mono ?_; rintro e w' ⟨rfl, rfl⟩) | (go_at_call 49; with_reducible refine (HZB.out _).mono ?_; rintro e w' ⟨rfl, rfl⟩))
    refine (HRT.out _).mono ?_
    rintro e w2 ⟨rfl, hb2⟩
    go_wp2
    go_ret2
    exact ⟨by rw [HE1.out, HE2.out]; rfl, (HB1.out _).thru hb2⟩
  have hbh : ((b : Int) == 4602678819172646912) = false := by simp; omega
  obtain ⟨t, ht⟩ : ∃ t, t = whB b := ⟨_, rfl⟩
  rw [hz] at HZB
  rw [← ht] at HWH
  cases t
  case false =>
    have HE1 : Hid (powB a b R S = 0) := by show _ = _; unfold powB; simp only [← hn, hz, ← ht, Bool.false_eq_true, if_false, if_true]; exact if_neg hh
    have HE2 : Hid (powX a b R S = 11) := by show _ = _; unfold powX; simp only [← hn, hz, ← ht, Bool.false_eq_true, if_false, if_true]; exact if_neg hh
    clear hn hR hP ha hb hz hh ht
    go_enter Tryd.func11, Tryd.ntmps11
    go_wp2_with (first | (go_at_call 48; refine (HANY.out _ _ (by go_simp) (by go_simp)).mono ?_; rintro e w' ⟨rfl, rfl⟩) | (go_at_call 49; with_reducible refine (HZB.out _).mono ?_; rintro e w' ⟨rfl, rfl⟩) | (go_at_call 51; with_reducible refine (HWH.out _).mono ?_; rintro e w' ⟨rfl, rfl⟩))
    go_ret2
    exact ⟨by rw [HE1.out, HE2.out]; rfl, HB1.out _⟩
  case true =>
  obtain ⟨k, hk⟩ : ∃ k, k = whK b := ⟨_, rfl⟩
  obtain ⟨p, hp⟩ : ∃ p, p = (whK b % 2 != 0) := ⟨_, rfl⟩
  have hk0 : k ≠ 0 := by rw [hk]; exact whK_zero b ht.symm hz
  have hkr : -64 ≤ k ∧ k ≤ 64 := by rw [hk]; exact whK_range b
  have hpar : (k.tmod 2 != 0) = p := by
    rw [hp, ← hk, Bool.eq_iff_iff]
    simp only [bne_iff_ne, ne_eq]
    rw [Int.tmod_eq_emod]
    constructor
    · intro h1 h2
      apply h1
      rw [h2]
      split <;> omega
    · intro h1
      split <;> omega
  have hpar2 : (k % 2 != 0) = p := by rw [hk]; exact hp.symm
  have hsg : (((sgnW a : Nat) : Int) != 0) = sgnB a := w_sgn a
  have HZA : Hid (∀ W, Calls Tryd.prog 49 #[.int .u64 a] W fun e w' => e = .returned (.bool (zeroB a)) ∧ W = w') := fun W => ref_nought a W ha
  have HIA : Hid (∀ W, Calls Tryd.prog 52 #[.int .u64 a] W fun e w' => e = .returned (.bool (infB a)) ∧ W = w') := fun W => r7_isinf a W ha
  rw [← hk] at HWH
  have hN : ∀ s, sgnB a = s → powN a b = (s && p) := fun s hs => powN_eq a b s p hs hp.symm
  have HB : Hid (powB a b R S = if zeroB a && decide (k < 0) then 0 else if zeroB a || infB a && decide (0 < k) then sgW (powN a b) + absB a else if infB a then sgW (powN a b) else resB (powN a b) R) := by
    show _ = _
    unfold powB
    simp only [← hn, hz, ← ht, Bool.false_eq_true, if_false]
    rw [if_neg hh, if_neg (by decide), hk]
  have HX : Hid (powX a b R S = if zeroB a && decide (k < 0) then 13 else if zeroB a || infB a then 0 else resX R) := by
    show _ = _
    unfold powX
    simp only [← hn, hz, ← ht, Bool.false_eq_true, if_false]
    rw [if_neg hh, if_neg (by decide), hk]
  have hP1 : finB a = true → zeroB a = false → PowR a k R := fun f1 f2 => by rw [hk]; exact hP f1 f2 ht.symm
  obtain ⟨q, hq⟩ : ∃ q, q = powN a b := ⟨_, rfl⟩
  rw [← hq] at HB
  rw [← hq] at hN
  obtain ⟨s, hs⟩ : ∃ s, s = sgnB a := ⟨_, rfl⟩
  have hqs := hN s hs.symm
  rw [← hs] at hsg
  clear hq hp hk hh hz ht hN hR hP hb hn
  have HXB : Hid (resB q R = resB q R) := rfl
  clear HXB
  obtain ⟨v1, hv1⟩ : ∃ v, v = sgW q + absB a := ⟨_, rfl⟩
  obtain ⟨v0, hv0⟩ : ∃ v, v = sgW q := ⟨_, rfl⟩
  have HSA : Hid (∀ W, Calls Tryd.prog 53 #[.int .u64 a, .bool q] W fun e w' => e = .returned (.int .u64 (v1 : Nat)) ∧ W = w') := fun W => by rw [hv1]; exact signed_any a q W ha
  have HSZ : Hid (∀ W, Calls Tryd.prog 53 #[.int .u64 0, .bool q] W fun e w' => e = .returned (.int .u64 (v0 : Nat)) ∧ W = w') := fun W => by rw [hv0]; exact signed_any 0 q W (by unfold W64; decide)
  rw [← hv1, ← hv0] at HB
  clear hv1 hv0
  cases hza : zeroB a
  case true =>
    rw [hza] at HZA HB HX
    rcases Int.lt_or_gt_of_ne hk0 with hkn | hkp
    · rw [decide_eq_true hkn] at HB HX
      clear hP1 hs hqs
      cases s
      all_goals
        go_enter Tryd.func11, Tryd.ntmps11
        go_wp2_with (first | (go_at_call 48; refine (HANY.out _ _ (by go_simp) (by go_simp)).mono ?_; rintro e w' ⟨rfl, rfl⟩) | (go_at_call 49; with_reducible refine (HZB.out _).mono ?_; rintro e w' ⟨rfl, rfl⟩) | (go_at_call 49; with_reducible refine (HZA.out _).mono ?_; rintro e w' ⟨rfl, rfl⟩) | (go_at_call 51; with_reducible refine (HWH.out _).mono ?_; rintro e w' ⟨rfl, rfl⟩))
        go_ret2
        exact ⟨by rw [HB.out, HX.out]; rfl, HB1.out _⟩
    · rw [decide_eq_false (by omega)] at HB HX
      have HE1 : Hid (powB a b R S = v1) := by show _ = _; rw [HB.out]; rfl
      have HE2 : Hid (powX a b R S = 0) := by show _ = _; rw [HX.out]; rfl
      clear hP1 hs HB HX
      cases s
      all_goals
        simp only [Bool.false_and, Bool.true_and] at hqs
        subst hqs
        go_enter Tryd.func11, Tryd.ntmps11
        go_wp2_with (first | (go_at_call 48; refine (HANY.out _ _ (by go_simp) (by go_simp)).mono ?_; rintro e w' ⟨rfl, rfl⟩) | (go_at_call 49; with_reducible refine (HZB.out _).mono ?_; rintro e w' ⟨rfl, rfl⟩) | (go_at_call 49; with_reducible refine (HZA.out _).mono ?_; rintro e w' ⟨rfl, rfl⟩) | (go_at_call 51; with_reducible refine (HWH.out _).mono ?_; rintro e w' ⟨rfl, rfl⟩) | (go_at_call 53; with_reducible refine (HSA.out _).mono ?_; rintro e w' ⟨rfl, rfl⟩))
        go_ret2
        exact ⟨by rw [HE1.out, HE2.out]; rfl, HB1.out _⟩
  case false =>
  rw [hza] at HZA HB HX
  cases hia : infB a
  case true =>
    rw [hia] at HIA HB HX
    have HE2 : Hid (powX a b R S = 0) := by show _ = _; rw [HX.out]; rfl
    rcases Int.lt_or_gt_of_ne hk0 with hkn | hkp
    · have HE1 : Hid (powB a b R S = v0) := by show _ = _; rw [HB.out, show decide (0 < k) = false from decide_eq_false (by omega)]; rfl
      clear hP1 hs HB HX
      cases s
      all_goals
        simp only [Bool.false_and, Bool.true_and] at hqs
        subst hqs
        go_enter Tryd.func11, Tryd.ntmps11
        go_wp2_with (first | (go_at_call 48; refine (HANY.out _ _ (by go_simp) (by go_simp)).mono ?_; rintro e w' ⟨rfl, rfl⟩) | (go_at_call 49; with_reducible refine (HZB.out _).mono ?_; rintro e w' ⟨rfl, rfl⟩) | (go_at_call 49; with_reducible refine (HZA.out _).mono ?_; rintro e w' ⟨rfl, rfl⟩) | (go_at_call 51; with_reducible refine (HWH.out _).mono ?_; rintro e w' ⟨rfl, rfl⟩) | (go_at_call 52; with_reducible refine (HIA.out _).mono ?_; rintro e w' ⟨rfl, rfl⟩) | (go_at_call 53; with_reducible refine (HSZ.out _).mono ?_; rintro e w' ⟨rfl, rfl⟩))
        go_ret2
        exact ⟨by rw [HE1.out, HE2.out]; rfl, HB1.out _⟩
    · have HE1 : Hid (powB a b R S = v1) := by show _ = _; rw [HB.out, show decide (0 < k) = true from decide_eq_true (by omega)]; rfl
      clear hP1 hs HB HX
      cases s
      all_goals
        simp only [Bool.false_and, Bool.true_and] at hqs
        subst hqs
        go_enter Tryd.func11, Tryd.ntmps11
        go_wp2_with (first | (go_at_call 48; refine (HANY.out _ _ (by go_simp) (by go_simp)).mono ?_; rintro e w' ⟨rfl, rfl⟩) | (go_at_call 49; with_reducible refine (HZB.out _).mono ?_; rintro e w' ⟨rfl, rfl⟩) | (go_at_call 49; with_reducible refine (HZA.out _).mono ?_; rintro e w' ⟨rfl, rfl⟩) | (go_at_call 51; with_reducible refine (HWH.out _).mono ?_; rintro e w' ⟨rfl, rfl⟩) | (go_at_call 52; with_reducible refine (HIA.out _).mono ?_; rintro e w' ⟨rfl, rfl⟩) | (go_at_call 53; with_reducible refine (HSA.out _).mono ?_; rintro e w' ⟨rfl, rfl⟩))
        go_ret2
        exact ⟨by rw [HE1.out, HE2.out]; rfl, HB1.out _⟩
  case false =>
  rw [hia] at HIA HB HX
  have fa : finB a = true := by rw [finB_eq, HN2.out.1, hia]; rfl
  have hpr := hP1 fa hza
  have HE1 : Hid (powB a b R S = resB q R) := by show _ = _; rw [HB.out]; rfl
  have HE2 : Hid (powX a b R S = resX R) := by show _ = _; rw [HX.out]; rfl
  have hM : 0 < spM a := by
    rcases Nat.eq_zero_or_pos (spM a) with h | h
    · rw [(spM_nought a fa).1 h] at hza; cases hza
    · exact h
  obtain ⟨B, hB⟩ : ∃ B, B = 3393 := ⟨_, rfl⟩
  have hsm : ∀ i, i ≤ 64 → spM a ^ i < 2 ^ B := fun i hi => pow_small a i B hi hB
  have hkE := pow_range k (spE a) hkr (spE_range a)
  have hl := LP_eq
  have hm1 : IntKind.i64.wrap (k * spE a) = k * spE a := IntWalk.i64_in _ (by omega)
  have HOA : Hid (∀ W, Calls Tryd.prog 54 #[.int .u64 a] W (TermQ (spS a) (spM a) (spE a) W)) := fun W => r7_of a W ha
  have HOB : Hid (∀ W, Calls Tryd.prog 57 #[.int .u64 1] W (NatQ 1 W)) := fun W => of_any 1 W (by decide)
  have HPO : Hid (∀ W x y z, Num .u32 4294967296 W (.slice x y z) (spM a) → Calls Tryd.prog 56 #[.slice x y z, .int .i64 (k.natAbs : Nat)] W (NatQ (spM a ^ k.natAbs) W)) := fun W x y z h =>
    npower_any _ _ _ W h (bb := B) (fun i hi => hsm i (by omega)) (by have := hsm 1 (by omega); rwa [Nat.pow_one] at this) (by omega) (by omega)
  rcases Int.lt_or_gt_of_ne hk0 with hkn | hkp
  · have hka : (k.natAbs : Int) = -k := by omega
    have HNR : Hid (∀ W x y z x' y' z', Num .u32 4294967296 W (.slice x y z) 1 → Num .u32 4294967296 W (.slice x' y' z') (spM a ^ k.natAbs) → Calls Tryd.prog 55 #[.agg #[.bool q, .slice x y z, .slice x' y' z', .int .i64 (IntKind.i64.wrap (k * spE a)), .bool false]] W (NearestQ q R W)) := fun W x y z x' y' z' h h' => by
      rw [hm1]
      exact nearest_any q _ 1 (spM a ^ k.natAbs) (k * spE a) W ⟨_, _, rfl, h, h'⟩ (Nat.one_lt_two_pow (by omega)) (hsm _ (by omega)) (by omega) (by omega) (by omega) (by decide) (Nat.pow_pos hM) (pow_down hpr hkn hM)
    have hm2 : (k.natAbs : Int) = IntKind.i64.wrap (-k) := by rw [hka]; exact (IntWalk.i64_in _ (by omega)).symm
    rw [hm2] at HPO
    clear hm2
    generalize k.natAbs = n at *
    clear hP1 hs HB HX fa hpr hsm hB hl hka hkE hm1 hM
    cases s
    all_goals
      simp only [Bool.false_and, Bool.true_and] at hqs
      subst hqs
      go_enter Tryd.func11, Tryd.ntmps11
      go_wp2_with (first | (go_at_call 48; refine (HANY.out _ _ (by go_simp) (by go_simp)).mono ?_; rintro e w' ⟨rfl, rfl⟩) | (go_at_call 49; with_reducible refine (HZB.out _).mono ?_; rintro e w' ⟨rfl, rfl⟩) | (go_at_call 49; with_reducible refine (HZA.out _).mono ?_; rintro e w' ⟨rfl, rfl⟩) | (go_at_call 51; with_reducible refine (HWH.out _).mono ?_; rintro e w' ⟨rfl, rfl⟩) | (go_at_call 52; with_reducible refine (HIA.out _).mono ?_; rintro e w' ⟨rfl, rfl⟩))
      refine (HOA.out _).mono ?_
      rintro e w2 ⟨vs, rfl, ⟨ts, rfl, htn⟩, hbs⟩
      obtain ⟨x, y, z, rfl⟩ := htn.shape
      have hb0 : Below w.heap.size w (w2.alloc (.cells #[.bool (spS a), .slice x y z, .int .i64 (spE a)] 48)) := by
        have h2 := (HB1.out (.cells #[.int .u64 a, .int .u64 b] 22)).trans (hbs.mono (by simp))
        exact h2.alloc h2.size _
      have q0 := heap_alloc_new w2 (.cells #[.bool (spS a), .slice x y z, .int .i64 (spE a)] 48)
      have htn1 : Num .u32 4294967296 (w2.alloc (.cells #[.bool (spS a), .slice x y z, .int .i64 (spE a)] 48)) (.slice x y z) (spM a) := htn.below (Nat.le_refl _) ((Below.refl _ _).alloc (Nat.le_refl _) _)
      have hs1 : (w2.alloc (.cells #[.bool (spS a), .slice x y z, .int .i64 (spE a)] 48)).heap.size = w2.heap.size + 1 := by simp
      go_upto_region 23 with fail
      generalize w2.alloc (.cells #[.bool (spS a), .slice x y z, .int .i64 (spE a)] 48) = w1 at *
      have HC : Hid (∀ W, Below w1.heap.size w1 W → Below w1.heap.size w1 W ∧ W.cell? ⟨w2.heap.size, 1, none⟩ = some (.slice x y z) ∧ W.cell? ⟨w2.heap.size, 2, none⟩ = some (.int .i64 (spE a))) :=
        fun W hW => ⟨hW, cell_of_row W _ 1 _ _ _ (hW.blk q0 (by omega)), cell_of_row W _ 2 _ _ _ (hW.blk q0 (by omega))⟩
      have HT1 : Hid (∀ W, Below w1.heap.size w1 W → Num .u32 4294967296 W (.slice x y z) (spM a)) := fun W hW => htn1.below (Nat.le_refl _) hW
      have HB0 : Hid (Below w.heap.size w w1) := hb0
      have HS1 : Hid (w1.heap.size = w2.heap.size + 1) := hs1
      have HS2 : Hid (w.heap.size ≤ w1.heap.size) := hb0.size
      obtain ⟨hbs1, x1, x2⟩ := HC.out w1 (Below.refl _ _)
      clear hb0 q0 hs1 htn1 htn hbs x1 x2
      go_region_held3 (fun W => Below w1.heap.size w1 W ∧ W.cell? ⟨w2.heap.size, 1, none⟩ = some (.slice x y z) ∧ W.cell? ⟨w2.heap.size, 2, none⟩ = some (.int .i64 (spE a)))
        (first | exact HC.out _ ‹Below w1.heap.size w1 _› | exact HC.out _ (‹Below w1.heap.size w1 _›).drew)
        (first | (go_at_call 57; (with_reducible refine (HOB.out _).mono ?_); rintro e w7 ⟨v, rfl, hnum, hb⟩; obtain ⟨s1, s2, s3, rfl⟩ := Num.shape hnum; have hB2 : Below w1.heap.size w1 w7 := Below.thru (by first | assumption | exact Below.drew (by assumption)) hb; have HONE : Hid (∀ W, Below w7.heap.size w7 W → Num .u32 4294967296 W (.slice s1 s2 s3) 1) := fun W hW => Num.below hnum (Nat.le_refl _) hW; clear hnum) | (go_at_call 56; (with_reducible refine (HPO.out _ _ _ _ (HT1.out _ (by first | assumption | exact Below.drew (by assumption)))).mono ?_); rintro e w7 ⟨v, rfl, hnum, hb⟩; obtain ⟨s1, s2, s3, rfl⟩ := Num.shape hnum; have hB2 : Below w1.heap.size w1 w7 := Below.thru (by first | assumption | exact Below.drew (by assumption)) hb; have HPW : Hid (∀ W, Below w7.heap.size w7 W → Num .u32 4294967296 W (.slice s1 s2 s3) (spM a ^ n)) := fun W hW => Num.below hnum (Nat.le_refl _) hW; clear hnum) | (go_at_call 55; (with_reducible refine (HNR.out _ _ _ _ _ _ _ (HONE.out _ (by first | assumption | exact Below.refl _ _)) (HPW.out _ (by first | assumption | exact Below.refl _ _))).mono ?_); rintro e w8 ⟨rfl, hb⟩; have hB3 : Below w1.heap.size w1 w8 := Below.thru (by assumption) hb; have HB3 : Hid _ := hB3; clear hb))
      go_wp2
      go_ret2
      exact ⟨by rw [HE1.out, HE2.out]; rfl, HB0.out.trans (HB3.out.mono HS2.out)⟩
  · have hka : (k.natAbs : Int) = k := by omega
    have HNR : Hid (∀ W x y z x' y' z', Num .u32 4294967296 W (.slice x y z) (spM a ^ k.natAbs) → Num .u32 4294967296 W (.slice x' y' z') 1 → Calls Tryd.prog 55 #[.agg #[.bool q, .slice x y z, .slice x' y' z', .int .i64 (IntKind.i64.wrap (k * spE a)), .bool false]] W (NearestQ q R W)) := fun W x y z x' y' z' h h' => by
      rw [hm1]
      exact nearest_any q _ (spM a ^ k.natAbs) 1 (k * spE a) W ⟨_, _, rfl, h, h'⟩ (hsm _ (by omega)) (Nat.one_lt_two_pow (by omega)) (by omega) (by omega) (by omega) (Nat.pow_pos hM) (by decide) (pow_up hpr hkp)
    rw [hka] at HPO
    generalize k.natAbs = n at *
    clear hP1 hs HB HX fa hpr hsm hB hl hka hkE hm1 hM
    cases s
    all_goals
      simp only [Bool.false_and, Bool.true_and] at hqs
      subst hqs
      go_enter Tryd.func11, Tryd.ntmps11
      go_wp2_with (first | (go_at_call 48; refine (HANY.out _ _ (by go_simp) (by go_simp)).mono ?_; rintro e w' ⟨rfl, rfl⟩) | (go_at_call 49; with_reducible refine (HZB.out _).mono ?_; rintro e w' ⟨rfl, rfl⟩) | (go_at_call 49; with_reducible refine (HZA.out _).mono ?_; rintro e w' ⟨rfl, rfl⟩) | (go_at_call 51; with_reducible refine (HWH.out _).mono ?_; rintro e w' ⟨rfl, rfl⟩) | (go_at_call 52; with_reducible refine (HIA.out _).mono ?_; rintro e w' ⟨rfl, rfl⟩))
      refine (HOA.out _).mono ?_
      rintro e w2 ⟨vs, rfl, ⟨ts, rfl, htn⟩, hbs⟩
      obtain ⟨x, y, z, rfl⟩ := htn.shape
      have hb0 : Below w.heap.size w (w2.alloc (.cells #[.bool (spS a), .slice x y z, .int .i64 (spE a)] 48)) := by
        have h2 := (HB1.out (.cells #[.int .u64 a, .int .u64 b] 22)).trans (hbs.mono (by simp))
        exact h2.alloc h2.size _
      have q0 := heap_alloc_new w2 (.cells #[.bool (spS a), .slice x y z, .int .i64 (spE a)] 48)
      have htn1 : Num .u32 4294967296 (w2.alloc (.cells #[.bool (spS a), .slice x y z, .int .i64 (spE a)] 48)) (.slice x y z) (spM a) := htn.below (Nat.le_refl _) ((Below.refl _ _).alloc (Nat.le_refl _) _)
      have hs1 : (w2.alloc (.cells #[.bool (spS a), .slice x y z, .int .i64 (spE a)] 48)).heap.size = w2.heap.size + 1 := by simp
      go_upto_region 22 with fail
      generalize w2.alloc (.cells #[.bool (spS a), .slice x y z, .int .i64 (spE a)] 48) = w1 at *
      have HC : Hid (∀ W, Below w1.heap.size w1 W → Below w1.heap.size w1 W ∧ W.cell? ⟨w2.heap.size, 1, none⟩ = some (.slice x y z) ∧ W.cell? ⟨w2.heap.size, 2, none⟩ = some (.int .i64 (spE a))) :=
        fun W hW => ⟨hW, cell_of_row W _ 1 _ _ _ (hW.blk q0 (by omega)), cell_of_row W _ 2 _ _ _ (hW.blk q0 (by omega))⟩
      have HT1 : Hid (∀ W, Below w1.heap.size w1 W → Num .u32 4294967296 W (.slice x y z) (spM a)) := fun W hW => htn1.below (Nat.le_refl _) hW
      have HB0 : Hid (Below w.heap.size w w1) := hb0
      have HS1 : Hid (w1.heap.size = w2.heap.size + 1) := hs1
      have HS2 : Hid (w.heap.size ≤ w1.heap.size) := hb0.size
      obtain ⟨hbs1, x1, x2⟩ := HC.out w1 (Below.refl _ _)
      clear hb0 q0 hs1 htn1 htn hbs x1 x2
      go_region_held3 (fun W => Below w1.heap.size w1 W ∧ W.cell? ⟨w2.heap.size, 1, none⟩ = some (.slice x y z) ∧ W.cell? ⟨w2.heap.size, 2, none⟩ = some (.int .i64 (spE a)))
        (first | exact HC.out _ ‹Below w1.heap.size w1 _› | exact HC.out _ (‹Below w1.heap.size w1 _›).drew)
        (first | (go_at_call 57; (with_reducible refine (HOB.out _).mono ?_); rintro e w7 ⟨v, rfl, hnum, hb⟩; obtain ⟨s1, s2, s3, rfl⟩ := Num.shape hnum; have hB2 : Below w1.heap.size w1 w7 := Below.thru (by first | assumption | exact Below.drew (by assumption)) hb; have HONE : Hid (∀ W, Below w7.heap.size w7 W → Num .u32 4294967296 W (.slice s1 s2 s3) 1) := fun W hW => Num.below hnum (Nat.le_refl _) hW; clear hnum) | (go_at_call 56; (with_reducible refine (HPO.out _ _ _ _ (HT1.out _ (by first | assumption | exact Below.drew (by assumption)))).mono ?_); rintro e w7 ⟨v, rfl, hnum, hb⟩; obtain ⟨s1, s2, s3, rfl⟩ := Num.shape hnum; have hB2 : Below w1.heap.size w1 w7 := Below.thru (by first | assumption | exact Below.drew (by assumption)) hb; have HPW : Hid (∀ W, Below w7.heap.size w7 W → Num .u32 4294967296 W (.slice s1 s2 s3) (spM a ^ n)) := fun W hW => Num.below hnum (Nat.le_refl _) hW; clear hnum) | (go_at_call 55; (with_reducible refine (HNR.out _ _ _ _ _ _ _ (HPW.out _ (by first | assumption | exact Below.refl _ _)) (HONE.out _ (by first | assumption | exact Below.refl _ _))).mono ?_); rintro e w8 ⟨rfl, hb⟩; have hB3 : Below w1.heap.size w1 w8 := Below.thru (by assumption) hb; have HB3 : Hid _ := hB3; clear hb))
      go_wp2
      go_ret2
      exact ⟨by rw [HE1.out, HE2.out]; rfl, HB0.out.trans (HB3.out.mono HS2.out)⟩
end Go.Proofs.YtiimjbpfdidgcaaDoor
