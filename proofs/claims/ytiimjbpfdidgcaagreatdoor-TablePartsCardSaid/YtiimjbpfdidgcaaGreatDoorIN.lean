/- Parts Rk, Rl of the proof, in one text. -/
import Derived.Test.YtiimjbpfdidgcaaGreatDoorIL
import Derived.Test.YtiimjbpfdidgcaaGreatDoorIM
import Derived.Deep.QuietTactic
import Derived.BigQuiet

/- Walks: the reference's size, beside, of values that are roots. -/
namespace Go.Proofs.YtiimjbpfdidgcaaGreatDoor
open Go.RowKit

set_option maxHeartbeats 400000 in
set_option maxRecDepth 100000 in
theorem size_root (neg : Bool) (a a' : Option Addr) (m c m' c' M D : Nat) (E : Int) (w : World) (hs : Num .u32 4294967296 w (.slice a m c) M) (ht : Num .u32 4294967296 w (.slice a' m' c') D) {bb : Nat} (hM : M < 2 ^ bb) (hD : D < 2 ^ bb) (hbb : bb ≤ 4294967290) (hE1 : -1000000 ≤ E) (hE2 : E ≤ 1000000) :
    Calls Tryz.prog 70 #[.agg #[.bool neg, .slice a m c, .slice a' m' c', .int .i64 E, .bool true]] w fun e w' => e = .returned (.int .i64 (Int.tdiv (if (blen M : Int) - blen D + E < 0 then (blen M : Int) - blen D + E - 1 else (blen M : Int) - blen D + E) 2)) ∧ Below w.heap.size w w' := by
  have HS : Hid (Num .u32 4294967296 w (.slice a m c) M) := hs
  have HT : Hid (Num .u32 4294967296 w (.slice a' m' c') D) := ht
  have h1 : blen M ≤ 4294967290 := Nat.le_trans (blen_le hM) hbb
  have h2 : blen D ≤ 4294967290 := Nat.le_trans (blen_le hD) hbb
  have HL1 : Hid (∀ W, Below w.heap.size w W → Calls Tryz.prog 58 #[.slice a m c] W fun e w' => e = .returned (.int .i64 (blen M : Nat)) ∧ w' = W) := fun W hW => nlen_same _ M W (Num.below HS.out (Nat.le_refl _) hW) hM (by omega)
  have HL2 : Hid (∀ W, Below w.heap.size w W → Calls Tryz.prog 58 #[.slice a' m' c'] W fun e w' => e = .returned (.int .i64 (blen D : Nat)) ∧ w' = W) := fun W hW => nlen_same _ D W (Num.below HT.out (Nat.le_refl _) hW) hD (by omega)
  obtain ⟨lM, e1⟩ : ∃ l, l = blen M := ⟨_, rfl⟩
  obtain ⟨lD, e2⟩ : ∃ l, l = blen D := ⟨_, rfl⟩
  rw [← e1] at h1 HL1 ⊢
  rw [← e2] at h2 HL2 ⊢
  obtain ⟨n, hn⟩ : ∃ n, n = (lM : Int) - lD + E := ⟨_, rfl⟩
  rw [← hn]
  have i1 : IntKind.i64.wrap ((lM : Int) - lD) = (lM : Int) - lD := IntWalk.i64_in _ (by omega)
  have i2 : IntKind.i64.wrap ((lM : Int) - lD + E) = n := by clear i1; rw [hn]; exact IntWalk.i64_in _ (by omega)
  have hnb : -8589934592 ≤ n ∧ n ≤ 8589934592 := by omega
  clear e1 e2 hs ht hM hD hbb hn h1 h2
  by_cases hneg : n < 0
  · have i3 : IntKind.i64.wrap (n - 1) = n - 1 := IntWalk.i64_in _ (by omega)
    rw [if_pos hneg]
    go_enter Tryz.func70, Tryz.ntmps70
    go_upto_region 1 with fail
    have hb : Below w.heap.size w (w.alloc (.cells #[.bool neg, .slice a m c, .slice a' m' c', .int .i64 E, .bool true] 50)) := (Below.refl _ _).alloc (Nat.le_refl _) _
    obtain ⟨x0, x1, x2, x3, x4⟩ := row5 (heap_alloc_new w (.cells #[.bool neg, .slice a m c, .slice a' m' c', .int .i64 E, .bool true] 50))
    have HB : Hid _ := hb
    clear hb
    generalize w.alloc (.cells #[.bool neg, .slice a m c, .slice a' m' c', .int .i64 E, .bool true] 50) = w1 at *
    go_quiet (first | (go_at_call 58; with_reducible refine Calls.quiet_of_same (HL1.out _ (HB.out.drewM _))) | (go_at_call 58; with_reducible refine Calls.quiet_of_same (HL2.out _ (HB.out.drewM _))))
    go_wp2
    go_ret
    exact ⟨rfl, HB.out.drewM _⟩
  · rw [if_neg hneg, Int.tdiv_eq_ediv_of_nonneg (by omega : 0 ≤ n)]
    go_enter Tryz.func70, Tryz.ntmps70
    go_upto_region 1 with fail
    have hb : Below w.heap.size w (w.alloc (.cells #[.bool neg, .slice a m c, .slice a' m' c', .int .i64 E, .bool true] 50)) := (Below.refl _ _).alloc (Nat.le_refl _) _
    obtain ⟨x0, x1, x2, x3, x4⟩ := row5 (heap_alloc_new w (.cells #[.bool neg, .slice a m c, .slice a' m' c', .int .i64 E, .bool true] 50))
    have HB : Hid _ := hb
    clear hb
    generalize w.alloc (.cells #[.bool neg, .slice a m c, .slice a' m' c', .int .i64 E, .bool true] 50) = w1 at *
    go_quiet (first | (go_at_call 58; with_reducible refine Calls.quiet_of_same (HL1.out _ (HB.out.drewM _))) | (go_at_call 58; with_reducible refine Calls.quiet_of_same (HL2.out _ (HB.out.drewM _))))
    go_wp2
    go_ret
    exact ⟨rfl, HB.out.drewM _⟩

set_option maxHeartbeats 1000000 in
set_option maxRecDepth 100000 in
theorem beside_root (neg : Bool) (a a' : Option Addr) (m c m' c' M D : Nat) (E e : Int) (w : World) (hs : Num .u32 4294967296 w (.slice a m c) M) (ht : Num .u32 4294967296 w (.slice a' m' c') D) {bb : Nat} (hM : M < 2 ^ bb) (hD : D < 2 ^ bb) (hbb1 : 200 ≤ bb) (hbb : bb ≤ 100000) (hD0 : 0 < D) (hE1 : -100000 ≤ E) (hE2 : E ≤ 100000)
    (he1 : -100000 ≤ e) (he2 : e ≤ 100000) (hsm : M * 2 ^ (E - 2 * e).toNat < 2305843009213693952 * 2305843009213693952 * (D * 2 ^ (2 * e - E).toNat)) :
    Calls Tryz.prog 71 #[.agg #[.bool neg, .slice a m c, .slice a' m' c', .int .i64 E, .bool true], .int .i64 e] w (RootQ (M * 2 ^ (E - 2 * e).toNat) (D * 2 ^ (2 * e - E).toNat) w) := by
  have hb : Below w.heap.size w (w.alloc (.cells #[.bool neg, .slice a m c, .slice a' m' c', .int .i64 E, .bool true] 50)) := (Below.refl _ _).alloc (Nat.le_refl _) _
  have HS : Hid (Num .u32 4294967296 (w.alloc (.cells #[.bool neg, .slice a m c, .slice a' m' c', .int .i64 E, .bool true] 50)) (.slice a m c) M) := Num.below hs (Nat.le_refl _) hb
  have HT : Hid (Num .u32 4294967296 (w.alloc (.cells #[.bool neg, .slice a m c, .slice a' m' c', .int .i64 E, .bool true] 50)) (.slice a' m' c') D) := Num.below ht (Nat.le_refl _) hb
  have hr := heap_alloc_new w (.cells #[.bool neg, .slice a m c, .slice a' m' c', .int .i64 E, .bool true] 50)
  obtain ⟨x0, x1, x2, x3, x4⟩ := row5 hr
  have HR : Hid _ := hr
  have HB : Hid _ := hb
  have HMb : Hid (M < 2 ^ bb) := hM
  have HDb : Hid (D < 2 ^ bb) := hD
  have HSM : Hid _ := hsm
  have w1 : IntKind.i64.wrap (2 * e) = 2 * e := IntWalk.i64_in _ (by omega)
  have w2 : IntKind.i64.wrap (E - 2 * e) = E - 2 * e := by clear w1; exact IntWalk.i64_in _ (by omega)
  have w3 : IntKind.i64.wrap (E - e) = E - e := by clear w1 w2; exact IntWalk.i64_in _ (by omega)
  clear hb hr hs ht hM hD hsm
  by_cases hsh : 0 ≤ E - 2 * e
  · obtain ⟨k, hk⟩ : ∃ k : Nat, E - 2 * e = (k : Int) := ⟨(E - 2 * e).toNat, by omega⟩
    have hk2 : (2 * e - E).toNat = 0 := by omega
    have hk3 : (E - 2 * e).toNat = k := by omega
    rw [hk2, hk3, Nat.pow_zero, Nat.mul_one] at HSM ⊢
    have hkb : k ≤ 400000 := by omega
    have HN : Hid (M * 2 ^ k < 2 ^ (bb + k)) := by
      show M * 2 ^ k < 2 ^ (bb + k)
      rw [Nat.pow_add]; exact Nat.mul_lt_mul_of_pos_right HMb.out (Nat.two_pow_pos k)
    have HD2 : Hid (D < 2 ^ (bb + k)) := Nat.lt_of_lt_of_le HDb.out (Nat.pow_le_pow_right (by decide) (by omega))
    have HD0 : Hid (0 < D) := hD0
    clear hk2 hk3 hD0
    go_enter Tryz.func71, Tryz.ntmps71
    go_wp2_with fail
    refine (nleft_any _ M (k / 32) (k % 32) _ _ HS.out (by omega) (Nat.mod_lt _ (by decide)) (by omega) HMb.out (by omega)).mono ?_
    rw [Nat.div_add_mod]
    rintro ee wa ⟨v2, rfl, hn2, hb2⟩
    have NUM2 : Hid (Num .u32 4294967296 wa v2 (M * 2 ^ k)) := hn2
    have DEN2 : Hid (Num .u32 4294967296 wa (.slice a' m' c') D) := Num.below HT.out (Nat.le_refl _) hb2
    have HB2 : Hid (Below w.heap.size w wa) := HB.out.trans (hb2.mono HB.out.size)
    obtain ⟨y0, y1, y2, y3, y4⟩ := row5 (hb2.blk HR.out (by simp))
    clear hn2 hb2 x0 x1 x2 x3 x4
    go_wp2_with fail
    refine (nroot_any _ _ (M * 2 ^ k) D _ NUM2.out DEN2.out HN.out HD2.out (by omega) (by omega) HD0.out HSM.out).mono ?_
    rintro ee wb ⟨rfl, hb3⟩
    have HB3 : Hid (Below w.heap.size w wb) := HB2.out.trans (hb3.mono HB2.out.size)
    clear hb3
    go_wp2
    (try simp only [Exit.inBlock, Exit.then])
    exact bodyPost_ret (results_tmp3r rfl _ _ _) rfl ⟨rfl, HB3.out⟩
  · obtain ⟨k, hk⟩ : ∃ k : Nat, -(E - 2 * e) = (k : Int) := ⟨(2 * e - E).toNat, by omega⟩
    have hk2 : (E - 2 * e).toNat = 0 := by omega
    have hk3 : (2 * e - E).toNat = k := by omega
    rw [hk2, hk3, Nat.pow_zero, Nat.mul_one] at HSM ⊢
    have hkb : k ≤ 400000 := by omega
    have HD2 : Hid (D * 2 ^ k < 2 ^ (bb + k)) := by
      show D * 2 ^ k < 2 ^ (bb + k)
      rw [Nat.pow_add]; exact Nat.mul_lt_mul_of_pos_right HDb.out (Nat.two_pow_pos k)
    have HN : Hid (M < 2 ^ (bb + k)) := Nat.lt_of_lt_of_le HMb.out (Nat.pow_le_pow_right (by decide) (by omega))
    have HD0 : Hid (0 < D * 2 ^ k) := Nat.mul_pos hD0 (Nat.two_pow_pos k)
    have w4 : IntKind.i64.wrap (-(E - 2 * e)) = -(E - 2 * e) := by clear w1 w2 w3; exact IntWalk.i64_in _ (by omega)
    clear hk2 hk3 hD0
    go_enter Tryz.func71, Tryz.ntmps71
    go_wp2_with fail
    refine (nleft_any _ D (k / 32) (k % 32) _ _ HT.out (by omega) (Nat.mod_lt _ (by decide)) (by omega) HDb.out (by omega)).mono ?_
    rw [Nat.div_add_mod]
    rintro ee wa ⟨v2, rfl, hn2, hb2⟩
    have DEN2 : Hid (Num .u32 4294967296 wa v2 (D * 2 ^ k)) := hn2
    have NUM2 : Hid (Num .u32 4294967296 wa (.slice a m c) M) := Num.below HS.out (Nat.le_refl _) hb2
    have HB2 : Hid (Below w.heap.size w wa) := HB.out.trans (hb2.mono HB.out.size)
    obtain ⟨y0, y1, y2, y3, y4⟩ := row5 (hb2.blk HR.out (by simp))
    clear hn2 hb2 x0 x1 x2 x3 x4
    go_wp2_with fail
    refine (nroot_any _ _ M (D * 2 ^ k) _ NUM2.out DEN2.out HN.out HD2.out (by omega) (by omega) HD0.out HSM.out).mono ?_
    rintro ee wb ⟨rfl, hb3⟩
    have HB3 : Hid (Below w.heap.size w wb) := HB2.out.trans (hb3.mono HB2.out.size)
    clear hb3
    go_wp2
    (try simp only [Exit.inBlock, Exit.then])
    exact bodyPost_ret (results_tmp3r rfl _ _ _) rfl ⟨rfl, HB3.out⟩
end Go.Proofs.YtiimjbpfdidgcaaGreatDoor

/- The reference's To of a root: what it asks. Plain mathematics. -/
namespace Go.Proofs.YtiimjbpfdidgcaaGreatDoor
open Go.RowKit

/-- What a root is taken of at a place e. -/
def rtN (M : Nat) (E e : Int) : Nat := M * 2 ^ (E - 2 * e).toNat
def rtD (E e : Int) : Nat := 1 * 2 ^ (2 * e - E).toNat
def rtQ (M : Nat) (E e : Int) : Nat := rootQ (rtN M E e) (rtD E e)
def rtH (M : Nat) (E e : Int) : Int := ncmp (rtN M E e * 4) ((2 * rtQ M E e + 1) * (2 * rtQ M E e + 1) * rtD E e)
def rtZ (M : Nat) (E e : Int) : Bool := decide (rtQ M E e * rtQ M E e * rtD E e = rtN M E e)
theorem rtD_pos (E e : Int) : 0 < rtD E e := Nat.mul_pos (by decide) (Nat.two_pow_pos _)

theorem root_half {N D N' D' : Nat} (hD : 0 < D) (hD' : 0 < D') (h : N * D' = 4 * (N' * D)) : rootQ N' D' = rootQ N D / 2 := by
  obtain ⟨g1, g2⟩ := rootQ_spec N D hD
  obtain ⟨q, hq⟩ : ∃ q, q = rootQ N D := ⟨_, rfl⟩
  rw [← hq] at g1 g2 ⊢
  obtain ⟨p, hp⟩ : ∃ p, p = q / 2 := ⟨_, rfl⟩
  rw [← hp]
  have hDD : 0 < D * D' := Nat.mul_pos hD hD'
  have e1 : (2 * p) * (2 * p) ≤ q * q := Nat.mul_le_mul (by omega) (by omega)
  have e2 : (q + 1) * (q + 1) ≤ (2 * (p + 1)) * (2 * (p + 1)) := Nat.mul_le_mul (by omega) (by omega)
  refine (rootQ_uniq hD' ?_ ?_).symm
  · have h1 : (2 * p) * (2 * p) * D * D' ≤ N * D' := Nat.mul_le_mul_right _ (Nat.le_trans (Nat.mul_le_mul_right _ e1) g1)
    rw [h] at h1
    have h2 : 4 * D * (p * p * D') ≤ 4 * D * N' := by
      rw [show 4 * D * (p * p * D') = (2 * p) * (2 * p) * D * D' by rw [show (4 : Nat) = 2 * 2 from rfl]; ac_rfl, show 4 * D * N' = 4 * (N' * D) by rw [Nat.mul_assoc, Nat.mul_comm D]]
      exact h1
    exact Nat.le_of_mul_le_mul_left h2 (by omega)
  · have h1 : N * D' < (2 * (p + 1)) * (2 * (p + 1)) * D * D' := Nat.mul_lt_mul_of_pos_right (Nat.lt_of_lt_of_le g2 (Nat.mul_le_mul_right _ e2)) hD'
    rw [h] at h1
    have h2 : 4 * D * N' < 4 * D * ((p + 1) * (p + 1) * D') := by
      rw [show 4 * D * ((p + 1) * (p + 1) * D') = (2 * (p + 1)) * (2 * (p + 1)) * D * D' by rw [show (4 : Nat) = 2 * 2 from rfl]; ac_rfl, show 4 * D * N' = 4 * (N' * D) by rw [Nat.mul_assoc, Nat.mul_comm D]]
      exact h1
    exact Nat.lt_of_mul_lt_mul_left h2

theorem rtQ_next (M : Nat) (E e : Int) : rtQ M E (e + 1) = rtQ M E e / 2 := by
  unfold rtQ
  refine root_half (rtD_pos _ _) (rtD_pos _ _) ?_
  unfold rtN rtD
  rw [Nat.one_mul, Nat.one_mul, Nat.mul_assoc, Nat.mul_assoc, ← Nat.pow_add, ← Nat.pow_add, Nat.mul_left_comm, show (4 : Nat) = 2^2 from rfl, ← Nat.pow_add]
  congr 2
  omega

/-- How many bits a root has. -/
theorem rtQ_low {M : Nat} {E e : Int} {k : Nat} (hM : M ≠ 0) (h : (2 * k : Nat) ≤ (blen M : Int) - 1 + E - 2 * e) : 2^k ≤ rtQ M E e := by
  obtain ⟨a1, a2, a3⟩ := blen_pos hM
  obtain ⟨g1, g2⟩ := rootQ_spec (rtN M E e) (rtD E e) (rtD_pos _ _)
  have h1 : 2^k * 2^k * rtD E e ≤ rtN M E e := by
    unfold rtN rtD
    refine Nat.le_trans ?_ (Nat.mul_le_mul_right _ a1)
    rw [Nat.one_mul, ← Nat.pow_add, ← Nat.pow_add, ← Nat.pow_add]
    exact Nat.pow_le_pow_right (by decide) (by omega)
  have h2 : 2^k * 2^k < (rtQ M E e + 1) * (rtQ M E e + 1) := Nat.lt_of_mul_lt_mul_right (Nat.lt_of_le_of_lt h1 g2)
  have := sq_lt.1 h2
  omega
theorem rtQ_high {M : Nat} {E e : Int} {k : Nat} (hM : M ≠ 0) (h : (blen M : Int) + E - 2 * e ≤ (2 * k : Nat)) : rtQ M E e < 2^k := by
  obtain ⟨a1, a2, a3⟩ := blen_pos hM
  obtain ⟨g1, g2⟩ := rootQ_spec (rtN M E e) (rtD E e) (rtD_pos _ _)
  have h1 : rtN M E e < 2^k * 2^k * rtD E e := by
    unfold rtN rtD
    refine Nat.lt_of_lt_of_le (Nat.mul_lt_mul_of_pos_right a2 (Nat.two_pow_pos _)) ?_
    rw [Nat.one_mul, ← Nat.pow_add, ← Nat.pow_add, ← Nat.pow_add]
    exact Nat.pow_le_pow_right (by decide) (by omega)
  have h2 : rtQ M E e * rtQ M E e < 2^k * 2^k := Nat.lt_of_mul_lt_mul_right (Nat.lt_of_le_of_lt g1 h1)
  exact sq_lt.1 h2

/-- The end of the reference's To of a root. -/
theorem rt_last {M n w H R : Nat} {E e : Int} (hM : M ≠ 0) (hE : -1074 ≤ E) (h1 : w * w ≤ n) (h2 : n < (w + 1) * (w + 1)) (hn : 2^108 ≤ n) (hval : n * 2^(2 * H) = M * 2^(E + LP).toNat * 2^LP) (hH : 1 ≤ H)
    (hR : Near 52 ((2 * w + (w * w != n).toNat) * 2^(H - 1)) 1 R) (he : -1074 ≤ e) (hlt : rtQ M E e < 9007199254740992) (hge : e = -1074 ∨ 4503599627370496 ≤ rtQ M E e) :
    (R : Int) = (e + 1074) * 4503599627370496 + (if (!rtZ M E e && (decide (rtH M E e = 1) || (decide (rtH M E e = 0) && decide (rtQ M E e % 2 = 1)))) then (rtQ M E e : Int) + 1 else rtQ M E e) := by
  have hl := LP_eq
  have hge2 : 4503599627370496 ≤ rtQ M E e := by
    rcases hge with rfl | h
    · exfalso
      have := rtQ_low (M := M) (E := E) (e := -1074) (k := 53) hM (by have := (blen_pos hM).2.2; omega)
      omega
    · exact h
  obtain ⟨g1, g2⟩ := rootQ_spec (rtN M E e) (rtD E e) (rtD_pos _ _)
  have hv : rtN M E e * 2^(2 * (e + LP).toNat) = rtD E e * (n * 2^(2 * H)) := by
    rw [hval]
    unfold rtN rtD
    rw [Nat.one_mul, Nat.mul_assoc M, ← Nat.pow_add, Nat.mul_assoc M, ← Nat.pow_add, Nat.mul_left_comm, ← Nat.pow_add]
    congr 2
    omega
  have h := root_round (rtD_pos E e) h1 h2 hn hv hH hR g1 g2 hlt hge2
  have e1 : decide (rtH M E e = 1) = decide ((2 * rtQ M E e + 1) * (2 * rtQ M E e + 1) * rtD E e < 4 * rtN M E e) := by
    congr 1
    unfold rtH ncmp
    rw [Nat.mul_comm (rtN M E e) 4]
    obtain ⟨x, hx⟩ : ∃ x, x = 4 * rtN M E e := ⟨_, rfl⟩
    obtain ⟨y, hy⟩ : ∃ y, y = (2 * rtQ M E e + 1) * (2 * rtQ M E e + 1) * rtD E e := ⟨_, rfl⟩
    rw [← hx, ← hy]
    rcases Nat.lt_trichotomy x y with g | g | g
    · rw [if_pos g]; simp; omega
    · rw [if_neg (by omega), if_neg (by omega)]; simp; omega
    · rw [if_neg (by omega), if_pos g]; simp; omega
  have e2 : decide (rtH M E e = 0) = decide ((2 * rtQ M E e + 1) * (2 * rtQ M E e + 1) * rtD E e = 4 * rtN M E e) := by
    congr 1
    unfold rtH
    rw [Nat.mul_comm (rtN M E e) 4]
    refine propext (Iff.trans (ncmp_zero _ _) ⟨fun h => h.symm, fun h => h.symm⟩)
  have e3 : rtQ M E e = rootQ (rtN M E e) (rtD E e) := rfl
  rw [e1, e2]
  unfold rtZ
  rw [h, e3]
  have e4 : ((e + LP).toNat : Int) = e + 1074 := by omega
  rw [← e4]
  split <;> omega
end Go.Proofs.YtiimjbpfdidgcaaGreatDoor
