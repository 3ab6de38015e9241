/- Parts Ya, Yb, Yc of the proof, in one text. -/
import Derived.Test.YtiimjbpfdidgcaaDoorHY
import Derived.Test.YtiimjbpfdidgcaaDoorIJ
import Derived.Test.YtiimjbpfdidgcaaDoorJE
import Derived.Test.YtiimjbpfdidgcaaDoorID

/- Walks: of the law TableFollows: exact, minus, nothing. -/
namespace Go.Proofs.YtiimjbpfdidgcaaDoor
open Go.RowKit

/-- A term of a number, where it is finite. -/
def ExactQ (b : Nat) (w : World) (e : Ending) (w' : World) : Prop := ∃ (n : Bool) (s : Value) (E : Int), e = .returned (.tuple #[.agg #[.bool n, s, .int .i64 E], .bool (finB b)]) ∧ (∃ a m c, s = .slice a m c) ∧ (finB b = true → n = spS b ∧ E = spE b ∧ Num .u32 4294967296 w' s (spM b)) ∧ Below w.heap.size w w'

theorem term_row_tmp {fn : Func} {p u : Tmp} (h : fn.results = #[.cell p 48, .tmp u]) (tmps : Array Value) (w : World) (g : Nat) (x y z : Value)
    (hp : tmps.getD p undef = .pointer (some ⟨g, 0, none⟩)) (hg : w.heap[g]? = some (.cells #[x, y, z] 48 (0, 0))) : (results fn tmps).run Tryd.prog w = .ok (.tuple #[.agg #[x, y, z], tmps.getD u undef]) w := by
  have hp' : tmps[p]?.getD undef = .pointer (some ⟨g, 0, none⟩) := by simpa using hp
  rw [results_cell_tmp h]
  simp [hp', asAddr, run_loadVar_row (P := Tryd.prog) w g _ 48 #[x, y, z] (0, 0) _ hg Tryd.underlying48 rfl (by kernel_rfl), Result.andThen]

set_option maxHeartbeats 1000000 in
set_option maxRecDepth 100000 in
theorem exact_any (b : Nat) (w : World) (hb : W64 b) : Calls Tryd.prog 32 #[.float .f64 b] w (ExactQ b w) := by
  have HOF : Hid (∀ W, Calls Tryd.prog 54 #[.int .u64 b] W (TermQ (spS b) (spM b) (spE b) W)) := fun W => r7_of b W hb
  have HFI : Hid (∀ W, Calls Tryd.prog 68 #[.int .u64 b] W fun e w' => e = .returned (.bool (finB b)) ∧ W = w') := fun W => ref_finite b W hb
  have hrow := heap_alloc_new w (.cells #[.bool false, .slice none 0 0, .int .i64 0] 48)
  unfold ExactQ
  clear hb
  cases hf : finB b
  · rw [hf] at HFI
    have HRO : Hid _ := hrow
    clear hrow
    go_enter Tryd.func32, Tryd.ntmps32
    go_wp2_with (go_at_call 68; with_reducible refine (HFI.out _).mono ?_; rintro e w' ⟨rfl, rfl⟩)
    refine bodyPost_ret (term_row_tmp rfl _ _ w.heap.size _ _ _ rfl HRO.out) rfl ⟨_, _, _, rfl, ⟨_, _, _, rfl⟩, (fun h => by cases h), ?_⟩
    exact (Below.refl _ _).alloc (Nat.le_refl _) _
  · rw [hf] at HFI
    have HRO : Hid _ := hrow
    clear hrow
    go_enter Tryd.func32, Tryd.ntmps32
    go_wp2_with (go_at_call 68; with_reducible refine (HFI.out _).mono ?_; rintro e w' ⟨rfl, rfl⟩)
    refine (HOF.out _).mono ?_
    rintro e w' ⟨v, rfl, ⟨s, rfl, hnum⟩, hb⟩
    obtain ⟨s1, s2, s3, rfl⟩ := hnum.shape
    have hrow := hb.blk HRO.out (by simp)
    obtain ⟨⟨a0, a1⟩, a2, a3, a4⟩ := wr3' hrow
    have b0 := fun u => (a2 u).1
    have b1 := fun u => (a2 u).2
    have b2 := fun u v => (a3 u v).1
    have b3 := fun u v => (a3 u v).2
    have A4 : Hid _ := a4
    have HR : Hid _ := hrow
    have HN : Hid (Num .u32 4294967296 w' (.slice s1 s2 s3) (spM b)) := hnum
    have HBW : Hid (Below w.heap.size w w') := ((Below.refl _ _).alloc (Nat.le_refl _) _).trans (hb.mono (by simp))
    clear a2 a3 a4 hrow hnum hb
    go_wp2
    refine bodyPost_ret (term_row_tmp rfl _ _ w.heap.size _ _ _ rfl (A4.out _ _ _)) rfl ⟨_, _, _, rfl, ⟨_, _, _, rfl⟩, (fun _ => ⟨rfl, rfl, HN.out.set3 HR.out _ _ _⟩), ((HBW.out.setCell (Nat.le_refl _) _).setCell (Nat.le_refl _) _).setCell (Nat.le_refl _) _⟩

set_option maxHeartbeats 1000000 in
set_option maxRecDepth 100000 in
theorem lminus_core (n k : Bool) (hnk : (!n) = k) (a : Option Addr) (m c : Nat) (E : Int) (w : World) :
    Calls Tryd.prog 34 #[.agg #[.bool n, .slice a m c, .int .i64 E]] w fun e w' => e = .returned (.agg #[.bool k, .slice a m c, .int .i64 E]) ∧ Below w.heap.size w w' := by
  have q0 := heap_alloc2_old w (.cells #[.bool n, .slice a m c, .int .i64 E] 48) (.cells #[.bool false, .slice none 0 0, .int .i64 0] 48)
  have q1 := heap_alloc2_new w (.cells #[.bool n, .slice a m c, .int .i64 E] 48) (.cells #[.bool false, .slice none 0 0, .int .i64 0] 48)
  have hbw : Below w.heap.size w ((w.alloc (.cells #[.bool n, .slice a m c, .int .i64 E] 48)).alloc (.cells #[.bool false, .slice none 0 0, .int .i64 0] 48)) := ((Below.refl _ _).alloc (Nat.le_refl _) _).alloc (by simp) _
  go_enter Tryd.func34, Tryd.ntmps34
  go_upto_region 1 with fail
  generalize ((w.alloc (.cells #[.bool n, .slice a m c, .int .i64 E] 48)).alloc (.cells #[.bool false, .slice none 0 0, .int .i64 0] 48)) = w1 at *
  have hx := heap_setCell_same w1 w.heap.size 0 _ _ (.bool k) q0
  have c0 := cell_of_row w1 _ 0 _ _ _ q0
  have c1 := frozen_of_row w1 _ 0 _ _ q0
  have d0 := cell_of_row _ _ 0 _ _ _ hx
  have d1 := cell_of_row _ _ 1 _ _ _ hx
  have d2 := cell_of_row _ _ 2 _ _ _ hx
  have hy : (w1.setCell ⟨w.heap.size, 0, none⟩ (.bool k)).heap[w.heap.size + 1]? = _ := (heap_setCell_other _ _ _ _ (by simp)).trans q1
  obtain ⟨⟨a0, a1⟩, a2, a3, a4⟩ := wr3' hy
  have b0 := fun u => (a2 u).1
  have b1 := fun u => (a2 u).2
  have b2 := fun u v => (a3 u v).1
  have b3 := fun u v => (a3 u v).2
  have A4 : Hid _ := a4
  have HBW : Hid _ := hbw
  clear a2 a3 a4 hx hy q0 q1 hbw
  go_wp2
  refine bodyPost_ret (term_row rfl _ _ (w.heap.size + 1) _ _ _ rfl (A4.out _ _ _)) rfl ⟨rfl, ?_⟩
  exact (((HBW.out.setCell (by simp) _).setCell (by simp) _).setCell (by simp) _).setCell (by simp) _

theorem lminus_any (n : Bool) (a : Option Addr) (m c : Nat) (E : Int) (w : World) :
    Calls Tryd.prog 34 #[.agg #[.bool n, .slice a m c, .int .i64 E]] w fun e w' => e = .returned (.agg #[.bool (!n), .slice a m c, .int .i64 E]) ∧ Below w.heap.size w w' := lminus_core n _ rfl a m c E w

def sumV (Vs : Nat → Int) : Nat → Int
  | 0 => 0
  | k + 1 => sumV Vs k + Vs k
theorem sumV_lt (Vs : Nat → Int) (bb : Nat) (h : ∀ i, (Vs i).natAbs < 2^bb) : ∀ k, (sumV Vs k).natAbs < 2^(bb + k)
  | 0 => by show (0 : Int).natAbs < _; exact Nat.two_pow_pos _
  | k + 1 => by
    have h1 := sumV_lt Vs bb h k
    have h2 := h k
    have h3 : 2^bb ≤ 2^(bb + k) := Nat.pow_le_pow_right (by decide) (by omega)
    have h4 : 2^(bb + (k + 1)) = 2^(bb + k) * 2 := Nat.pow_succ ..
    show (sumV Vs k + Vs k).natAbs < _
    omega
/-- A term's three cells. -/
def TermAt (w : World) (b o : Nat) (V : Int) : Prop := ∃ (neg : Bool) (a : Option Addr) (m c : Nat) (E : Int) (M : Nat), w.cell? ⟨b, o, none⟩ = some (.bool neg) ∧ w.cell? ⟨b, o + 1, none⟩ = some (.slice a m c) ∧ w.cell? ⟨b, o + 2, none⟩ = some (.int .i64 E) ∧
  Num .u32 4294967296 w (.slice a m c) M ∧ -1074 ≤ E ∧ E ≤ 972 ∧ sg neg (M * 2^(E + LP).toNat) = V
def NInv (g : Nat) (w wr : World) (V : Int) : Prop := ∃ (neg : Bool) (a : Option Addr) (m c : Nat) (E : Int) (M : Nat), wr.heap[g]? = some (.cells #[.bool neg, .slice a m c, .int .i64 E] 48 (0, 0)) ∧
  Num .u32 4294967296 wr (.slice a m c) M ∧ -1074 ≤ E ∧ E ≤ 972 ∧ sg neg (M * 2^(E + LP).toNat) = V ∧ Below g w wr
theorem mag_lt {neg : Bool} {M x bb : Nat} {V : Int} (h : sg neg (M * 2^x) = V) (hV : V.natAbs < 2^bb) : M < 2^bb := by
  rw [← h, sg_natAbs] at hV
  exact Nat.lt_of_le_of_lt (Nat.le_mul_of_pos_right _ (Nat.two_pow_pos _)) hV
end Go.Proofs.YtiimjbpfdidgcaaDoor

/- Walks: of the law TableFollows: nothing. -/
namespace Go.Proofs.YtiimjbpfdidgcaaDoor
open Go.RowKit

set_option maxHeartbeats 1000000 in
set_option maxRecDepth 100000 in
theorem nothing_any (Vs : Nat → Int) (b n c bb : Nat) (w : World) (hT : ∀ i, i < n → TermAt w b (i * 3) (Vs i)) (hV : ∀ i, (Vs i).natAbs < 2^bb) (hb : b < w.heap.size) (hn : n ≤ 4) (hc : n ≤ c) (hcc : c ≤ 4611686018427387904) (hbb : bb ≤ 100000) :
    Calls Tryd.prog 33 #[.slice (some ⟨b, 0, none⟩) n c] w fun e w' => e = .returned (.bool (decide (sumV Vs n = 0))) ∧ Below w.heap.size w w' := by
  have HT : Hid (∀ i, i < n → TermAt w b (i * 3) (Vs i)) := hT
  have HV : Hid (∀ k, k ≤ n → (sumV Vs k).natAbs < 2^(bb + 4) ∧ (Vs k).natAbs < 2^(bb + 4)) := fun k hk =>
    ⟨Nat.lt_of_lt_of_le (sumV_lt Vs bb hV k) (Nat.pow_le_pow_right (by decide) (by omega)), Nat.lt_of_lt_of_le (hV k) (Nat.pow_le_pow_right (by decide) (by omega))⟩
  have hrow := heap_alloc_new w (.cells #[.bool false, .slice none 0 0, .int .i64 0] 48)
  have hst : NInv w.heap.size w (w.alloc (.cells #[.bool false, .slice none 0 0, .int .i64 0] 48)) (sumV Vs 0) :=
    ⟨false, none, 0, 0, 0, 0, hrow, ⟨[], ⟨none, 0, 0, rfl, rfl, by simp, by simp, by simp, by simp⟩, rfl, by simp [Norm]⟩, by omega, by omega, by unfold sg sumV; simp, (Below.refl _ _).alloc (Nat.le_refl _) _⟩
  have HST : Hid _ := hst
  clear hT hV hrow hst
  go_enter Tryd.func33, Tryd.ntmps33
  go_wp2_with fail
  go_loopw [4] (fun i wr => ∃ k : Nat, k ≤ n ∧ i = .int .i64 (k : Nat) ∧ Hid (NInv w.heap.size w wr (sumV Vs k))) (fun i _ => n - (intOf i).toNat)
  case atStart => exact ⟨0, Nat.zero_le _, rfl, HST.out⟩
  case round =>
    obtain ⟨k, hk, rfl, hinv⟩ := hrel
    obtain ⟨neg, a, m, c1, E, M, hrow, hnum, hE1, hE2, hval, hbel⟩ := hinv.out
    clear hinv HST
    have hgr := (Array.getElem?_eq_some_iff.mp hrow).1
    rcases Nat.lt_or_ge k n with hlt | hge
    · obtain ⟨neg', a', m', c', F, N, y0, y1, y2, hnum', hF1, hF2, hval'⟩ := HT.out k hlt
      obtain ⟨G, hG⟩ : ∃ G, min E F = G := ⟨_, rfl⟩
      have HSUM : Hid (∀ W, Below wr.heap.size wr W → Calls Tryd.prog 63 #[.agg #[.bool neg, .slice a m c1, .int .i64 E], .agg #[.bool neg', .slice a' m' c', .int .i64 F]] W
          fun e w' => ∃ (s : Bool) (p : Option Addr) (q r : Nat) (Z : Nat), e = .returned (.agg #[.bool s, .slice p q r, .int .i64 G]) ∧ Num .u32 4294967296 w' (.slice p q r) Z ∧ sg s (Z * 2^(G + LP).toNat) = sumV Vs (k + 1) ∧ Below W.heap.size W w') := fun W hW => by
        have h1 : Term W (.agg #[.bool neg, .slice a m c1, .int .i64 E]) neg M E := ⟨_, rfl, hnum.below (Nat.le_refl _) hW⟩
        have h2 : Term W (.agg #[.bool neg', .slice a' m' c', .int .i64 F]) neg' N F := ⟨_, rfl, (hnum'.below (Nat.le_refl _) hbel).below (Nat.le_refl _) hW⟩
        refine (r7_sum _ _ neg neg' M N E F G W h1 h2 (bb := bb + 4) (mag_lt hval (HV.out k hk).1) (mag_lt hval' (HV.out k hk).2) (by omega) (by omega) (by omega) hG).mono ?_
        rintro e w' ⟨v, rfl, ⟨s, rfl, hs⟩, hb⟩
        obtain ⟨p, q, r, rfl⟩ := hs.shape
        refine ⟨_, p, q, r, _, rfl, hs, ?_, hb⟩
        rw [tsum_val neg neg' M N hG (by omega) (by omega), hval, hval']; rfl
      have hGr : -1074 ≤ G ∧ G ≤ 972 := by omega
      have x0 := cell_of_row wr _ 0 _ _ _ hrow
      have x1 := cell_of_row wr _ 1 _ _ _ hrow
      have x2 := cell_of_row wr _ 2 _ _ _ hrow
      have z0 : wr.cell? ⟨b, k * 3, none⟩ = some (.bool neg') := by rw [hbel.cell (by exact hb)]; exact y0
      have z1 : wr.cell? ⟨b, k * 3 + 1, none⟩ = some (.slice a' m' c') := by rw [hbel.cell (by exact hb)]; exact y1
      have z2 : wr.cell? ⟨b, k * 3 + 2, none⟩ = some (.int .i64 F) := by rw [hbel.cell (by exact hb)]; exact y2
      have HROW0 : Hid _ := hrow
      have HB : Hid (Below w.heap.size w wr) := hbel
      have HGR : Hid (w.heap.size < wr.heap.size) := hgr
      have HG : Hid (-1074 ≤ G ∧ G ≤ 972) := hGr
      have hbs : Below w.heap.size wr wr := Below.refl _ _
      have hbr : Below wr.heap.size wr wr := Below.refl _ _
      clear hnum hnum' hE1 hE2 hF1 hF2 hval hval' hG hGr hrow hbel y0 y1 y2 hbb
      go_upto_region 5 with fail
      go_region_with
        (first | (go_at_call 63; (with_reducible refine (HSUM.out _ (by first | assumption | exact Below.drew (by assumption))).mono ?_); rintro e w7 ⟨s0, p0, q0, r0, Z, rfl, hnum, hval, hb⟩; have hB2 : Below w.heap.size wr w7 := Below.trans (by first | assumption | exact Below.drew (by assumption) : Below w.heap.size wr _) (hb.mono (by have := HGR.out; simp; omega)); have hrow : w7.heap[w.heap.size]? = some (.cells #[.bool neg, .slice a m c1, .int .i64 E] 48 (0, 0)) := Below.blk hb HROW0.out (by have := HGR.out; simp; omega); obtain ⟨⟨a0, a1⟩, a2, a3, a4⟩ := wr3' hrow; have b0 := fun u => (a2 u).1; have b1 := fun u => (a2 u).2; have b2 := fun u v => (a3 u v).1; have b3 := fun u v => (a3 u v).2; have A4 : Hid _ := a4; have HROW : Hid _ := hrow; have HNUM : Hid _ := hnum; have HVAL : Hid _ := hval; have HBB : Hid (Below w.heap.size wr w7) := hB2; clear a2 a3 a4 hrow hnum hb hval))
      all_goals
        go_wp2_with fail
        go_roundw
        case rel => exact ⟨k + 1, by omega, by go_num, s0, p0, q0, r0, G, Z, A4.out _ _ _, Num.set3 HNUM.out HROW.out _ _ _, HG.out.1, HG.out.2, HVAL.out, (((HB.out.trans HBB.out).setCell (Nat.le_refl _) _).setCell (Nat.le_refl _) _).setCell (Nat.le_refl _) _⟩
        case measure => simp [intOf]; omega
    · obtain rfl : k = n := by omega
      obtain ⟨⟨a0, a1⟩, a2, a3, a4⟩ := wr3' hrow
      have x1 := cell_of_row wr _ 1 _ _ _ hrow
      have hz := (term_zero hval).symm.trans (Num.len hnum (by decide))
      have HZ : Hid (decide (sumV Vs k = 0) = decide (m = 0)) := decide_eq_decide.2 hz
      have HB : Hid _ := hbel
      clear a2 a3 a4 hrow hnum hbel hval hz
      go_wp2
      go_ret
      refine ⟨?_, HB.out⟩
      show Ending.returned (Value.bool ((m : Int) == 0)) = _
      rw [HZ.out, show ((m : Int) == 0) = decide (m = 0) by rw [Bool.eq_iff_iff]; simp]
end Go.Proofs.YtiimjbpfdidgcaaDoor

/- Walks: what the law TableFollows calls, each answer named. -/
namespace Go.Proofs.YtiimjbpfdidgcaaDoor
open Go.RowKit

theorem lroot_ex (a : Nat) (ha : W64 a) : ∃ S, finB a = true → zeroB a = false → sgnB a = false → RootR a S := by
  by_cases h : finB a = true ∧ zeroB a = false ∧ sgnB a = false
  · obtain ⟨n, w, H, R, h1⟩ := sqrt_D a ha h.1 h.2.2 h.2.1
    exact ⟨R, fun _ _ _ => ⟨n, w, H, h1⟩⟩
  · exact ⟨0, fun h1 h2 h3 => absurd ⟨h1, h2, h3⟩ h⟩
theorem lmod_ex (a b : Nat) : ∃ r R, finB a = true → finB b = true → zeroB b = false → ModR a b r R := by
  by_cases h : finB a = true ∧ finB b = true ∧ zeroB b = false
  · obtain ⟨r, R, h1⟩ := mod_ex2 a b h.1 h.2.1 h.2.2
    exact ⟨r, R, fun _ _ _ => h1⟩
  · exact ⟨0, 0, fun h1 h2 h3 => absurd ⟨h1, h2, h3⟩ h⟩
theorem neg_val (y : Nat) (fy : finB y = true) : finB (negR y) = true ∧ valB (negR y) = -valB y := by
  have ny : nanB y = false := by rw [finB_eq] at fy; revert fy; cases nanB y <;> simp
  unfold negR
  rw [ny]
  simp only [Bool.false_eq_true, if_false]
  refine ⟨?_, ?_⟩
  · unfold finB at fy ⊢; rw [flip_abs]; exact fy
  · unfold valB; rw [flip_sgn, flip_abs]; cases sgnB y <;> simp

def BQ : Nat := 2098
theorem BQ_eq : BQ = 2098 := rfl
theorem val_lt (z : Nat) (fz : finB z = true) : (valB z).natAbs < 2^BQ := by
  rw [valB_abs']
  have h := rv_lt (p := 52) (finB_lt' z fz)
  rwa [pow_rv' 9218868437227405312 2046 BQ (by decide) (by rw [BQ_eq])] at h
theorem sg_not' (s : Bool) (n : Nat) : sg (!s) n = -sg s n := by unfold sg; cases s <;> simp
def ExF (z : Nat) (n : Bool) (E : Int) (M : Nat) : Prop := -1074 ≤ E ∧ E ≤ 972 ∧ sg n (M * 2^(E + LP).toNat) = valB z
theorem mulB_W (a b R : Nat) : W64 (mulB a b R) := by
  unfold mulB resB W64
  have h := sgW_le (sgnB a != sgnB b)
  repeat' split
  all_goals first | decide | omega
theorem one_W (b : Nat) (h : W64 b) : W64 (oneB b) := by
  unfold oneB
  split
  · unfold W64 theNaN; decide
  · exact h
theorem exact_fin (z : Nat) (hz : W64 z) (fz : finB z = true) : ∃ n E M, ExF z n E M ∧ ∀ W, Calls Tryd.prog 32 #[.float .f64 z] W fun e w' => ∃ (a : Option Addr) (m c : Nat), e = .returned (.tuple #[.agg #[.bool n, .slice a m c, .int .i64 E], .bool true]) ∧ Num .u32 4294967296 w' (.slice a m c) M ∧ Below W.heap.size W w' := by
  have hr := spE_range z
  refine ⟨spS z, spE z, spM z, ⟨hr.1, hr.2, (valB_sp z fz).symm⟩, fun W => (exact_any z W hz).mono ?_⟩
  rintro e w' ⟨n, s, E, rfl, ⟨a, m, c, rfl⟩, h, hb⟩
  rw [fz] at h ⊢
  obtain ⟨rfl, rfl, hn⟩ := h rfl
  exact ⟨a, m, c, rfl, hn, hb⟩
theorem exact_not (z : Nat) (W : World) (hz : W64 z) (fz : finB z = false) : Calls Tryd.prog 32 #[.float .f64 z] W fun e w' => ∃ (n : Bool) (E : Int) (a : Option Addr) (m c : Nat), e = .returned (.tuple #[.agg #[.bool n, .slice a m c, .int .i64 E], .bool false]) ∧ Below W.heap.size W w' := by
  refine (exact_any z W hz).mono ?_
  rintro e w' ⟨n, s, E, rfl, ⟨a, m, c, rfl⟩, -, hb⟩
  rw [fz]
  exact ⟨n, E, a, m, c, rfl, hb⟩

/-- A block of terms. -/
theorem term_at {W : World} {b o : Nat} {cs : Array Value} {t : TypeId} {fr : Nat × Nat} {n : Bool} {a : Option Addr} {m c : Nat} {E : Int} {M : Nat} {V : Int} (h : W.heap[b]? = some (.cells cs t fr)) (h0 : cs[o]? = some (.bool n)) (h1 : cs[o + 1]? = some (.slice a m c)) (h2 : cs[o + 2]? = some (.int .i64 E))
    (hn : Num .u32 4294967296 W (.slice a m c) M) (hE : -1074 ≤ E ∧ E ≤ 972) (hv : sg n (M * 2^(E + LP).toNat) = V) : TermAt W b o V :=
  ⟨n, a, m, c, E, M, by rw [cell_of_row W b o _ _ _ h]; exact h0, by rw [cell_of_row W b (o + 1) _ _ _ h]; exact h1, by rw [cell_of_row W b (o + 2) _ _ _ h]; exact h2, hn, hE.1, hE.2, hv⟩

/-- What the test for nearness leaves, where it doesn't end the law. -/
def NearL (X Y : Nat) : Prop := sgnB X = sgnB Y ∧ ∃ hx hy, Near 52 (rv 52 (absB X)) 2 hx ∧ Near 52 (rv 52 (absB Y)) 2 hy ∧ hx ≤ absB Y ∧ hy ≤ absB X

/-- The sum and its rest. -/
theorem split_ex (x y R : Nat) (hx : W64 x) (hy : W64 y) (fx : finB x = true) (fy : finB y = true) (hR : Near 52 (valB x + valB y).natAbs 1 R) : ∃ (q : Nat) (g : Nat) (l : Int),
    (∀ W, Tab9 W 1 totZ → Calls Tryd.prog 27 #[.float .f64 x, .float .f64 y] W fun e w' => e = .returned (.tuple #[.float .f64 g, .float .f64 q, .int .i64 l]) ∧ Below W.heap.size W w') ∧
    (l = 15 ∨ l = 0 ∧ g = addB x y R ∧ W64 g ∧ finB g = true ∧ W64 q ∧ finB q = true ∧ valB q = valB x + valB y - valB g) := by
  by_cases hlt : R < 9218868437227405312
  · obtain ⟨-, -, r, -, -, -, g4, g5⟩ := split_D x y R hx hy fx fy hR hlt
    obtain ⟨k1, k2, k3⟩ := rest_val x y (addB x y R) r g4 g5
    obtain ⟨s1, s2, s3, s4⟩ := add_val x y R fx fy hR hlt
    refine ⟨restB x y (addB x y R) r, addB x y R, 0, fun W hT => ?_, .inr ⟨rfl, rfl, s1, s2, k1, k2, k3⟩⟩
    obtain ⟨r', h1, h2, h3⟩ := tsplit_fin x y R W hx hy fx fy hT hR hlt
    have : r' = r := rv_inj (p := 52) (by rw [h2, g5])
    subst this
    exact h3
  · exact ⟨0, 0, 15, fun W hT => tsplit_over x y R W hx hy fx fy hT hR hlt, .inl rfl⟩

/-- The root of a square. -/
theorem sqr_root (x Z S : Nat) (fx : finB x = true) (hZ : Near 52 (rv 52 (absB x) * rv 52 (absB x)) (2^LP) Z) (hS : finB (mulB x x Z) = true → zeroB (mulB x x Z) = false → sgnB (mulB x x Z) = false → RootR (mulB x x Z) S) :
    mulB x x Z < 9218868437227405312 ∧ (mulX x x Z = 0 → 4503599627370496 ≤ mulB x x Z → 4503599627370496 ≤ absB x → rootB (mulB x x Z) S = absB x ∧ rootX (mulB x x Z) S = 0) := by
  have na : nanB x = false ∧ infB x = false := by rw [finB_eq] at fx; simpa using fx
  have hb : mulB x x Z = if zeroB x then 0 else if Z < 9218868437227405312 then Z else 0 := by
    unfold mulB resB
    simp only [na.1, na.2, Bool.or_self, Bool.false_eq_true, if_false, bne_self_eq_false]
    cases zeroB x <;> simp [sgW]
  have hlt : mulB x x Z < 9218868437227405312 := by
    rw [hb]; split
    · decide
    · split
      · assumption
      · decide
  refine ⟨hlt, fun _ h2 h3 => ?_⟩
  have hZz : mulB x x Z = Z ∧ Z < 9218868437227405312 := by
    rw [hb] at h2 ⊢
    cases hz : zeroB x
    · rw [hz, if_neg (by decide)] at h2
      rw [if_neg (by decide)]
      by_cases hc : Z < 9218868437227405312
      · rw [if_pos hc]; exact ⟨rfl, hc⟩
      · rw [if_neg hc] at h2; omega
    · rw [hz, if_pos rfl] at h2; omega
  obtain ⟨e, hZ1⟩ := hZz
  rw [e] at h2 hS ⊢
  have aZ : absB Z = Z := by unfold absB; omega
  have sZ : sgnB Z = false := by unfold sgnB; simp; omega
  have fZ : finB Z = true := by unfold finB; rw [aZ]; simpa using hZ1
  have zZ : zeroB Z = false := by unfold zeroB; rw [aZ]; simp; omega
  have nZ : nanB Z = false ∧ infB Z = false := by rw [finB_eq] at fZ; simpa using fZ
  have hSx := square_root (absB x) Z S h3 (finB_lt' x fx) hZ h2 hZ1 (hS fZ zZ sZ)
  have lS : S < 9218868437227405312 := by rw [hSx]; exact finB_lt' x fx
  unfold rootB rootX resB resX
  simp only [nZ.1, nZ.2, zZ, sZ, Bool.false_eq_true, if_false, if_pos lS]
  exact ⟨by rw [hSx]; simp [sgW], trivial⟩
set_option maxRecDepth 100000 in
/-- A frame written out. -/
theorem spread333 (fr : Array Value) (h : fr.size = 333) : fr = #[fr.getD 0 undef, fr.getD 1 undef, fr.getD 2 undef, fr.getD 3 undef, fr.getD 4 undef, fr.getD 5 undef, fr.getD 6 undef, fr.getD 7 undef, fr.getD 8 undef, fr.getD 9 undef, fr.getD 10 undef, fr.getD 11 undef, fr.getD 12 undef, fr.getD 13 undef, fr.getD 14 undef, fr.getD 15 undef, fr.getD 16 undef, fr.getD 17 undef, fr.getD 18 undef, fr.getD 19 undef, fr.getD 20 undef, fr.getD 21 undef, fr.getD 22 undef, fr.getD 23 undef, fr.getD 24 undef, fr.getD 25 undef, fr.getD 26 undef, fr.getD 27 undef, fr.getD 28 undef, fr.getD 29 undef, fr.getD 30 undef, fr.getD 31 undef, fr.getD 32 undef, fr.getD 33 undef, fr.getD 34 undef, fr.getD 35 undef, fr.getD 36 undef, fr.getD 37 undef, fr.getD 38 undef, fr.getD 39 undef, fr.getD 40 undef, fr.getD 41 undef, fr.getD 42 undef, fr.getD 43 undef, fr.getD 44 undef, fr.getD 45 undef, fr.getD 46 undef, fr.getD 47 undef, fr.getD 48 undef, fr.getD 49 undef, fr.getD 50 undef, fr.getD 51 undef, fr.getD 52 undef, fr.getD 53 undef, fr.getD 54 undef, fr.getD 55 undef, fr.getD 56 undef, fr.getD 57 undef, fr.getD 58 undef, fr.getD 59 undef, fr.getD 60 undef, fr.getD 61 undef, fr.getD 62 undef, fr.getD 63 undef, fr.getD 64 undef, fr.getD 65 undef, fr.getD 66 undef, fr.getD 67 undef, fr.getD 68 undef, fr.getD 69 undef, fr.getD 70 undef, fr.getD 71 undef, fr.getD 72 undef, fr.getD 73 undef, fr.getD 74 undef, fr.getD 75 undef, fr.getD 76 undef, fr.getD 77 undef, fr.getD 78 undef, fr.getD 79 undef, fr.getD 80 undef, fr.getD 81 undef, fr.getD 82 undef, fr.getD 83 undef, fr.getD 84 undef, fr.getD 85 undef, fr.getD 86 undef, fr.getD 87 undef, fr.getD 88 undef, fr.getD 89 undef, fr.getD 90 undef, fr.getD 91 undef, fr.getD 92 undef, fr.getD 93 undef, fr.getD 94 undef, fr.getD 95 undef, fr.getD 96 undef, fr.getD 97 undef, fr.getD 98 undef, fr.getD 99 undef, fr.getD 100 undef, fr.getD 101 undef, fr.getD 102 undef, fr.getD 103 undef, fr.getD 104 undef, fr.getD 105 undef, fr.getD 106 undef, fr.getD 107 undef, fr.getD 108 undef, fr.getD 109 undef, fr.getD 110 undef, fr.getD 111 undef, fr.getD 112 undef, fr.getD 113 undef, fr.getD 114 undef, fr.getD 115 undef, fr.getD 116 undef, fr.getD 117 undef, fr.getD 118 undef, fr.getD 119 undef, fr.getD 120 undef, fr.getD 121 undef, fr.getD 122 undef, fr.getD 123 undef, fr.getD 124 undef, fr.getD 125 undef, fr.getD 126 undef, fr.getD 127 undef, fr.getD 128 undef, fr.getD 129 undef, fr.getD 130 undef, fr.getD 131 undef, fr.getD 132 undef, fr.getD 133 undef, fr.getD 134 undef, fr.getD 135 undef, fr.getD 136 undef, fr.getD 137 undef, fr.getD 138 undef, fr.getD 139 undef, fr.getD 140 undef, fr.getD 141 undef, fr.getD 142 undef, fr.getD 143 undef, fr.getD 144 undef, fr.getD 145 undef, fr.getD 146 undef, fr.getD 147 undef, fr.getD 148 undef, fr.getD 149 undef, fr.getD 150 undef, fr.getD 151 undef, fr.getD 152 undef, fr.getD 153 undef, fr.getD 154 undef, fr.getD 155 undef, fr.getD 156 undef, fr.getD 157 undef, fr.getD 158 undef, fr.getD 159 undef, fr.getD 160 undef, fr.getD 161 undef, fr.getD 162 undef, fr.getD 163 undef, fr.getD 164 undef, fr.getD 165 undef, fr.getD 166 undef, fr.getD 167 undef, fr.getD 168 undef, fr.getD 169 undef, fr.getD 170 undef, fr.getD 171 undef, fr.getD 172 undef, fr.getD 173 undef, fr.getD 174 undef, fr.getD 175 undef, fr.getD 176 undef, fr.getD 177 undef, fr.getD 178 undef, fr.getD 179 undef, fr.getD 180 undef, fr.getD 181 undef, fr.getD 182 undef, fr.getD 183 undef, fr.getD 184 undef, fr.getD 185 undef, fr.getD 186 undef, fr.getD 187 undef, fr.getD 188 undef, fr.getD 189 undef, fr.getD 190 undef, fr.getD 191 undef, fr.getD 192 undef, fr.getD 193 undef, fr.getD 194 undef, fr.getD 195 undef, fr.getD 196 undef, fr.getD 197 undef, fr.getD 198 undef, fr.getD 199 undef, fr.getD 200 undef, fr.getD 201 undef, fr.getD 202 undef, fr.getD 203 undef, fr.getD 204 undef, fr.getD 205 undef, fr.getD 206 undef, fr.getD 207 undef, fr.getD 208 undef, fr.getD 209 undef, fr.getD 210 undef, fr.getD 211 undef, fr.getD 212 undef, fr.getD 213 undef, fr.getD 214 undef, fr.getD 215 undef, fr.getD 216 undef, fr.getD 217 undef, fr.getD 218 undef, fr.getD 219 undef, fr.getD 220 undef, fr.getD 221 undef, fr.getD 222 undef, fr.getD 223 undef, fr.getD 224 undef, fr.getD 225 undef, fr.getD 226 undef, fr.getD 227 undef, fr.getD 228 undef, fr.getD 229 undef, fr.getD 230 undef, fr.getD 231 undef, fr.getD 232 undef, fr.getD 233 undef, fr.getD 234 undef, fr.getD 235 undef, fr.getD 236 undef, fr.getD 237 undef, fr.getD 238 undef, fr.getD 239 undef, fr.getD 240 undef, fr.getD 241 undef, fr.getD 242 undef, fr.getD 243 undef, fr.getD 244 undef, fr.getD 245 undef, fr.getD 246 undef, fr.getD 247 undef, fr.getD 248 undef, fr.getD 249 undef, fr.getD 250 undef, fr.getD 251 undef, fr.getD 252 undef, fr.getD 253 undef, fr.getD 254 undef, fr.getD 255 undef, fr.getD 256 undef, fr.getD 257 undef, fr.getD 258 undef, fr.getD 259 undef, fr.getD 260 undef, fr.getD 261 undef, fr.getD 262 undef, fr.getD 263 undef, fr.getD 264 undef, fr.getD 265 undef, fr.getD 266 undef, fr.getD 267 undef, fr.getD 268 undef, fr.getD 269 undef, fr.getD 270 undef, fr.getD 271 undef, fr.getD 272 undef, fr.getD 273 undef, fr.getD 274 undef, fr.getD 275 undef, fr.getD 276 undef, fr.getD 277 undef, fr.getD 278 undef, fr.getD 279 undef, fr.getD 280 undef, fr.getD 281 undef, fr.getD 282 undef, fr.getD 283 undef, fr.getD 284 undef, fr.getD 285 undef, fr.getD 286 undef, fr.getD 287 undef, fr.getD 288 undef, fr.getD 289 undef, fr.getD 290 undef, fr.getD 291 undef, fr.getD 292 undef, fr.getD 293 undef, fr.getD 294 undef, fr.getD 295 undef, fr.getD 296 undef, fr.getD 297 undef, fr.getD 298 undef, fr.getD 299 undef, fr.getD 300 undef, fr.getD 301 undef, fr.getD 302 undef, fr.getD 303 undef, fr.getD 304 undef, fr.getD 305 undef, fr.getD 306 undef, fr.getD 307 undef, fr.getD 308 undef, fr.getD 309 undef, fr.getD 310 undef, fr.getD 311 undef, fr.getD 312 undef, fr.getD 313 undef, fr.getD 314 undef, fr.getD 315 undef, fr.getD 316 undef, fr.getD 317 undef, fr.getD 318 undef, fr.getD 319 undef, fr.getD 320 undef, fr.getD 321 undef, fr.getD 322 undef, fr.getD 323 undef, fr.getD 324 undef, fr.getD 325 undef, fr.getD 326 undef, fr.getD 327 undef, fr.getD 328 undef, fr.getD 329 undef, fr.getD 330 undef, fr.getD 331 undef, fr.getD 332 undef] := by
  have e : (#[fr.getD 0 undef, fr.getD 1 undef, fr.getD 2 undef, fr.getD 3 undef, fr.getD 4 undef, fr.getD 5 undef, fr.getD 6 undef, fr.getD 7 undef, fr.getD 8 undef, fr.getD 9 undef, fr.getD 10 undef, fr.getD 11 undef, fr.getD 12 undef, fr.getD 13 undef, fr.getD 14 undef, fr.getD 15 undef, fr.getD 16 undef, fr.getD 17 undef, fr.getD 18 undef, fr.getD 19 undef, fr.getD 20 undef, fr.getD 21 undef, fr.getD 22 undef, fr.getD 23 undef, fr.getD 24 undef, fr.getD 25 undef, fr.getD 26 undef, fr.getD 27 undef, fr.getD 28 undef, fr.getD 29 undef, fr.getD 30 undef, fr.getD 31 undef, fr.getD 32 undef, fr.getD 33 undef, fr.getD 34 undef, fr.getD 35 undef, fr.getD 36 undef, fr.getD 37 undef, fr.getD 38 undef, fr.getD 39 undef, fr.getD 40 undef, fr.getD 41 undef, fr.getD 42 undef, fr.getD 43 undef, fr.getD 44 undef, fr.getD 45 undef, fr.getD 46 undef, fr.getD 47 undef, fr.getD 48 undef, fr.getD 49 undef, fr.getD 50 undef, fr.getD 51 undef, fr.getD 52 undef, fr.getD 53 undef, fr.getD 54 undef, fr.getD 55 undef, fr.getD 56 undef, fr.getD 57 undef, fr.getD 58 undef, fr.getD 59 undef, fr.getD 60 undef, fr.getD 61 undef, fr.getD 62 undef, fr.getD 63 undef, fr.getD 64 undef, fr.getD 65 undef, fr.getD 66 undef, fr.getD 67 undef, fr.getD 68 undef, fr.getD 69 undef, fr.getD 70 undef, fr.getD 71 undef, fr.getD 72 undef, fr.getD 73 undef, fr.getD 74 undef, fr.getD 75 undef, fr.getD 76 undef, fr.getD 77 undef, fr.getD 78 undef, fr.getD 79 undef, fr.getD 80 undef, fr.getD 81 undef, fr.getD 82 undef, fr.getD 83 undef, fr.getD 84 undef, fr.getD 85 undef, fr.getD 86 undef, fr.getD 87 undef, fr.getD 88 undef, fr.getD 89 undef, fr.getD 90 undef, fr.getD 91 undef, fr.getD 92 undef, fr.getD 93 undef, fr.getD 94 undef, fr.getD 95 undef, fr.getD 96 undef, fr.getD 97 undef, fr.getD 98 undef, fr.getD 99 undef, fr.getD 100 undef, fr.getD 101 undef, fr.getD 102 undef, fr.getD 103 undef, fr.getD 104 undef, fr.getD 105 undef, fr.getD 106 undef, fr.getD 107 undef, fr.getD 108 undef, fr.getD 109 undef, fr.getD 110 undef, fr.getD 111 undef, fr.getD 112 undef, fr.getD 113 undef, fr.getD 114 undef, fr.getD 115 undef, fr.getD 116 undef, fr.getD 117 undef, fr.getD 118 undef, fr.getD 119 undef, fr.getD 120 undef, fr.getD 121 undef, fr.getD 122 undef, fr.getD 123 undef, fr.getD 124 undef, fr.getD 125 undef, fr.getD 126 undef, fr.getD 127 undef, fr.getD 128 undef, fr.getD 129 undef, fr.getD 130 undef, fr.getD 131 undef, fr.getD 132 undef, fr.getD 133 undef, fr.getD 134 undef, fr.getD 135 undef, fr.getD 136 undef, fr.getD 137 undef, fr.getD 138 undef, fr.getD 139 undef, fr.getD 140 undef, fr.getD 141 undef, fr.getD 142 undef, fr.getD 143 undef, fr.getD 144 undef, fr.getD 145 undef, fr.getD 146 undef, fr.getD 147 undef, fr.getD 148 undef, fr.getD 149 undef, fr.getD 150 undef, fr.getD 151 undef, fr.getD 152 undef, fr.getD 153 undef, fr.getD 154 undef, fr.getD 155 undef, fr.getD 156 undef, fr.getD 157 undef, fr.getD 158 undef, fr.getD 159 undef, fr.getD 160 undef, fr.getD 161 undef, fr.getD 162 undef, fr.getD 163 undef, fr.getD 164 undef, fr.getD 165 undef, fr.getD 166 undef, fr.getD 167 undef, fr.getD 168 undef, fr.getD 169 undef, fr.getD 170 undef, fr.getD 171 undef, fr.getD 172 undef, fr.getD 173 undef, fr.getD 174 undef, fr.getD 175 undef, fr.getD 176 undef, fr.getD 177 undef, fr.getD 178 undef, fr.getD 179 undef, fr.getD 180 undef, fr.getD 181 undef, fr.getD 182 undef, fr.getD 183 undef, fr.getD 184 undef, fr.getD 185 undef, fr.getD 186 undef, fr.getD 187 undef, fr.getD 188 undef, fr.getD 189 undef, fr.getD 190 undef, fr.getD 191 undef, fr.getD 192 undef, fr.getD 193 undef, fr.getD 194 undef, fr.getD 195 undef, fr.getD 196 undef, fr.getD 197 undef, fr.getD 198 undef, fr.getD 199 undef, fr.getD 200 undef, fr.getD 201 undef, fr.getD 202 undef, fr.getD 203 undef, fr.getD 204 undef, fr.getD 205 undef, fr.getD 206 undef, fr.getD 207 undef, fr.getD 208 undef, fr.getD 209 undef, fr.getD 210 undef, fr.getD 211 undef, fr.getD 212 undef, fr.getD 213 undef, fr.getD 214 undef, fr.getD 215 undef, fr.getD 216 undef, fr.getD 217 undef, fr.getD 218 undef, fr.getD 219 undef, fr.getD 220 undef, fr.getD 221 undef, fr.getD 222 undef, fr.getD 223 undef, fr.getD 224 undef, fr.getD 225 undef, fr.getD 226 undef, fr.getD 227 undef, fr.getD 228 undef, fr.getD 229 undef, fr.getD 230 undef, fr.getD 231 undef, fr.getD 232 undef, fr.getD 233 undef, fr.getD 234 undef, fr.getD 235 undef, fr.getD 236 undef, fr.getD 237 undef, fr.getD 238 undef, fr.getD 239 undef, fr.getD 240 undef, fr.getD 241 undef, fr.getD 242 undef, fr.getD 243 undef, fr.getD 244 undef, fr.getD 245 undef, fr.getD 246 undef, fr.getD 247 undef, fr.getD 248 undef, fr.getD 249 undef, fr.getD 250 undef, fr.getD 251 undef, fr.getD 252 undef, fr.getD 253 undef, fr.getD 254 undef, fr.getD 255 undef, fr.getD 256 undef, fr.getD 257 undef, fr.getD 258 undef, fr.getD 259 undef, fr.getD 260 undef, fr.getD 261 undef, fr.getD 262 undef, fr.getD 263 undef, fr.getD 264 undef, fr.getD 265 undef, fr.getD 266 undef, fr.getD 267 undef, fr.getD 268 undef, fr.getD 269 undef, fr.getD 270 undef, fr.getD 271 undef, fr.getD 272 undef, fr.getD 273 undef, fr.getD 274 undef, fr.getD 275 undef, fr.getD 276 undef, fr.getD 277 undef, fr.getD 278 undef, fr.getD 279 undef, fr.getD 280 undef, fr.getD 281 undef, fr.getD 282 undef, fr.getD 283 undef, fr.getD 284 undef, fr.getD 285 undef, fr.getD 286 undef, fr.getD 287 undef, fr.getD 288 undef, fr.getD 289 undef, fr.getD 290 undef, fr.getD 291 undef, fr.getD 292 undef, fr.getD 293 undef, fr.getD 294 undef, fr.getD 295 undef, fr.getD 296 undef, fr.getD 297 undef, fr.getD 298 undef, fr.getD 299 undef, fr.getD 300 undef, fr.getD 301 undef, fr.getD 302 undef, fr.getD 303 undef, fr.getD 304 undef, fr.getD 305 undef, fr.getD 306 undef, fr.getD 307 undef, fr.getD 308 undef, fr.getD 309 undef, fr.getD 310 undef, fr.getD 311 undef, fr.getD 312 undef, fr.getD 313 undef, fr.getD 314 undef, fr.getD 315 undef, fr.getD 316 undef, fr.getD 317 undef, fr.getD 318 undef, fr.getD 319 undef, fr.getD 320 undef, fr.getD 321 undef, fr.getD 322 undef, fr.getD 323 undef, fr.getD 324 undef, fr.getD 325 undef, fr.getD 326 undef, fr.getD 327 undef, fr.getD 328 undef, fr.getD 329 undef, fr.getD 330 undef, fr.getD 331 undef, fr.getD 332 undef] : Array Value) = ((List.range 333).map fun i => fr.getD i undef).toArray := by kernel_rfl
  rw [e]
  refine Array.ext (by simp [h]) fun i h1 h2 => ?_
  simp [h1]
/-- A cut: what is kept of the frame and of the world. -/
theorem wp_cut333 {x : Code} {P : Program} {K : Act → World → Prop} {Q : Exit → Act → World → Prop} {T : Array Value} {d : List Deferred} {w : World} (R : Array Value → World → Prop)
    (h1 : ∀ J : Act → World → Prop, Hid (∀ fr w', fr.size = 333 → R fr w' → J { tmps := fr, defers := d } w') → x.wp P (Exit.then J Q) { tmps := T, defers := d } w)
    (h2 : ∀ fr w', R fr w' → K { tmps := #[fr.getD 0 undef, fr.getD 1 undef, fr.getD 2 undef, fr.getD 3 undef, fr.getD 4 undef, fr.getD 5 undef, fr.getD 6 undef, fr.getD 7 undef, fr.getD 8 undef, fr.getD 9 undef, fr.getD 10 undef, fr.getD 11 undef, fr.getD 12 undef, fr.getD 13 undef, fr.getD 14 undef, fr.getD 15 undef, fr.getD 16 undef, fr.getD 17 undef, fr.getD 18 undef, fr.getD 19 undef, fr.getD 20 undef, fr.getD 21 undef, fr.getD 22 undef, fr.getD 23 undef, fr.getD 24 undef, fr.getD 25 undef, fr.getD 26 undef, fr.getD 27 undef, fr.getD 28 undef, fr.getD 29 undef, fr.getD 30 undef, fr.getD 31 undef, fr.getD 32 undef, fr.getD 33 undef, fr.getD 34 undef, fr.getD 35 undef, fr.getD 36 undef, fr.getD 37 undef, fr.getD 38 undef, fr.getD 39 undef, fr.getD 40 undef, fr.getD 41 undef, fr.getD 42 undef, fr.getD 43 undef, fr.getD 44 undef, fr.getD 45 undef, fr.getD 46 undef, fr.getD 47 undef, fr.getD 48 undef, fr.getD 49 undef, fr.getD 50 undef, fr.getD 51 undef, fr.getD 52 undef, fr.getD 53 undef, fr.getD 54 undef, fr.getD 55 undef, fr.getD 56 undef, fr.getD 57 undef, fr.getD 58 undef, fr.getD 59 undef, fr.getD 60 undef, fr.getD 61 undef, fr.getD 62 undef, fr.getD 63 undef, fr.getD 64 undef, fr.getD 65 undef, fr.getD 66 undef, fr.getD 67 undef, fr.getD 68 undef, fr.getD 69 undef, fr.getD 70 undef, fr.getD 71 undef, fr.getD 72 undef, fr.getD 73 undef, fr.getD 74 undef, fr.getD 75 undef, fr.getD 76 undef, fr.getD 77 undef, fr.getD 78 undef, fr.getD 79 undef, fr.getD 80 undef, fr.getD 81 undef, fr.getD 82 undef, fr.getD 83 undef, fr.getD 84 undef, fr.getD 85 undef, fr.getD 86 undef, fr.getD 87 undef, fr.getD 88 undef, fr.getD 89 undef, fr.getD 90 undef, fr.getD 91 undef, fr.getD 92 undef, fr.getD 93 undef, fr.getD 94 undef, fr.getD 95 undef, fr.getD 96 undef, fr.getD 97 undef, fr.getD 98 undef, fr.getD 99 undef, fr.getD 100 undef, fr.getD 101 undef, fr.getD 102 undef, fr.getD 103 undef, fr.getD 104 undef, fr.getD 105 undef, fr.getD 106 undef, fr.getD 107 undef, fr.getD 108 undef, fr.getD 109 undef, fr.getD 110 undef, fr.getD 111 undef, fr.getD 112 undef, fr.getD 113 undef, fr.getD 114 undef, fr.getD 115 undef, fr.getD 116 undef, fr.getD 117 undef, fr.getD 118 undef, fr.getD 119 undef, fr.getD 120 undef, fr.getD 121 undef, fr.getD 122 undef, fr.getD 123 undef, fr.getD 124 undef, fr.getD 125 undef, fr.getD 126 undef, fr.getD 127 undef, fr.getD 128 undef, fr.getD 129 undef, fr.getD 130 undef, fr.getD 131 undef, fr.getD 132 undef, fr.getD 133 undef, fr.getD 134 undef, fr.getD 135 undef, fr.getD 136 undef, fr.getD 137 undef, fr.getD 138 undef, fr.getD 139 undef, fr.getD 140 undef, fr.getD 141 undef, fr.getD 142 undef, fr.getD 143 undef, fr.getD 144 undef, fr.getD 145 undef, fr.getD 146 undef, fr.getD 147 undef, fr.getD 148 undef, fr.getD 149 undef, fr.getD 150 undef, fr.getD 151 undef, fr.getD 152 undef, fr.getD 153 undef, fr.getD 154 undef, fr.getD 155 undef, fr.getD 156 undef, fr.getD 157 undef, fr.getD 158 undef, fr.getD 159 undef, fr.getD 160 undef, fr.getD 161 undef, fr.getD 162 undef, fr.getD 163 undef, fr.getD 164 undef, fr.getD 165 undef, fr.getD 166 undef, fr.getD 167 undef, fr.getD 168 undef, fr.getD 169 undef, fr.getD 170 undef, fr.getD 171 undef, fr.getD 172 undef, fr.getD 173 undef, fr.getD 174 undef, fr.getD 175 undef, fr.getD 176 undef, fr.getD 177 undef, fr.getD 178 undef, fr.getD 179 undef, fr.getD 180 undef, fr.getD 181 undef, fr.getD 182 undef, fr.getD 183 undef, fr.getD 184 undef, fr.getD 185 undef, fr.getD 186 undef, fr.getD 187 undef, fr.getD 188 undef, fr.getD 189 undef, fr.getD 190 undef, fr.getD 191 undef, fr.getD 192 undef, fr.getD 193 undef, fr.getD 194 undef, fr.getD 195 undef, fr.getD 196 undef, fr.getD 197 undef, fr.getD 198 undef, fr.getD 199 undef, fr.getD 200 undef, fr.getD 201 undef, fr.getD 202 undef, fr.getD 203 undef, fr.getD 204 undef, fr.getD 205 undef, fr.getD 206 undef, fr.getD 207 undef, fr.getD 208 undef, fr.getD 209 undef, fr.getD 210 undef, fr.getD 211 undef, fr.getD 212 undef, fr.getD 213 undef, fr.getD 214 undef, fr.getD 215 undef, fr.getD 216 undef, fr.getD 217 undef, fr.getD 218 undef, fr.getD 219 undef, fr.getD 220 undef, fr.getD 221 undef, fr.getD 222 undef, fr.getD 223 undef, fr.getD 224 undef, fr.getD 225 undef, fr.getD 226 undef, fr.getD 227 undef, fr.getD 228 undef, fr.getD 229 undef, fr.getD 230 undef, fr.getD 231 undef, fr.getD 232 undef, fr.getD 233 undef, fr.getD 234 undef, fr.getD 235 undef, fr.getD 236 undef, fr.getD 237 undef, fr.getD 238 undef, fr.getD 239 undef, fr.getD 240 undef, fr.getD 241 undef, fr.getD 242 undef, fr.getD 243 undef, fr.getD 244 undef, fr.getD 245 undef, fr.getD 246 undef, fr.getD 247 undef, fr.getD 248 undef, fr.getD 249 undef, fr.getD 250 undef, fr.getD 251 undef, fr.getD 252 undef, fr.getD 253 undef, fr.getD 254 undef, fr.getD 255 undef, fr.getD 256 undef, fr.getD 257 undef, fr.getD 258 undef, fr.getD 259 undef, fr.getD 260 undef, fr.getD 261 undef, fr.getD 262 undef, fr.getD 263 undef, fr.getD 264 undef, fr.getD 265 undef, fr.getD 266 undef, fr.getD 267 undef, fr.getD 268 undef, fr.getD 269 undef, fr.getD 270 undef, fr.getD 271 undef, fr.getD 272 undef, fr.getD 273 undef, fr.getD 274 undef, fr.getD 275 undef, fr.getD 276 undef, fr.getD 277 undef, fr.getD 278 undef, fr.getD 279 undef, fr.getD 280 undef, fr.getD 281 undef, fr.getD 282 undef, fr.getD 283 undef, fr.getD 284 undef, fr.getD 285 undef, fr.getD 286 undef, fr.getD 287 undef, fr.getD 288 undef, fr.getD 289 undef, fr.getD 290 undef, fr.getD 291 undef, fr.getD 292 undef, fr.getD 293 undef, fr.getD 294 undef, fr.getD 295 undef, fr.getD 296 undef, fr.getD 297 undef, fr.getD 298 undef, fr.getD 299 undef, fr.getD 300 undef, fr.getD 301 undef, fr.getD 302 undef, fr.getD 303 undef, fr.getD 304 undef, fr.getD 305 undef, fr.getD 306 undef, fr.getD 307 undef, fr.getD 308 undef, fr.getD 309 undef, fr.getD 310 undef, fr.getD 311 undef, fr.getD 312 undef, fr.getD 313 undef, fr.getD 314 undef, fr.getD 315 undef, fr.getD 316 undef, fr.getD 317 undef, fr.getD 318 undef, fr.getD 319 undef, fr.getD 320 undef, fr.getD 321 undef, fr.getD 322 undef, fr.getD 323 undef, fr.getD 324 undef, fr.getD 325 undef, fr.getD 326 undef, fr.getD 327 undef, fr.getD 328 undef, fr.getD 329 undef, fr.getD 330 undef, fr.getD 331 undef, fr.getD 332 undef], defers := d } w') : x.wp P (Exit.then K Q) { tmps := T, defers := d } w :=
  h1 K fun fr w' hs hr => by rw [spread333 fr hs]; exact h2 fr w' hr
end Go.Proofs.YtiimjbpfdidgcaaDoor
