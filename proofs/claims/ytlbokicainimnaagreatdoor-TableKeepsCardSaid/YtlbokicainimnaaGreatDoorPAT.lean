import Derived.Test.YtlbokicainimnaaGreatDoorPMA
import Derived.Test.YtlbokicainimnaaGreatDoorPQT
import Derived.Test.YtlbokicainimnaaGreatDoorPMN
import Derived.Test.YtlbokicainimnaaGreatDoorPAR
import Derived.Test.YtlbokicainimnaaGreatDoorPQW
import Derived.Test.YtlbokicainimnaaGreatDoorPWN
set_option maxRecDepth 100000
namespace Go.Proofs.YtlbokicainimnaaGreatDoor
open Go.RowKit
open Go.Lib hiding intOf
def TimInv (B n k c : Nat) (xs : List Nat) (i cc : Nat) (zs : List Nat) : Prop :=
 zs.length = n + 1 ∧ (∀ z ∈ zs, z < B) ∧ cc < B ∧ lval B (zs.take i) + B ^ i * cc = lval B (xs.take i) * k + c
theorem tim_step {B n k c i cc : Nat} {xs zs : List Nat} (h : TimInv B n k c xs i cc zs) (hi : i < n) (hk : k < B) (hB : 1 < B) (hx : ∀ x ∈ xs, x < B) :
  TimInv B n k c xs (i + 1) ((cc + xs.getD i 0 * k) / B) (zs.set i ((cc + xs.getD i 0 * k) % B)) ∧ cc + xs.getD i 0 * k < B * B := by
 obtain ⟨h1, h2, h3, h4⟩ := h
 have hx1 := getD_lt (by omega) hx i
 obtain ⟨x, ex⟩ : ∃ x, xs.getD i 0 = x := ⟨_, rfl⟩
 rw [ex] at hx1 ⊢
 have hlt : cc + x * k < B * B := by
  have h5 : x * k ≤ (B - 1) * (B - 1) := Nat.mul_le_mul (by omega) (by omega)
  obtain ⟨b, rfl⟩ : ∃ b, B = b + 2 := ⟨B - 2, by omega⟩
  rw [show b + 2 - 1 = b + 1 by omega] at h5
  have e1 : (b + 2) * (b + 2) = (b + 1) * (b + 1) + (2 * b + 3) := by
   rw [show b + 2 = (b + 1) + 1 by omega, Nat.add_mul, Nat.mul_add]; omega
  omega
 refine ⟨⟨by simp [h1], mem_set_lt h2 (Nat.mod_lt _ (by omega)), by rw [Nat.div_lt_iff_lt_mul (by omega)]; exact hlt, ?_⟩, hlt⟩
 rw [lval_take_nextG, lval_take_nextG, take_set_sameG, getD_set_same (by omega), Nat.pow_succ, Nat.mul_assoc, ex, Nat.add_mul, Nat.mul_assoc (B ^ i) x k]
 have e := congrArg (B ^ i * ·) (Nat.div_add_mod (cc + x * k) B)
 simp only [Nat.mul_add] at e
 omega
theorem tim_done {B n k c cc : Nat} {xs zs : List Nat} (h : TimInv B n k c xs n cc zs) (hx : xs.length ≤ n) :
  lval B (zs.set n cc) = lval B xs * k + c ∧ ∀ z ∈ zs.set n cc, z < B := by
 obtain ⟨h1, h2, h3, h4⟩ := h
 refine ⟨?_, mem_set_lt h2 h3⟩
 rw [List.take_of_length_le hx] at h4
 have t := lval_take_nextG B (zs.set n cc) n
 rw [List.take_of_length_le (by simp; omega), take_set_sameG, getD_set_same (by omega)] at t
 omega
theorem ntimes_any (s : Value) (N k c : Nat) (w : World) (h : Num .u32 4294967296 w s N) (hk : k < 4294967296) (hc : c < 4294967296) {bb : Nat} (hN : N < 2 ^ bb) (hbb : bb ≤ 4294967296) :
  Calls Tryz.prog 118 #[s, .int .u32 (k : Nat), .int .u32 (c : Nat)] w (NatQ (N * k + c) w) := by
 obtain ⟨xs, hL, rfl, -, hml⟩ := num_len h hN hbb
 obtain ⟨a, m, cap, rfl, hm, hmc, hcap, hx, hcell⟩ := hL
 rw [hm] at hml
 have HX : Hid (∀ x ∈ xs, x < 4294967296) := hx
 clear hx hN hbb hmc hcap h
 obtain ⟨i0, hi, hz0, hz1, hz2⟩ := info_parts Tryz.infoV
 have hml2 : m ≤ 134217729 := by omega
 go_enter Tryz.func118, Tryz.ntmps118
 go_wp2_with (at_make; refine wpList_make_full _ rfl _ _ 85 rfl w.heap.size 149 i0 (.int .u32 0) 1 Tryz.underlying85 hi hz0 hz1 .i64 .i64 _ _ (m + 1) rfl rfl (by omega) (by omega) (by rw [hz2]; omega) (by unfold maxLen; omega) (by simp) ?_; intro w1 hown hgrow; have hbel : Below w.heap.size w w1 := (Below.refl _ _).grown hgrow (Nat.le_refl _) (by simp))
 have hown' : OwnW .u32 149 w1 w.heap.size (m + 1) (List.replicate (m + 1) 0) := OwnW.made (by simpa using hown)
 clear hown hgrow
 go_loopw [8, 9] (fun cv i wr => ∃ j cc zs, j ≤ m ∧ i = .int .i64 (j : Nat) ∧ cv = .int .u64 (cc : Nat) ∧ OwnW .u32 149 wr w.heap.size (m + 1) zs ∧ Below w.heap.size w wr ∧ TimInv 4294967296 m k c xs j cc zs) (fun _ i _ => m - (intOf i).toNat)
 case atStart =>
  refine ⟨0, c, _, Nat.zero_le _, rfl, by first | rfl | go_num, hown', hbel, by simp, ?_, hc, by simp [lval]⟩
  intro z hz
  simp at hz
  omega
 case round =>
  obtain ⟨j, cc, zs, hj, rfl, rfl, hownk, hbk, hinv⟩ := hrel
  have HI : Hid (TimInv 4294967296 m k c xs j cc zs) := hinv
  have HO : Hid (OwnW .u32 149 wr w.heap.size (m + 1) zs) := hownk
  have HB : Hid (Below w.heap.size w wr) := hbk
  have hcb : cc < 4294967296 := hinv.2.2.1
  clear hown' hbel
  by_cases hjn : j < m
  ·obtain ⟨hst, hlt⟩ := tim_step hinv hjn hk (by decide) HX.out
   have hxb := getD_lt (B := 4294967296) (by decide) HX.out j
   have hc1 := hownk.cell (j := j) (by omega)
   have hf1 := hownk.frozen j
   obtain ⟨x, hxe⟩ : ∃ x, x = xs.getD j 0 := ⟨_, rfl⟩
   rw [← hxe] at hst hxb hlt
   obtain ⟨p, hp⟩ : ∃ p, p = x * k := ⟨_, rfl⟩
   have hpI : (x : Int) * (k : Int) = (p : Nat) := by rw [hp]; exact (Int.natCast_mul x k).symm
   rw [← hp] at hst hlt
   have hw0 : IntKind.u64.wrap ((x : Int) * (k : Int)) = (p : Nat) := by rw [hpI]; exact IntWalk.u64_in _ (by omega)
   have hw1 : ((cc : Int) + p) % 4294967296 = (((cc + p) % 4294967296 : Nat) : Int) := by omega
   have hw2 : ((cc : Int) + p) / 4294967296 = (((cc + p) / 4294967296 : Nat) : Int) := by omega
   obtain ⟨v, hv⟩ : ∃ v, v = (cc + p) % 4294967296 := ⟨_, rfl⟩
   obtain ⟨c2, hc2⟩ : ∃ c2, c2 = (cc + p) / 4294967296 := ⟨_, rfl⟩
   rw [← hv] at hst hw1
   rw [← hc2] at hst hw2
   have HS : Hid (TimInv 4294967296 m k c xs (j + 1) c2 (zs.set j v)) := hst
   have HXE : Hid (x = xs.getD j 0) := hxe
   have hlt2 : (cc : Int) + p < 18446744073709551616 := by omega
   have hvb : v < 4294967296 := by omega
   have hcb2 : c2 < 4294967296 := by omega
   clear hst hinv hownk hxe hv hc2 hlt hp hpI
   obtain ⟨b, o, rfl, hb, hcc⟩ := hcell (by omega)
   have hx1 := (hbk.cell (p := ⟨b, o + j, none⟩) hb).trans (hcc j hjn)
   rw [← HXE.out] at hx1
   clear hcell hcc hbk
   go_wp2
   go_roundw
   case rel => exact ⟨j + 1, c2, _, by omega, by go_num, rfl, HO.out.set j v, HB.out.setCell (Nat.le_refl _) _, HS.out⟩
   case measure => simp [intOf]; omega
  ·have hjn' : j = m := by omega
   subst hjn'
   have hc1 := hownk.cell (j := j) (by omega)
   have hf1 := hownk.frozen j
   obtain ⟨hsum, hlt⟩ := tim_done hinv (by omega)
   have hlimb := (HO.out.set j cc).limbs (B := 4294967296) (by omega) hlt
   have M := trim_any _ _ _ hlimb
   rw [hsum] at M
   clear hlimb hsum hlt hcell hinv hownk
   go_wp2_with fail
   refine Calls.mono M ?_
   rintro e w' ⟨v, rfl, hnum, hb⟩
   go_wp2
   go_ret
   exact ⟨_, rfl, hnum, hbk.trans ((Below.refl _ _).setCell (Nat.le_refl _) _ |>.trans (hb.mono (by simpa [World.setCell] using hbk.size)))⟩
theorem nat_nil (w : World) (a : Option Addr) (c : Nat) (h : c ≤ 9223372036854775807) : Num .u32 4294967296 w (.slice a 0 c) 0 := ⟨[], ⟨_, 0, c, rfl, rfl, Nat.zero_le _, h, by simp, fun h => absurd h (by omega)⟩, rfl, .inl rfl⟩
theorem ten_lt2 (k : Nat) : 10 ^ k < 2 ^ (4 * k + 1) := by
 have h2 : 2 ^ (4 * k + 1) = 16 ^ k * 2 := by rw [Nat.pow_succ, Nat.pow_mul]
 have h3 : 10 ^ k ≤ 16 ^ k := Nat.pow_le_pow_left (by decide) k
 have h4 : 0 < 10 ^ k := Nat.pow_pos (by decide)
 omega
theorem ndigits_v (s : ByteArray) (w : World) (hd : allDig (bl s)) (hs : s.size ≤ 90000) :
  Calls Tryz.prog 174 #[.string s] w (NatQ (dval (bl s)) w) := by
 have HD : Hid (allDig (bl s)) := hd
 clear hd
 go_enter Tryz.func174, Tryz.ntmps174
 go_upto_region 3 with fail
 go_loopw [3, 4] (fun v i wr => ∃ j : Nat, j ≤ s.size ∧ i = .int .i64 (j : Nat) ∧ Num .u32 4294967296 wr v (dval ((bl s).take j)) ∧ Below w.heap.size w wr) (fun _ i _ => s.size - (intOf i).toNat)
 case atStart => exact ⟨0, Nat.zero_le _, by first | rfl | go_num, by first | exact nat_nil _ _ _ (by decide) | simpa using nat_nil _ _ _ (by decide), by first | exact Below.refl _ _ | exact (Below.refl _ _).alloc (Nat.le_refl _) _⟩
 case round =>
  obtain ⟨j, hj, rfl, hnum, hb⟩ := hrel
  have HB : Hid (Below w.heap.size w wr) := hb
  obtain ⟨a, m, c, rfl⟩ := hnum.shape
  have HNM : Hid (Num .u32 4294967296 wr (.slice a m c) (dval ((bl s).take j))) := hnum
  clear hb hnum
  by_cases hjs : j < s.size
  ·have hjl : j < (bl s).length := by rw [bl_len]; exact hjs
   obtain ⟨x, hx⟩ : ∃ x, x = s[j]'hjs := ⟨_, rfl⟩
   have hxd : isDig x = true := by rw [hx, bl_get]; exact HD.out _ (List.getElem_mem _)
   obtain ⟨d1, d2, d3⟩ := dig_back x hxd
   obtain ⟨d, hdd⟩ : ∃ d, d = x.toNat - 48 := ⟨_, rfl⟩
   have hxn : x.toNat = 48 + d := by omega
   have htk : dval ((bl s).take (j + 1)) = dval ((bl s).take j) * 10 + d := by
    rw [List.take_succ_eq_append_getElem hjl, dval_snoc, hdd, hx, bl_get]; omega
   have HTK : Hid _ := htk
   have hidx : (s[j]'hjs).toNat = 48 + d := by rw [← hx]; exact hxn
   have hlt : dval ((bl s).take j) < 2 ^ (4 * ((bl s).take j).length + 1) :=
    Nat.lt_trans (dval_lt _ (fun c hc => HD.out c (List.mem_of_mem_take hc))) (ten_lt2 _)
   have hlen : ((bl s).take j).length ≤ 90000 := by rw [List.length_take]; omega
   have HT : Hid _ := ntimes_any _ _ 10 d wr HNM.out (by decide) (by omega) hlt (by omega)
   have hd10 : d < 10 := by omega
   clear hx hxd d1 d2 d3 hdd hxn htk hlt hjl hlen
   go_wp2_with fail
   rw [show (48 : Int) + (d : Int) - 48 = d by omega]
   refine Calls.mono HT.out ?_
   rintro e w' ⟨v, rfl, hnum, hb⟩
   have HB2 : Hid (Below w.heap.size w w') := HB.out.thru hb
   rw [← HTK.out] at hnum
   have HN2 : Hid _ := hnum
   clear hb hnum
   go_wp2
   go_roundw
   case rel => exact ⟨j + 1, by omega, by go_num, HN2.out, HB2.out⟩
   case measure => simp [intOf]; omega
  ·have hjs' : j = s.size := by omega
   subst hjs'
   go_wp2
   go_ret
   refine ⟨_, rfl, ?_, HB.out⟩
   have := HNM.out
   rwa [List.take_of_length_le (by rw [bl_len]; omega)] at this
theorem nten_v (n : Nat) (w : World) (hn : n ≤ 90000) :
  Calls Tryz.prog 175 #[.int .i64 (n : Nat)] w (NatQ (10 ^ n) w) := by
 have H1 : Hid (∀ W, Calls Tryz.prog 54 #[.int .u64 1] W (NatQ 1 W)) := fun W => of_any 1 W (by decide)
 go_enter Tryz.func175, Tryz.ntmps175
 go_wp2_with fail
 refine (H1.out _).mono ?_
 rintro e w1 ⟨v, rfl, hnum, hb⟩
 obtain ⟨a, m, c, rfl⟩ := hnum.shape
 have HN1 : Hid (Num .u32 4294967296 w1 (.slice a m c) 1) := hnum
 have HB1 : Hid (Below w.heap.size w w1) := hb
 clear hnum hb H1
 go_wp2
 go_loopw [3, 0] (fun v i wr => ∃ j k : Nat, j + k = n ∧ i = .int .i64 (j : Nat) ∧ Num .u32 4294967296 wr v (10 ^ k) ∧ Below w.heap.size w wr) (fun _ i _ => (intOf i).toNat)
 case atStart => exact ⟨n, 0, by omega, rfl, HN1.out, HB1.out⟩
 case round =>
  obtain ⟨j, k, hjk, rfl, hnum, hb⟩ := hrel
  have HB : Hid (Below w.heap.size w wr) := hb
  obtain ⟨a, m, c, rfl⟩ := hnum.shape
  have HNM : Hid (Num .u32 4294967296 wr (.slice a m c) (10 ^ k)) := hnum
  have HT : Hid _ := ntimes_any _ _ 1000000000 0 wr HNM.out (by decide) (by decide) (ten_lt2 k) (by omega)
  clear hb hnum HN1 HB1
  by_cases hj : 9 ≤ j
  ·have hjI : (9 : Int) ≤ j := by omega
   go_wp2_with fail
   refine Calls.mono HT.out ?_
   rintro e w' ⟨v, rfl, hnum, hb⟩
   have HB2 : Hid (Below w.heap.size w w') := HB.out.thru hb
   have HN2 : Hid (Num .u32 4294967296 w' v (10 ^ (k + 9))) := by rw [Nat.add_zero] at hnum; rw [Nat.pow_add, show (10 : Nat) ^ 9 = 1000000000 from rfl]; exact hnum
   clear hb hnum
   go_wp2
   go_roundw
   case rel => exact ⟨j - 9, k + 9, by omega, by go_num, HN2.out, HB2.out⟩
   case measure => simp [intOf]; omega
  ·have hjI : ¬ (9 : Int) ≤ j := by omega
   clear HT
   go_wp2
   go_loopw [3, 0] (fun v i wr => ∃ j k : Nat, j + k = n ∧ i = .int .i64 (j : Nat) ∧ Num .u32 4294967296 wr v (10 ^ k) ∧ Below w.heap.size w wr) (fun _ i _ => (intOf i).toNat)
   case atStart => exact ⟨j, k, hjk, rfl, HNM.out, HB.out⟩
   case round =>
    rename_i wp
    obtain ⟨j2, k2, hjk2, rfl, hnum, hb⟩ := hrel
    have HB3 : Hid (Below w.heap.size w wr) := hb
    obtain ⟨a, m, c, rfl⟩ := hnum.shape
    have HNM3 : Hid (Num .u32 4294967296 wr (.slice a m c) (10 ^ k2)) := hnum
    have HT : Hid _ := ntimes_any _ _ 10 0 wr HNM3.out (by decide) (by decide) (ten_lt2 k2) (by omega)
    clear hb hnum HNM HB
    by_cases hj0 : 0 < j2
    ·have hjI2 : (0 : Int) < j2 := by omega
     go_wp2_with fail
     refine Calls.mono HT.out ?_
     rintro e w' ⟨v, rfl, hnum, hb⟩
     have HB2 : Hid (Below w.heap.size w w') := HB3.out.thru hb
     have HN2 : Hid (Num .u32 4294967296 w' v (10 ^ (k2 + 1))) := by rw [Nat.add_zero] at hnum; rw [Nat.pow_succ]; exact hnum
     clear hb hnum
     go_wp2
     go_roundw
     case rel => exact ⟨j2 - 1, k2 + 1, by omega, by go_num, HN2.out, HB2.out⟩
     case measure => simp [intOf]; omega
    ·have hjI2 : ¬ (0 : Int) < j2 := by omega
     go_wp2
     go_ret
     have e : k2 = n := by omega
     subst e
     exact ⟨_, rfl, HNM3.out, HB3.out⟩
end Go.Proofs.YtlbokicainimnaaGreatDoor
namespace Go.Proofs.YtlbokicainimnaaGreatDoor
open Go.RowKit
theorem kindP_row {fn : Func} {p : Tmp} (h : fn.results = #[.cell p 248]) (tmps : Array Value) (w : World) (g : Nat) (a b c : Value)
  (hp : tmps.getD p undef = .pointer (some ⟨g, 0, none⟩)) (hg : w.heap[g]? = some (.cells #[a, b, c] 248 (0, 0))) : (results fn tmps).run Tryz.prog w = .ok (.agg #[a, b, c]) w :=
 results_cell_row h tmps w g _ _ _ _ hp hg Tryz.underlying248 rfl (by kernel_rfl)
theorem numbers_v (w : World) : Calls Tryz.prog 229 #[] w fun e w' => e = .returned (.agg #[.int .i64 53, .int .i64 (-1074), .int .i64 971]) ∧ Below w.heap.size w w' := by
 go_enter Tryz.func229, Tryz.ntmps229
 go_wp2
 exact bodyPost_ret (kindP_row rfl _ _ w.heap.size _ _ _ rfl (heap_alloc_new _ _)) rfl ⟨rfl, (Below.refl _ _).alloc (Nat.le_refl _) _⟩
theorem ten_n (n : Nat) (w : World) (hn : n ≤ 100000) : Calls Tryz.prog 160 #[.int .i64 (n : Nat)] w (WideR ((10 ^ n : Nat) : Int) w) := by
 have HP : Hid (∀ W, Calls Tryz.prog 99 #[.int .u64 10, .int .i64 (n : Nat)] W (WideR ((10 ^ n : Nat) : Int) W)) := fun W =>
  power_v 10 n W (by decide) (bb := 4 * n + 1) (fun i hi => Nat.lt_of_lt_of_le (ten_lt2 i) (Nat.pow_le_pow_right (by decide) (by omega))) (by omega) (by omega)
 have HB0 : Hid (Below w.heap.size w (w.alloc (.cells #[.bool false, .slice none 0 0] 123))) := (Below.refl _ _).alloc (Nat.le_refl _) _
 have q0 := new_blk w (.cells #[.bool false, .slice none 0 0] 123)
 have HQ0 : Hid _ := q0
 clear hn q0
 go_enter Tryz.func160, Tryz.ntmps160
 go_wp2_with fail
 refine (HP.out _).mono ?_
 rintro e w1 ⟨v, rfl, hv, hb⟩
 obtain ⟨a, m, c, rfl, hnm⟩ := hv.nat
 have q1 := hb.blk HQ0.out (blk_lt HQ0.out)
 obtain ⟨f0, f1, c0, c1, f2, c2⟩ := row2 q1
 have HQ1 : Hid _ := q1
 have HN : Hid (Num .u64 18446744073709551616 w1 (.slice a m c) (10 ^ n)) := hnm
 have HB1 : Hid (Below w.heap.size w w1) := HB0.out.thru hb
 clear hv hnm q1 hb
 go_wp2
 exact wide_endV (p := 2) rfl rfl HQ1.out HN.out HB1.out (Nat.le_refl _) (by rw [decide_eq_false (Int.not_lt.2 (Int.natCast_nonneg _))])
def DecsAt (w : World) (g : Nat) (ds : List Dc) : Prop := ∀ i (h : i < ds.length), w.cell? ⟨g, i * 3, none⟩ = some (.bool ds[i].neg) ∧ w.cell? ⟨g, i * 3 + 1, none⟩ = some (.string (bs ds[i].s)) ∧ w.cell? ⟨g, i * 3 + 2, none⟩ = some (.int .i64 ds[i].e)
theorem take_okB {α : Type} {p : α → Bool} {l : List α} {j : Nat} (hj : j < l.length) (h : (l.take j).all p = true) (hp : p l[j] = true) : (l.take (j + 1)).all p = true := by
 rw [List.take_succ_eq_append_getElem hj, List.all_append, h]; simp [hp]
theorem may_v (m : Int) (ds : List Dc) (g c : Nat) (w : World) (hg : g < w.heap.size) (hd : DecsAt w g ds) (hc : ds.length ≤ c) (hc2 : c ≤ 1000) (hs : ∀ d ∈ ds, d.s.length ≤ 9223372036854775807) :
  Calls Tryz.prog 107 #[.int .i64 m, .slice (some ⟨g, 0, none⟩) ds.length c] w fun e w' => e = .returned (.bool (ds.all (fun d => d.okB) && decide (1 ≤ m ∧ m ≤ 6))) ∧ Below w.heap.size w w' := by
 obtain ⟨r, hr⟩ : ∃ r, r = (ds.all (fun d => d.okB) && decide (1 ≤ m ∧ m ≤ 6)) := ⟨_, rfl⟩
 rw [← hr]
 obtain ⟨n, hn⟩ : ∃ n, n = ds.length := ⟨_, rfl⟩
 rw [← hn]
 have HR : Hid (r = (ds.all (fun d => d.okB) && decide (1 ≤ m ∧ m ≤ 6))) := hr
 have HN : Hid (n = ds.length) := hn
 have HD : Hid (DecsAt w g ds) := hd
 have HS : Hid (∀ d ∈ ds, d.s.length ≤ 9223372036854775807) := hs
 have HG : Hid (g < w.heap.size) := hg
 have hnc : n ≤ c := by omega
 clear hr hn hd hs hg
 go_enter Tryz.func107, Tryz.ntmps107
 go_upto_region 2 with fail
 go_loopw [9] (fun i wr => ∃ j : Nat, j ≤ n ∧ i = .int .i64 (j : Nat) ∧ (ds.take j).all (fun d => d.okB) = true ∧ Below w.heap.size w wr) (fun i _ => n - (intOf i).toNat)
 case atStart => exact ⟨0, Nat.zero_le _, by first | rfl | go_num, by simp, Below.refl _ _⟩
 case round =>
  obtain ⟨j, hj, rfl, hall, hb⟩ := hrel
  have HB : Hid (Below w.heap.size w wr) := hb
  have HAL : Hid ((ds.take j).all (fun d => d.okB) = true) := hall
  clear hall
  by_cases hjn : j < n
  ·have hjl : j < ds.length := by have := HN.out; omega
   obtain ⟨k0, k1, k2⟩ := HD.out j hjl
   obtain ⟨d, hd⟩ : ∃ d, d = ds[j] := ⟨_, rfl⟩
   rw [← hd] at k0 k1 k2
   have c0 := (hb.cell (p := ⟨g, j * 3, none⟩) HG.out).trans k0
   have c1 := (hb.cell (p := ⟨g, j * 3 + 1, none⟩) HG.out).trans k1
   have c2 := (hb.cell (p := ⟨g, j * 3 + 2, none⟩) HG.out).trans k2
   have HV : Hid (∀ W, Calls Tryz.prog 119 #[.agg #[.bool d.neg, .string (bs d.s), .int .i64 d.e]] W fun en w' => en = .returned (.bool d.okB) ∧ Below W.heap.size W w') := fun W => valid_v d W (HS.out d (by rw [hd]; exact List.getElem_mem _))
   have HK : Hid (d.okB = true → (ds.take (j + 1)).all (fun d => d.okB) = true) := fun h => take_okB hjl HAL.out (by rw [← hd]; exact h)
   have HF : Hid (d.okB = false → r = false) := fun h => by
    rw [HR.out]
    have : ds.all (fun d => d.okB) = false := by
     rw [List.all_eq_false]
     exact ⟨d, by rw [hd]; exact List.getElem_mem _, by rw [h]; decide⟩
    rw [this]; rfl
   clear k0 k1 k2 hd hb
   go_wp2_with fail
   refine (HV.out _).mono ?_
   rintro e w1 ⟨rfl, hb1⟩
   have HB1 : Hid (Below w.heap.size w w1) := (HB.out.alloc HB.out.size _).thru hb1
   obtain ⟨ok, hok⟩ : ∃ b, b = d.okB := ⟨_, rfl⟩
   rw [← hok] at HK HF ⊢
   clear hb1 hok c0 c1 c2 HV
   cases ok
   ·have HFF := HF.out rfl
    subst HFF
    go_wp2
    go_ret
    exact ⟨rfl, HB1.out⟩
   ·have HKK : Hid _ := HK.out rfl
    go_wp2
    go_roundw
    case rel => exact ⟨j + 1, by omega, by go_num, HKK.out, HB1.out⟩
    case measure => simp [intOf]; omega
  ·have hjn' : j = n := by omega
   subst hjn'
   have HA : Hid (r = decide (1 ≤ m ∧ m ≤ 6)) := by
    show _ = _
    have := HAL.out
    rw [List.take_of_length_le (by have := HN.out; omega)] at this
    rw [HR.out, this, Bool.true_and]
   by_cases h1 : 1 ≤ m
   ·by_cases h2 : m ≤ 6
    ·have HT : Hid (r = true) := by show _ = _; rw [HA.out, decide_eq_true ⟨h1, h2⟩]
     go_wp2
     go_ret
     exact ⟨by rw [HT.out]; rfl, HB.out⟩
    ·have HT : Hid (r = false) := by show _ = _; rw [HA.out, decide_eq_false (by omega)]
     go_wp2
     go_ret
     exact ⟨by rw [HT.out]; rfl, HB.out⟩
   ·have HT : Hid (r = false) := by show _ = _; rw [HA.out, decide_eq_false (by omega)]
    go_wp2
    go_ret
    exact ⟨by rw [HT.out]; rfl, HB.out⟩
end Go.Proofs.YtlbokicainimnaaGreatDoor
