/- Parts Ol, Om of the proof, in one text. -/
import Derived.Test.YtlffojopfilfeaaGreatDoorLOK
import Derived.Test.YtlffojopfilfeaaGreatDoorLQD
import Derived.Test.YtlffojopfilfeaaGreatDoorLQI
import Derived.Test.YtlffojopfilfeaaGreatDoorLRR

/- Walks: wide's Noughts; sums' trimmed, infinity, New, Count. -/
namespace Go.Proofs.YtlffojopfilfeaaGreatDoor
open Go Go.RowKit

theorem TabW.below {w w' : World} (h : TabW w) (hb : Below w.heap.size w w') : TabW w' := fun j hj => by
  have h1 := h j hj
  have hlt : 1 < w.heap.size := by
    refine Decidable.byContradiction fun hc => ?_
    have h2 : w.heap[1]? = none := Array.getElem?_eq_none (by omega)
    unfold World.cell? at h1
    simp [h2] at h1
  rw [hb.cell (p := ⟨_, j, none⟩) hlt]
  exact h1
theorem joZ_dvd {x : Nat} (hx : W64 x) (h0 : x ≠ 0) : 2 ^ joZ x ∣ x ∧ joZ x < 64 := by
  obtain ⟨h1, -, h3, -⟩ := join_parts x hx h0
  exact ⟨⟨joO x, by rw [Nat.mul_comm]; exact h1⟩, h3⟩
theorem noughts_dvd {xs : List Nat} {k : Nat} (hk : k < xs.length) (hz : ∀ t, t < k → xs.getD t 0 = 0) (hx : W64 (xs.getD k 0)) (h0 : xs.getD k 0 ≠ 0) : 2 ^ (64 * k + joZ (xs.getD k 0)) ∣ lval 18446744073709551616 xs := by
  obtain ⟨h1, h2⟩ := joZ_dvd hx h0
  have ht : lval 18446744073709551616 (xs.take k) = 0 := by
    refine lval_all_zero _ _ fun y hy => ?_
    obtain ⟨i, hi, rfl⟩ := List.getElem_of_mem hy
    have hi2 : i < k := by rw [List.length_take] at hi; omega
    have := hz i hi2
    rw [List.getElem_take]
    simpa [List.getD, show i < xs.length by omega] using this
  rw [lval_split _ xs k hk, ht, Nat.zero_add, Nat.pow_add, Nat.pow_mul]
  refine Nat.mul_dvd_mul (by rw [show (2 : Nat) ^ 64 = 18446744073709551616 by decide]; exact Nat.dvd_refl _) (Nat.dvd_add h1 (Nat.dvd_trans ?_ (Nat.dvd_mul_right _ _)))
  rw [show (18446744073709551616 : Nat) = 2 ^ 64 by decide]
  exact Nat.pow_dvd_pow 2 (by omega)
set_option maxHeartbeats 2000000 in
set_option maxRecDepth 100000 in
theorem noughts_v (neg : Bool) (s : Value) (N : Nat) (w : World) (h : Num .u64 18446744073709551616 w s N) {bb : Nat} (hN : N < 2 ^ bb) (hbb : bb ≤ 1000000) (hT : TabW w) :
    Calls Tryz.prog 95 #[.agg #[.bool neg, s]] w fun e w' => (∃ k : Nat, e = .returned (.int .i64 (k : Nat)) ∧ 2 ^ k ∣ N ∧ k ≤ 2000000) ∧ Below w.heap.size w w' := by
  obtain ⟨xs, hL, hv, hnorm⟩ := h
  have hlen : xs.length ≤ 20000 := by
    by_cases h0 : 0 < xs.length
    · have := norm_length (s := 64) hnorm (b := bb) (by rw [show (2 ^ 64 : Nat) = 18446744073709551616 from rfl, hv]; exact hN) h0
      omega
    · omega
  obtain ⟨a, m, c, rfl, hm, hmc, hc, hx, hcell⟩ := hL
  have HX : Hid (∀ x ∈ xs, x < 18446744073709551616) := hx
  have HV : Hid (lval 18446744073709551616 xs = N) := hv
  have HT : Hid (∀ W, Below w.heap.size w W → TabW W) := fun W hW => hT.below hW
  have HB0 : Hid (Below w.heap.size w (w.alloc (.cells #[.bool neg, .slice a m c] 73))) := (Below.refl _ _).alloc (Nat.le_refl _) _
  have HC : Hid (0 < m → ∃ b o, a = some ⟨b, o, none⟩ ∧ b < w.heap.size ∧ ∀ i, i < m → w.cell? ⟨b, o + i, none⟩ = some (.int .u64 (xs.getD i 0 : Nat))) := hcell
  have HL : Hid (xs.length = m) := hm
  rw [hm] at hlen
  clear hx hv hnorm hN hbb hT hcell hm hmc hc
  go_enter Tryz.func95, Tryz.ntmps95
  go_wp2_with fail
  obtain ⟨w1, hw1⟩ : ∃ W, W = w.alloc (.cells #[.bool neg, .slice a m c] 73) := ⟨_, rfl⟩
  rw [← hw1] at HB0
  rw [← hw1]
  clear hw1
  go_loopw [3, 4, 8] (fun u v i wr => ∃ k : Nat, k ≤ m ∧ i = .int .i64 (k : Nat) ∧ wr = w1 ∧ ∀ t, t < k → xs.getD t 0 = 0) (fun _ _ i _ => m - (intOf i).toNat)
  case atStart => exact ⟨0, Nat.zero_le _, rfl, by first | exact trivial | rfl, fun t ht => by omega⟩
  case round =>
    obtain ⟨k, hk, rfl, rfl, hz⟩ := hrel
    have HZ : Hid (∀ t, t < k → xs.getD t 0 = 0) := hz
    clear hz
    by_cases hkn : k < m
    · obtain ⟨b, o, rfl, hb, hcc⟩ := HC.out (by omega)
      have hck := (HB0.out.cell (p := ⟨b, o + k, none⟩) hb).trans (hcc k hkn)
      obtain ⟨x, hxe⟩ : ∃ x, x = xs.getD k 0 := ⟨_, rfl⟩
      rw [← hxe] at hck
      have HXE : Hid (x = xs.getD k 0) := hxe
      have hxb : W64 x := by rw [hxe]; exact getD_lt (B := 18446744073709551616) (by decide) HX.out k
      clear hcc hxe
      by_cases hx0 : x = 0
      · subst hx0
        have hw1 : IntKind.i64.wrap ((k : Int) + 1) = ((k + 1 : Nat) : Int) := by rw [IntWalk.i64_in _ (by omega)]; omega
        go_wp2
        go_roundw
        case rel =>
          refine ⟨k + 1, by omega, by first | rfl | rw [hw1], by first | exact trivial | rfl, fun t ht => ?_⟩
          by_cases h : t = k
          · rw [h]; exact HXE.out.symm
          · exact HZ.out t (by omega)
        case measure => simp [intOf]; omega
      · have hx1 : ((x : Int) == 0) = false := by simp; omega
        have hj := (joZ_dvd hxb hx0).2
        have HTZ : Hid (∀ W, TabW W → Calls Tryz.prog 92 #[.int .u64 x] W fun e w' => e = .returned (.int .i64 (joZ x : Nat)) ∧ W = w') := fun W hW => tz_any x W hxb hx0 hW
        have HTW : Hid (TabW wr) := HT.out _ HB0.out
        have HJ : Hid (W64 x ∧ x ≠ 0) := ⟨hxb, hx0⟩
        obtain ⟨z, hze⟩ : ∃ z, z = joZ x := ⟨_, rfl⟩
        rw [← hze] at HTZ hj
        have HZE : Hid (z = joZ x) := hze
        have hw1 : IntKind.i64.wrap (64 * (k : Int)) = 64 * (k : Int) := by rw [IntWalk.i64_in _ (by omega)]
        have hw2 : IntKind.i64.wrap (64 * (k : Int) + (z : Int)) = 64 * (k : Int) + (z : Int) := by rw [IntWalk.i64_in _ (by omega)]
        clear hxb hx0 hze
        go_wp2_with (go_at_call 92; (with_reducible refine (HTZ.out _ HTW.out).mono ?_); rintro e w' ⟨rfl, rfl⟩)
        go_ret
        refine ⟨⟨64 * k + z, ret_int (by first | rfl | push_cast; rfl | (simp only [hw1, hw2]; push_cast; rfl)), ?_, by omega⟩, HB0.out⟩
        have := noughts_dvd (xs := xs) (k := k) (by rw [HL.out]; exact hkn) HZ.out (by rw [← HXE.out]; exact HJ.out.1) (by rw [← HXE.out]; exact HJ.out.2)
        rw [← HXE.out, ← HZE.out, HV.out] at this
        exact this
    · go_wp2
      go_ret
      exact ⟨⟨0, rfl, by simp, by omega⟩, HB0.out⟩
end Go.Proofs.YtlffojopfilfeaaGreatDoor

/- Walks: sums' trimmed, infinity, New, Count. -/
namespace Go.Proofs.YtlffojopfilfeaaGreatDoor
open Go Go.RowKit

theorem right_s (x : Value) (V : Int) (k : Nat) (w : World) (h : WideI w x V) (hd : 2 ^ k ∣ V.natAbs) {bb : Nat} (hV : V.natAbs < 2 ^ bb) (hbb : bb ≤ 4294967296) (hk : k ≤ 4294967296) :
    ∃ U, V = U * ((2 ^ k : Nat) : Int) ∧ Calls Tryz.prog 40 #[x, .int .i64 (k : Nat)] w (WideR U w) := by
  refine ⟨sg (decide (V < 0)) (V.natAbs / 2 ^ k), ?_, ?_⟩
  · rw [← sg_mul, Nat.div_mul_cancel hd, sg_of]
  · obtain ⟨a, m, c, rfl, hn⟩ := h
    have := right_any (decide (V < 0)) (.slice a m c) V.natAbs (k / 64) (k % 64) k w hn (by omega) (by omega) (by omega) hV hbb
    rw [show 64 * (k / 64) + k % 64 = k by omega] at this
    refine this.mono fun e w' hq => hq.toR ?_ (by rw [sg_natAbs])
    rw [Bool.eq_iff_iff, decide_eq_true_eq, sg_lt]
    simp
theorem sign_s (x : Value) (V : Int) (w : World) (h : WideI w x V) : Calls Tryz.prog 44 #[x] w fun e w' => e = .returned (.int .i64 (if V = 0 then 0 else if V < 0 then -1 else 1)) ∧ Below w.heap.size w w' := by
  obtain ⟨a, m, c, rfl, hn⟩ := h
  refine (sign_any _ _ _ w hn).mono ?_
  rintro e w' ⟨rfl, hb⟩
  refine ⟨?_, hb⟩
  congr 2
  by_cases h0 : V = 0
  · rw [if_pos (by omega), if_pos h0]
  · rw [if_neg (by omega), if_neg h0]
    by_cases h1 : V < 0
    · rw [decide_eq_true h1, if_pos rfl, if_pos h1]
    · rw [decide_eq_false h1, if_neg (by decide), if_neg h1]
def TrimQ (V : Int) (w : World) (e : Ending) (w' : World) : Prop := ∃ (k : Nat) (U : Int) (a : Option Addr) (m c : Nat), e = .returned (.tuple #[.agg #[.bool (decide (U < 0)), .slice a m c], .int .i64 (-2148 + (k : Int))]) ∧ k ≤ LU ∧ V = U * ((2 ^ k : Nat) : Int) ∧ WideI w' (.agg #[.bool (decide (U < 0)), .slice a m c]) U ∧ Below w.heap.size w w'
theorem trim_end {fn : Func} {p q : Tmp} (hf : fn.results = #[.cell p 73, .tmp q]) {tmps : Array Value} {w0 w : World} {g : Nat} {x : Bool} {a a' : Option Addr} {n c n' c' : Nat} {U V : Int} {b : Bool} {k : Nat}
    (hp : tmps.getD p undef = .pointer (some ⟨g, 0, none⟩)) (hq : tmps.getD q undef = .int .i64 (-2148 + (k : Int))) (hg : w.heap[g]? = some (.cells #[.bool x, .slice a n c] 73 (0, 0)))
    (hv : WideI w (.agg #[.bool b, .slice a' n' c']) U) (hb : Below w0.heap.size w0 w) (h0 : w0.heap.size ≤ g) (hk : k ≤ LU) (hV : V = U * ((2 ^ k : Nat) : Int)) :
    bodyPost Tryz.prog fn (TrimQ V w0) .ret ⟨tmps, []⟩ ((w.setCell ⟨g, 0, none⟩ (.bool b)).setCell ⟨g, 1, none⟩ (.slice a' n' c')) := by
  obtain ⟨a1, n1, c1, e1, hn⟩ := id hv
  cases e1
  refine bodyPost_ret (int_row_tmp hf _ _ g _ _ hp (row2_set hg _ _)) rfl ⟨k, U, _, _, _, ?_, hk, hV, hv.set2 hg _ _, (hb.setCell (by exact h0) _).setCell (by exact h0) _⟩
  rw [hq]
set_option maxHeartbeats 2000000 in
set_option maxRecDepth 100000 in
theorem trimmed_v (x : Value) (V : Int) (w : World) (h : WideI w x V) {bb : Nat} (hV : V.natAbs < 2 ^ bb) (hbb : bb ≤ 1000000) (hT : TabW w) :
    Calls Tryz.prog 70 #[x, .int .i64 (-2148)] w (TrimQ V w) := by
  have HX : Hid (∀ W, Below w.heap.size w W → WideI W x V) := fun W hW => h.below hW
  have hLU := LU_eq
  have HNO : Hid (∀ W, Below w.heap.size w W → Calls Tryz.prog 95 #[x] W fun e w' => (∃ k : Nat, e = .returned (.int .i64 (k : Nat)) ∧ 2 ^ k ∣ V.natAbs ∧ k ≤ 2000000) ∧ Below W.heap.size W w') := fun W hW => by
    obtain ⟨a, m, c, rfl, hn⟩ := h.below hW
    exact noughts_v _ _ _ W hn hV hbb (hT.below hW)
  have HRT : Hid (∀ W (k : Nat), Below w.heap.size w W → 2 ^ k ∣ V.natAbs → k ≤ 2000000 → ∃ U, V = U * ((2 ^ k : Nat) : Int) ∧ Calls Tryz.prog 40 #[x, .int .i64 (k : Nat)] W (WideR U W)) := fun W k hW hd hk =>
    right_s x V k W (h.below hW) hd hV (by omega) (by omega)
  obtain ⟨a, m, c, rfl, -⟩ := id h
  obtain ⟨ng, hng⟩ : ∃ b, b = decide (V < 0) := ⟨_, rfl⟩
  rw [← hng] at HX HNO HRT ⊢
  clear h hV hbb hT hng
  obtain ⟨w2, hw2⟩ : ∃ W, W = (w.alloc (.cells #[.bool ng, .slice a m c] 73)).alloc (.cells #[.bool false, .slice none 0 0] 73) := ⟨_, rfl⟩
  have HB2 : Hid (Below w.heap.size w w2) := by show Below _ _ _; rw [hw2]; exact ((Below.refl _ _).alloc (Nat.le_refl _) _).alloc (by simp) _
  have q0 : w2.heap[w.heap.size]? = some (.cells #[.bool ng, .slice a m c] 73 (0, 0)) := by rw [hw2]; exact (heap_alloc_old _ _ (by simp)).trans (heap_alloc_new _ _)
  have q1 : w2.heap[w.heap.size + 1]? = some (.cells #[.bool false, .slice none 0 0] 73 (0, 0)) := by
    rw [hw2]
    have := heap_alloc_new (w.alloc (.cells #[.bool ng, .slice a m c] 73)) (.cells #[.bool false, .slice none 0 0] 73)
    rwa [show (w.alloc (.cells #[.bool ng, .slice a m c] 73)).heap.size = w.heap.size + 1 by simp] at this
  have HC : Hid (∀ W, Below w2.heap.size w2 W → W.cell? ⟨w.heap.size, 0, none⟩ = some (.bool ng) ∧ W.cell? ⟨w.heap.size, 1, none⟩ = some (.slice a m c) ∧ W.heap[w.heap.size + 1]? = some (.cells #[.bool false, .slice none 0 0] 73 (0, 0))) := fun W hW =>
    ⟨cell_of_row _ _ 0 _ _ _ (hW.blk q0 (blk_lt q0)), cell_of_row _ _ 1 _ _ _ (hW.blk q0 (blk_lt q0)), hW.blk q1 (blk_lt q1)⟩
  obtain ⟨c0, c1, -⟩ := HC.out w2 (Below.refl _ _)
  clear q0 q1
  go_enter Tryz.func70, Tryz.ntmps70
  go_upto_region 1 with fail
  rw [← hw2]
  clear hw2
  go_wp2_with fail
  (with_reducible refine (HNO.out _ HB2.out).mono ?_)
  rintro e w3 ⟨⟨k, rfl, hd, hk⟩, hb⟩
  have HB3 : Hid (Below w.heap.size w w3) := HB2.out.thru hb
  obtain ⟨d0, d1, q6⟩ := HC.out w3 hb
  have HQ3 : Hid _ := q6
  have HK : Hid (2 ^ k ∣ V.natAbs ∧ k ≤ 2000000) := ⟨hd, hk⟩
  have hw0 : IntKind.i64.wrap 2148 = 2148 := by decide
  obtain ⟨j, hj⟩ : ∃ j : Nat, j = min k 2148 := ⟨_, rfl⟩
  have hmin : min (k : Int) 2148 = (j : Int) := by omega
  have HJ : Hid (j ≤ k ∧ j ≤ LU) := ⟨by omega, by omega⟩
  have hwj : IntKind.i64.wrap (-2148 + (j : Int)) = -2148 + (j : Int) := by rw [IntWalk.i64_in _ (by omega)]
  have HB32 : Hid (Below w2.heap.size w2 w3) := hb
  clear c0 c1 hd hk hb hj
  by_cases h0 : j = 0
  · subst h0
    obtain ⟨f0, f1, e0, e1, f2, e2⟩ := row2 q6
    clear q6 HRT
    go_wp2
    refine trim_end (p := 4) (q := 5) (k := 0) (U := V) rfl rfl rfl HQ3.out (HX.out _ HB3.out) HB3.out (by omega) (Nat.zero_le _) (by simp)
  · have hjp : (0 : Int) < (j : Int) := by omega
    obtain ⟨U, hU, hR⟩ := HRT.out w3 j HB3.out (Nat.dvd_trans (Nat.pow_dvd_pow 2 HJ.out.1) HK.out.1) (Nat.le_trans HJ.out.1 HK.out.2)
    have HU : Hid (V = U * ((2 ^ j : Nat) : Int)) := hU
    have HR : Hid (Calls Tryz.prog 40 #[.agg #[.bool ng, .slice a m c], .int .i64 (j : Nat)] w3 (WideR U w3)) := hR
    clear hU hR h0 HRT q6
    go_wp2_with fail
    (with_reducible refine Calls.mono HR.out ?_)
    rintro e w4 ⟨v, rfl, hv, hb⟩
    have q6 := (HC.out w4 (HB32.out.thru hb)).2.2
    have HQ4 : Hid _ := q6
    have HB4 : Hid (Below w.heap.size w w4) := HB3.out.thru hb
    obtain ⟨a3, k3, c3, rfl, hv3⟩ := hv.agg
    have HV4 : Hid (WideI w4 (.agg #[.bool (decide (U < 0)), .slice a3 k3 c3]) U) := hv3
    obtain ⟨f0, f1, e0, e1, f2, e2⟩ := row2 q6
    clear hv hv3 hb q6
    go_wp2
    exact trim_end (p := 4) (q := 5) (k := j) (U := U) rfl rfl rfl HQ4.out HV4.out HB4.out (by omega) HJ.out.2 HU.out
set_option maxRecDepth 100000 in
theorem infinity_v (w : World) (hT : TabW w) : Calls Tryz.prog 63 #[] w fun e w' => e = .returned (.float .f64 9218868437227405312) ∧ w = w' := by
  have HJ : Hid (∀ W, TabW W → Calls Tryz.prog 64 #[.bool false, .int .u64 1, .int .i64 1023] W fun e w' => e = .returned (.tuple #[.float .f64 9214364837600034816, .int .i64 0]) ∧ W = w') := fun W hW => by
    have := join_any false 1 1023 W (by unfold W64; decide) hW (by decide) (by decide)
    rw [show joinB false 1 1023 = 9214364837600034816 by decide, show joinX 1 1023 = 0 by decide] at this
    exact this
  have hmul : Go.floatBits .mul .f64 9214364837600034816 4611686018427387904 = some 9218868437227405312 := by decide
  have k := run_float_arith (P := Tryz.prog) w .mul 26 .f64 9214364837600034816 4611686018427387904 _ hmul
  have HT : Hid (TabW w) := hT
  clear hT hmul
  go_enter Tryz.func63, Tryz.ntmps63
  go_wp2_with (go_at_call 64; (with_reducible refine (HJ.out _ HT.out).mono ?_); rintro e w' ⟨rfl, rfl⟩)
  go_ret
  exact ⟨rfl, rfl⟩
theorem acc_nil {w : World} {g : Nat} (h : w.heap[g]? = some (.cells #[.int .i64 0, .int .i64 0, .int .i64 0, .int .i64 0, .int .i64 0, .bool false, .slice none 0 0] 75 (0, 0))) : AccT w g [] :=
  ⟨none, 0, 0, h, wide_zero w⟩
set_option maxRecDepth 100000 in
theorem new8_v (w : World) : Calls Tryz.prog 24 #[] w fun e w' => ∃ g, e = .returned (.pointer (some ⟨g, 0, none⟩)) ∧ w.heap.size ≤ g ∧ AccT w' g [] ∧ Below w.heap.size w w' := by
  go_enter Tryz.func24, Tryz.ntmps24
  go_wp2
  go_ret
  exact ⟨_, rfl, Nat.le_refl _, acc_nil (heap_alloc_new _ _), (Below.refl _ _).alloc (Nat.le_refl _) _⟩
theorem wpList_index {P : Program} {ops : Array Oper} {rest : List Oper} {o : Oper} {ac : Act} {W : World} {Q : Exit → Act → World → Prop} (hgd : o.guard = none) (t : TypeId) (x y : Operand) (ho : o.op = .index t x y) (vx vy v : Value) (hx : ac.eval x = vx) (hy : ac.eval y = vy)
    (h : (Instr.index t vx vy).run P W = .ok v W) (hk : wpList P ops Q rest (ac.put o.dst v) W) : wpList P ops Q (o :: rest) ac W :=
  wpList_plain hgd fun _ hK => op_any (.index t x y) ho v (fun o' ho' => by simp [execOp, ho', hx, hy, h]) (hK _ _ hk)
set_option maxHeartbeats 2000000 in
set_option maxRecDepth 100000 in
theorem count8_v {g : Nat} {T : List Term1} (w : World) (h : AccT w g T) (hT : Fit T) : Calls Tryz.prog 28 #[.pointer (some ⟨g, 0, none⟩)] w fun e w' => e = .returned (.int .i64 (T.length : Nat)) ∧ w = w' := by
  have hall := cnt_all hT.1
  have hb := hT.2.2
  obtain ⟨a, m, q, h1, -⟩ := h
  obtain ⟨c0, e0⟩ : ∃ c, c = cntT T 0 := ⟨_, rfl⟩
  obtain ⟨c1, e1⟩ : ∃ c, c = cntT T 1 := ⟨_, rfl⟩
  obtain ⟨c2, e2⟩ : ∃ c, c = cntT T 2 := ⟨_, rfl⟩
  obtain ⟨c3, e3⟩ : ∃ c, c = cntT T 3 := ⟨_, rfl⟩
  obtain ⟨c4, e4⟩ : ∃ c, c = cntT T 4 := ⟨_, rfl⟩
  rw [← e0, ← e1, ← e2, ← e3, ← e4] at hall h1
  have k0 := cell_of_row _ g 0 _ _ _ h1
  have k1 := cell_of_row _ g 1 _ _ _ h1
  have k2 := cell_of_row _ g 2 _ _ _ h1
  have k3 := cell_of_row _ g 3 _ _ _ h1
  have k4 := cell_of_row _ g 4 _ _ _ h1
  obtain ⟨L, hL⟩ : ∃ L, L = T.length := ⟨_, rfl⟩
  rw [← hL] at hb hall ⊢
  have HL : Hid (c0 + c1 + c2 + c3 + c4 = L ∧ L < 4611686018427387904) := ⟨hall, hb⟩
  clear h1 hall hb hL e0 e1 e2 e3 e4 hT
  go_enter Tryz.func28, Tryz.ntmps28
  go_wp2_with fail
  go_loopw [3, 5, 12] (fun n v i wr => ∃ k : Nat, k ≤ 5 ∧ i = .int .i64 (k : Nat) ∧ wr = w ∧ n = .int .i64 ((([c0, c1, c2, c3, c4].take k).sum : Nat) : Int)) (fun _ _ i _ => 5 - (intOf i).toNat)
  case atStart => exact ⟨0, Nat.zero_le _, rfl, by first | exact trivial | rfl, rfl⟩
  case round =>
    obtain ⟨k, hk, rfl, rfl, rfl⟩ := hrel
    have hL1 := HL.out.1
    have hL2 := HL.out.2
    match k, hk with
    | 0, _ =>
      simp only [List.take, List.sum_nil]
      have hI : (Instr.index 60 (.agg #[.int .i64 (c0 : Nat), .int .i64 (c1 : Nat), .int .i64 (c2 : Nat), .int .i64 (c3 : Nat), .int .i64 (c4 : Nat)]) (.int .i64 ((0 : Nat) : Int))).run Tryz.prog wr = .ok (.int .i64 (c0 : Nat)) wr := by kernel_rfl
      have hI2 : Hid _ := hI
      clear hI
      go_wp2_with (refine wpList_index rfl 60 (.tmp 11) (.tmp 12) rfl _ _ _ rfl rfl hI2.out ?_)
      go_roundw
      case rel => exact ⟨1, by omega, by first | rfl | decide, by first | exact trivial | rfl, by refine congrArg (Value.int .i64) ?_; simp only [List.take, List.sum_cons, List.sum_nil]; omega⟩
      case measure => simp [intOf]
    | 1, _ =>
      simp only [List.take, List.sum_cons, List.sum_nil, Nat.add_zero]
      have hI : (Instr.index 60 (.agg #[.int .i64 (c0 : Nat), .int .i64 (c1 : Nat), .int .i64 (c2 : Nat), .int .i64 (c3 : Nat), .int .i64 (c4 : Nat)]) (.int .i64 ((1 : Nat) : Int))).run Tryz.prog wr = .ok (.int .i64 (c1 : Nat)) wr := by kernel_rfl
      have hI2 : Hid _ := hI
      clear hI
      go_wp2_with (refine wpList_index rfl 60 (.tmp 11) (.tmp 12) rfl _ _ _ rfl rfl hI2.out ?_)
      go_roundw
      case rel => exact ⟨2, by omega, by first | rfl | decide, by first | exact trivial | rfl, by refine congrArg (Value.int .i64) ?_; simp only [List.take, List.sum_cons, List.sum_nil]; omega⟩
      case measure => simp [intOf]
    | 2, _ =>
      simp only [List.take, List.sum_cons, List.sum_nil, Nat.add_zero]
      have hI : (Instr.index 60 (.agg #[.int .i64 (c0 : Nat), .int .i64 (c1 : Nat), .int .i64 (c2 : Nat), .int .i64 (c3 : Nat), .int .i64 (c4 : Nat)]) (.int .i64 ((2 : Nat) : Int))).run Tryz.prog wr = .ok (.int .i64 (c2 : Nat)) wr := by kernel_rfl
      have hI2 : Hid _ := hI
      clear hI
      go_wp2_with (refine wpList_index rfl 60 (.tmp 11) (.tmp 12) rfl _ _ _ rfl rfl hI2.out ?_)
      go_roundw
      case rel => exact ⟨3, by omega, by first | rfl | decide, by first | exact trivial | rfl, by refine congrArg (Value.int .i64) ?_; simp only [List.take, List.sum_cons, List.sum_nil]; omega⟩
      case measure => simp [intOf]
    | 3, _ =>
      simp only [List.take, List.sum_cons, List.sum_nil, Nat.add_zero]
      have hI : (Instr.index 60 (.agg #[.int .i64 (c0 : Nat), .int .i64 (c1 : Nat), .int .i64 (c2 : Nat), .int .i64 (c3 : Nat), .int .i64 (c4 : Nat)]) (.int .i64 ((3 : Nat) : Int))).run Tryz.prog wr = .ok (.int .i64 (c3 : Nat)) wr := by kernel_rfl
      have hI2 : Hid _ := hI
      clear hI
      go_wp2_with (refine wpList_index rfl 60 (.tmp 11) (.tmp 12) rfl _ _ _ rfl rfl hI2.out ?_)
      go_roundw
      case rel => exact ⟨4, by omega, by first | rfl | decide, by first | exact trivial | rfl, by refine congrArg (Value.int .i64) ?_; simp only [List.take, List.sum_cons, List.sum_nil]; omega⟩
      case measure => simp [intOf]
    | 4, _ =>
      simp only [List.take, List.sum_cons, List.sum_nil, Nat.add_zero]
      have hI : (Instr.index 60 (.agg #[.int .i64 (c0 : Nat), .int .i64 (c1 : Nat), .int .i64 (c2 : Nat), .int .i64 (c3 : Nat), .int .i64 (c4 : Nat)]) (.int .i64 ((4 : Nat) : Int))).run Tryz.prog wr = .ok (.int .i64 (c4 : Nat)) wr := by kernel_rfl
      have hI2 : Hid _ := hI
      clear hI
      go_wp2_with (refine wpList_index rfl 60 (.tmp 11) (.tmp 12) rfl _ _ _ rfl rfl hI2.out ?_)
      go_roundw
      case rel => exact ⟨5, by omega, by first | rfl | decide, by first | exact trivial | rfl, by refine congrArg (Value.int .i64) ?_; simp only [List.take, List.sum_cons, List.sum_nil]; omega⟩
      case measure => simp [intOf]
    | 5, _ =>
      simp only [List.take, List.sum_cons, List.sum_nil, Nat.add_zero]
      go_wp2
      go_ret
      exact ⟨ret_int (by omega), rfl⟩
end Go.Proofs.YtlffojopfilfeaaGreatDoor
