import Derived.Test.YtlbokicainimnaaGreatDoorPRG
import Derived.Test.YtlbokicainimnaaGreatDoorPAW
import Derived.Test.YtlbokicainimnaaGreatDoorPQV
import Derived.Test.YtlbokicainimnaaGreatDoorPQW
import Derived.Test.YtlbokicainimnaaGreatDoorPBM
set_option maxRecDepth 100000
namespace Go.Proofs.YtlbokicainimnaaGreatDoor
open Go Go.RowKit
def BRow (W : World) (g n : Nat) (ys : List Nat) : Prop :=
 ∃ (cs : Array Value) (M : Nat), W.heap[g]? = some (.cells cs 5 (M, M + 1)) ∧ n ≤ M ∧ n ≤ cs.size ∧ ys.length = n ∧ ∀ j, j < n → cs[j]? = some (.int .u8 (ys.getD j 0 : Nat))
theorem BRow.cell {W : World} {g n : Nat} {ys : List Nat} (h : BRow W g n ys) {j : Nat} (hj : j < n) : W.cell? ⟨g, j, none⟩ = some (.int .u8 (ys.getD j 0 : Nat)) := by
 obtain ⟨cs, M, h1, h2, h3, h4, h5⟩ := h
 exact (cell_of_row W g j cs _ _ h1).trans (h5 j hj)
theorem BRow.fro {W : World} {g n : Nat} {ys : List Nat} (h : BRow W g n ys) {j : Nat} (hj : j < n) : W.frozen? ⟨g, j, none⟩ = false := by
 obtain ⟨cs, M, h1, h2, h3, h4, h5⟩ := h
 simp only [World.frozen?, h1]
 rw [decide_eq_false (show ¬ M ≤ j by omega), Bool.false_and]
theorem BRow.len {W : World} {g n : Nat} {ys : List Nat} (h : BRow W g n ys) : ys.length = n := by
 obtain ⟨cs, M, h1, h2, h3, h4, h5⟩ := h
 exact h4
theorem brow_getD {ys : List Nat} {j k v : Nat} (hj : j < ys.length) : (ys.set j v).getD k 0 = if k = j then v else ys.getD k 0 := by
 simp only [List.getD_eq_getElem?_getD, List.getElem?_set]
 by_cases h : k = j
 ·subst h; rw [if_pos rfl, if_pos rfl, if_pos hj]; rfl
 ·rw [if_neg (fun e => h e.symm), if_neg h]
theorem BRow.set {W : World} {g n : Nat} {ys : List Nat} (h : BRow W g n ys) {j : Nat} (hj : j < n) (v : Nat) : BRow (W.setCell ⟨g, j, none⟩ (.int .u8 (v : Nat))) g n (ys.set j v) := by
 obtain ⟨cs, M, h1, h2, h3, h4, h5⟩ := h
 refine ⟨_, M, by simp [World.setCell, Array.getElem?_modify, h1]; rfl, h2, by simpa using h3, by simpa using h4, fun k hk => ?_⟩
 rw [brow_getD (by omega)]
 by_cases hkj : k = j
 ·subst hkj
  rw [if_pos rfl, Array.getElem?_setIfInBounds_self, if_pos (by omega)]
 ·rw [if_neg hkj, Array.getElem?_setIfInBounds_ne (fun e => hkj e.symm)]
  exact h5 k hk
theorem BRow.text {W : World} {g n c : Nat} {ys : List Nat} (h : BRow W g n ys) (hz : ∀ j, j < n → ys.getD j 0 < 256) :
  (convert 151 9 (.slice (some ⟨g, 0, none⟩) n c)).run Tryz.prog W = .ok (.string (bs (bytesN ys))) W := by
 have hl : (bytesN ys).length = n := by rw [bytesN_len]; exact h.len
 have := run_convert_bytes_back (P := Tryz.prog) W 151 9 5 ⟨g, 0, none⟩ c (bytesN ys) Tryz.underlying151 Tryz.underlying5 Tryz.underlying9 (fun j hj => by
  rw [bytesN_get ys j hj (hz j (by omega))]
  have := h.cell (j := j) (by omega)
  rw [show (Addr.mk g 0 none).add j = ⟨g, j, none⟩ by unfold Addr.add; split <;> simp_all]
  exact this)
 rw [hl] at this
 exact this
theorem brow_new (u : ByteArray) (w : World) : ∃ c W', (convert 9 151 (.string u)).run Tryz.prog w = .ok (.slice (some ⟨w.heap.size, 0, none⟩) u.size c) W' ∧ BRow W' w.heap.size u.size ((bl u).map UInt8.toNat) ∧ Below w.heap.size w W' := by
 have h1 := run_bytes_of_string (P := Tryz.prog) w 9 151 5 u Tryz.underlying9 Tryz.underlying151 Tryz.underlying5
 refine ⟨_, _, h1, ⟨_, _, new_blk w.drew _, ?_, ?_, by rw [List.length_map]; rfl, fun j hj => ?_⟩, ((Below.refl _ _).drew).alloc (Nat.le_refl _) _⟩
 ·unfold bytesRow; simp
 ·unfold bytesRow; simp
 ·have hj' : j < u.data.size := hj
  rw [bytesRow_at u _ j hj']
  have hl : j < (bl u).length := by show j < u.data.toList.length; simpa using hj'
  rw [List.getD_eq_getElem?_getD, List.getElem?_map, List.getElem?_eq_getElem hl]
  rfl
theorem plus_val {A : List UInt8} {d : UInt8} {k : Nat} (hd : isDig d = true) (h9 : d ≠ 57) : dval (A ++ [d + 1] ++ List.replicate k 48) = dval (A ++ [d] ++ List.replicate k 57) + 1 := by
 have h0 : ∀ k, dval (List.replicate k 48) = 0 := fun k => by
  induction k with
  | zero => rfl
  | succ k ih => rw [List.replicate_succ, dval_cons, ih]; simp
 have h1 : ∀ k, dval (List.replicate k 57) + 1 = 10 ^ k := fun k => by
  induction k with
  | zero => rfl
  | succ k ih =>
    rw [List.replicate_succ, dval_cons, List.length_replicate, Nat.pow_succ]
    have : (57 : UInt8).toNat - 48 = 9 := rfl
    rw [this]; omega
 have hdn : (d + 1).toNat - 48 = (d.toNat - 48) + 1 := by
  have hr : 48 ≤ d.toNat ∧ d.toNat ≤ 57 := by
   unfold isDig at hd
   simp at hd
   exact ⟨hd.1, hd.2⟩
  have hne : d.toNat ≠ 57 := fun h => h9 (UInt8.toNat_inj.1 h)
  rw [UInt8.toNat_add]
  have : (1 : UInt8).toNat = 1 := rfl
  rw [this]; omega
 have h2 := h1 k
 rw [dval_append (A ++ [d + 1]), dval_append (A ++ [d]), dval_snoc, dval_snoc, List.length_replicate, List.length_replicate, h0, hdn]
 have h3 : (10 * dval A + (d.toNat - 48 + 1)) * 10 ^ k = (10 * dval A + (d.toNat - 48)) * 10 ^ k + 10 ^ k := by
  rw [← Nat.add_assoc, Nat.add_mul, Nat.one_mul]
 omega
theorem plus_row {zs ys : List Nat} {n k : Nat} (hz : zs.length = n + 1) (hy : ys.length = n + 1) (hk : k ≤ n) (hdig : ∀ j, j < n + 1 → 48 ≤ zs.getD j 0 ∧ zs.getD j 0 ≤ 57) (h9 : zs.getD (n - k) 0 ≠ 57)
  (hlo : ∀ j, j ≤ n - k → ys.getD j 0 = zs.getD j 0) (hhi : ∀ j, n - k < j → j ≤ n → ys.getD j 0 = 48 ∧ zs.getD j 0 = 57) :
  dval (bytesN (ys.set (n - k) (ys.getD (n - k) 0 + 1))) = dval (bytesN zs) + 1 ∧ allDig (bytesN (ys.set (n - k) (ys.getD (n - k) 0 + 1))) := by
 obtain ⟨p, hp⟩ : ∃ p, p = n - k := ⟨_, rfl⟩
 rw [← hp] at h9 hlo hhi ⊢
 obtain ⟨d, hd⟩ : ∃ d, d = zs.getD p 0 := ⟨_, rfl⟩
 have hyp : ys.getD p 0 = d := by rw [hlo p (Nat.le_refl _), hd]
 rw [hyp]
 have hgd : ∀ (l : List Nat) (j : Nat) (h : j < l.length), l[j] = l.getD j 0 := fun l j h => by rw [List.getD_eq_getElem?_getD, List.getElem?_eq_getElem h]; rfl
 have ez : zs = zs.take p ++ [d] ++ List.replicate k 57 := by
  apply List.ext_getElem
  ·simp; omega
  ·intro j h1 h2
   by_cases c1 : j < p
   ·rw [List.getElem_append_left (by simp; omega), List.getElem_append_left (by simp; omega)]; simp
   ·by_cases c2 : j = p
    ·subst c2
     rw [List.getElem_append_left (by simp; omega), List.getElem_append_right (by simp; omega), List.getElem_singleton, hgd _ _ h1]
     exact hd.symm
    ·rw [List.getElem_append_right (by simp; omega)]
     rw [List.getElem_replicate, hgd _ _ h1]
     exact (hhi j (by omega) (by omega)).2
 have ey : ys.set p (d + 1) = zs.take p ++ [d + 1] ++ List.replicate k 48 := by
  apply List.ext_getElem
  ·simp; omega
  ·intro j h1 h2
   rw [hgd _ _ h1, brow_getD (by omega)]
   by_cases c1 : j < p
   ·rw [if_neg (by omega), List.getElem_append_left (by simp; omega), List.getElem_append_left (by simp; omega), hlo j (by omega)]
    simp only [List.getElem_take]
    rw [hgd]
   ·by_cases c2 : j = p
    ·subst c2
     rw [if_pos rfl, List.getElem_append_left (by simp; omega), List.getElem_append_right (by simp; omega)]
     simp
    ·rw [if_neg c2, List.getElem_append_right (by simp; omega), List.getElem_replicate]
     exact (hhi j (by omega) (by simp at h1; omega)).1
 have hdr := hdig p (by omega)
 rw [← hd] at hdr h9
 have eb : ∀ (x k y : Nat), bytesN (zs.take p ++ [x] ++ List.replicate k y) = bytesN (zs.take p) ++ [UInt8.ofNat x] ++ List.replicate k (UInt8.ofNat y) := fun x k y => by
  unfold bytesN; rw [List.map_append, List.map_append, List.map_replicate]; rfl
 have e1 : UInt8.ofNat (d + 1) = UInt8.ofNat d + 1 := by
  apply UInt8.toNat_inj.1
  rw [UInt8.toNat_add]
  simp <;> omega
 constructor
 ·rw [ey, eb, e1]
  conv => rhs; rw [ez, eb]
  refine plus_val ?_ ?_
  ·unfold isDig; simp <;> omega
  ·intro h
   have := congrArg UInt8.toNat h
   simp at this <;> omega
 ·refine bytesN_dig (fun j hj => ?_)
  have hj' : j < n + 1 := by rw [List.length_set] at hj; omega
  rw [brow_getD (by omega)]
  by_cases c2 : j = p
  ·rw [if_pos c2]; omega
  ·rw [if_neg c2]
   by_cases c1 : j < p
   ·rw [hlo j (by omega)]; exact hdig j hj'
   ·rw [(hhi j (by omega) (by omega)).1]; decide
set_option maxHeartbeats 2000000 in
theorem plus_v (s : ByteArray) (w : World) (hd : allDig (bl s)) (hs : s.size ≤ 100000) : Calls Tryz.prog 171 #[.string s] w fun e w' => ∃ t : ByteArray, e = .returned (.string t) ∧ allDig (bl t) ∧ dval (bl t) = dval (bl s) + 1 ∧ t.size = s.size + 1 ∧ Below w.heap.size w w' := by
 obtain ⟨n, hn⟩ : ∃ n, n = s.size := ⟨_, rfl⟩
 obtain ⟨u, hu⟩ : ∃ u : ByteArray, u = ⟨#[48]⟩ ++ s := ⟨_, rfl⟩
 have hbu : bl u = 48 :: bl s := by rw [hu]; show ((⟨#[48]⟩ : ByteArray) ++ s).data.toList = _; rw [ByteArray.data_append]; simp; rfl
 have hus : u.size = n + 1 := by
  have h1 : (bl u).length = u.size := rfl
  rw [← h1, hbu, hn]; rfl
 obtain ⟨c, W1, hcv, hrow, hb1⟩ := brow_new u w
 rw [hus] at hcv hrow
 obtain ⟨zs, hzs⟩ : ∃ zs, zs = (bl u).map UInt8.toNat := ⟨_, rfl⟩
 rw [← hzs] at hrow
 have hzl : zs.length = n + 1 := hrow.len
 have hbz : bytesN zs = bl u := by
  rw [hzs]; unfold bytesN
  rw [List.map_map]
  have : (UInt8.ofNat ∘ UInt8.toNat) = id := by funext x; simp
  rw [this, List.map_id]
 have hdz : ∀ j, j < n + 1 → 48 ≤ zs.getD j 0 ∧ zs.getD j 0 ≤ 57 := fun j hj => by
  have hj' : j < (bl u).length := by show j < u.size; omega
  have h1 : zs.getD j 0 = ((bl u)[j]).toNat := by rw [hzs, List.getD_eq_getElem?_getD, List.getElem?_map, List.getElem?_eq_getElem hj']; rfl
  rw [h1]
  have h3 : ∀ x ∈ bl u, isDig x = true := by
   rw [hbu]
   intro x hx
   rcases List.mem_cons.1 hx with h | h
   ·rw [h]; decide
   ·exact hd x h
  have h2 := h3 _ (List.getElem_mem hj')
  unfold isDig at h2
  simp at h2
  exact ⟨h2.1, h2.2⟩
 have hz0 : zs.getD 0 0 = 48 := by rw [hzs, hbu]; rfl
 have HDS : Hid (dval (bytesN zs) = dval (bl s)) := by
  show _ = _
  rw [hbz, hbu, dval_cons]; simp
 have HZ : Hid (zs.length = n + 1 ∧ (∀ j, j < n + 1 → 48 ≤ zs.getD j 0 ∧ zs.getD j 0 ≤ 57) ∧ zs.getD 0 0 = 48) := ⟨hzl, hdz, hz0⟩
 have HROW : Hid (BRow W1 w.heap.size (n + 1) zs) := hrow
 have HB1 : Hid (Below w.heap.size w W1) := hb1
 have HN : Hid (n = s.size ∧ n ≤ 100000) := ⟨hn, by omega⟩
 have i1 : wrap64 (n : Int) = (n : Int) := by unfold wrap64; omega
 have i0 : ¬ (9223372036854775807 < 1 + s.size) := by omega
 clear hn hbu hus hzs hbz hd hs hzl hdz hz0 hrow hb1
 rw [hu] at hcv
 clear hu
 go_enter Tryz.func171, Tryz.ntmps171
 go_wp2_with fail
 go_loopw [4] (fun i wr => ∃ (k : Nat) (ys : List Nat), k ≤ n ∧ i = .int .i64 ((n - k : Nat) : Int) ∧ BRow wr w.heap.size (n + 1) ys ∧ Below w.heap.size w wr ∧ (∀ j, j ≤ n - k → ys.getD j 0 = zs.getD j 0) ∧ (∀ j, n - k < j → j ≤ n → ys.getD j 0 = 48 ∧ zs.getD j 0 = 57)) (fun i _ => (intOf i).toNat)
 case atStart => exact ⟨0, zs, Nat.zero_le _, by first | rfl | go_num, HROW.out, HB1.out, fun j _ => rfl, fun j h1 h2 => by omega⟩
 case round =>
  obtain ⟨k, ys, hk, rfl, hrow, hb, hlo, hhi⟩ := hrel
  have c0 := hrow.cell (j := n - k) (by omega)
  have f0 := hrow.fro (j := n - k) (by omega)
  have hyl := hrow.len
  have hyp := hlo (n - k) (Nat.le_refl _)
  have hrg := HZ.out.2.1 (n - k) (by omega)
  obtain ⟨p, hp⟩ : ∃ p, p = n - k := ⟨_, rfl⟩
  rw [← hp] at c0 f0 hyp hrg hlo hhi ⊢
  obtain ⟨d, hd⟩ : ∃ d, d = ys.getD p 0 := ⟨_, rfl⟩
  rw [← hd] at c0
  have HHI : Hid (∀ j, p < j → j ≤ n → ys.getD j 0 = 48 ∧ zs.getD j 0 = 57) := hhi
  have HLO : Hid (∀ j, j ≤ p → ys.getD j 0 = zs.getD j 0) := hlo
  have HR : Hid (BRow wr w.heap.size (n + 1) ys) := hrow
  have HBR : Hid (Below w.heap.size w wr) := hb
  have HPK : Hid (p = n - k ∧ k ≤ n ∧ d = ys.getD p 0 ∧ d = zs.getD p 0 ∧ 48 ≤ d ∧ d ≤ 57 ∧ ys.length = n + 1) := ⟨hp, hk, hd, by rw [hd]; exact hyp, by rw [hd, hyp]; exact hrg.1, by rw [hd, hyp]; exact hrg.2, hyl⟩
  have q1 : p < n + 1 := by omega
  have q2 : ((p : Int) < (n : Int) + 1) := by omega
  clear hhi hlo hrow hb hyl hyp hrg hp hk hd i1 i0
  by_cases h9 : d = 57
  ·have hp0 : 1 ≤ p := by
    rcases Nat.eq_zero_or_pos p with h | h
    ·have h1 := HZ.out.2.2
     have h2 := HPK.out.2.2.2.1
     rw [h] at h2
     omega
    ·exact h
   have HR2 : Hid (BRow (wr.setCell ⟨w.heap.size, p, none⟩ (.int .u8 ((48 : Nat) : Int))) w.heap.size (n + 1) (ys.set p 48)) := HR.out.set (by omega) 48
   have HB2 : Hid (Below w.heap.size w (wr.setCell ⟨w.heap.size, p, none⟩ (.int .u8 ((48 : Nat) : Int)))) := HBR.out.setCell (Nat.le_refl _) _
   have i2 : IntKind.i64.wrap ((p : Int) - 1) = (p : Int) - 1 := IntWalk.i64_in _ (by have := HN.out.2; omega)
   rw [h9] at c0
   go_wp2
   go_roundw
   case rel =>
    refine ⟨k + 1, ys.set p 48, by have := HPK.out; omega, ?_, HR2.out, HB2.out, ?_, ?_⟩
    ·have := HPK.out
     show Value.int .i64 _ = Value.int .i64 _
     congr 1; omega
    ·intro j hj
     have := HPK.out
     rw [brow_getD (by omega), if_neg (by omega)]
     exact HLO.out j (by omega)
    ·intro j h1 h2
     have := HPK.out
     rw [brow_getD (by omega)]
     by_cases hj : j = p
     ·rw [if_pos hj, hj]; exact ⟨rfl, by omega⟩
     ·rw [if_neg hj]; exact HHI.out j (by omega) h2
   case measure => simp [intOf]; omega
  ·have i2 : IntKind.u8.wrap ((d : Int) + 1) = ((d + 1 : Nat) : Int) := by
    have := HPK.out
    rw [Int.natCast_add]
    exact IntWalk.u8_in _ (by omega)
   have HR2 : Hid (BRow (wr.setCell ⟨w.heap.size, p, none⟩ (.int .u8 ((d + 1 : Nat) : Int))) w.heap.size (n + 1) (ys.set p (d + 1))) := HR.out.set (by omega) (d + 1)
   have HB2 : Hid (Below w.heap.size w (wr.setCell ⟨w.heap.size, p, none⟩ (.int .u8 ((d + 1 : Nat) : Int)))) := HBR.out.setCell (Nat.le_refl _) _
   have hbt : ∀ j, j < n + 1 → (ys.set p (d + 1)).getD j 0 < 256 := fun j hj => by
    have := HPK.out
    rw [brow_getD (by omega)]
    by_cases hjp : j = p
    ·rw [if_pos hjp]; omega
    ·rw [if_neg hjp]
     rcases Nat.lt_or_ge j p with h | h
     ·rw [HLO.out j (by omega)]; have := HZ.out.2.1 j hj; omega
     ·rw [(HHI.out j (by omega) (by omega)).1]; decide
   have htx := HR2.out.text (c := c) hbt
   have hfin : ∃ t : ByteArray, t = bs (bytesN (ys.set p (d + 1))) ∧ allDig (bl t) ∧ dval (bl t) = dval (bl s) + 1 ∧ t.size = s.size + 1 := by
    have hh := HPK.out
    have h5 := plus_row (zs := zs) (ys := ys) (n := n) (k := n - p) HZ.out.1 hh.2.2.2.2.2.2 (by omega) HZ.out.2.1 (by rw [show n - (n - p) = p by omega, ← hh.2.2.2.1]; exact h9) (fun j hj => HLO.out j (by omega)) (fun j h1 h2 => HHI.out j (by omega) h2)
    rw [show n - (n - p) = p by omega, ← hh.2.2.1] at h5
    refine ⟨_, rfl, h5.2, by rw [bl_bs, h5.1]; exact congrArg (· + 1) HDS.out, ?_⟩
    show (bytesN (ys.set p (d + 1))).length = _
    rw [bytesN_len, List.length_set, hh.2.2.2.2.2.2, HN.out.1]
   obtain ⟨t, ht, ht1, ht2, ht3⟩ := hfin
   rw [← ht] at htx
   have HT : Hid _ := (⟨ht1, ht2, ht3⟩ : allDig (bl t) ∧ dval (bl t) = dval (bl s) + 1 ∧ t.size = s.size + 1)
   clear ht ht1 ht2 ht3 hbt
   have ecast : ((d + 1 : Nat) : Int) = (d : Int) + 1 := Int.natCast_add d 1
   rw [ecast] at htx HB2 i2
   clear ecast
   go_wp2
   go_ret
   exact ⟨t, rfl, HT.out.1, HT.out.2.1, HT.out.2.2, HB2.out⟩
end Go.Proofs.YtlbokicainimnaaGreatDoor
namespace Go.Proofs.YtlbokicainimnaaGreatDoor
open Go.RowKit
def MadeQ (neg : Bool) (N : Nat) (e : Int) (w : World) (en : Ending) (w' : World) : Prop :=
 ∃ (d : Dc) (ok : Bool), en = .returned (.tuple #[dcV d, .bool ok]) ∧ (ok = true → d = ⟨madeS neg N e, madeL N e, madeE N e⟩ ∧ madeX N e = 0) ∧ (ok = false → madeX N e ≠ 0) ∧ Below w.heap.size w w'
theorem madeq_end {neg : Bool} {N : Nat} {x : Int} {fn : Func} {p u : Tmp} (hf : fn.results = #[.cell p 35, .tmp u]) {tmps : Array Value} {w0 w : World} {g : Nat} {b ok : Bool} {s : ByteArray} {e : Int}
  (hp : tmps.getD p undef = .pointer (some ⟨g, 0, none⟩)) (hu : tmps.getD u undef = .bool ok) (hg : w.heap[g]? = some (.cells #[.bool b, .string s, .int .i64 e] 35 (0, 0)))
  (h1 : ok = true → (⟨b, bl s, e⟩ : Dc) = ⟨madeS neg N x, madeL N x, madeE N x⟩ ∧ madeX N x = 0) (h2 : ok = false → madeX N x ≠ 0) (hb : Below w0.heap.size w0 w) :
  bodyPost Tryz.prog fn (MadeQ neg N x w0) .ret ⟨tmps, []⟩ w := by
 refine bodyPost_ret (dec_row_tmp hf _ _ g _ _ _ hp hg) rfl ⟨⟨b, bl s, e⟩, ok, ?_, h1, h2, hb⟩
 show _ = Ending.returned (.tuple #[_, _])
 rw [← hu]
 rfl
theorem made_end {l : List UInt8} {k : Nat} {e : Int} {neg : Bool} (h0 : l ≠ []) (ha : allDig l) (hf : l.dropWhile (· == 48) = l) (hl : dval l % 10 ≠ 0) :
  ((⟨neg, l, e + k⟩ : Dc).okB = true → (⟨neg, l, e + k⟩ : Dc) = ⟨madeS neg (dval l * 10 ^ k) e, madeL (dval l * 10 ^ k) e, madeE (dval l * 10 ^ k) e⟩ ∧ madeX (dval l * 10 ^ k) e = 0) ∧
  ((⟨neg, l, e + k⟩ : Dc).okB = false → madeX (dval l * 10 ^ k) e ≠ 0) := by
 obtain ⟨m1, m2, m3, m4⟩ := made_scale neg (dval l) k e
 rw [m1, m2, m3, m4]
 have hb : l = bareD (dval l) := hf.symm.trans (trimL_bare l ha)
 have hp : 0 < dval l := by
  rcases Nat.eq_zero_or_pos (dval l) with h | h
  ·rw [h] at hl; exact absurd rfl hl
  ·exact h
 have hs : strip (dval l) = dval l := strip_not hl
 have ht : tz (dval l) = 0 := tz_not hl
 constructor
 ·intro hok
  have hd := (okB_iff _).1 hok
  have hx : madeX (dval l) (e + k) = 0 := by
   unfold madeX
   rw [hs, ht, ← hb, if_neg (by omega)]
   rcases hd with h | h
   ·have := congrArg Dc.s h
    exact absurd this h0
   ·have h2 : l.length ≤ 8192 := h.2.1
    have h3 : -20000 ≤ e + k := h.2.2.2.2.2.1
    have h4 : e + k ≤ 20000 := h.2.2.2.2.2.2
    rw [if_neg (by omega), if_neg (by omega)]
  obtain ⟨s1, s2, s3⟩ := made_some (neg := neg) hp hx
  refine ⟨?_, hx⟩
  rw [s1, s2, s3, hs, ht, ← hb]
  simp
 ·intro hok hx
  have : (⟨neg, l, e + k⟩ : Dc).ok := by
   right
   unfold madeX at hx
   rw [hs, ht, ← hb, if_neg (by omega)] at hx
   by_cases c1 : 8192 < l.length
   ·rw [if_pos c1] at hx; cases hx
   ·rw [if_neg c1] at hx
    by_cases c2 : 20000 - ((0 : Nat) : Int) < e + k ∨ e + k < -20000 - ((0 : Nat) : Int)
    ·rw [if_pos c2] at hx; cases hx
    ·exact ⟨ha, by show l.length ≤ 8192; omega, hp, hl, hb, by show -20000 ≤ e + (k : Int); omega, by show e + (k : Int) ≤ 20000; omega⟩
  rw [(okB_iff _).2 this] at hok
  cases hok
theorem trim_head {c : UInt8} {r : List UInt8} (h : c ≠ 48) : (c :: r).dropWhile (· == 48) = c :: r := by
 rw [List.dropWhile_cons_of_neg (by simpa using h)]
theorem bl_cons {s : ByteArray} (h : 0 < s.size) : bl s = s[0] :: bl (s.extract 1 s.size) := by
 rw [bl_extract, List.take_of_length_le (by rw [bl_len]; exact Nat.le_refl _), bl_get]
 have key : ∀ (l : List UInt8) (h : 0 < l.length), l = l[0] :: l.drop 1 := fun l h => by
  cases l with
  | nil => cases h
  | cons c r => rfl
 exact key (bl s) h
theorem bl_snoc {s : ByteArray} (h : 0 < s.size) : bl s = bl (s.extract 0 (s.size - 1)) ++ [s[s.size - 1]'(by omega)] := by
 rw [bl_extract, List.drop_zero, bl_get]
 have hl : (bl s).length = s.size := rfl
 rw [List.take_append_getElem (by omega), show s.size - 1 + 1 = s.size by omega, List.take_of_length_le (by omega)]
set_option maxHeartbeats 2000000 in
theorem rmade3_v (neg : Bool) (s : ByteArray) (e : Int) (w : World) (hd : allDig (bl s)) (hs : s.size ≤ 100000) (he : -1000000 ≤ e ∧ e ≤ 1000000) :
  Calls Tryz.prog 58 #[.bool neg, .string s, .int .i64 e] w (MadeQ neg (dval (bl s)) e w) := by
 obtain ⟨N, hN⟩ : ∃ N, N = dval (bl s) := ⟨_, rfl⟩
 rw [← hN]
 have HB0 : Hid (Below w.heap.size w (w.alloc (.cells #[.bool false, .string ⟨#[]⟩, .int .i64 0] 35))) := (Below.refl _ _).alloc (Nat.le_refl _) _
 have HQ0 : Hid _ := new_blk w (.cells #[.bool false, .string ⟨#[]⟩, .int .i64 0] 35)
 have HE : Hid (-1000000 ≤ e ∧ e ≤ 1000000) := he
 have HS : Hid (allDig (bl s) ∧ s.size ≤ 100000 ∧ N = dval (bl s)) := ⟨hd, hs, hN⟩
 obtain ⟨w1, hw1⟩ : ∃ W, W = w.alloc (.cells #[.bool false, .string ⟨#[]⟩, .int .i64 0] 35) := ⟨_, rfl⟩
 rw [← hw1] at HB0 HQ0
 clear hd hs hN he
 go_enter Tryz.func58, Tryz.ntmps58
 go_wp2_with fail
 rw [← hw1]
 clear hw1
 go_loopw [1] (fun sv wr => ∃ t : ByteArray, sv = .string t ∧ allDig (bl t) ∧ t.size ≤ 100000 ∧ dval (bl t) = N ∧ Below w1.heap.size w1 wr) (fun sv _ => match sv with | .string t => t.size | _ => 0)
 case atStart => exact ⟨s, rfl, HS.out.1, HS.out.2.1, HS.out.2.2.symm, Below.refl _ _⟩
 case round =>
  obtain ⟨t, rfl, ht, hts, hv, hb⟩ := hrel
  have HBR : Hid (Below w1.heap.size w1 wr) := hb
  have HV : Hid (dval (bl t) = N) := hv
  have HT : Hid (allDig (bl t) ∧ t.size ≤ 100000) := ⟨ht, hts⟩
  clear hb hv ht hts
  have cut : ∀ K : Prop, (∀ h : 0 < t.size, t[0]'h = 48 → K) → ((t.size = 0 ∨ ∃ h : 0 < t.size, t[0]'h ≠ 48) → K) → K := fun K h1 h2 => by
   by_cases h : 0 < t.size
   ·by_cases h' : t[0]'h = 48
    ·exact h1 h h'
    ·exact h2 (.inr ⟨h, h'⟩)
   ·exact h2 (.inl (by omega))
  refine cut _ (fun h0 hc => ?_) (fun hno => ?_)
  ·have hcs := bl_cons h0
   rw [hc] at hcs
   have hsz : (t.extract 1 t.size).size = t.size - 1 := by rw [ByteArray.size_extract]; omega
   have HR : Hid (allDig (bl (t.extract 1 t.size)) ∧ (t.extract 1 t.size).size ≤ 100000 ∧ dval (bl (t.extract 1 t.size)) = N ∧ (t.extract 1 t.size).size < t.size) := by
    refine ⟨fun c hm => HT.out.1 c (by rw [hcs]; exact List.mem_cons_of_mem _ hm), by have := HT.out.2; omega, ?_, by omega⟩
    have := HV.out
    rw [hcs, dval_cons] at this
    simpa using this
   have hc' : (((t[0]'h0).toNat : Nat) : Int) == 48 := by rw [hc]; rfl
   clear hcs hsz hc cut
   go_wp2
   go_roundw
   case rel => exact ⟨_, rfl, HR.out.1, HR.out.2.1, HR.out.2.2.1, HBR.out⟩
   case measure => exact HR.out.2.2.2
  ·clear cut
   rcases hno with h0 | ⟨h0, hc⟩
   ·have HF : Hid ((bl t).dropWhile (· == 48) = bl t) := by
     have h1 : (bl t).length = t.size := rfl
     have : bl t = [] := List.eq_nil_of_length_eq_zero (by omega)
     show _ = _
     rw [this]; rfl
    have h0' : ¬ 0 < t.size := by omega
    clear h0
    go_wp2_with fail
    clear h0'
    go_loopw [1, 2] (fun sv ev wr => ∃ (t : ByteArray) (k : Nat), sv = .string t ∧ ev = .int .i64 (e + (k : Int)) ∧ allDig (bl t) ∧ (bl t).dropWhile (· == 48) = bl t ∧ t.size + k ≤ 100000 ∧ dval (bl t) * 10 ^ k = N ∧ Below w1.heap.size w1 wr) (fun sv _ _ => match sv with | .string t => t.size | _ => 0)
    case atStart => exact ⟨t, 0, rfl, by simp, HT.out.1, HF.out, HT.out.2, by rw [Nat.pow_zero, Nat.mul_one]; exact HV.out, HBR.out⟩
    case round =>
     clear HT HF HV HBR
     obtain ⟨t, k, rfl, rfl, ht, hf, hts, hv, hb⟩ := hrel
     have HBR : Hid (Below w1.heap.size w1 wr) := hb
     have HT : Hid (allDig (bl t) ∧ (bl t).dropWhile (· == 48) = bl t ∧ t.size + k ≤ 100000 ∧ dval (bl t) * 10 ^ k = N) := ⟨ht, hf, hts, hv⟩
     clear hb hv ht hf hts
     by_cases h0 : 0 < t.size
     ·have hx := bl_snoc h0
      have hlt : t.size - 1 < t.size := by omega
      have j1 : wrap64 ((t.size : Int) - 1) = ((t.size - 1 : Nat) : Int) := by unfold wrap64; have := HT.out.2.2.1; omega
      have j2 : IntKind.i64.wrap ((t.size : Int) - 1) = ((t.size - 1 : Nat) : Int) := by rw [IntWalk.i64_in _ (by have := HT.out.2.2.1; omega)]; omega
      by_cases hc : t[t.size - 1]'hlt = 48
      ·have hsz : (t.extract 0 (t.size - 1)).size = t.size - 1 := by rw [ByteArray.size_extract]; omega
       have j3 : IntKind.i64.wrap (e + (k : Int) + 1) = e + ((k + 1 : Nat) : Int) := by rw [IntWalk.i64_in _ (by have := HT.out.2.2.1; have := HE.out; omega)]; omega
       have HR : Hid (allDig (bl (t.extract 0 (t.size - 1))) ∧ (bl (t.extract 0 (t.size - 1))).dropWhile (· == 48) = bl (t.extract 0 (t.size - 1)) ∧ (t.extract 0 (t.size - 1)).size + (k + 1) ≤ 100000 ∧ dval (bl (t.extract 0 (t.size - 1))) * 10 ^ (k + 1) = N ∧ (t.extract 0 (t.size - 1)).size < t.size) := by
        have h1 := HT.out.1
        have h2 := HT.out.2.1
        have h3 := HT.out.2.2.2
        rw [hc] at hx
        generalize bl (t.extract 0 (t.size - 1)) = l at *
        rw [hx] at h1 h2 h3
        refine ⟨fun c hm => h1 c (List.mem_append_left _ hm), ?_, by have := HT.out.2.2.1; omega, ?_, by omega⟩
        ·cases l with
         | nil => rfl
         | cons c r =>
           by_cases hc48 : c = 48
           ·subst hc48
            have := congrArg List.length h2
            have hle := (List.dropWhile_sublist (l := r ++ [48]) (· == 48)).length_le
            simp at this hle
            omega
           ·exact trim_head hc48
        ·rw [dval_snoc] at h3
         have e48 : (48 : UInt8).toNat - 48 = 0 := rfl
         rw [e48, Nat.add_zero] at h3
         rw [Nat.pow_succ, ← h3]; ac_rfl
       have hc' : (((t[t.size - 1]'hlt).toNat : Nat) : Int) == 48 := by rw [hc]; rfl
       clear hx hsz hc
       go_wp2
       go_roundw
       case rel => exact ⟨_, k + 1, rfl, by first | rfl | exact congrArg _ j3 | rw [j3], HR.out.1, HR.out.2.1, HR.out.2.2.1, HR.out.2.2.2.1, HBR.out⟩
       case measure => exact HR.out.2.2.2.2
      ·have hne : bl t ≠ [] := fun h => by
        have h1 : (bl t).length = t.size := rfl
        rw [h] at h1
        have : ([] : List UInt8).length = 0 := rfl
        omega
       have hlast : dval (bl t) % 10 ≠ 0 := by
        have := last_mod HT.out.1 hne
        rw [hx] at this
        intro h
        rw [← hx, decide_eq_true h, hx] at this
        simp at this
        exact hc this
       have HME : Hid _ := made_end (k := k) (e := e) (neg := neg) hne HT.out.1 HT.out.2.1 hlast
       obtain ⟨ok, hok⟩ : ∃ b, b = (⟨neg, bl t, e + k⟩ : Dc).okB := ⟨_, rfl⟩
       rw [← hok, HT.out.2.2.2] at HME
       have HVD : Hid (∀ W, Calls Tryz.prog 110 #[.agg #[.bool neg, .string t, .int .i64 (e + (k : Int))]] W fun e w' => e = .returned (.bool ok) ∧ Below W.heap.size W w') := fun W => by
        rw [hok]
        have := rvalid3_v ⟨neg, bl t, e + k⟩ W (by have := HT.out.2.2.1; show t.size ≤ _; omega)
        exact this
       have hc' : ((((t[t.size - 1]'hlt).toNat : Nat) : Int) == 48) = false := by
        rw [beq_eq_false_iff_ne]; intro h; exact hc (UInt8.toNat_inj.1 (by have : (48 : UInt8).toNat = 48 := rfl; omega))
       have hem : t.toList.isEmpty = false := emp_not (l := bl t) hne
       clear hx hc hne hlast hok
       go_upto_region 9 with fail
       have hq1 := HBR.out.blk HQ0.out (blk_lt HQ0.out)
       obtain ⟨g8, hg8⟩ : ∃ g, g = wr.heap.size := ⟨_, rfl⟩
       obtain ⟨w8, hw8⟩ : ∃ W, W = wr.alloc (.cells #[.bool neg, .string t, .int .i64 (e + (k : Int))] 35) := ⟨_, rfl⟩
       have HD8 : Hid (∀ W, Below w8.heap.size w8 W → W.heap[g8]? = some (.cells #[.bool neg, .string t, .int .i64 (e + (k : Int))] 35 (0, 0))) := fun W hW => by
        have := new_blk wr (.cells #[.bool neg, .string t, .int .i64 (e + (k : Int))] 35)
        rw [← hw8, ← hg8] at this
        exact hW.blk this (blk_lt this)
       have HQ8 : Hid (∀ W, Below w8.heap.size w8 W → W.heap[w.heap.size]? = some (.cells #[.bool false, .string ⟨#[]⟩, .int .i64 0] 35 (0, 0))) := fun W hW => by
        have h1 : w8.heap[w.heap.size]? = some (.cells #[.bool false, .string ⟨#[]⟩, .int .i64 0] 35 (0, 0)) := by rw [hw8]; exact ((Below.refl _ _).alloc (Nat.le_refl _) _).blk hq1 (blk_lt hq1)
        exact hW.blk h1 (blk_lt h1)
       have HB8 : Hid (Below w.heap.size w w8) := by
        have h1 := HB0.out.thru HBR.out
        have := h1.alloc h1.size (.cells #[.bool neg, .string t, .int .i64 (e + (k : Int))] 35)
        rw [← hw8] at this
        exact this
       rw [← hw8, ← hg8]
       clear hw8 hg8 hq1 hc' hem j1 j2
       have h1 : once [(44, 0), (45, 1), (46, 2)] = true := by kernel_rfl
       have h2 : within [(44, 0), (45, 1), (46, 2)] 47 = true := by kernel_rfl
       let S : Nat → (Nat → Value) → World → Prop := fun i xs W => match i with
        | 0 => xs 0 = .agg #[.bool neg, .string t, .int .i64 (e + (k : Int))]
        | 1 => xs 1 = .agg #[.bool neg, .string t, .int .i64 (e + (k : Int))]
        | 2 => xs 2 = .bool ok
        | _ => True
       have hstab : ∀ j ys W W', S j ys W → Below W.heap.size W W' → S j ys W' := by
        intro j ys W W' h hb
        match j, h with
        | 0, h => exact h
        | 1, h => exact h
        | 2, h => exact h
        | _ + 3, h => exact trivial
       refine wp_region_flow3T 3 5 4 [(44, 0), (45, 1), (46, 2)] [] S (fun _ W => (fun W => Below w8.heap.size w8 W) W) ((Below.refl _ _).drew) (by kernel_rfl) (by kernel_rfl) (by kernel_rfl) (by decide) (by kernel_rfl) h1 (by kernel_rfl) ?_ ?_ ?_ ?_
       ·exact fun j hj => by cases hj
       ·intro j xs ys W e h
        match j, e, h with
        | 0, e, h => exact c_ (e 0 (.inl rfl)) h
        | 1, e, h => exact c_ (e 1 (.inl rfl)) h
        | 2, e, h => exact c_ (e 2 (.inl rfl)) h
        | _ + 3, e, h => exact trivial
       ·refine ⟨⟨⟨trivial, ?_⟩, ?_⟩, ?_⟩
        ·refine flow3_step _ (some 44) rfl rfl rfl h1 h2 gI gB hstab fun ac xs W Dn he hni hb hS K hK => ?_
         exact wp_load_row 35 (.tmp 8) rfl g8 (he 8) _ _ _ _ (HD8.out W hb) Tryz.underlying35 rfl (by kernel_rfl) (hK _ _ rfl bR nA)
        ·refine flow3_step _ (some 45) rfl rfl rfl h1 h2 gI gB hstab fun ac xs W Dn he hni hb hS K hK => ?_
         exact wp_load_row 35 (.tmp 8) rfl g8 (he 8) _ _ _ _ (HD8.out W hb) Tryz.underlying35 rfl (by kernel_rfl) (hK _ _ rfl bR nA)
        ·refine flow3_step _ (some 46) rfl rfl rfl h1 h2 gI gB hstab fun ac xs W Dn he hni hb hS K hK => ?_
         have e0 := (he 45).trans (hS 1 (by kernel_rfl))
         refine op_call 110 _ _ rfl _ (by simp only [List.map, e0]) (by go_simp) (HVD.out W) ?_
         rintro e' W' ⟨rfl, hb'⟩
         exact ⟨_, rfl, hK _ _ (rfl) hb' nA⟩
       ·intro xs WL Dn hall hb hS hD
        have s0 : xs 0 = _ := hS 0 (by decide)
        have s2 : xs 2 = _ := hS 2 (by decide)
        obtain ⟨f0, c0, f1, c1, f2, c2, r3⟩ := rw3 (HQ8.out WL hb)
        have HR : Hid _ := r3
        have HBB : Hid (Below w.heap.size w WL) := HB8.out.thru hb
        simp only [layAll, s0, s2, List.setIfInBounds_toArray, List.set_cons_succ, List.set_cons_zero]
        clear hS hD hall hstab S hb r3 s0 s2 h1 h2
        go_wp2
        exact madeq_end rfl rfl rfl (HR.out _ _ _) (fun h => HME.out.1 h) (fun h => HME.out.2 h) (below_row3 HBB.out (Nat.le_refl _) _ _ _)
     ·have hte : t = ⟨#[]⟩ := by
       have h1 : (bl t).length = t.size := rfl
       have : bl t = [] := List.eq_nil_of_length_eq_zero (by omega)
       exact bl_inj this
      have HN0 : Hid (N = 0) := by
       show _ = _
       rw [← HT.out.2.2.2, hte]; show dval [] * _ = 0; rw [dval_nil, Nat.zero_mul]
      clear HT
      subst hte
      have hq1 := HBR.out.blk HQ0.out (blk_lt HQ0.out)
      obtain ⟨f0, c0, f1, c1, f2, c2, r3⟩ := rw3 hq1
      have HR : Hid _ := r3
      have HB1 : Hid (Below w.heap.size w wr) := HB0.out.thru HBR.out
      clear r3 hq1 h0
      go_wp2
      obtain ⟨z1, z2, z3, z4⟩ := made_zero neg e
      exact madeq_end rfl rfl rfl (HR.out _ _ _) (fun _ => by rw [HN0.out, z1, z2, z3, z4]; exact ⟨rfl, rfl⟩) (fun h => by cases h) (below_row3 HB1.out (Nat.le_refl _) _ _ _)
   ·have HF : Hid ((bl t).dropWhile (· == 48) = bl t) := by
     show _ = _
     rw [bl_cons h0]
     exact trim_head hc
    have hc' : ((((t[0]'h0).toNat : Nat) : Int) == 48) = false := by
     rw [beq_eq_false_iff_ne]; intro h; exact hc (UInt8.toNat_inj.1 (by have : (48 : UInt8).toNat = 48 := rfl; omega))
    clear hc
    go_wp2_with fail
    clear hc'
    go_loopw [1, 2] (fun sv ev wr => ∃ (t : ByteArray) (k : Nat), sv = .string t ∧ ev = .int .i64 (e + (k : Int)) ∧ allDig (bl t) ∧ (bl t).dropWhile (· == 48) = bl t ∧ t.size + k ≤ 100000 ∧ dval (bl t) * 10 ^ k = N ∧ Below w1.heap.size w1 wr) (fun sv _ _ => match sv with | .string t => t.size | _ => 0)
    case atStart => exact ⟨t, 0, rfl, by simp, HT.out.1, HF.out, HT.out.2, by rw [Nat.pow_zero, Nat.mul_one]; exact HV.out, HBR.out⟩
    case round =>
     clear HT HF HV HBR
     obtain ⟨t, k, rfl, rfl, ht, hf, hts, hv, hb⟩ := hrel
     have HBR : Hid (Below w1.heap.size w1 wr) := hb
     have HT : Hid (allDig (bl t) ∧ (bl t).dropWhile (· == 48) = bl t ∧ t.size + k ≤ 100000 ∧ dval (bl t) * 10 ^ k = N) := ⟨ht, hf, hts, hv⟩
     clear hb hv ht hf hts
     by_cases h0 : 0 < t.size
     ·have hx := bl_snoc h0
      have hlt : t.size - 1 < t.size := by omega
      have j1 : wrap64 ((t.size : Int) - 1) = ((t.size - 1 : Nat) : Int) := by unfold wrap64; have := HT.out.2.2.1; omega
      have j2 : IntKind.i64.wrap ((t.size : Int) - 1) = ((t.size - 1 : Nat) : Int) := by rw [IntWalk.i64_in _ (by have := HT.out.2.2.1; omega)]; omega
      by_cases hc : t[t.size - 1]'hlt = 48
      ·have hsz : (t.extract 0 (t.size - 1)).size = t.size - 1 := by rw [ByteArray.size_extract]; omega
       have j3 : IntKind.i64.wrap (e + (k : Int) + 1) = e + ((k + 1 : Nat) : Int) := by rw [IntWalk.i64_in _ (by have := HT.out.2.2.1; have := HE.out; omega)]; omega
       have HR : Hid (allDig (bl (t.extract 0 (t.size - 1))) ∧ (bl (t.extract 0 (t.size - 1))).dropWhile (· == 48) = bl (t.extract 0 (t.size - 1)) ∧ (t.extract 0 (t.size - 1)).size + (k + 1) ≤ 100000 ∧ dval (bl (t.extract 0 (t.size - 1))) * 10 ^ (k + 1) = N ∧ (t.extract 0 (t.size - 1)).size < t.size) := by
        have h1 := HT.out.1
        have h2 := HT.out.2.1
        have h3 := HT.out.2.2.2
        rw [hc] at hx
        generalize bl (t.extract 0 (t.size - 1)) = l at *
        rw [hx] at h1 h2 h3
        refine ⟨fun c hm => h1 c (List.mem_append_left _ hm), ?_, by have := HT.out.2.2.1; omega, ?_, by omega⟩
        ·cases l with
         | nil => rfl
         | cons c r =>
           by_cases hc48 : c = 48
           ·subst hc48
            have := congrArg List.length h2
            have hle := (List.dropWhile_sublist (l := r ++ [48]) (· == 48)).length_le
            simp at this hle
            omega
           ·exact trim_head hc48
        ·rw [dval_snoc] at h3
         have e48 : (48 : UInt8).toNat - 48 = 0 := rfl
         rw [e48, Nat.add_zero] at h3
         rw [Nat.pow_succ, ← h3]; ac_rfl
       have hc' : (((t[t.size - 1]'hlt).toNat : Nat) : Int) == 48 := by rw [hc]; rfl
       clear hx hsz hc
       go_wp2
       go_roundw
       case rel => exact ⟨_, k + 1, rfl, by first | rfl | exact congrArg _ j3 | rw [j3], HR.out.1, HR.out.2.1, HR.out.2.2.1, HR.out.2.2.2.1, HBR.out⟩
       case measure => exact HR.out.2.2.2.2
      ·have hne : bl t ≠ [] := fun h => by
        have h1 : (bl t).length = t.size := rfl
        rw [h] at h1
        have : ([] : List UInt8).length = 0 := rfl
        omega
       have hlast : dval (bl t) % 10 ≠ 0 := by
        have := last_mod HT.out.1 hne
        rw [hx] at this
        intro h
        rw [← hx, decide_eq_true h, hx] at this
        simp at this
        exact hc this
       have HME : Hid _ := made_end (k := k) (e := e) (neg := neg) hne HT.out.1 HT.out.2.1 hlast
       obtain ⟨ok, hok⟩ : ∃ b, b = (⟨neg, bl t, e + k⟩ : Dc).okB := ⟨_, rfl⟩
       rw [← hok, HT.out.2.2.2] at HME
       have HVD : Hid (∀ W, Calls Tryz.prog 110 #[.agg #[.bool neg, .string t, .int .i64 (e + (k : Int))]] W fun e w' => e = .returned (.bool ok) ∧ Below W.heap.size W w') := fun W => by
        rw [hok]
        have := rvalid3_v ⟨neg, bl t, e + k⟩ W (by have := HT.out.2.2.1; show t.size ≤ _; omega)
        exact this
       have hc' : ((((t[t.size - 1]'hlt).toNat : Nat) : Int) == 48) = false := by
        rw [beq_eq_false_iff_ne]; intro h; exact hc (UInt8.toNat_inj.1 (by have : (48 : UInt8).toNat = 48 := rfl; omega))
       have hem : t.toList.isEmpty = false := emp_not (l := bl t) hne
       clear hx hc hne hlast hok
       go_upto_region 9 with fail
       have hq1 := HBR.out.blk HQ0.out (blk_lt HQ0.out)
       obtain ⟨g8, hg8⟩ : ∃ g, g = wr.heap.size := ⟨_, rfl⟩
       obtain ⟨w8, hw8⟩ : ∃ W, W = wr.alloc (.cells #[.bool neg, .string t, .int .i64 (e + (k : Int))] 35) := ⟨_, rfl⟩
       have HD8 : Hid (∀ W, Below w8.heap.size w8 W → W.heap[g8]? = some (.cells #[.bool neg, .string t, .int .i64 (e + (k : Int))] 35 (0, 0))) := fun W hW => by
        have := new_blk wr (.cells #[.bool neg, .string t, .int .i64 (e + (k : Int))] 35)
        rw [← hw8, ← hg8] at this
        exact hW.blk this (blk_lt this)
       have HQ8 : Hid (∀ W, Below w8.heap.size w8 W → W.heap[w.heap.size]? = some (.cells #[.bool false, .string ⟨#[]⟩, .int .i64 0] 35 (0, 0))) := fun W hW => by
        have h1 : w8.heap[w.heap.size]? = some (.cells #[.bool false, .string ⟨#[]⟩, .int .i64 0] 35 (0, 0)) := by rw [hw8]; exact ((Below.refl _ _).alloc (Nat.le_refl _) _).blk hq1 (blk_lt hq1)
        exact hW.blk h1 (blk_lt h1)
       have HB8 : Hid (Below w.heap.size w w8) := by
        have h1 := HB0.out.thru HBR.out
        have := h1.alloc h1.size (.cells #[.bool neg, .string t, .int .i64 (e + (k : Int))] 35)
        rw [← hw8] at this
        exact this
       rw [← hw8, ← hg8]
       clear hw8 hg8 hq1 hc' hem j1 j2
       have h1 : once [(44, 0), (45, 1), (46, 2)] = true := by kernel_rfl
       have h2 : within [(44, 0), (45, 1), (46, 2)] 47 = true := by kernel_rfl
       let S : Nat → (Nat → Value) → World → Prop := fun i xs W => match i with
        | 0 => xs 0 = .agg #[.bool neg, .string t, .int .i64 (e + (k : Int))]
        | 1 => xs 1 = .agg #[.bool neg, .string t, .int .i64 (e + (k : Int))]
        | 2 => xs 2 = .bool ok
        | _ => True
       have hstab : ∀ j ys W W', S j ys W → Below W.heap.size W W' → S j ys W' := by
        intro j ys W W' h hb
        match j, h with
        | 0, h => exact h
        | 1, h => exact h
        | 2, h => exact h
        | _ + 3, h => exact trivial
       refine wp_region_flow3T 3 5 4 [(44, 0), (45, 1), (46, 2)] [] S (fun _ W => (fun W => Below w8.heap.size w8 W) W) ((Below.refl _ _).drew) (by kernel_rfl) (by kernel_rfl) (by kernel_rfl) (by decide) (by kernel_rfl) h1 (by kernel_rfl) ?_ ?_ ?_ ?_
       ·exact fun j hj => by cases hj
       ·intro j xs ys W e h
        match j, e, h with
        | 0, e, h => exact c_ (e 0 (.inl rfl)) h
        | 1, e, h => exact c_ (e 1 (.inl rfl)) h
        | 2, e, h => exact c_ (e 2 (.inl rfl)) h
        | _ + 3, e, h => exact trivial
       ·refine ⟨⟨⟨trivial, ?_⟩, ?_⟩, ?_⟩
        ·refine flow3_step _ (some 44) rfl rfl rfl h1 h2 gI gB hstab fun ac xs W Dn he hni hb hS K hK => ?_
         exact wp_load_row 35 (.tmp 8) rfl g8 (he 8) _ _ _ _ (HD8.out W hb) Tryz.underlying35 rfl (by kernel_rfl) (hK _ _ rfl bR nA)
        ·refine flow3_step _ (some 45) rfl rfl rfl h1 h2 gI gB hstab fun ac xs W Dn he hni hb hS K hK => ?_
         exact wp_load_row 35 (.tmp 8) rfl g8 (he 8) _ _ _ _ (HD8.out W hb) Tryz.underlying35 rfl (by kernel_rfl) (hK _ _ rfl bR nA)
        ·refine flow3_step _ (some 46) rfl rfl rfl h1 h2 gI gB hstab fun ac xs W Dn he hni hb hS K hK => ?_
         have e0 := (he 45).trans (hS 1 (by kernel_rfl))
         refine op_call 110 _ _ rfl _ (by simp only [List.map, e0]) (by go_simp) (HVD.out W) ?_
         rintro e' W' ⟨rfl, hb'⟩
         exact ⟨_, rfl, hK _ _ (rfl) hb' nA⟩
       ·intro xs WL Dn hall hb hS hD
        have s0 : xs 0 = _ := hS 0 (by decide)
        have s2 : xs 2 = _ := hS 2 (by decide)
        obtain ⟨f0, c0, f1, c1, f2, c2, r3⟩ := rw3 (HQ8.out WL hb)
        have HR : Hid _ := r3
        have HBB : Hid (Below w.heap.size w WL) := HB8.out.thru hb
        simp only [layAll, s0, s2, List.setIfInBounds_toArray, List.set_cons_succ, List.set_cons_zero]
        clear hS hD hall hstab S hb r3 s0 s2 h1 h2
        go_wp2
        exact madeq_end rfl rfl rfl (HR.out _ _ _) (fun h => HME.out.1 h) (fun h => HME.out.2 h) (below_row3 HBB.out (Nat.le_refl _) _ _ _)
     ·have hte : t = ⟨#[]⟩ := by
       have h1 : (bl t).length = t.size := rfl
       have : bl t = [] := List.eq_nil_of_length_eq_zero (by omega)
       exact bl_inj this
      have HN0 : Hid (N = 0) := by
       show _ = _
       rw [← HT.out.2.2.2, hte]; show dval [] * _ = 0; rw [dval_nil, Nat.zero_mul]
      clear HT
      subst hte
      have hq1 := HBR.out.blk HQ0.out (blk_lt HQ0.out)
      obtain ⟨f0, c0, f1, c1, f2, c2, r3⟩ := rw3 hq1
      have HR : Hid _ := r3
      have HB1 : Hid (Below w.heap.size w wr) := HB0.out.thru HBR.out
      clear r3 hq1 h0
      go_wp2
      obtain ⟨z1, z2, z3, z4⟩ := made_zero neg e
      exact madeq_end rfl rfl rfl (HR.out _ _ _) (fun _ => by rw [HN0.out, z1, z2, z3, z4]; exact ⟨rfl, rfl⟩) (fun h => by cases h) (below_row3 HB1.out (Nat.le_refl _) _ _ _)
end Go.Proofs.YtlbokicainimnaaGreatDoor
