/- Parts Hj, Hk, Hl of the proof, in one text. -/
import Derived.Test.YtpfnfhikhlceoaaGreatDoorSC
import Derived.Laws.AppendOwn
import Derived.Deep.CutBlock
import Derived.Deep.DeepCutAuto

/- Plain: exponents that lie far out; a row of bytes that grows. -/
namespace Go.Proofs.YtpfnfhikhlceoaaGreatDoor
open Go.RowKit

theorem made_far {N : Nat} {e e' : Int} {L : Nat} (hN : N < 10 ^ L) (hL : L ≤ 2000000) (h : (3000000 ≤ e ∧ 3000000 ≤ e') ∨ (e ≤ -3000000 ∧ e' ≤ -3000000)) (s : Bool) :
    (⟨madeS s N e, madeL N e, madeE N e⟩ : Dc) = ⟨madeS s N e', madeL N e', madeE N e'⟩ ∧ madeX N e = madeX N e' := by
  by_cases h0 : N = 0
  · obtain ⟨a1, a2, a3⟩ := made_none (neg := s) (N := N) (e := e) (.inl h0)
    obtain ⟨b1, b2, b3⟩ := made_none (neg := s) (N := N) (e := e') (.inl h0)
    rw [a1, a2, a3, b1, b2, b3]
    refine ⟨rfl, ?_⟩
    unfold madeX; rw [if_pos h0, if_pos h0]
  · have ht : tz N ≤ L := by
      have h1 := bare_len_le N L hN
      have h2 := bare_len_tz N (by omega)
      omega
    have hx : madeX N e = madeX N e' ∧ madeX N e ≠ 0 := by
      unfold madeX
      rw [if_neg h0, if_neg h0]
      split
      · exact ⟨rfl, by decide⟩
      · rw [if_pos (by omega), if_pos (by omega)]
        exact ⟨rfl, by decide⟩
    obtain ⟨a1, a2, a3⟩ := made_none (neg := s) (N := N) (e := e) (.inr hx.2)
    obtain ⟨b1, b2, b3⟩ := made_none (neg := s) (N := N) (e := e') (.inr (by rw [← hx.1]; exact hx.2))
    rw [a1, a2, a3, b1, b2, b3]
    exact ⟨rfl, hx.1⟩
/-- An exponent as the document caps it, and its own value. -/
def RX (a v : Nat) : Prop := a < 1000000000000 ∧ (a = v ∨ (100000000000 ≤ a ∧ 100000000000 ≤ v))
theorem RX.start : RX 0 0 := ⟨by decide, .inl rfl⟩
theorem RX.on {a v d : Nat} (h : RX a v) (hd : d ≤ 9) (ha : a < 100000000000) : RX (10 * a + d) (10 * v + d) := by
  unfold RX at h ⊢; omega
theorem RX.stop {a v d : Nat} (h : RX a v) (ha : ¬ a < 100000000000) : RX a (10 * v + d) := by
  unfold RX at h ⊢; omega
/-- Two exponents of which the decimals are the same. -/
def SameE (x x' : Int) : Prop := x' = x ∨ (100000000000 ≤ x ∧ 100000000000 ≤ x') ∨ (x ≤ -100000000000 ∧ x' ≤ -100000000000)
theorem pow_same {r : List UInt8} {a : Nat} (h0 : (signL r).2 ≠ []) (h1 : (signL r).2.all isDig = true) (h : RX a (dval (signL r).2)) :
    ∃ x, powL r = some x ∧ SameE x (if (signL r).1 = true then -(a : Int) else a) := by
  unfold powL
  rw [if_neg h0, if_pos h1]
  refine ⟨_, rfl, ?_⟩
  unfold RX at h
  unfold SameE
  generalize dval (signL r).2 = v at *
  cases (signL r).1 <;> simp <;> omega
/-- An exponent, and the point. -/
def ptE (ds : List UInt8) (pt x : Int) : Int := if 0 ≤ pt then x - (ds.length - pt) else x
theorem fin_same {ng : Bool} {ds : List UInt8} {pt x x' : Int} {o : Option (List UInt8)} (h0 : ¬ ds = []) (hd : allDig ds) (hl : ds.length ≤ 1100000) (hpt : pt = -1 ∨ (0 ≤ pt ∧ pt ≤ ds.length)) (ho : powO o = some x) (h : SameE x x') :
    finC ng (some (ds, pt, o)) = (⟨madeS ng (dval ds) (ptE ds pt x'), madeL (dval ds) (ptE ds pt x'), madeE (dval ds) (ptE ds pt x')⟩, madeX (dval ds) (ptE ds pt x')) := by
  rw [fin_some ng ds pt o x h0 ho]
  show ((⟨madeS ng (dval ds) (ptE ds pt x), madeL (dval ds) (ptE ds pt x), madeE (dval ds) (ptE ds pt x)⟩ : Dc), madeX (dval ds) (ptE ds pt x)) = _
  rcases h with h | h
  · rw [h]
  · obtain ⟨a1, a2⟩ := made_far (L := ds.length) (e := ptE ds pt x) (e' := ptE ds pt x') (dval_lt ds hd) (by omega) (by unfold ptE; split <;> omega) ng
    rw [a1, a2]
theorem powL_none1 {r : List UInt8} (h : (signL r).2 = []) : powL r = none := by unfold powL; rw [if_pos h]
theorem powL_none2 {r : List UInt8} (h : (signL r).2.all isDig = false) : powL r = none := by
  unfold powL
  by_cases h0 : (signL r).2 = []
  · rw [if_pos h0]
  · rw [if_neg h0, if_neg (by rw [h]; decide)]
/-- Bytes that a function lays one behind another. -/
def AllR (B : Nat) (ds : List UInt8) (v : Value) (W : World) : Prop := W.ownsRow B 5 1 v ds.length (ds.map fun c => Value.int .u8 (c.toNat : Nat))
theorem AllR.shape {B : Nat} {ds : List UInt8} {v : Value} {W : World} (h : AllR B ds v W) : ∃ a c, v = .slice a ds.length c := by
  rcases h.2 with ⟨h1, h2⟩ | ⟨g, cap, cur, h1, -⟩
  · exact ⟨none, 0, by rw [h1, h2]⟩
  · exact ⟨_, cap, h1⟩
theorem AllR.below {B : Nat} {ds : List UInt8} {v : Value} {W W' : World} (h : AllR B ds v W) (hb : Below W.heap.size W W') : AllR B ds v W' := own_below h hb
theorem AllR.text {B : Nat} {ds : List UInt8} {a : Option Addr} {c : Nat} {W : World} (h : AllR B ds (.slice a ds.length c) W) (h0 : ¬ ds = []) :
    (convert 70 9 (.slice a ds.length c)).run Tryz.prog W = .ok (.string (bs ds)) W := by
  have hc := fun (g : Nat) hg => World.ownsRow.cells h (g := g) hg
  rcases h.2 with ⟨h1, h2⟩ | ⟨g, cap, cur, h1, -⟩
  · exact absurd (List.eq_nil_of_length_eq_zero h2) h0
  · have e : a = some ⟨g, 0, none⟩ := by injection h1
    subst e
    refine run_convert_bytes_back (P := Tryz.prog) W 70 9 5 ⟨g, 0, none⟩ c ds Tryz.underlying70 Tryz.underlying5 Tryz.underlying9 (fun j hj => ?_)
    exact hc g rfl j _ (by rw [List.getElem?_map, List.getElem?_eq_getElem hj]; rfl)
theorem info_byte : ∃ i, Tryz.prog.info? 5 = some i ∧ i.zero = some (.int .u8 0) ∧ i.size = 1 ∧ i.bytes = 1 := by
  have hi : (Tryz.prog.info? 5).map (fun i => (i.zero, i.size, i.bytes)) = some (some (.int .u8 0), 1, 1) := by kernel_rfl
  obtain ⟨i, h1, h2⟩ := Option.map_eq_some_iff.1 hi
  simp only [Prod.mk.injEq] at h2
  exact ⟨i, h1, h2.1, h2.2.1, h2.2.2⟩
end Go.Proofs.YtpfnfhikhlceoaaGreatDoor

/- Walks: the document's answer: Parse. -/
namespace Go.Proofs.YtpfnfhikhlceoaaGreatDoor
open Go.RowKit

/-- The first e, if there is one. -/
theorem first_e : ∀ (l : List UInt8), (∀ j (h : j < l.length), l[j] ≠ 101 ∧ l[j] ≠ 69) ∨ ∃ (m : Nat) (h : m < l.length), (l[m] = 101 ∨ l[m] = 69) ∧ ∀ j (hj : j < m), l[j]'(by omega) ≠ 101 ∧ l[j]'(by omega) ≠ 69
  | [] => .inl (fun j h => absurd h (Nat.not_lt_zero _))
  | c :: r => by
    by_cases hc : c = 101 ∨ c = 69
    · exact .inr ⟨0, by simp, hc, fun j hj => absurd hj (Nat.not_lt_zero _)⟩
    · rcases first_e r with h | ⟨m, h, h1, h2⟩
      · refine .inl (fun j hj => ?_)
        rcases j with _ | j
        · exact ⟨fun e => hc (.inl e), fun e => hc (.inr e)⟩
        · exact h j (by simpa using hj)
      · refine .inr ⟨m + 1, by simpa using h, h1, fun j hj => ?_⟩
        rcases j with _ | j
        · exact ⟨fun e => hc (.inl e), fun e => hc (.inr e)⟩
        · exact h2 j (by omega)
theorem u8_ne {c k : UInt8} {q n : Nat} (hq : q = c.toNat) (hk : k.toNat = n) (h : c ≠ k) : q ≠ n := fun e => h (UInt8.toNat_inj.1 (by omega))
theorem AllR.next {B : Nat} {ds : List UInt8} {c : UInt8} {v : Value} {W : World} (h : W.ownsRow B 5 1 v (ds.length + 1) ((ds.map fun c => Value.int .u8 (c.toNat : Nat)) ++ [.int .u8 (c.toNat : Nat)])) : AllR B (ds ++ [c]) v W := by
  unfold AllR
  rw [List.length_append, List.map_append]
  exact h
theorem dig_snoc {ds : List UInt8} {c : UInt8} (h : allDig ds) (hc : isDig c = true) : allDig (ds ++ [c]) := fun x hx => by
  rcases List.mem_append.1 hx with hx | hx
  · exact h x hx
  · rw [List.mem_singleton.1 hx]; exact hc

set_option maxHeartbeats 16000000 in
set_option maxRecDepth 100000 in
theorem rparse_v (s : ByteArray) (w : World) (hs : s.size ≤ 1048576) : Calls Tryz.prog 20 #[.string s] w (DcQ (readC (bl s)).1 (readC (bl s)).2 w) := by
  obtain ⟨D, hD⟩ : ∃ D, D = (readC (bl s)).1 := ⟨_, rfl⟩
  obtain ⟨X, hX⟩ : ∃ X, X = (readC (bl s)).2 := ⟨_, rfl⟩
  rw [← hD, ← hX]
  have HSG : Hid (∀ W, Calls Tryz.prog 52 #[.string s] W fun e w' => ∃ t, e = .returned (.tuple #[.bool (signL (bl s)).1, .string t]) ∧ bl t = (signL (bl s)).2 ∧ Below W.heap.size W w') := fun W => rsigned_v s W (by omega)
  have HLS : Hid ((signL (bl s)).2.length ≤ 1048576) := by
    show _ ≤ _
    rcases sign_cases (bl s) with ⟨-, r, e1, e2⟩ | ⟨-, -, r, e1, e2⟩ | ⟨-, -, e2⟩
    · rw [e2]; have := bl_len s; rw [e1] at this; simp at this; show r.length ≤ _; omega
    · rw [e2]; have := bl_len s; rw [e1] at this; simp at this; show r.length ≤ _; omega
    · rw [e2]; have := bl_len s; show (bl s).length ≤ _; omega
  have HF0 : Hid (D = (finC (signL (bl s)).1 (scanL (signL (bl s)).2 [] (-1))).1 ∧ X = (finC (signL (bl s)).1 (scanL (signL (bl s)).2 [] (-1))).2) := ⟨hD, hX⟩
  have HB0 : Hid (Below w.heap.size w (w.alloc (.cells #[.bool false, .string ⟨#[]⟩, .int .i64 0] 25))) := (Below.refl _ _).alloc (Nat.le_refl _) _
  have HQ0 : Hid _ := new_blk w (.cells #[.bool false, .string ⟨#[]⟩, .int .i64 0] 25)
  clear hD hX hs
  generalize (signL (bl s)).1 = F at *
  generalize (signL (bl s)).2 = tl at *
  go_enter Tryz.func20, Tryz.ntmps20
  go_wp2_with fail
  refine (HSG.out _).mono ?_
  rintro e w1 ⟨t, rfl, ht, hb⟩
  have HB1 : Hid (Below w.heap.size w w1) := HB0.out.thru hb
  have HQ1 : Hid _ := hb.blk HQ0.out (blk_lt HQ0.out)
  subst ht
  have hts : t.size ≤ 1048576 := HLS.out
  clear hb HB0 HQ0 HSG HLS
  have HF : Hid (D = (finC F (scanL (bl t) [] (-1))).1 ∧ X = (finC F (scanL (bl t) [] (-1))).2) := HF0.out
  clear HF0
  have HBAD : Hid (finC F (scanL (bl t) [] (-1)) = (Dc.none, 3) → D = Dc.none ∧ X = 3) := fun h => by rw [HF.out.1, HF.out.2, h]; exact ⟨rfl, rfl⟩
  have HMD : Hid (∀ ds e, allDig ds → ds.length ≤ 1100000 → finC F (scanL (bl t) [] (-1)) = (⟨madeS F (dval ds) e, madeL (dval ds) e, madeE (dval ds) e⟩, madeX (dval ds) e) → ∀ W, Calls Tryz.prog 28 #[.bool F, .string (bs ds), .int .i64 e] W (DcQ D X W)) := fun ds e h1 h2 h3 W => by
    have := rmade_v F (bs ds) e W h1 (by show ds.length ≤ _; omega)
    rw [bl_bs] at this
    rw [HF.out.1, HF.out.2, h3]; exact this
  have hfe := first_e (bl t)
  clear HF
  go_upto_block 0 with fail
  go_cut [6] (fun nv wx => ∃ n : Nat, nv = .int .i64 (n : Nat) ∧ n ≤ t.size ∧ wx = w1 ∧ Hid (∀ j (h : j < t.size), j < n → t[j] ≠ 101 ∧ t[j] ≠ 69) ∧ Hid (n = t.size ∨ ∃ h : n < t.size, t[n] = 101 ∨ t[n] = 69))
  case first => as_aux_lemma =>
    go_wp2_with fail
    rcases hfe with hfe | ⟨m, hml, hme, hfe⟩
    · have HNE : Hid (∀ j (h : j < t.size), t[j] ≠ 101 ∧ t[j] ≠ 69) := fun j h => by rw [bl_get t j h]; exact hfe j (by rw [bl_len]; exact h)
      clear hfe
      go_loopw [6] (fun nv wr => ∃ n : Nat, n ≤ t.size ∧ nv = .int .i64 (n : Nat) ∧ wr = w1) (fun nv _ => t.size - (intOf nv).toNat)
      case atStart => exact ⟨0, Nat.zero_le _, rfl, rfl⟩
      case round =>
        obtain ⟨n, hn, rfl, hw⟩ := hrel
        have hw := hw.symm
        subst hw
        by_cases hnm : n < t.size
        · obtain ⟨q, hq⟩ : ∃ q, q = (t[n]'(by omega)).toNat := ⟨_, rfl⟩
          have hcv : (t[n]'(by omega)).toNat = q := hq.symm
          have k1 := u8_ne (n := 101) hq rfl (HNE.out n hnm).1
          have k2 := u8_ne (n := 69) hq rfl (HNE.out n hnm).2
          have hq1 : ((q : Int) != 101) = true := by rw [bne_iff_ne]; omega
          have hq2 : ((q : Int) != 69) = true := by rw [bne_iff_ne]; omega
          clear hq k1 k2
          go_wp2_with fail
          go_roundw
          case rel => exact ⟨n + 1, by omega, by go_num, by first | rfl | trivial⟩
          case measure => simp [intOf]; omega
        · have hnn := hn
          obtain rfl : n = t.size := by omega
          clear hnn hnm hn
          go_wp2
          go_meet
          exact ⟨t.size, rfl, Nat.le_refl _, rfl, fun j h _ => HNE.out j h, .inl rfl⟩
    · have hmt : m < t.size := hml
      rcases hme with hme | hme
      · have HNE : Hid (∀ j (h : j < m), t[j]'(by omega) ≠ 101 ∧ t[j]'(by omega) ≠ 69) := fun j h => by rw [bl_get t j (by omega)]; exact hfe j h
        have HME : Hid (t[m]'hmt = 101) := hme
        have hmv : (t[m]'hmt).toNat = 101 := by rw [show t[m]'hmt = 101 from hme]; rfl
        have HMQ : Hid (t[m]'hmt = 101 ∨ t[m]'hmt = 69) := by first | exact .inl hme | exact .inr hme
        have HNF : Hid (∀ j (h : j < t.size), j < m → t[j] ≠ 101 ∧ t[j] ≠ 69) := fun j h hj => by rw [bl_get t j h]; exact hfe j hj
        clear hfe hme hml
        go_loopw [6] (fun nv wr => ∃ n : Nat, n ≤ m ∧ nv = .int .i64 (n : Nat) ∧ wr = w1) (fun nv _ => m - (intOf nv).toNat)
        case atStart => exact ⟨0, Nat.zero_le _, rfl, rfl⟩
        case round =>
          obtain ⟨n, hn, rfl, hw⟩ := hrel
          have hw := hw.symm
          subst hw
          by_cases hnm : n < m
          · obtain ⟨q, hq⟩ : ∃ q, q = (t[n]'(by omega)).toNat := ⟨_, rfl⟩
            have hcv : (t[n]'(by omega)).toNat = q := hq.symm
            have k1 := u8_ne (n := 101) hq rfl (HNE.out n hnm).1
            have k2 := u8_ne (n := 69) hq rfl (HNE.out n hnm).2
            have hq1 : ((q : Int) != 101) = true := by rw [bne_iff_ne]; omega
            have hq2 : ((q : Int) != 69) = true := by rw [bne_iff_ne]; omega
            clear hq k1 k2
            go_wp2_with fail
            go_roundw
            case rel => exact ⟨n + 1, by omega, by go_num, by first | rfl | trivial⟩
            case measure => simp [intOf]; omega
          · have hnn := hn
            obtain rfl : n = m := by omega
            clear hnn hnm hn
            go_wp2
            go_meet
            exact ⟨n, rfl, by omega, rfl, HNF.out, .inr ⟨hmt, HMQ.out⟩⟩
      · have HNE : Hid (∀ j (h : j < m), t[j]'(by omega) ≠ 101 ∧ t[j]'(by omega) ≠ 69) := fun j h => by rw [bl_get t j (by omega)]; exact hfe j h
        have HME : Hid (t[m]'hmt = 69) := hme
        have hmv : (t[m]'hmt).toNat = 69 := by rw [show t[m]'hmt = 69 from hme]; rfl
        have HMQ : Hid (t[m]'hmt = 101 ∨ t[m]'hmt = 69) := by first | exact .inl hme | exact .inr hme
        have HNF : Hid (∀ j (h : j < t.size), j < m → t[j] ≠ 101 ∧ t[j] ≠ 69) := fun j h hj => by rw [bl_get t j h]; exact hfe j hj
        clear hfe hme hml
        go_loopw [6] (fun nv wr => ∃ n : Nat, n ≤ m ∧ nv = .int .i64 (n : Nat) ∧ wr = w1) (fun nv _ => m - (intOf nv).toNat)
        case atStart => exact ⟨0, Nat.zero_le _, rfl, rfl⟩
        case round =>
          obtain ⟨n, hn, rfl, hw⟩ := hrel
          have hw := hw.symm
          subst hw
          by_cases hnm : n < m
          · obtain ⟨q, hq⟩ : ∃ q, q = (t[n]'(by omega)).toNat := ⟨_, rfl⟩
            have hcv : (t[n]'(by omega)).toNat = q := hq.symm
            have k1 := u8_ne (n := 101) hq rfl (HNE.out n hnm).1
            have k2 := u8_ne (n := 69) hq rfl (HNE.out n hnm).2
            have hq1 : ((q : Int) != 101) = true := by rw [bne_iff_ne]; omega
            have hq2 : ((q : Int) != 69) = true := by rw [bne_iff_ne]; omega
            clear hq k1 k2
            go_wp2_with fail
            go_roundw
            case rel => exact ⟨n + 1, by omega, by go_num, by first | rfl | trivial⟩
            case measure => simp [intOf]; omega
          · have hnn := hn
            obtain rfl : n = m := by omega
            clear hnn hnm hn
            go_wp2
            go_meet
            exact ⟨n, rfl, by omega, rfl, HNF.out, .inr ⟨hmt, HMQ.out⟩⟩
  case rest =>
  obtain ⟨n, rfl, hn, hw, HNE, HND⟩ := hcut
  have hw := hw.symm
  subst hw
  clear hfe
  go_upto_region 8 with fail
  go_loopw [7, 8, 9] (fun av pv iv wr => ∃ (ds : List UInt8) (pt : Int) (i : Nat), i ≤ n ∧ AllR w1.heap.size ds av wr ∧ pv = .int .i64 pt ∧ iv = .int .i64 (i : Nat) ∧ scanL (bl t) [] (-1) = scanL ((bl t).drop i) ds pt ∧ allDig ds ∧ ds.length ≤ i ∧ (pt = -1 ∨ (0 ≤ pt ∧ pt ≤ ds.length)) ∧ Below w1.heap.size w1 wr) (fun _ _ iv _ => n - (intOf iv).toNat)
  case atStart => exact ⟨[], -1, 0, Nat.zero_le _, World.ownsRow_nil _ _ _ _, rfl, rfl, by rw [List.drop_zero], (fun c hc => by cases hc), Nat.le_refl _, .inl rfl, Below.refl _ _⟩
  case round =>
    obtain ⟨ds, pt, i, hi, hall, rfl, rfl, hsc, hdg, hdl, hpt, hbl⟩ := hrel
    obtain ⟨ag, cg, rfl⟩ := hall.shape
    have HALL : Hid (AllR w1.heap.size ds (.slice ag ds.length cg) wr) := hall
    have HSC : Hid (scanL (bl t) [] (-1) = scanL ((bl t).drop i) ds pt) := hsc
    have HDG : Hid (allDig ds) := hdg
    have HPT : Hid (pt = -1 ∨ (0 ≤ pt ∧ pt ≤ ds.length)) := hpt
    have HBL : Hid (Below w1.heap.size w1 wr) := hbl
    have HBW : Hid (Below w.heap.size w wr) := HB1.out.trans (hbl.mono HB1.out.size)
    have HROW : Hid _ := hbl.blk HQ1.out (blk_lt HQ1.out)
    have hpt1 : -1 ≤ pt := by omega
    have hpt2 : pt ≤ 1048576 := by omega
    clear hall hsc hdg hpt hbl
    by_cases hlt : i < n
    · have hit : i < t.size := by omega
      obtain ⟨c, hc⟩ : ∃ c, c = t[i]'hit := ⟨_, rfl⟩
      obtain ⟨q, hq⟩ : ∃ q, q = c.toNat := ⟨_, rfl⟩
      have hcv : (t[i]'hit).toNat = q := by rw [hq, hc]
      have HQC : Hid (q = c.toNat) := hq
      have HNC : Hid (c ≠ 101 ∧ c ≠ 69) := by rw [hc]; exact HNE.out i hit hlt
      have HDR : Hid ((bl t).drop i = c :: (bl t).drop (i + 1)) := by show _ = _; rw [hc, bl_get t i hit, ← List.drop_eq_getElem_cons]
      have HDGC : Hid (∀ W, Calls Tryz.prog 53 #[.int .u8 (q : Nat)] W fun e w' => e = .returned (.bool (isDig c)) ∧ Below W.heap.size W w') := fun W => by rw [hq]; exact rdigit_v c W
      clear hc hq
      by_cases hpq : q = 46 ∧ pt < 0
      · obtain ⟨hq46, hp0⟩ := hpq
        have hq1 : ((q : Int) == 46) = true := by rw [beq_iff_eq]; omega
        have HSC2 : Hid (scanL ((bl t).drop i) ds pt = scanL ((bl t).drop (i + 1)) ds ds.length) := by
          show _ = _
          rw [HDR.out, byte_eq (k := 46) (show c.toNat = 46 by rw [← HQC.out]; exact hq46), scan_point _ _ hp0]
        go_wp2_with fail
        go_roundw
        case rel => exact ⟨ds, ds.length, i + 1, by omega, HALL.out, rfl, by go_num, by rw [HSC.out, HSC2.out], HDG.out, by omega, .inr ⟨by omega, Int.le_refl _⟩, HBL.out⟩
        case measure => simp [intOf]; omega
      · cases hdc : isDig c
        · rw [hdc] at HDGC
          have HNONE : Hid (scanL ((bl t).drop i) ds pt = none) := by
            show _ = _
            rw [HDR.out]
            refine scan_bad (by rw [hdc]; decide) ?_ ?_
            · rintro ⟨h1, h2⟩; exact hpq ⟨by rw [HQC.out, h1]; rfl, h2⟩
            · rintro (h | h)
              · exact HNC.out.1 h
              · exact HNC.out.2 h
          by_cases hq46 : q = 46
          · have hp0 : ¬ pt < 0 := fun h => hpq ⟨hq46, h⟩
            have HDG4 : Hid (∀ W, Calls Tryz.prog 53 #[.int .u8 46] W fun e w' => e = .returned (.bool false) ∧ Below W.heap.size W w') := fun W => by have := HDGC.out W; rw [hq46] at this; exact this
            clear hpq hdc
            rw [hq46] at hcv
            clear hq46
            go_wp2_with fail
            refine (HDG4.out _).mono ?_
            rintro e w2 ⟨rfl, hb⟩
            have HROW2 : Hid _ := hb.blk HROW.out (blk_lt HROW.out)
            have HBW2 : Hid (Below w.heap.size w w2) := HBW.out.thru hb
            clear hb
            have HDX : Hid (D = Dc.none ∧ X = 3) := HBAD.out (by rw [HSC.out, HNONE.out]; rfl)
            obtain ⟨f0, c0, f1, c1, f2, c2, r3⟩ := rw3 HROW2.out
            have HRR : Hid _ := r3
            clear r3
            go_wp2
            exact dc_end rfl rfl rfl (HRR.out _ _ _) HDX.out.1 HDX.out.2.symm (below_row3 HBW2.out (Nat.le_refl _) _ _ _)
          · have hq1 : ((q : Int) == 46) = false := by rw [beq_eq_false_iff_ne]; omega
            clear hpq hdc
            go_wp2_with fail
            refine (HDGC.out _).mono ?_
            rintro e w2 ⟨rfl, hb⟩
            have HROW2 : Hid _ := hb.blk HROW.out (blk_lt HROW.out)
            have HBW2 : Hid (Below w.heap.size w w2) := HBW.out.thru hb
            clear hb
            have HDX : Hid (D = Dc.none ∧ X = 3) := HBAD.out (by rw [HSC.out, HNONE.out]; rfl)
            obtain ⟨f0, c0, f1, c1, f2, c2, r3⟩ := rw3 HROW2.out
            have HRR : Hid _ := r3
            clear r3
            go_wp2
            exact dc_end rfl rfl rfl (HRR.out _ _ _) HDX.out.1 HDX.out.2.symm (below_row3 HBW2.out (Nat.le_refl _) _ _ _)
        · rw [hdc] at HDGC
          have HDC : Hid (isDig c = true) := hdc
          have hq1 : ((q : Int) == 46) = false := by
            rw [beq_eq_false_iff_ne]
            have := (isDig_iff c).1 hdc
            rw [← HQC.out] at this; omega
          have HSC2 : Hid (scanL ((bl t).drop i) ds pt = scanL ((bl t).drop (i + 1)) (ds ++ [c]) pt) := by
            show _ = _
            rw [HDR.out, scan_d hdc]
          clear hpq hdc
          go_wp2_with fail
          refine (HDGC.out _).mono ?_
          rintro e w2 ⟨rfl, hb⟩
          have HALL2 : Hid _ := HALL.out.below hb
          have HBL2 : Hid (Below w1.heap.size w1 w2) := HBL.out.thru hb
          clear hb
          obtain ⟨ib, ib0, ib1, ib2, ib3⟩ := info_byte
          go_wp2_with (at_builtin; (refine wpList_append_own _ rfl _ _ 70 rfl w1.heap.size 5 ib (.int .u8 0) 1 1 Tryz.underlying70 ib0 ib1 ib2 ib3 rfl (by decide) _ _ _ rfl (World.ownsRow.alloc HALL2.out _) ⟨w2.heap.size, 0, none⟩ 1 1 [.int .u8 (q : Nat)] rfl rfl (by intro j z hj; match j with | 0 => (obtain rfl : z = .int .u8 (q : Nat) := by simpa using hj.symm); exact cell_of_row _ _ _ _ _ _ (heap_alloc_new _ _) | j + 1 => simp at hj) (by intro z hz; simp at hz; subst hz; rfl) (by unfold maxLen; omega) (by omega) (by have := HBL2.out.size; simp at this ⊢; omega) ?_; intro v' w3 hown' hgrow _; have HRA : Hid (AllR w1.heap.size (ds ++ [c]) v' w3) := AllR.next (by rw [← HQC.out]; exact hown'); have HBL3 : Hid (Below w1.heap.size w1 w3) := ((HBL2.out.alloc (by have := HBL2.out.size; simp at this ⊢; omega) _).grown hgrow (by have := HBL2.out.size; simp at this ⊢; omega) (fun z hz => (HALL2.out.lt z hz).1)); clear hown' hgrow))
          go_roundw
          case rel => exact ⟨ds ++ [c], pt, i + 1, by omega, HRA.out, rfl, by go_num, by rw [HSC.out, HSC2.out], dig_snoc HDG.out HDC.out, by rw [List.length_append]; simp; omega, by rcases HPT.out with h | h; exact .inl h; exact .inr ⟨h.1, by rw [List.length_append]; simp; omega⟩, HBL3.out⟩
          case measure => simp [intOf]; omega
    · obtain rfl : i = n := by omega
      clear hlt hi hpt1 hpt2
      have hpt1 : -1 ≤ pt := by have := HPT.out; omega
      have hpt2 : pt ≤ 1048576 := by have := HPT.out; omega
      have HSC3 : Hid (∃ o, scanL ((bl t).drop i) ds pt = some (ds, pt, o)) := by
        rcases HND.out with h | ⟨h, hc⟩
        · exact ⟨none, by rw [h, show (bl t).drop t.size = [] from List.drop_eq_nil_of_le (by rw [bl_len]; exact Nat.le_refl _)]; rfl⟩
        · exact ⟨some ((bl t).drop (i + 1)), by rw [show (bl t).drop i = t[i]'h :: (bl t).drop (i + 1) by rw [bl_get t i h, ← List.drop_eq_getElem_cons], scan_exp _ _ _ hc]⟩
      by_cases h0 : ds = []
      · have HNIL : Hid (finC F (scanL (bl t) [] (-1)) = (Dc.none, 3)) := by
          show _ = _
          obtain ⟨o, ho⟩ := HSC3.out
          rw [HSC.out, ho, h0]
          rfl
        have hl0 : ds.length = 0 := by rw [h0]; rfl
        rw [hl0]
        rw [hl0] at HALL hdl
        clear h0 hl0
        have HDX : Hid (D = Dc.none ∧ X = 3) := HBAD.out HNIL.out
        obtain ⟨f0, c0, f1, c1, f2, c2, r3⟩ := rw3 HROW.out
        have HRR : Hid _ := r3
        clear r3
        go_wp2
        exact dc_end rfl rfl rfl (HRR.out _ _ _) HDX.out.1 HDX.out.2.symm (below_row3 HBW.out (Nat.le_refl _) _ _ _)
      · have hl0 : ¬ ds.length = 0 := fun h => h0 (List.eq_nil_of_length_eq_zero h)
        have hlp : 0 < ds.length := by omega
        have HN0 : Hid (¬ ds = []) := h0
        have CVX := HALL.out.text h0
        clear h0 HSC3
        by_cases hnt : i = t.size
        · subst hnt
          have HEND : Hid (scanL (bl t) [] (-1) = some (ds, pt, none)) := by
            show _ = _
            rw [HSC.out, show (bl t).drop t.size = [] from List.drop_eq_nil_of_le (by rw [bl_len]; exact Nat.le_refl _)]
            rfl
          have HFIN : Hid (finC F (scanL (bl t) [] (-1)) = (⟨madeS F (dval ds) (ptE ds pt 0), madeL (dval ds) (ptE ds pt 0), madeE (dval ds) (ptE ds pt 0)⟩, madeX (dval ds) (ptE ds pt 0))) := by
            show _ = _
            rw [HEND.out]; exact fin_same HN0.out HDG.out (by omega) HPT.out rfl (.inl rfl)
          have CVY := CVX
          by_cases hp : 0 ≤ pt
          · have HMD2 : Hid (∀ W, Calls Tryz.prog 28 #[.bool F, .string (bs ds), .int .i64 (-((ds.length : Int) - pt))] W (DcQ D X W)) := HMD.out ds _ HDG.out (by omega) (by have := HFIN.out; unfold ptE at this; rw [if_pos hp] at this; first | exact this | (rw [Int.zero_sub] at this; exact this))
            have kpp : pt ≤ ds.length := by rcases HPT.out with h | h <;> omega
            go_wp2_with fail
            with_reducible refine (HMD2.out _).mono ?_
            rintro e w9 ⟨rfl, hb⟩
            have r2 := hb.blk HROW.out (blk_lt HROW.out)
            obtain ⟨f0, c0, f1, c1, f2, c2, r3⟩ := rw3 r2
            have HR9 : Hid _ := r3
            have HB9 : Hid (Below w.heap.size w w9) := HBW.out.thru hb
            clear r2 r3 hb CVY CVX
            simp only [dcV]
            go_wp2
            exact dc_end rfl rfl rfl (HR9.out _ _ _) rfl rfl (below_row3 HB9.out (Nat.le_refl _) _ _ _)
          · have HMD2 : Hid (∀ W, Calls Tryz.prog 28 #[.bool F, .string (bs ds), .int .i64 (0)] W (DcQ D X W)) := HMD.out ds _ HDG.out (by omega) (by have := HFIN.out; unfold ptE at this; rw [if_neg hp] at this; exact this)
            go_wp2_with fail
            with_reducible refine (HMD2.out _).mono ?_
            rintro e w9 ⟨rfl, hb⟩
            have r2 := hb.blk HROW.out (blk_lt HROW.out)
            obtain ⟨f0, c0, f1, c1, f2, c2, r3⟩ := rw3 r2
            have HR9 : Hid _ := r3
            have HB9 : Hid (Below w.heap.size w w9) := HBW.out.thru hb
            clear r2 r3 hb CVY CVX
            simp only [dcV]
            go_wp2
            exact dc_end rfl rfl rfl (HR9.out _ _ _) rfl rfl (below_row3 HB9.out (Nat.le_refl _) _ _ _)
        · have hmt : i < t.size := by omega
          have HEND : Hid (scanL (bl t) [] (-1) = some (ds, pt, some ((bl t).drop (i + 1)))) := by
            show _ = _
            rw [HSC.out, show (bl t).drop i = t[i]'hmt :: (bl t).drop (i + 1) by rw [bl_get t i hmt, ← List.drop_eq_getElem_cons], scan_exp _ _ _ (by rcases HND.out with h | ⟨_, h⟩; exact absurd h hnt; exact h)]
          have HSP : Hid (∀ W, Calls Tryz.prog 52 #[.string (t.extract (i + 1) t.size)] W fun e w' => ∃ r, e = .returned (.tuple #[.bool (signL ((bl t).drop (i + 1))).1, .string r]) ∧ bl r = (signL ((bl t).drop (i + 1))).2 ∧ Below W.heap.size W w') := fun W => by
            have := rsigned_v (t.extract (i + 1) t.size) W (by rw [ByteArray.size_extract]; omega)
            rwa [bl_extract, List.take_of_length_le (by rw [bl_len]; exact Nat.le_refl _)] at this
          have HPL : Hid ((signL ((bl t).drop (i + 1))).2.length ≤ 1048576) := by
            show _ ≤ _
            have hdl2 : ((bl t).drop (i + 1)).length ≤ 1048576 := by rw [List.length_drop, bl_len]; omega
            rcases sign_cases ((bl t).drop (i + 1)) with ⟨-, r, e1, e2⟩ | ⟨-, -, r, e1, e2⟩ | ⟨-, -, e2⟩
            · rw [e2]; rw [e1] at hdl2; simp at hdl2; show r.length ≤ _; omega
            · rw [e2]; rw [e1] at hdl2; simp at hdl2; show r.length ≤ _; omega
            · rw [e2]; exact hdl2
          generalize hrr : (bl t).drop (i + 1) = rr at *
          obtain ⟨sg, hsg⟩ : ∃ b, b = (signL rr).1 := ⟨_, rfl⟩
          rw [← hsg] at HSP
          have HSG : Hid (sg = (signL rr).1) := hsg
          clear hsg hrr
          go_upto_region 19 with fail
          go_wp2_with fail
          with_reducible refine (HSP.out _).mono ?_
          rintro e w2 ⟨t2, rfl, ht2, hb⟩
          have HT2 : Hid (bl t2 = (signL rr).2) := ht2
          have ht2s : t2.size ≤ 1048576 := by rw [← bl_len, ht2]; exact HPL.out
          have HROW2 : Hid _ := hb.blk HROW.out (blk_lt HROW.out)
          have HBW2 : Hid (Below w.heap.size w w2) := HBW.out.thru hb
          have HALL2 : Hid (AllR w1.heap.size ds (.slice ag ds.length cg) w2) := HALL.out.below hb
          clear hb ht2 HSP HPL
          by_cases hz : t2.size = 0
          · have HNIL : Hid (finC F (scanL (bl t) [] (-1)) = (Dc.none, 3)) := by
              show _ = _
              rw [HEND.out]
              exact fin_none _ _ _ _ (powL_none1 (by rw [← HT2.out]; exact List.eq_nil_of_length_eq_zero (by rw [bl_len]; exact hz)))
            have HDX : Hid (D = Dc.none ∧ X = 3) := HBAD.out HNIL.out
            obtain ⟨f0, c0, f1, c1, f2, c2, r3⟩ := rw3 HROW2.out
            have HRR : Hid _ := r3
            clear r3
            go_wp2
            exact dc_end rfl rfl rfl (HRR.out _ _ _) HDX.out.1 HDX.out.2.symm (below_row3 HBW2.out (Nat.le_refl _) _ _ _)
          · have HDS : Hid (∀ W, Calls Tryz.prog 54 #[.string t2] W fun e w' => e = .returned (.bool ((bl t2).all isDig)) ∧ Below W.heap.size W w') := fun W => rdigits_v t2 W (by omega)
            have HNE2 : Hid ((signL rr).2 ≠ []) := by
              show _ ≠ _
              rw [← HT2.out]
              intro h
              exact hz (by rw [← bl_len, h]; rfl)
            cases hall : (bl t2).all isDig
            · rw [hall] at HDS
              have HNIL : Hid (finC F (scanL (bl t) [] (-1)) = (Dc.none, 3)) := by
                show _ = _
                rw [HEND.out]
                exact fin_none _ _ _ _ (powL_none2 (by rw [← HT2.out]; exact hall))
              clear hall
              go_wp2_with fail
              with_reducible refine (HDS.out _).mono ?_
              rintro e w3 ⟨rfl, hb⟩
              have HROW3 : Hid _ := hb.blk HROW2.out (blk_lt HROW2.out)
              have HBW3 : Hid (Below w.heap.size w w3) := HBW2.out.thru hb
              clear hb
              have HDX : Hid (D = Dc.none ∧ X = 3) := HBAD.out HNIL.out
              obtain ⟨f0, c0, f1, c1, f2, c2, r3⟩ := rw3 HROW3.out
              have HRR : Hid _ := r3
              clear r3
              go_wp2
              exact dc_end rfl rfl rfl (HRR.out _ _ _) HDX.out.1 HDX.out.2.symm (below_row3 HBW3.out (Nat.le_refl _) _ _ _)
            · rw [hall] at HDS
              have HALD : Hid (allDig (bl t2)) := all_dig.1 hall
              have HAL2 : Hid ((signL rr).2.all isDig = true) := by show _ = _; rw [← HT2.out]; exact hall
              clear hall
              go_wp2_with fail
              with_reducible refine (HDS.out _).mono ?_
              rintro e w3 ⟨rfl, hb⟩
              have HROW3 : Hid _ := hb.blk HROW2.out (blk_lt HROW2.out)
              have HBW3 : Hid (Below w.heap.size w w3) := HBW2.out.thru hb
              have HALL3 : Hid (AllR w1.heap.size ds (.slice ag ds.length cg) w3) := HALL2.out.below hb
              clear hb HDS
              go_upto_region 23 with fail
              clear hz
              go_loopw [10, 13] (fun ev iv wr => ∃ (a : Int) (i : Nat), i ≤ t2.size ∧ ev = .int .i64 a ∧ iv = .int .i64 (i : Nat) ∧ Hid (0 ≤ a ∧ RX a.toNat (dval ((bl t2).take i))) ∧ wr = w3) (fun _ iv _ => t2.size - (intOf iv).toNat)
              case atStart => exact ⟨0, 0, Nat.zero_le _, rfl, rfl, ⟨Int.le_refl _, RX.start⟩, rfl⟩
              case round =>
                obtain ⟨a, i, hi, rfl, rfl, HRX, hw⟩ := hrel
                have hw := hw.symm
                subst hw
                have hab : 0 ≤ a ∧ a < 1000000000000 := by have h1 := HRX.out.1; have h2 := HRX.out.2.1; omega
                by_cases hlt : i < t2.size
                · have hcd := (isDig_iff _).1 (HALD.out ((bl t2)[i]'(by rw [bl_len]; exact hlt)) (List.getElem_mem _))
                  rw [← bl_get t2 i hlt] at hcd
                  have hnx := dval_take_next (bl t2) i (by rw [bl_len]; exact hlt)
                  rw [← bl_get t2 i hlt] at hnx
                  obtain ⟨c, hc⟩ : ∃ c, c = (t2[i]'hlt).toNat := ⟨_, rfl⟩
                  rw [← hc] at hcd hnx
                  obtain ⟨d, hdd⟩ : ∃ d, d = c - 48 := ⟨_, rfl⟩
                  rw [← hdd] at hnx
                  have hd9 : d ≤ 9 := by omega
                  have hw1 : IntKind.u8.wrap ((((t2[i]'hlt).toNat : Nat) : Int) - 48) = (d : Int) := by rw [← hc, IntKind.wrap_u8]; omega
                  have HNX : Hid (dval ((bl t2).take (i + 1)) = 10 * dval ((bl t2).take i) + d) := hnx
                  clear hcd hnx hc hdd
                  by_cases ha : a < 100000000000
                  · go_wp2_with fail
                    go_roundw
                    case rel => exact ⟨10 * a + d, i + 1, by omega, by first | rfl | go_num, by go_num, ⟨by omega, by rw [HNX.out, show (10 * a + (d : Int)).toNat = 10 * a.toNat + d by omega]; exact HRX.out.2.on hd9 (by omega)⟩, by first | rfl | trivial⟩
                    case measure => simp [intOf]; omega
                  · clear hw1
                    go_wp2_with fail
                    go_roundw
                    case rel => exact ⟨a, i + 1, by omega, rfl, by go_num, ⟨hab.1, by rw [HNX.out]; exact HRX.out.2.stop (by omega)⟩, by first | rfl | trivial⟩
                    case measure => simp [intOf]; omega
                · obtain rfl : i = t2.size := by omega
                  have HSAME : Hid (∃ x, powL rr = some x ∧ SameE x (if sg = true then -a else a)) := by
                    have h1 := HRX.out.2
                    rw [List.take_of_length_le (by rw [bl_len]; exact Nat.le_refl _), HT2.out] at h1
                    rw [HSG.out]
                    have := pow_same HNE2.out HAL2.out h1
                    rwa [show ((a.toNat : Nat) : Int) = a by have := HRX.out.1; omega] at this
                  clear hlt hi
                  obtain ⟨x, hx, hsm⟩ := HSAME.out
                  have HX : Hid (powL rr = some x) := hx
                  have HSM : Hid (SameE x (if sg = true then -a else a)) := hsm
                  clear hx hsm HSAME
                  have CVX3 := HALL3.out.text HN0.out
                  clear CVX
                  cases sg
                  · have CVX := CVX3
                    clear CVX3
                    have HFIN : Hid (finC F (scanL (bl t) [] (-1)) = (⟨madeS F (dval ds) (ptE ds pt a), madeL (dval ds) (ptE ds pt a), madeE (dval ds) (ptE ds pt a)⟩, madeX (dval ds) (ptE ds pt a))) := by
                      show _ = _
                      rw [HEND.out]; exact fin_same HN0.out HDG.out (by omega) HPT.out HX.out HSM.out
                    have CVY := CVX
                    by_cases hp : 0 ≤ pt
                    · have HMD2 : Hid (∀ W, Calls Tryz.prog 28 #[.bool F, .string (bs ds), .int .i64 (a - ((ds.length : Int) - pt))] W (DcQ D X W)) := HMD.out ds _ HDG.out (by omega) (by have := HFIN.out; unfold ptE at this; rw [if_pos hp] at this; first | exact this | (rw [Int.zero_sub] at this; exact this))
                      have kpp : pt ≤ ds.length := by rcases HPT.out with h | h <;> omega
                      go_wp2_with fail
                      with_reducible refine (HMD2.out _).mono ?_
                      rintro e w9 ⟨rfl, hb⟩
                      have r2 := hb.blk HROW3.out (blk_lt HROW3.out)
                      obtain ⟨f0, c0, f1, c1, f2, c2, r3⟩ := rw3 r2
                      have HR9 : Hid _ := r3
                      have HB9 : Hid (Below w.heap.size w w9) := HBW3.out.thru hb
                      clear r2 r3 hb CVY CVX
                      simp only [dcV]
                      go_wp2
                      exact dc_end rfl rfl rfl (HR9.out _ _ _) rfl rfl (below_row3 HB9.out (Nat.le_refl _) _ _ _)
                    · have HMD2 : Hid (∀ W, Calls Tryz.prog 28 #[.bool F, .string (bs ds), .int .i64 (a)] W (DcQ D X W)) := HMD.out ds _ HDG.out (by omega) (by have := HFIN.out; unfold ptE at this; rw [if_neg hp] at this; exact this)
                      go_wp2_with fail
                      with_reducible refine (HMD2.out _).mono ?_
                      rintro e w9 ⟨rfl, hb⟩
                      have r2 := hb.blk HROW3.out (blk_lt HROW3.out)
                      obtain ⟨f0, c0, f1, c1, f2, c2, r3⟩ := rw3 r2
                      have HR9 : Hid _ := r3
                      have HB9 : Hid (Below w.heap.size w w9) := HBW3.out.thru hb
                      clear r2 r3 hb CVY CVX
                      simp only [dcV]
                      go_wp2
                      exact dc_end rfl rfl rfl (HR9.out _ _ _) rfl rfl (below_row3 HB9.out (Nat.le_refl _) _ _ _)
                  · have CVX := CVX3
                    clear CVX3
                    have HFIN : Hid (finC F (scanL (bl t) [] (-1)) = (⟨madeS F (dval ds) (ptE ds pt (-a)), madeL (dval ds) (ptE ds pt (-a)), madeE (dval ds) (ptE ds pt (-a))⟩, madeX (dval ds) (ptE ds pt (-a)))) := by
                      show _ = _
                      rw [HEND.out]; exact fin_same HN0.out HDG.out (by omega) HPT.out HX.out HSM.out
                    have CVY := CVX
                    by_cases hp : 0 ≤ pt
                    · have HMD2 : Hid (∀ W, Calls Tryz.prog 28 #[.bool F, .string (bs ds), .int .i64 ((-a) - ((ds.length : Int) - pt))] W (DcQ D X W)) := HMD.out ds _ HDG.out (by omega) (by have := HFIN.out; unfold ptE at this; rw [if_pos hp] at this; first | exact this | (rw [Int.zero_sub] at this; exact this))
                      have kpp : pt ≤ ds.length := by rcases HPT.out with h | h <;> omega
                      go_wp2_with fail
                      with_reducible refine (HMD2.out _).mono ?_
                      rintro e w9 ⟨rfl, hb⟩
                      have r2 := hb.blk HROW3.out (blk_lt HROW3.out)
                      obtain ⟨f0, c0, f1, c1, f2, c2, r3⟩ := rw3 r2
                      have HR9 : Hid _ := r3
                      have HB9 : Hid (Below w.heap.size w w9) := HBW3.out.thru hb
                      clear r2 r3 hb CVY CVX
                      simp only [dcV]
                      go_wp2
                      exact dc_end rfl rfl rfl (HR9.out _ _ _) rfl rfl (below_row3 HB9.out (Nat.le_refl _) _ _ _)
                    · have HMD2 : Hid (∀ W, Calls Tryz.prog 28 #[.bool F, .string (bs ds), .int .i64 ((-a))] W (DcQ D X W)) := HMD.out ds _ HDG.out (by omega) (by have := HFIN.out; unfold ptE at this; rw [if_neg hp] at this; exact this)
                      go_wp2_with fail
                      with_reducible refine (HMD2.out _).mono ?_
                      rintro e w9 ⟨rfl, hb⟩
                      have r2 := hb.blk HROW3.out (blk_lt HROW3.out)
                      obtain ⟨f0, c0, f1, c1, f2, c2, r3⟩ := rw3 r2
                      have HR9 : Hid _ := r3
                      have HB9 : Hid (Below w.heap.size w w9) := HBW3.out.thru hb
                      clear r2 r3 hb CVY CVX
                      simp only [dcV]
                      go_wp2
                      exact dc_end rfl rfl rfl (HR9.out _ _ _) rfl rfl (below_row3 HB9.out (Nat.le_refl _) _ _ _)
end Go.Proofs.YtpfnfhikhlceoaaGreatDoor

/- Walks: the law DecReads; texts that came in as a slice. -/
namespace Go.Proofs.YtpfnfhikhlceoaaGreatDoor
open Go.RowKit Go.Deep

section
variable {H : Type} {enc : TypeId × Value → H} {w : World} {base : Nat} {spare : Nat → Bool} {held : Bool}
set_option maxRecDepth 100000 in
theorem open_texts {fuel : Nat} {v : Value} {x : DataW H × List MemPlace} (h : DataW.trod enc Tryz.prog w base spare held fuel 35 [v] = some x) (hb : Rows.uptoBulk x.1 ≤ 1048576) :
    v = .slice none 0 0 ∨ ∃ (a : Addr) (len cap : Nat) (ss : Nat → ByteArray), v = .slice (some a) len cap ∧ len ≤ maxLen ∧ (∀ i, i < len → (ss i).size ≤ 1048576) ∧
      (0 < len → ∃ b o, some a = some ⟨b, o, none⟩ ∧ ∀ i, i < len → w.cell? ⟨b, o + i, none⟩ = some (.string (ss i))) := by
  rcases open_strs Tryz.underlying35 Tryz.underlying9 (by kernel_rfl) h with ⟨hcs, _⟩ | ⟨a, len, cap, m, ss, hcs, _, hl, hm, hmm, hx, hel⟩
  · left; simpa using hcs
  right
  simp at hcs
  subst hcs
  have hlm : len ≤ m := by rw [hmm]; split <;> omega
  refine ⟨a, len, cap, ss, rfl, Nat.le_trans hl hm, fun i hi => ?_, fun h0 => ?_⟩
  · rw [hx] at hb
    have h1 : Rows.uptoBulk (DataW.slice (H := H) ((List.range len).map fun i => .lit (.string (ss i).data.toList)) ((List.range (m - len)).map fun j => .lit (.string (ss (len + j)).data.toList))) = Rows.uptoBulkAll ((List.range len).map fun i => (DataW.lit (.string (ss i).data.toList) : DataW H)) + Rows.uptoBulkAll ((List.range (m - len)).map fun j => (DataW.lit (.string (ss (len + j)).data.toList) : DataW H)) + 1 := by simp [Rows.uptoBulk]
    have h2 := bulk_mem (List.mem_map.2 ⟨i, List.mem_range.2 hi, rfl⟩ : (DataW.lit (.string (ss i).data.toList) : DataW H) ∈ (List.range len).map fun i => (DataW.lit (.string (ss i).data.toList) : DataW H))
    have h3 : Rows.uptoBulk (DataW.lit (.string (ss i).data.toList) : DataW H) = (ss i).data.toList.length + 1 := by simp [Rows.uptoBulk]
    have h4 : (ss i).data.toList.length = (ss i).size := rfl
    have h5 : Rows.uptoBulk (DataW.slice (H := H) ((List.range len).map fun i => .lit (.string (ss i).data.toList)) ((List.range (m - len)).map fun j => .lit (.string (ss (len + j)).data.toList))) ≤ 1048576 := hb
    omega
  · obtain ⟨b, o, sp⟩ := a
    have hsp : sp = none := by
      have := (hel 0 (by omega)).1
      simpa [Addr.add] using World.cell?_spot (this.trans rfl)
    subst hsp
    refine ⟨b, o, rfl, fun i hi => ?_⟩
    have := (hel i (by omega)).1
    simpa only [Go.WideShapes.add_plain] using this
end
set_option maxHeartbeats 4000000 in
set_option maxRecDepth 100000 in
theorem decReads_walk (a : Option Addr) (n cp : Nat) (ss : Nat → ByteArray) (w : World) (hn : n ≤ 9223372036854775807) (hz : ∀ i, i < n → (ss i).size ≤ 1048576) (hc : 0 < n → ∃ b o, a = some ⟨b, o, none⟩ ∧ ∀ i, i < n → w.cell? ⟨b, o + i, none⟩ = some (.string (ss i))) (htab : Tab w) :
    Calls Tryz.prog 5 #[.slice a n cp] w fun e w' => e = .returned (.bool true) ∧ Below w.heap.size w w' := by
  have HZ : Hid (∀ i, i < n → (ss i).size ≤ 1048576) := hz
  have KN : Hid (∀ W, Below w.heap.size w W → Calls Tryz.prog 14 #[] W fun e w' => e = .returned (.bool true) ∧ Below W.heap.size W w') := fun W hW => known_any W (htab.below hW)
  clear hz htab
  go_enter Tryz.func5, Tryz.ntmps5
  go_upto_region 2 with fail
  go_loopw [3] (fun v wr => ∃ i : Nat, i ≤ n ∧ v = .int .i64 (i : Nat) ∧ Below w.heap.size w wr) (fun v _ => n - (intOf v).toNat)
  case atStart => exact ⟨0, Nat.zero_le _, rfl, Below.refl _ _⟩
  case round =>
    obtain ⟨i, hi, rfl, hb⟩ := hrel
    have HB0 : Hid (Below w.heap.size w wr) := hb
    clear hb
    by_cases hin : i < n
    · obtain ⟨b, o, rfl, hcell⟩ := hc (by omega)
      obtain ⟨x, hx⟩ : ∃ x, x = ss i := ⟨_, rfl⟩
      have hxw : x.size ≤ 1048576 := by rw [hx]; exact HZ.out i hin
      have hci := hcell i hin
      rw [← hx] at hci
      have HC : Hid (∀ W, Below w.heap.size w W → W.cell? ⟨b, o + i, none⟩ = some (.string x)) := fun W hW => (hW.cell (cell_lt hci)).trans hci
      obtain ⟨D, hD⟩ : ∃ D, D = (readC (bl x)).1 := ⟨_, rfl⟩
      obtain ⟨X, hX⟩ : ∃ X, X = (readC (bl x)).2 := ⟨_, rfl⟩
      have C1 : Hid (∀ W, Calls Tryz.prog 19 #[.string x] W fun e w' => e = .returned (.tuple #[.agg #[.bool D.neg, .string (bs D.s), .int .i64 D.e], .int .i64 X]) ∧ Below W.heap.size W w') := fun W => by
        rw [hD, hX]; exact dparse_any x W (by omega)
      have C2 : Hid (∀ W, Calls Tryz.prog 20 #[.string x] W fun e w' => e = .returned (.tuple #[.agg #[.bool D.neg, .string (bs D.s), .int .i64 D.e], .int .i64 X]) ∧ Below W.heap.size W w') := fun W => by
        rw [hD, hX]; exact rparse_v x W hxw
      clear hx hci hcell hc hD hX hxw
      have c1 := HC.out _ HB0.out
      go_wp2_with fail
      refine (C1.out _).mono ?_
      rintro e v1 ⟨rfl, hb⟩
      have HK1 : Hid (Kept _ (v1.alloc (.cells #[.bool D.neg, .string (bs D.s), .int .i64 D.e] 25))) := (Kept.nil v1).dec D
      have HB1 : Hid (Below w.heap.size w (v1.alloc (.cells #[.bool D.neg, .string (bs D.s), .int .i64 D.e] 25))) := (HB0.out.thru hb).alloc (HB0.out.thru hb).size _
      clear hb c1 HB0
      have c1 := HC.out _ HB1.out
      go_wp2_with fail
      refine (C2.out _).mono ?_
      rintro e v2 ⟨rfl, hb⟩
      have HK2 : Hid (Kept _ (v2.alloc (.cells #[.bool D.neg, .string (bs D.s), .int .i64 D.e] 25))) := (HK1.out.below hb).dec D
      have HB2 : Hid (Below w.heap.size w (v2.alloc (.cells #[.bool D.neg, .string (bs D.s), .int .i64 D.e] 25))) := (HB1.out.thru hb).alloc (HB1.out.thru hb).size _
      clear hb c1 HB1 HK1
      obtain ⟨a0, a1, a2⟩ := HK2.out.decs (.tail _ (.head _))
      obtain ⟨b0, b1, b2⟩ := HK2.out.decs (.head _)
      go_wp2_with fail
      refine (agree_same D X _).mono ?_
      rintro e v3 ⟨rfl, hb⟩
      have HB3 : Hid (Below w.heap.size w v3) := HB2.out.thru hb
      clear hb HB2 HK2 a0 a1 a2 b0 b1 b2
      go_wp2_with fail
      go_roundw
      case rel => exact ⟨i + 1, by omega, by go_num, HB3.out⟩
      case measure => simp [intOf]; omega
    · obtain rfl : i = n := by omega
      go_wp2_with fail
      refine (KN.out _ HB0.out).mono ?_
      rintro e v1 ⟨rfl, hb⟩
      have HBZ : Hid (Below w.heap.size w v1) := HB0.out.thru hb
      clear hb
      go_wp2
      go_ret
      exact ⟨rfl, HBZ.out⟩
end Go.Proofs.YtpfnfhikhlceoaaGreatDoor
