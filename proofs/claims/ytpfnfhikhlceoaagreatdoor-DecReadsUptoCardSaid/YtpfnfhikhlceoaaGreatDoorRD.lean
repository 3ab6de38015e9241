/- Parts Eq of the proof, in one text. -/
import Derived.Test.YtpfnfhikhlceoaaGreatDoorRC
import Derived.WalkMore

/- Walks: dec's Parse. -/
namespace Go.Proofs.YtpfnfhikhlceoaaGreatDoor
open Go.RowKit

def powO : Option (List UInt8) → Option Int
  | none => some 0
  | some r => powL r
/-- What is told of a mantissa scanned. -/
def finC (ng : Bool) : Option (List UInt8 × Int × Option (List UInt8)) → Dc × Int
  | none => (Dc.none, 3)
  | some (ds, pt, o) => if ds = [] then (Dc.none, 3) else match powO o with
    | none => (Dc.none, 3)
    | some x => (⟨madeS ng (dval ds) (if 0 ≤ pt then x - (ds.length - pt) else x), madeL (dval ds) (if 0 ≤ pt then x - (ds.length - pt) else x), madeE (dval ds) (if 0 ≤ pt then x - (ds.length - pt) else x)⟩, madeX (dval ds) (if 0 ≤ pt then x - (ds.length - pt) else x))
def readC (l : List UInt8) : Dc × Int := finC (signL l).1 (scanL (signL l).2 [] (-1))
theorem builder_kept {T e : TypeId} {B b : Nat} {bs : List Value} {w w' : World} (h : Lib.IsBuilder T e B b bs w) (hb : Below w.heap.size w w') : Lib.IsBuilder T e B b bs w' := by
  have key : ∀ p, Lib.BuilderAt T e B b p bs w → Lib.BuilderAt T e B b p bs w' := fun p h => by
    obtain ⟨h1, v, h2, h3, h4⟩ := h
    exact ⟨h1, v, hb.blk h2 (blk_lt h2), own_below h3 hb, h4⟩
  rcases h with h | h
  · exact .inl (key _ h)
  · exact .inr (key _ h)
theorem fin_some (ng : Bool) (ds : List UInt8) (pt : Int) (o : Option (List UInt8)) (x : Int) (h0 : ¬ ds = []) (h : powO o = some x) : finC ng (some (ds, pt, o)) = (⟨madeS ng (dval ds) (if 0 ≤ pt then x - (ds.length - pt) else x), madeL (dval ds) (if 0 ≤ pt then x - (ds.length - pt) else x), madeE (dval ds) (if 0 ≤ pt then x - (ds.length - pt) else x)⟩, madeX (dval ds) (if 0 ≤ pt then x - (ds.length - pt) else x)) := by
  show (if ds = [] then (Dc.none, (3 : Int)) else match powO o with | none => (Dc.none, (3 : Int)) | some x => _) = _
  rw [if_neg h0, h]
theorem fin_none (ng : Bool) (ds : List UInt8) (pt : Int) (r : List UInt8) (h : powL r = none) : finC ng (some (ds, pt, some r)) = (Dc.none, 3) := by
  show (if ds = [] then (Dc.none, (3 : Int)) else match powL r with | none => (Dc.none, (3 : Int)) | some x => _) = _
  rw [h]
  by_cases h : ds = []
  · rw [if_pos h]
  · rw [if_neg h]
theorem scan_d {c : UInt8} {r ds : List UInt8} {pt : Int} (h : isDig c = true) : scanL (c :: r) ds pt = scanL r (ds ++ [c]) pt := by
  show (if isDig c = true then _ else _) = _; rw [if_pos h]
theorem scan_bad {c : UInt8} {r ds : List UInt8} {pt : Int} (h1 : ¬ isDig c = true) (h2 : ¬ (c = 46 ∧ pt < 0)) (h3 : ¬ (c = 101 ∨ c = 69)) : scanL (c :: r) ds pt = none := by
  show (if isDig c = true then _ else if c = 46 ∧ pt < 0 then _ else if c = 101 ∨ c = 69 then _ else _) = _
  rw [if_neg h1, if_neg h2, if_neg h3]
theorem powL_bd (l : List UInt8) {x : Int} (h : powL l = some x) : -1099511627776 ≤ x ∧ x ≤ 1099511627776 := by
  unfold powL at h
  by_cases h1 : (signL l).2 = []
  · rw [if_pos h1] at h; cases h
  · rw [if_neg h1] at h
    by_cases h2 : (signL l).2.all isDig = true
    · rw [if_pos h2] at h
      cases h
      split <;> omega
    · rw [if_neg h2] at h; cases h
theorem byte_eq {c k : UInt8} (h : c.toNat = k.toNat) : c = k := UInt8.toNat_inj.1 h

set_option maxHeartbeats 4000000 in
set_option maxRecDepth 100000 in
theorem dparse_any (s : ByteArray) (w : World) (hs : s.size ≤ 70368744177664) :
    Calls Tryz.prog 19 #[.string s] w (DcQ (readC (bl s)).1 (readC (bl s)).2 w) := by
  have HP1 : Hid (∀ W, Calls Tryz.prog 47 #[.string s, .string ⟨#[45]⟩] W fun e w' => e = .returned (.bool (Lib.hasPrefix (bl s) [45])) ∧ w' = W) := fun W => Tryz.strings_HasPrefix s ⟨#[45]⟩ W
  have HP2 : Hid (∀ W, Calls Tryz.prog 47 #[.string s, .string ⟨#[43]⟩] W fun e w' => e = .returned (.bool (Lib.hasPrefix (bl s) [43])) ∧ w' = W) := fun W => Tryz.strings_HasPrefix s ⟨#[43]⟩ W
  have h1 : s.size ≤ 9223372036854775807 := by omega
  obtain ⟨ng, t, hng, hrest, hts⟩ : ∃ (ng : Bool) (t : ByteArray), (ng = true ∧ Lib.hasPrefix (bl s) [45] = true ∧ t = s.extract 1 s.size ∧ 1 ≤ s.size ∨ ng = false ∧ Lib.hasPrefix (bl s) [45] = false ∧ (Lib.hasPrefix (bl s) [43] = true ∧ t = s.extract 1 s.size ∧ 1 ≤ s.size ∨ Lib.hasPrefix (bl s) [43] = false ∧ t = s)) ∧ signL (bl s) = (ng, bl t) ∧ t.size ≤ 70368744177664 := by
    have hdrop : ∀ c r', bl s = c :: r' → bl (s.extract 1 s.size) = r' ∧ 1 ≤ s.size ∧ (s.extract 1 s.size).size ≤ 70368744177664 := fun c r' e => by
      have hsz : s.size = r'.length + 1 := by rw [← bl_len, e]; rfl
      refine ⟨?_, by omega, by rw [ByteArray.size_extract]; omega⟩
      rw [bl_extract, List.take_of_length_le (by rw [bl_len]; exact Nat.le_refl _), e]; rfl
    rcases sign_cases (bl s) with ⟨e1, r', e2, e3⟩ | ⟨e1, e2, r', e3, e4⟩ | ⟨e1, e2, e3⟩
    · obtain ⟨d1, d2, d3⟩ := hdrop _ _ e2
      exact ⟨true, _, .inl ⟨rfl, e1, rfl, d2⟩, by rw [d1]; exact e3, d3⟩
    · obtain ⟨d1, d2, d3⟩ := hdrop _ _ e3
      exact ⟨false, _, .inr ⟨rfl, e1, .inl ⟨e2, rfl, d2⟩⟩, by rw [d1]; exact e4, d3⟩
    · exact ⟨false, s, .inr ⟨rfl, e1, .inr ⟨e2, rfl⟩⟩, e3, hs⟩
  obtain ⟨D, hD⟩ : ∃ D, D = (readC (bl s)).1 := ⟨_, rfl⟩
  obtain ⟨X, hX⟩ : ∃ X, X = (readC (bl s)).2 := ⟨_, rfl⟩
  rw [← hD, ← hX]
  have HF : Hid (D = (finC ng (scanL (bl t) [] (-1))).1 ∧ X = (finC ng (scanL (bl t) [] (-1))).2) := by
    show _ ∧ _
    rw [hD, hX]; unfold readC; rw [hrest]; exact ⟨rfl, rfl⟩
  have HTS : Hid (t.size ≤ 70368744177664) := hts
  have h1t : t.size ≤ 9223372036854775807 := by omega
  have HPW : Hid (∀ W (j : Nat), Calls Tryz.prog 50 #[.string (t.extract j t.size)] W fun e w' => e = .returned (.tuple #[.int .i64 ((powL ((bl t).drop j)).getD 0), .bool (powL ((bl t).drop j)).isSome]) ∧ Below W.heap.size W w') := fun W j => by
    have := epow_any (t.extract j t.size) W (by rw [ByteArray.size_extract]; omega)
    rwa [bl_extract, List.take_of_length_le (by rw [bl_len]; exact Nat.le_refl _)] at this
  have HMD : Hid (∀ W (ds : List UInt8) (e : Int), allDig ds → ds.length ≤ 70368744177664 → Calls Tryz.prog 39 #[.bool ng, .string (bs ds), .int .i64 e] W (DcQ ⟨madeS ng (dval ds) e, madeL (dval ds) e, madeE (dval ds) e⟩ (madeX (dval ds) e) W)) := fun W ds e hd hl => by
    refine (dmade_any ng (bs ds) e W hd (by show ds.length ≤ _; omega)).mono ?_
    rintro en w' ⟨rfl, hb⟩
    exact ⟨rfl, hb⟩
  have HB0 : Hid (Below w.heap.size w ((w.alloc (.cells #[.bool false, .string ⟨#[]⟩, .int .i64 0] 25)).alloc (.cells #[.pointer none, .slice none 0 0] 75))) := ((Below.refl _ _).alloc (Nat.le_refl _) _).alloc (by simp) _
  have HQ0 : Hid _ := heap_alloc2_old w (.cells #[.bool false, .string ⟨#[]⟩, .int .i64 0] 25) (.cells #[.pointer none, .slice none 0 0] 75)
  have HBU : Hid (Lib.IsBuilder 75 5 (w.heap.size + 1) (w.heap.size + 1) (Lib.byteCells []) ((w.alloc (.cells #[.bool false, .string ⟨#[]⟩, .int .i64 0] 25)).alloc (.cells #[.pointer none, .slice none 0 0] 75))) := by
    have := builder_new (w.heap.size + 1) (w.alloc (.cells #[.bool false, .string ⟨#[]⟩, .int .i64 0] 25)) (by simp)
    show Lib.IsBuilder _ _ _ _ _ _
    simpa using this
  have hsz1 : ((w.alloc (.cells #[.bool false, .string ⟨#[]⟩, .int .i64 0] 25)).alloc (.cells #[.pointer none, .slice none 0 0] 75)).heap.size = w.heap.size + 2 := by simp
  clear hs hrest hts hD hX
  rcases hng with ⟨hn, e1, e2, e3⟩ | ⟨hn, e1, ⟨e2, e3, e4⟩ | ⟨e2, e3⟩⟩
  · rw [e1] at HP1
    subst hn
    clear e1 HP2
    have hsl : s.extract 1 s.size = t := e2.symm
    clear e2
    go_enter Tryz.func19, Tryz.ntmps19
    go_wp2
    go_step3
    go_wp2_with (first | (go_at_call 47; with_reducible refine (HP1.out _).mono ?_; rintro e w' ⟨rfl, hw'⟩; subst hw') | fail)
    generalize (w.alloc (.cells #[.bool false, .string ⟨#[]⟩, .int .i64 0] 25)).alloc (.cells #[.pointer none, .slice none 0 0] 75) = w1 at *
    go_step3
    go_wp2
    go_loopw [6, 7, 8] (fun pv xv av wr => ∃ (ds : List UInt8) (pt : Int) (i : Nat), pv = .int .i64 pt ∧ xv = .int .i64 0 ∧ av = .int .i64 (i : Nat) ∧ i ≤ t.size ∧ scanL (bl t) [] (-1) = scanL ((bl t).drop i) ds pt ∧ allDig ds ∧ ds.length ≤ i ∧ (pt = -1 ∨ (0 ≤ pt ∧ pt ≤ ds.length)) ∧ Lib.IsBuilder 75 5 (w.heap.size + 1) (w.heap.size + 1) (Lib.byteCells ds) wr ∧ Below (w.heap.size + 1) w1 wr) (fun _ _ av _ => t.size - (intOf av).toNat)
    case atStart => exact ⟨[], -1, 0, rfl, rfl, rfl, Nat.zero_le _, by rw [List.drop_zero], (fun c hc => by cases hc), Nat.le_refl _, .inl rfl, HBU.out, Below.refl _ _⟩
    case round =>
      obtain ⟨ds, pt, i, rfl, rfl, rfl, hi, hsc, hdg, hdl, hpt, hbd, hbl⟩ := hrel
      have HSC : Hid (scanL (bl t) [] (-1) = scanL ((bl t).drop i) ds pt) := hsc
      have HDG : Hid (allDig ds) := hdg
      have HBD : Hid (Lib.IsBuilder 75 5 (w.heap.size + 1) (w.heap.size + 1) (Lib.byteCells ds) wr) := hbd
      have HBL : Hid (Below (w.heap.size + 1) w1 wr) := hbl
      have HBW : Hid (Below w.heap.size w wr) := HB0.out.trans (hbl.mono (Nat.le_succ _))
      have HROW : Hid _ := hbl.blk HQ0.out (Nat.lt_succ_self _)
      have HPT : Hid (pt = -1 ∨ (0 ≤ pt ∧ pt ≤ ds.length)) := hpt
      clear hsc hdg hbd hbl
      by_cases hlt : i < t.size
      · have hdrop : (bl t).drop i = (t[i]'hlt) :: (bl t).drop (i + 1) := by
          rw [bl_get t i hlt, ← List.drop_eq_getElem_cons]
        obtain ⟨c, hc⟩ : ∃ c, c = t[i]'hlt := ⟨_, rfl⟩
        have hcv : (t[i]'hlt).toNat = c.toNat := by rw [hc]
        have HDR : Hid ((bl t).drop i = c :: (bl t).drop (i + 1)) := by show _ = _; rw [hc]; exact hdrop
        obtain ⟨n, hn⟩ : ∃ n, n = c.toNat := ⟨_, rfl⟩
        rw [← hn] at hcv
        have HNC : Hid (n = c.toNat) := hn
        clear hdrop hc hn
        by_cases hd1 : n < 48
        · by_cases hd2 : n = 46
          · by_cases hp : pt < 0
            · have hdig : ¬ (48 ≤ n) := by omega
              have HSC' : Hid (scanL ((bl t).drop i) ds pt = scanL ((bl t).drop (i + 1)) ds ds.length) := by
                show _ = _
                rw [HDR.out, byte_eq (k := 46) (show c.toNat = 46 by rw [← HNC.out]; exact hd2), scan_point _ _ hp]
              go_wp2_with fail
              with_reducible refine (blen_any _ _ ds _ HBD.out).mono ?_
              rintro e w9 ⟨rfl, rfl⟩
              go_wp2
              go_roundw
              case rel => exact ⟨ds, ds.length, i + 1, rfl, rfl, by go_num, by omega, by rw [HSC.out, HSC'.out], HDG.out, by omega, .inr ⟨by omega, Int.le_refl _⟩, HBD.out, HBL.out⟩
              case measure => simp [intOf]; omega
            · have hdig : ¬ (48 ≤ n) := by omega
              have hp' : 0 ≤ pt := by omega
              have HBAD : Hid (scanL ((bl t).drop i) ds pt = none) := by
                show _ = _
                rw [HDR.out]
                refine scan_bad ?_ (fun h => hp h.2) ?_
                · rw [isDig_iff, ← HNC.out]; omega
                · rintro (h | h) <;> (rw [h] at HNC; have := HNC.out; rw [hd2] at this; exact absurd this (by decide))
              obtain ⟨f0, c0, f1, c1, f2, c2, r3⟩ := rw3 HROW.out
              have HRR : Hid _ := r3
              have HDX : Hid (D = Dc.none ∧ X = 3) := by
                show _ ∧ _
                rw [HF.out.1, HF.out.2, HSC.out, HBAD.out]; exact ⟨rfl, rfl⟩
              clear r3
              go_wp2
              exact dc_end rfl rfl rfl (HRR.out _ _ _) HDX.out.1 HDX.out.2.symm (below_row3 HBW.out (Nat.le_refl _) _ _ _)
          · have hdig : ¬ (48 ≤ n) := by omega
            have HBAD : Hid (scanL ((bl t).drop i) ds pt = none) := by
              show _ = _
              rw [HDR.out]
              refine scan_bad ?_ ?_ ?_
              · rw [isDig_iff, ← HNC.out]; omega
              · rintro ⟨h, -⟩; rw [h] at HNC; exact hd2 HNC.out
              · rintro (h | h) <;> (rw [h] at HNC; have := HNC.out; rw [this] at hd1; exact absurd hd1 (by decide))
            have hq1 : ((n : Int) == 46) = false := by rw [beq_eq_false_iff_ne]; omega
            have hq2 : ((n : Int) == 101) = false := by rw [beq_eq_false_iff_ne]; omega
            have hq3 : ((n : Int) == 69) = false := by rw [beq_eq_false_iff_ne]; omega
            clear hd2
            obtain ⟨f0, c0, f1, c1, f2, c2, r3⟩ := rw3 HROW.out
            have HRR : Hid _ := r3
            have HDX : Hid (D = Dc.none ∧ X = 3) := by
              show _ ∧ _
              rw [HF.out.1, HF.out.2, HSC.out, HBAD.out]; exact ⟨rfl, rfl⟩
            clear r3
            go_wp2
            exact dc_end rfl rfl rfl (HRR.out _ _ _) HDX.out.1 HDX.out.2.symm (below_row3 HBW.out (Nat.le_refl _) _ _ _)
        · have hd1' : 48 ≤ n := by omega
          by_cases hd3 : n ≤ 57
          · have HSC' : Hid (scanL ((bl t).drop i) ds pt = scanL ((bl t).drop (i + 1)) (ds ++ [c]) pt) := by
              show _ = _
              rw [HDR.out, scan_d ((isDig_iff c).2 (by rw [← HNC.out]; exact ⟨hd1', hd3⟩))]
            have HWB : Hid (Calls Tryz.prog 48 #[.pointer (some ⟨w.heap.size + 1, 0, none⟩), .int .u8 (n : Int)] wr fun e w' => e = .returned .nilIface ∧ Lib.IsBuilder 75 5 (w.heap.size + 1) (w.heap.size + 1) (Lib.byteCells (ds ++ [c])) w' ∧ Below (w.heap.size + 1) wr w') := by
              have := wbyte_any (w.heap.size + 1) (w.heap.size + 1) ds c wr HBD.out (by have := HTS.out; omega) (blk_lt HROW.out)
              rwa [← HNC.out] at this
            have HCD : Hid (isDig c = true) := (isDig_iff c).2 (by rw [← HNC.out]; exact ⟨hd1', hd3⟩)
            go_wp2_with fail
            with_reducible refine HWB.out.mono ?_
            rintro e w2 ⟨rfl, hbd', hb'⟩
            have HBD' : Hid _ := hbd'
            have HB' : Hid (Below (w.heap.size + 1) wr w2) := hb'
            clear hbd' hb'
            go_wp2
            go_roundw
            case rel =>
              refine ⟨ds ++ [c], pt, i + 1, rfl, rfl, by go_num, by omega, by rw [HSC.out, HSC'.out], ?_, by rw [List.length_append]; simp; omega, ?_, HBD'.out, HBL.out.trans HB'.out⟩
              · intro x hx
                rw [List.mem_append, List.mem_singleton] at hx
                rcases hx with h | h
                · exact HDG.out x h
                · rw [h]; exact HCD.out
              · rcases HPT.out with h | h
                · exact .inl h
                · exact .inr ⟨h.1, by rw [List.length_append]; simp; omega⟩
            case measure => simp [intOf]; omega
          · have hd3' : ¬ (n ≤ 57) := hd3
            have hn46 : ¬ n = 46 := by omega
            by_cases he : n = 101 ∨ n = 69
            · have HSX : Hid (scanL ((bl t).drop i) ds pt = some (ds, pt, some ((bl t).drop (i + 1)))) := by
                show _ = _
                rw [HDR.out, scan_exp]
                rcases he with h | h
                · exact .inl (byte_eq (by rw [← HNC.out]; exact h))
                · exact .inr (byte_eq (by rw [← HNC.out]; exact h))
              have hwi : IntKind.i64.wrap ((i : Int) + 1) = ((i + 1 : Nat) : Int) := by rw [IntWalk.i64_in _ (by omega)]; omega
              obtain ⟨y, hy⟩ : ∃ y, y = powL ((bl t).drop (i + 1)) := ⟨_, rfl⟩
              have HPI : Hid (Calls Tryz.prog 50 #[.string (t.extract (i + 1) t.size)] wr fun e w' => e = .returned (.tuple #[.int .i64 (y.getD 0), .bool y.isSome]) ∧ Below wr.heap.size wr w') := by rw [hy]; exact HPW.out wr (i + 1)
              have HY : Hid (y = powL ((bl t).drop (i + 1))) := hy
              clear hy
              have hi1 : i + 1 ≤ t.size := hlt
              cases y with
              | none =>
                have HBAD : Hid (finC true (scanL ((bl t).drop i) ds pt) = (Dc.none, 3)) := by
                  show _ = _
                  rw [HSX.out]
                  exact fin_none _ _ _ _ HY.out.symm
                have HPI' : Hid (Calls Tryz.prog 50 #[.string (t.extract (i + 1) t.size)] wr fun e w' => e = .returned (.tuple #[.int .i64 0, .bool false]) ∧ Below wr.heap.size wr w') := HPI.out
                clear HPI
                rcases he with he | he
                all_goals
                  go_wp2_with fail
                  with_reducible refine HPI'.out.mono ?_
                  rintro e w2 ⟨rfl, hb⟩
                  have r1 := hb.blk HROW.out (blk_lt HROW.out)
                  obtain ⟨f0, c0, f1, c1, f2, c2, r3⟩ := rw3 r1
                  have HRR : Hid _ := r3
                  have HB2 : Hid (Below w.heap.size w w2) := HBW.out.thru hb
                  have HDX : Hid (D = Dc.none ∧ X = 3) := by
                    show _ ∧ _
                    rw [HF.out.1, HF.out.2, HSC.out, HBAD.out]; exact ⟨rfl, rfl⟩
                  clear r1 r3 hb
                  go_wp2
                  exact dc_end rfl rfl rfl (HRR.out _ _ _) HDX.out.1 HDX.out.2.symm (below_row3 HB2.out (Nat.le_refl _) _ _ _)
              | some x =>
                have HXB : Hid (-1099511627776 ≤ x ∧ x ≤ 1099511627776) := powL_bd _ HY.out.symm
                have HPO : Hid (powO (some ((bl t).drop (i + 1))) = some x) := HY.out.symm
                have HPI' : Hid (Calls Tryz.prog 50 #[.string (t.extract (i + 1) t.size)] wr fun e w' => e = .returned (.tuple #[.int .i64 x, .bool true]) ∧ Below wr.heap.size wr w') := HPI.out
                clear HPI
                rcases he with he | he
                all_goals
                  go_wp2_with fail
                  with_reducible refine HPI'.out.mono ?_
                  rintro e w2 ⟨rfl, hb⟩
                  have HROW2 : Hid _ := hb.blk HROW.out (blk_lt HROW.out)
                  have HBW2 : Hid (Below w.heap.size w w2) := HBW.out.thru hb
                  have HBD2 : Hid (Lib.IsBuilder 75 5 (w.heap.size + 1) (w.heap.size + 1) (Lib.byteCells ds) w2) := builder_kept HBD.out hb
                  clear hb
                  by_cases hds : ds = []
                  · subst hds
                    obtain ⟨f0, c0, f1, c1, f2, c2, r3⟩ := rw3 HROW2.out
                    have HRR : Hid _ := r3
                    have HDX : Hid (D = Dc.none ∧ X = 3) := by
                      show _ ∧ _
                      rw [HF.out.1, HF.out.2, HSC.out, HSX.out]; exact ⟨rfl, rfl⟩
                    clear r3
                    go_wp2_with fail
                    with_reducible refine (blen_any _ _ [] _ HBD2.out).mono ?_
                    rintro e w9 ⟨rfl, rfl⟩
                    go_wp2
                    exact dc_end rfl rfl rfl (HRR.out _ _ _) HDX.out.1 HDX.out.2.symm (below_row3 HBW2.out (Nat.le_refl _) _ _ _)
                  · have hl0 : ¬ ds.length = 0 := fun e => hds (List.eq_nil_of_length_eq_zero e)
                    have hlb : ds.length ≤ 9223372036854775807 := by have := HTS.out; omega
                    by_cases hp : 0 ≤ pt
                    · have hpl : pt ≤ ds.length := by omega
                      have hw1 : IntKind.i64.wrap ((ds.length : Int) - pt) = (ds.length : Int) - pt := IntWalk.i64_in _ (by have := HTS.out; omega)
                      have hw2 : IntKind.i64.wrap (x - ((ds.length : Int) - pt)) = x - ((ds.length : Int) - pt) := IntWalk.i64_in _ (by have := HTS.out; have := HXB.out; omega)
                      have HDX : Hid (D = ⟨madeS true (dval ds) (x - ((ds.length : Int) - pt)), madeL (dval ds) (x - ((ds.length : Int) - pt)), madeE (dval ds) (x - ((ds.length : Int) - pt))⟩ ∧ X = madeX (dval ds) (x - ((ds.length : Int) - pt))) := by
                        show _ ∧ _
                        rw [HF.out.1, HF.out.2, HSC.out, HSX.out, fin_some _ _ _ _ _ hds HPO.out, if_pos hp]
                        exact ⟨rfl, rfl⟩
                      have HDL : Hid (ds.length ≤ 70368744177664) := by show _ ≤ _; have := HTS.out; omega
                      generalize hE : x - ((ds.length : Int) - pt) = E at *
                      clear hds
                      go_wp2_with fail
                      with_reducible refine (blen_any _ _ ds _ HBD2.out).mono ?_
                      rintro e w9 ⟨rfl, rfl⟩
                      go_wp2_with fail
                      with_reducible refine (blen_any _ _ ds _ HBD2.out).mono ?_
                      rintro e w9 ⟨rfl, rfl⟩
                      go_wp2_with fail
                      with_reducible refine (bstring_any _ _ ds _ HBD2.out (by have := blk_lt HROW2.out; omega)).mono ?_
                      rintro e w3 ⟨rfl, hb3⟩
                      have r1 := hb3.blk HROW2.out (Nat.lt_succ_self _)
                      have HR1 : Hid _ := r1
                      have HB3 : Hid (Below w.heap.size w w3) := HBW2.out.trans (hb3.mono (Nat.le_succ _))
                      clear r1 hb3
                      go_wp2_with fail
                      with_reducible refine (HMD.out _ ds _ HDG.out HDL.out).mono ?_
                      rintro e w4 ⟨rfl, hb4⟩
                      have r2 := hb4.blk HR1.out (blk_lt HR1.out)
                      obtain ⟨f0, c0, f1, c1, f2, c2, r3⟩ := rw3 r2
                      have HRR : Hid _ := r3
                      have HBB : Hid (Below w.heap.size w w4) := HB3.out.thru hb4
                      clear r2 r3 hb4
                      simp only [dcV]
                      go_wp2
                      exact dc_end rfl rfl rfl (HRR.out _ _ _) HDX.out.1 HDX.out.2.symm (below_row3 HBB.out (Nat.le_refl _) _ _ _)
                    · have HDX : Hid (D = ⟨madeS true (dval ds) (x), madeL (dval ds) (x), madeE (dval ds) (x)⟩ ∧ X = madeX (dval ds) (x)) := by
                        show _ ∧ _
                        rw [HF.out.1, HF.out.2, HSC.out, HSX.out, fin_some _ _ _ _ _ hds HPO.out, if_neg hp]
                        exact ⟨rfl, rfl⟩
                      have HDL : Hid (ds.length ≤ 70368744177664) := by show _ ≤ _; have := HTS.out; omega
                      clear hds
                      go_wp2_with fail
                      with_reducible refine (blen_any _ _ ds _ HBD2.out).mono ?_
                      rintro e w9 ⟨rfl, rfl⟩
                      go_wp2_with fail
                      with_reducible refine (bstring_any _ _ ds _ HBD2.out (by have := blk_lt HROW2.out; omega)).mono ?_
                      rintro e w3 ⟨rfl, hb3⟩
                      have r1 := hb3.blk HROW2.out (Nat.lt_succ_self _)
                      have HR1 : Hid _ := r1
                      have HB3 : Hid (Below w.heap.size w w3) := HBW2.out.trans (hb3.mono (Nat.le_succ _))
                      clear r1 hb3
                      go_wp2_with fail
                      with_reducible refine (HMD.out _ ds _ HDG.out HDL.out).mono ?_
                      rintro e w4 ⟨rfl, hb4⟩
                      have r2 := hb4.blk HR1.out (blk_lt HR1.out)
                      obtain ⟨f0, c0, f1, c1, f2, c2, r3⟩ := rw3 r2
                      have HRR : Hid _ := r3
                      have HBB : Hid (Below w.heap.size w w4) := HB3.out.thru hb4
                      clear r2 r3 hb4
                      simp only [dcV]
                      go_wp2
                      exact dc_end rfl rfl rfl (HRR.out _ _ _) HDX.out.1 HDX.out.2.symm (below_row3 HBB.out (Nat.le_refl _) _ _ _)
            · have HBAD : Hid (scanL ((bl t).drop i) ds pt = none) := by
                show _ = _
                rw [HDR.out]
                refine scan_bad ?_ ?_ ?_
                · rw [isDig_iff, ← HNC.out]; omega
                · rintro ⟨h, -⟩; rw [h] at HNC; exact hn46 HNC.out
                · rintro (h | h)
                  · rw [h] at HNC; exact he (.inl HNC.out)
                  · rw [h] at HNC; exact he (.inr HNC.out)
              have hq1 : ((n : Int) == 46) = false := by rw [beq_eq_false_iff_ne]; omega
              have hq2 : ((n : Int) == 101) = false := by rw [beq_eq_false_iff_ne]; omega
              have hq3 : ((n : Int) == 69) = false := by rw [beq_eq_false_iff_ne]; omega
              clear he hn46
              obtain ⟨f0, c0, f1, c1, f2, c2, r3⟩ := rw3 HROW.out
              have HRR : Hid _ := r3
              have HDX : Hid (D = Dc.none ∧ X = 3) := by
                show _ ∧ _
                rw [HF.out.1, HF.out.2, HSC.out, HBAD.out]; exact ⟨rfl, rfl⟩
              clear r3
              go_wp2
              exact dc_end rfl rfl rfl (HRR.out _ _ _) HDX.out.1 HDX.out.2.symm (below_row3 HBW.out (Nat.le_refl _) _ _ _)
      · have hie : i = t.size := by omega
        have HEND : Hid (scanL ((bl t).drop i) ds pt = some (ds, pt, none)) := by
          show _ = _
          rw [List.drop_eq_nil_of_le (by rw [bl_len]; omega)]; rfl
        by_cases hds : ds = []
        · subst hds
          obtain ⟨f0, c0, f1, c1, f2, c2, r3⟩ := rw3 HROW.out
          have HRR : Hid _ := r3
          have HDX : Hid (D = Dc.none ∧ X = 3) := by
            show _ ∧ _
            rw [HF.out.1, HF.out.2, HSC.out, HEND.out]; exact ⟨rfl, rfl⟩
          clear r3
          go_wp2_with fail
          with_reducible refine (blen_any _ _ [] _ HBD.out).mono ?_
          rintro e w9 ⟨rfl, rfl⟩
          go_wp2
          exact dc_end rfl rfl rfl (HRR.out _ _ _) HDX.out.1 HDX.out.2.symm (below_row3 HBW.out (Nat.le_refl _) _ _ _)
        · have hl0 : ¬ ds.length = 0 := fun e => hds (List.eq_nil_of_length_eq_zero e)
          have hlb : ds.length ≤ 9223372036854775807 := by have := HTS.out; omega
          by_cases hp : 0 ≤ pt
          · have hpl : pt ≤ ds.length := by omega
            have hw1 : IntKind.i64.wrap ((ds.length : Int) - pt) = (ds.length : Int) - pt := IntWalk.i64_in _ (by have := HTS.out; omega)
            have hw2 : IntKind.i64.wrap ((0 : Int) - ((ds.length : Int) - pt)) = (0 : Int) - ((ds.length : Int) - pt) := IntWalk.i64_in _ (by have := HTS.out; have := (trivial : True); omega)
            have HDX : Hid (D = ⟨madeS true (dval ds) ((0 : Int) - ((ds.length : Int) - pt)), madeL (dval ds) ((0 : Int) - ((ds.length : Int) - pt)), madeE (dval ds) ((0 : Int) - ((ds.length : Int) - pt))⟩ ∧ X = madeX (dval ds) ((0 : Int) - ((ds.length : Int) - pt))) := by
              show _ ∧ _
              rw [HF.out.1, HF.out.2, HSC.out, HEND.out, fin_some _ _ _ _ _ hds (show powO none = some 0 from rfl), if_pos hp]
              exact ⟨rfl, rfl⟩
            have HDL : Hid (ds.length ≤ 70368744177664) := by show _ ≤ _; have := HTS.out; omega
            generalize hE : (0 : Int) - ((ds.length : Int) - pt) = E at *
            clear hds
            go_wp2_with fail
            with_reducible refine (blen_any _ _ ds _ HBD.out).mono ?_
            rintro e w9 ⟨rfl, rfl⟩
            go_wp2_with fail
            with_reducible refine (blen_any _ _ ds _ HBD.out).mono ?_
            rintro e w9 ⟨rfl, rfl⟩
            go_wp2_with fail
            with_reducible refine (bstring_any _ _ ds _ HBD.out (by have := blk_lt HROW.out; omega)).mono ?_
            rintro e w3 ⟨rfl, hb3⟩
            have r1 := hb3.blk HROW.out (Nat.lt_succ_self _)
            have HR1 : Hid _ := r1
            have HB3 : Hid (Below w.heap.size w w3) := HBW.out.trans (hb3.mono (Nat.le_succ _))
            clear r1 hb3
            go_wp2_with fail
            with_reducible refine (HMD.out _ ds _ HDG.out HDL.out).mono ?_
            rintro e w4 ⟨rfl, hb4⟩
            have r2 := hb4.blk HR1.out (blk_lt HR1.out)
            obtain ⟨f0, c0, f1, c1, f2, c2, r3⟩ := rw3 r2
            have HRR : Hid _ := r3
            have HBB : Hid (Below w.heap.size w w4) := HB3.out.thru hb4
            clear r2 r3 hb4
            simp only [dcV]
            go_wp2
            exact dc_end rfl rfl rfl (HRR.out _ _ _) HDX.out.1 HDX.out.2.symm (below_row3 HBB.out (Nat.le_refl _) _ _ _)
          · have HDX : Hid (D = ⟨madeS true (dval ds) ((0 : Int)), madeL (dval ds) ((0 : Int)), madeE (dval ds) ((0 : Int))⟩ ∧ X = madeX (dval ds) ((0 : Int))) := by
              show _ ∧ _
              rw [HF.out.1, HF.out.2, HSC.out, HEND.out, fin_some _ _ _ _ _ hds (show powO none = some 0 from rfl), if_neg hp]
              exact ⟨rfl, rfl⟩
            have HDL : Hid (ds.length ≤ 70368744177664) := by show _ ≤ _; have := HTS.out; omega
            clear hds
            go_wp2_with fail
            with_reducible refine (blen_any _ _ ds _ HBD.out).mono ?_
            rintro e w9 ⟨rfl, rfl⟩
            go_wp2_with fail
            with_reducible refine (bstring_any _ _ ds _ HBD.out (by have := blk_lt HROW.out; omega)).mono ?_
            rintro e w3 ⟨rfl, hb3⟩
            have r1 := hb3.blk HROW.out (Nat.lt_succ_self _)
            have HR1 : Hid _ := r1
            have HB3 : Hid (Below w.heap.size w w3) := HBW.out.trans (hb3.mono (Nat.le_succ _))
            clear r1 hb3
            go_wp2_with fail
            with_reducible refine (HMD.out _ ds _ HDG.out HDL.out).mono ?_
            rintro e w4 ⟨rfl, hb4⟩
            have r2 := hb4.blk HR1.out (blk_lt HR1.out)
            obtain ⟨f0, c0, f1, c1, f2, c2, r3⟩ := rw3 r2
            have HRR : Hid _ := r3
            have HBB : Hid (Below w.heap.size w w4) := HB3.out.thru hb4
            clear r2 r3 hb4
            simp only [dcV]
            go_wp2
            exact dc_end rfl rfl rfl (HRR.out _ _ _) HDX.out.1 HDX.out.2.symm (below_row3 HBB.out (Nat.le_refl _) _ _ _)
  · rw [e1] at HP1
    rw [e2] at HP2
    subst hn
    clear e1
    have hsl : s.extract 1 s.size = t := e3.symm
    clear e2 e3
    go_enter Tryz.func19, Tryz.ntmps19
    go_wp2
    go_step3
    go_wp2_with (first | (go_at_call 47; with_reducible refine (HP1.out _).mono ?_; rintro e w' ⟨rfl, hw'⟩; subst hw') | (go_at_call 47; with_reducible refine (HP2.out _).mono ?_; rintro e w' ⟨rfl, hw'⟩; subst hw') | fail)
    generalize (w.alloc (.cells #[.bool false, .string ⟨#[]⟩, .int .i64 0] 25)).alloc (.cells #[.pointer none, .slice none 0 0] 75) = w1 at *
    go_step3
    go_wp2
    go_loopw [6, 7, 8] (fun pv xv av wr => ∃ (ds : List UInt8) (pt : Int) (i : Nat), pv = .int .i64 pt ∧ xv = .int .i64 0 ∧ av = .int .i64 (i : Nat) ∧ i ≤ t.size ∧ scanL (bl t) [] (-1) = scanL ((bl t).drop i) ds pt ∧ allDig ds ∧ ds.length ≤ i ∧ (pt = -1 ∨ (0 ≤ pt ∧ pt ≤ ds.length)) ∧ Lib.IsBuilder 75 5 (w.heap.size + 1) (w.heap.size + 1) (Lib.byteCells ds) wr ∧ Below (w.heap.size + 1) w1 wr) (fun _ _ av _ => t.size - (intOf av).toNat)
    case atStart => exact ⟨[], -1, 0, rfl, rfl, rfl, Nat.zero_le _, by rw [List.drop_zero], (fun c hc => by cases hc), Nat.le_refl _, .inl rfl, HBU.out, Below.refl _ _⟩
    case round =>
      obtain ⟨ds, pt, i, rfl, rfl, rfl, hi, hsc, hdg, hdl, hpt, hbd, hbl⟩ := hrel
      have HSC : Hid (scanL (bl t) [] (-1) = scanL ((bl t).drop i) ds pt) := hsc
      have HDG : Hid (allDig ds) := hdg
      have HBD : Hid (Lib.IsBuilder 75 5 (w.heap.size + 1) (w.heap.size + 1) (Lib.byteCells ds) wr) := hbd
      have HBL : Hid (Below (w.heap.size + 1) w1 wr) := hbl
      have HBW : Hid (Below w.heap.size w wr) := HB0.out.trans (hbl.mono (Nat.le_succ _))
      have HROW : Hid _ := hbl.blk HQ0.out (Nat.lt_succ_self _)
      have HPT : Hid (pt = -1 ∨ (0 ≤ pt ∧ pt ≤ ds.length)) := hpt
      clear hsc hdg hbd hbl
      by_cases hlt : i < t.size
      · have hdrop : (bl t).drop i = (t[i]'hlt) :: (bl t).drop (i + 1) := by
          rw [bl_get t i hlt, ← List.drop_eq_getElem_cons]
        obtain ⟨c, hc⟩ : ∃ c, c = t[i]'hlt := ⟨_, rfl⟩
        have hcv : (t[i]'hlt).toNat = c.toNat := by rw [hc]
        have HDR : Hid ((bl t).drop i = c :: (bl t).drop (i + 1)) := by show _ = _; rw [hc]; exact hdrop
        obtain ⟨n, hn⟩ : ∃ n, n = c.toNat := ⟨_, rfl⟩
        rw [← hn] at hcv
        have HNC : Hid (n = c.toNat) := hn
        clear hdrop hc hn
        by_cases hd1 : n < 48
        · by_cases hd2 : n = 46
          · by_cases hp : pt < 0
            · have hdig : ¬ (48 ≤ n) := by omega
              have HSC' : Hid (scanL ((bl t).drop i) ds pt = scanL ((bl t).drop (i + 1)) ds ds.length) := by
                show _ = _
                rw [HDR.out, byte_eq (k := 46) (show c.toNat = 46 by rw [← HNC.out]; exact hd2), scan_point _ _ hp]
              go_wp2_with fail
              with_reducible refine (blen_any _ _ ds _ HBD.out).mono ?_
              rintro e w9 ⟨rfl, rfl⟩
              go_wp2
              go_roundw
              case rel => exact ⟨ds, ds.length, i + 1, rfl, rfl, by go_num, by omega, by rw [HSC.out, HSC'.out], HDG.out, by omega, .inr ⟨by omega, Int.le_refl _⟩, HBD.out, HBL.out⟩
              case measure => simp [intOf]; omega
            · have hdig : ¬ (48 ≤ n) := by omega
              have hp' : 0 ≤ pt := by omega
              have HBAD : Hid (scanL ((bl t).drop i) ds pt = none) := by
                show _ = _
                rw [HDR.out]
                refine scan_bad ?_ (fun h => hp h.2) ?_
                · rw [isDig_iff, ← HNC.out]; omega
                · rintro (h | h) <;> (rw [h] at HNC; have := HNC.out; rw [hd2] at this; exact absurd this (by decide))
              obtain ⟨f0, c0, f1, c1, f2, c2, r3⟩ := rw3 HROW.out
              have HRR : Hid _ := r3
              have HDX : Hid (D = Dc.none ∧ X = 3) := by
                show _ ∧ _
                rw [HF.out.1, HF.out.2, HSC.out, HBAD.out]; exact ⟨rfl, rfl⟩
              clear r3
              go_wp2
              exact dc_end rfl rfl rfl (HRR.out _ _ _) HDX.out.1 HDX.out.2.symm (below_row3 HBW.out (Nat.le_refl _) _ _ _)
          · have hdig : ¬ (48 ≤ n) := by omega
            have HBAD : Hid (scanL ((bl t).drop i) ds pt = none) := by
              show _ = _
              rw [HDR.out]
              refine scan_bad ?_ ?_ ?_
              · rw [isDig_iff, ← HNC.out]; omega
              · rintro ⟨h, -⟩; rw [h] at HNC; exact hd2 HNC.out
              · rintro (h | h) <;> (rw [h] at HNC; have := HNC.out; rw [this] at hd1; exact absurd hd1 (by decide))
            have hq1 : ((n : Int) == 46) = false := by rw [beq_eq_false_iff_ne]; omega
            have hq2 : ((n : Int) == 101) = false := by rw [beq_eq_false_iff_ne]; omega
            have hq3 : ((n : Int) == 69) = false := by rw [beq_eq_false_iff_ne]; omega
            clear hd2
            obtain ⟨f0, c0, f1, c1, f2, c2, r3⟩ := rw3 HROW.out
            have HRR : Hid _ := r3
            have HDX : Hid (D = Dc.none ∧ X = 3) := by
              show _ ∧ _
              rw [HF.out.1, HF.out.2, HSC.out, HBAD.out]; exact ⟨rfl, rfl⟩
            clear r3
            go_wp2
            exact dc_end rfl rfl rfl (HRR.out _ _ _) HDX.out.1 HDX.out.2.symm (below_row3 HBW.out (Nat.le_refl _) _ _ _)
        · have hd1' : 48 ≤ n := by omega
          by_cases hd3 : n ≤ 57
          · have HSC' : Hid (scanL ((bl t).drop i) ds pt = scanL ((bl t).drop (i + 1)) (ds ++ [c]) pt) := by
              show _ = _
              rw [HDR.out, scan_d ((isDig_iff c).2 (by rw [← HNC.out]; exact ⟨hd1', hd3⟩))]
            have HWB : Hid (Calls Tryz.prog 48 #[.pointer (some ⟨w.heap.size + 1, 0, none⟩), .int .u8 (n : Int)] wr fun e w' => e = .returned .nilIface ∧ Lib.IsBuilder 75 5 (w.heap.size + 1) (w.heap.size + 1) (Lib.byteCells (ds ++ [c])) w' ∧ Below (w.heap.size + 1) wr w') := by
              have := wbyte_any (w.heap.size + 1) (w.heap.size + 1) ds c wr HBD.out (by have := HTS.out; omega) (blk_lt HROW.out)
              rwa [← HNC.out] at this
            have HCD : Hid (isDig c = true) := (isDig_iff c).2 (by rw [← HNC.out]; exact ⟨hd1', hd3⟩)
            go_wp2_with fail
            with_reducible refine HWB.out.mono ?_
            rintro e w2 ⟨rfl, hbd', hb'⟩
            have HBD' : Hid _ := hbd'
            have HB' : Hid (Below (w.heap.size + 1) wr w2) := hb'
            clear hbd' hb'
            go_wp2
            go_roundw
            case rel =>
              refine ⟨ds ++ [c], pt, i + 1, rfl, rfl, by go_num, by omega, by rw [HSC.out, HSC'.out], ?_, by rw [List.length_append]; simp; omega, ?_, HBD'.out, HBL.out.trans HB'.out⟩
              · intro x hx
                rw [List.mem_append, List.mem_singleton] at hx
                rcases hx with h | h
                · exact HDG.out x h
                · rw [h]; exact HCD.out
              · rcases HPT.out with h | h
                · exact .inl h
                · exact .inr ⟨h.1, by rw [List.length_append]; simp; omega⟩
            case measure => simp [intOf]; omega
          · have hd3' : ¬ (n ≤ 57) := hd3
            have hn46 : ¬ n = 46 := by omega
            by_cases he : n = 101 ∨ n = 69
            · have HSX : Hid (scanL ((bl t).drop i) ds pt = some (ds, pt, some ((bl t).drop (i + 1)))) := by
                show _ = _
                rw [HDR.out, scan_exp]
                rcases he with h | h
                · exact .inl (byte_eq (by rw [← HNC.out]; exact h))
                · exact .inr (byte_eq (by rw [← HNC.out]; exact h))
              have hwi : IntKind.i64.wrap ((i : Int) + 1) = ((i + 1 : Nat) : Int) := by rw [IntWalk.i64_in _ (by omega)]; omega
              obtain ⟨y, hy⟩ : ∃ y, y = powL ((bl t).drop (i + 1)) := ⟨_, rfl⟩
              have HPI : Hid (Calls Tryz.prog 50 #[.string (t.extract (i + 1) t.size)] wr fun e w' => e = .returned (.tuple #[.int .i64 (y.getD 0), .bool y.isSome]) ∧ Below wr.heap.size wr w') := by rw [hy]; exact HPW.out wr (i + 1)
              have HY : Hid (y = powL ((bl t).drop (i + 1))) := hy
              clear hy
              have hi1 : i + 1 ≤ t.size := hlt
              cases y with
              | none =>
                have HBAD : Hid (finC false (scanL ((bl t).drop i) ds pt) = (Dc.none, 3)) := by
                  show _ = _
                  rw [HSX.out]
                  exact fin_none _ _ _ _ HY.out.symm
                have HPI' : Hid (Calls Tryz.prog 50 #[.string (t.extract (i + 1) t.size)] wr fun e w' => e = .returned (.tuple #[.int .i64 0, .bool false]) ∧ Below wr.heap.size wr w') := HPI.out
                clear HPI
                rcases he with he | he
                all_goals
                  go_wp2_with fail
                  with_reducible refine HPI'.out.mono ?_
                  rintro e w2 ⟨rfl, hb⟩
                  have r1 := hb.blk HROW.out (blk_lt HROW.out)
                  obtain ⟨f0, c0, f1, c1, f2, c2, r3⟩ := rw3 r1
                  have HRR : Hid _ := r3
                  have HB2 : Hid (Below w.heap.size w w2) := HBW.out.thru hb
                  have HDX : Hid (D = Dc.none ∧ X = 3) := by
                    show _ ∧ _
                    rw [HF.out.1, HF.out.2, HSC.out, HBAD.out]; exact ⟨rfl, rfl⟩
                  clear r1 r3 hb
                  go_wp2
                  exact dc_end rfl rfl rfl (HRR.out _ _ _) HDX.out.1 HDX.out.2.symm (below_row3 HB2.out (Nat.le_refl _) _ _ _)
              | some x =>
                have HXB : Hid (-1099511627776 ≤ x ∧ x ≤ 1099511627776) := powL_bd _ HY.out.symm
                have HPO : Hid (powO (some ((bl t).drop (i + 1))) = some x) := HY.out.symm
                have HPI' : Hid (Calls Tryz.prog 50 #[.string (t.extract (i + 1) t.size)] wr fun e w' => e = .returned (.tuple #[.int .i64 x, .bool true]) ∧ Below wr.heap.size wr w') := HPI.out
                clear HPI
                rcases he with he | he
                all_goals
                  go_wp2_with fail
                  with_reducible refine HPI'.out.mono ?_
                  rintro e w2 ⟨rfl, hb⟩
                  have HROW2 : Hid _ := hb.blk HROW.out (blk_lt HROW.out)
                  have HBW2 : Hid (Below w.heap.size w w2) := HBW.out.thru hb
                  have HBD2 : Hid (Lib.IsBuilder 75 5 (w.heap.size + 1) (w.heap.size + 1) (Lib.byteCells ds) w2) := builder_kept HBD.out hb
                  clear hb
                  by_cases hds : ds = []
                  · subst hds
                    obtain ⟨f0, c0, f1, c1, f2, c2, r3⟩ := rw3 HROW2.out
                    have HRR : Hid _ := r3
                    have HDX : Hid (D = Dc.none ∧ X = 3) := by
                      show _ ∧ _
                      rw [HF.out.1, HF.out.2, HSC.out, HSX.out]; exact ⟨rfl, rfl⟩
                    clear r3
                    go_wp2_with fail
                    with_reducible refine (blen_any _ _ [] _ HBD2.out).mono ?_
                    rintro e w9 ⟨rfl, rfl⟩
                    go_wp2
                    exact dc_end rfl rfl rfl (HRR.out _ _ _) HDX.out.1 HDX.out.2.symm (below_row3 HBW2.out (Nat.le_refl _) _ _ _)
                  · have hl0 : ¬ ds.length = 0 := fun e => hds (List.eq_nil_of_length_eq_zero e)
                    have hlb : ds.length ≤ 9223372036854775807 := by have := HTS.out; omega
                    by_cases hp : 0 ≤ pt
                    · have hpl : pt ≤ ds.length := by omega
                      have hw1 : IntKind.i64.wrap ((ds.length : Int) - pt) = (ds.length : Int) - pt := IntWalk.i64_in _ (by have := HTS.out; omega)
                      have hw2 : IntKind.i64.wrap (x - ((ds.length : Int) - pt)) = x - ((ds.length : Int) - pt) := IntWalk.i64_in _ (by have := HTS.out; have := HXB.out; omega)
                      have HDX : Hid (D = ⟨madeS false (dval ds) (x - ((ds.length : Int) - pt)), madeL (dval ds) (x - ((ds.length : Int) - pt)), madeE (dval ds) (x - ((ds.length : Int) - pt))⟩ ∧ X = madeX (dval ds) (x - ((ds.length : Int) - pt))) := by
                        show _ ∧ _
                        rw [HF.out.1, HF.out.2, HSC.out, HSX.out, fin_some _ _ _ _ _ hds HPO.out, if_pos hp]
                        exact ⟨rfl, rfl⟩
                      have HDL : Hid (ds.length ≤ 70368744177664) := by show _ ≤ _; have := HTS.out; omega
                      generalize hE : x - ((ds.length : Int) - pt) = E at *
                      clear hds
                      go_wp2_with fail
                      with_reducible refine (blen_any _ _ ds _ HBD2.out).mono ?_
                      rintro e w9 ⟨rfl, rfl⟩
                      go_wp2_with fail
                      with_reducible refine (blen_any _ _ ds _ HBD2.out).mono ?_
                      rintro e w9 ⟨rfl, rfl⟩
                      go_wp2_with fail
                      with_reducible refine (bstring_any _ _ ds _ HBD2.out (by have := blk_lt HROW2.out; omega)).mono ?_
                      rintro e w3 ⟨rfl, hb3⟩
                      have r1 := hb3.blk HROW2.out (Nat.lt_succ_self _)
                      have HR1 : Hid _ := r1
                      have HB3 : Hid (Below w.heap.size w w3) := HBW2.out.trans (hb3.mono (Nat.le_succ _))
                      clear r1 hb3
                      go_wp2_with fail
                      with_reducible refine (HMD.out _ ds _ HDG.out HDL.out).mono ?_
                      rintro e w4 ⟨rfl, hb4⟩
                      have r2 := hb4.blk HR1.out (blk_lt HR1.out)
                      obtain ⟨f0, c0, f1, c1, f2, c2, r3⟩ := rw3 r2
                      have HRR : Hid _ := r3
                      have HBB : Hid (Below w.heap.size w w4) := HB3.out.thru hb4
                      clear r2 r3 hb4
                      simp only [dcV]
                      go_wp2
                      exact dc_end rfl rfl rfl (HRR.out _ _ _) HDX.out.1 HDX.out.2.symm (below_row3 HBB.out (Nat.le_refl _) _ _ _)
                    · have HDX : Hid (D = ⟨madeS false (dval ds) (x), madeL (dval ds) (x), madeE (dval ds) (x)⟩ ∧ X = madeX (dval ds) (x)) := by
                        show _ ∧ _
                        rw [HF.out.1, HF.out.2, HSC.out, HSX.out, fin_some _ _ _ _ _ hds HPO.out, if_neg hp]
                        exact ⟨rfl, rfl⟩
                      have HDL : Hid (ds.length ≤ 70368744177664) := by show _ ≤ _; have := HTS.out; omega
                      clear hds
                      go_wp2_with fail
                      with_reducible refine (blen_any _ _ ds _ HBD2.out).mono ?_
                      rintro e w9 ⟨rfl, rfl⟩
                      go_wp2_with fail
                      with_reducible refine (bstring_any _ _ ds _ HBD2.out (by have := blk_lt HROW2.out; omega)).mono ?_
                      rintro e w3 ⟨rfl, hb3⟩
                      have r1 := hb3.blk HROW2.out (Nat.lt_succ_self _)
                      have HR1 : Hid _ := r1
                      have HB3 : Hid (Below w.heap.size w w3) := HBW2.out.trans (hb3.mono (Nat.le_succ _))
                      clear r1 hb3
                      go_wp2_with fail
                      with_reducible refine (HMD.out _ ds _ HDG.out HDL.out).mono ?_
                      rintro e w4 ⟨rfl, hb4⟩
                      have r2 := hb4.blk HR1.out (blk_lt HR1.out)
                      obtain ⟨f0, c0, f1, c1, f2, c2, r3⟩ := rw3 r2
                      have HRR : Hid _ := r3
                      have HBB : Hid (Below w.heap.size w w4) := HB3.out.thru hb4
                      clear r2 r3 hb4
                      simp only [dcV]
                      go_wp2
                      exact dc_end rfl rfl rfl (HRR.out _ _ _) HDX.out.1 HDX.out.2.symm (below_row3 HBB.out (Nat.le_refl _) _ _ _)
            · have HBAD : Hid (scanL ((bl t).drop i) ds pt = none) := by
                show _ = _
                rw [HDR.out]
                refine scan_bad ?_ ?_ ?_
                · rw [isDig_iff, ← HNC.out]; omega
                · rintro ⟨h, -⟩; rw [h] at HNC; exact hn46 HNC.out
                · rintro (h | h)
                  · rw [h] at HNC; exact he (.inl HNC.out)
                  · rw [h] at HNC; exact he (.inr HNC.out)
              have hq1 : ((n : Int) == 46) = false := by rw [beq_eq_false_iff_ne]; omega
              have hq2 : ((n : Int) == 101) = false := by rw [beq_eq_false_iff_ne]; omega
              have hq3 : ((n : Int) == 69) = false := by rw [beq_eq_false_iff_ne]; omega
              clear he hn46
              obtain ⟨f0, c0, f1, c1, f2, c2, r3⟩ := rw3 HROW.out
              have HRR : Hid _ := r3
              have HDX : Hid (D = Dc.none ∧ X = 3) := by
                show _ ∧ _
                rw [HF.out.1, HF.out.2, HSC.out, HBAD.out]; exact ⟨rfl, rfl⟩
              clear r3
              go_wp2
              exact dc_end rfl rfl rfl (HRR.out _ _ _) HDX.out.1 HDX.out.2.symm (below_row3 HBW.out (Nat.le_refl _) _ _ _)
      · have hie : i = t.size := by omega
        have HEND : Hid (scanL ((bl t).drop i) ds pt = some (ds, pt, none)) := by
          show _ = _
          rw [List.drop_eq_nil_of_le (by rw [bl_len]; omega)]; rfl
        by_cases hds : ds = []
        · subst hds
          obtain ⟨f0, c0, f1, c1, f2, c2, r3⟩ := rw3 HROW.out
          have HRR : Hid _ := r3
          have HDX : Hid (D = Dc.none ∧ X = 3) := by
            show _ ∧ _
            rw [HF.out.1, HF.out.2, HSC.out, HEND.out]; exact ⟨rfl, rfl⟩
          clear r3
          go_wp2_with fail
          with_reducible refine (blen_any _ _ [] _ HBD.out).mono ?_
          rintro e w9 ⟨rfl, rfl⟩
          go_wp2
          exact dc_end rfl rfl rfl (HRR.out _ _ _) HDX.out.1 HDX.out.2.symm (below_row3 HBW.out (Nat.le_refl _) _ _ _)
        · have hl0 : ¬ ds.length = 0 := fun e => hds (List.eq_nil_of_length_eq_zero e)
          have hlb : ds.length ≤ 9223372036854775807 := by have := HTS.out; omega
          by_cases hp : 0 ≤ pt
          · have hpl : pt ≤ ds.length := by omega
            have hw1 : IntKind.i64.wrap ((ds.length : Int) - pt) = (ds.length : Int) - pt := IntWalk.i64_in _ (by have := HTS.out; omega)
            have hw2 : IntKind.i64.wrap ((0 : Int) - ((ds.length : Int) - pt)) = (0 : Int) - ((ds.length : Int) - pt) := IntWalk.i64_in _ (by have := HTS.out; have := (trivial : True); omega)
            have HDX : Hid (D = ⟨madeS false (dval ds) ((0 : Int) - ((ds.length : Int) - pt)), madeL (dval ds) ((0 : Int) - ((ds.length : Int) - pt)), madeE (dval ds) ((0 : Int) - ((ds.length : Int) - pt))⟩ ∧ X = madeX (dval ds) ((0 : Int) - ((ds.length : Int) - pt))) := by
              show _ ∧ _
              rw [HF.out.1, HF.out.2, HSC.out, HEND.out, fin_some _ _ _ _ _ hds (show powO none = some 0 from rfl), if_pos hp]
              exact ⟨rfl, rfl⟩
            have HDL : Hid (ds.length ≤ 70368744177664) := by show _ ≤ _; have := HTS.out; omega
            generalize hE : (0 : Int) - ((ds.length : Int) - pt) = E at *
            clear hds
            go_wp2_with fail
            with_reducible refine (blen_any _ _ ds _ HBD.out).mono ?_
            rintro e w9 ⟨rfl, rfl⟩
            go_wp2_with fail
            with_reducible refine (blen_any _ _ ds _ HBD.out).mono ?_
            rintro e w9 ⟨rfl, rfl⟩
            go_wp2_with fail
            with_reducible refine (bstring_any _ _ ds _ HBD.out (by have := blk_lt HROW.out; omega)).mono ?_
            rintro e w3 ⟨rfl, hb3⟩
            have r1 := hb3.blk HROW.out (Nat.lt_succ_self _)
            have HR1 : Hid _ := r1
            have HB3 : Hid (Below w.heap.size w w3) := HBW.out.trans (hb3.mono (Nat.le_succ _))
            clear r1 hb3
            go_wp2_with fail
            with_reducible refine (HMD.out _ ds _ HDG.out HDL.out).mono ?_
            rintro e w4 ⟨rfl, hb4⟩
            have r2 := hb4.blk HR1.out (blk_lt HR1.out)
            obtain ⟨f0, c0, f1, c1, f2, c2, r3⟩ := rw3 r2
            have HRR : Hid _ := r3
            have HBB : Hid (Below w.heap.size w w4) := HB3.out.thru hb4
            clear r2 r3 hb4
            simp only [dcV]
            go_wp2
            exact dc_end rfl rfl rfl (HRR.out _ _ _) HDX.out.1 HDX.out.2.symm (below_row3 HBB.out (Nat.le_refl _) _ _ _)
          · have HDX : Hid (D = ⟨madeS false (dval ds) ((0 : Int)), madeL (dval ds) ((0 : Int)), madeE (dval ds) ((0 : Int))⟩ ∧ X = madeX (dval ds) ((0 : Int))) := by
              show _ ∧ _
              rw [HF.out.1, HF.out.2, HSC.out, HEND.out, fin_some _ _ _ _ _ hds (show powO none = some 0 from rfl), if_neg hp]
              exact ⟨rfl, rfl⟩
            have HDL : Hid (ds.length ≤ 70368744177664) := by show _ ≤ _; have := HTS.out; omega
            clear hds
            go_wp2_with fail
            with_reducible refine (blen_any _ _ ds _ HBD.out).mono ?_
            rintro e w9 ⟨rfl, rfl⟩
            go_wp2_with fail
            with_reducible refine (bstring_any _ _ ds _ HBD.out (by have := blk_lt HROW.out; omega)).mono ?_
            rintro e w3 ⟨rfl, hb3⟩
            have r1 := hb3.blk HROW.out (Nat.lt_succ_self _)
            have HR1 : Hid _ := r1
            have HB3 : Hid (Below w.heap.size w w3) := HBW.out.trans (hb3.mono (Nat.le_succ _))
            clear r1 hb3
            go_wp2_with fail
            with_reducible refine (HMD.out _ ds _ HDG.out HDL.out).mono ?_
            rintro e w4 ⟨rfl, hb4⟩
            have r2 := hb4.blk HR1.out (blk_lt HR1.out)
            obtain ⟨f0, c0, f1, c1, f2, c2, r3⟩ := rw3 r2
            have HRR : Hid _ := r3
            have HBB : Hid (Below w.heap.size w w4) := HB3.out.thru hb4
            clear r2 r3 hb4
            simp only [dcV]
            go_wp2
            exact dc_end rfl rfl rfl (HRR.out _ _ _) HDX.out.1 HDX.out.2.symm (below_row3 HBB.out (Nat.le_refl _) _ _ _)
  · rw [e1] at HP1
    rw [e2] at HP2
    subst hn
    clear e1
    subst e3
    clear e2
    go_enter Tryz.func19, Tryz.ntmps19
    go_wp2
    go_step3
    go_wp2_with (first | (go_at_call 47; with_reducible refine (HP1.out _).mono ?_; rintro e w' ⟨rfl, hw'⟩; subst hw') | (go_at_call 47; with_reducible refine (HP2.out _).mono ?_; rintro e w' ⟨rfl, hw'⟩; subst hw') | fail)
    generalize (w.alloc (.cells #[.bool false, .string ⟨#[]⟩, .int .i64 0] 25)).alloc (.cells #[.pointer none, .slice none 0 0] 75) = w1 at *
    go_step3
    go_wp2
    go_loopw [6, 7, 8] (fun pv xv av wr => ∃ (ds : List UInt8) (pt : Int) (i : Nat), pv = .int .i64 pt ∧ xv = .int .i64 0 ∧ av = .int .i64 (i : Nat) ∧ i ≤ t.size ∧ scanL (bl t) [] (-1) = scanL ((bl t).drop i) ds pt ∧ allDig ds ∧ ds.length ≤ i ∧ (pt = -1 ∨ (0 ≤ pt ∧ pt ≤ ds.length)) ∧ Lib.IsBuilder 75 5 (w.heap.size + 1) (w.heap.size + 1) (Lib.byteCells ds) wr ∧ Below (w.heap.size + 1) w1 wr) (fun _ _ av _ => t.size - (intOf av).toNat)
    case atStart => exact ⟨[], -1, 0, rfl, rfl, rfl, Nat.zero_le _, by rw [List.drop_zero], (fun c hc => by cases hc), Nat.le_refl _, .inl rfl, HBU.out, Below.refl _ _⟩
    case round =>
      obtain ⟨ds, pt, i, rfl, rfl, rfl, hi, hsc, hdg, hdl, hpt, hbd, hbl⟩ := hrel
      have HSC : Hid (scanL (bl t) [] (-1) = scanL ((bl t).drop i) ds pt) := hsc
      have HDG : Hid (allDig ds) := hdg
      have HBD : Hid (Lib.IsBuilder 75 5 (w.heap.size + 1) (w.heap.size + 1) (Lib.byteCells ds) wr) := hbd
      have HBL : Hid (Below (w.heap.size + 1) w1 wr) := hbl
      have HBW : Hid (Below w.heap.size w wr) := HB0.out.trans (hbl.mono (Nat.le_succ _))
      have HROW : Hid _ := hbl.blk HQ0.out (Nat.lt_succ_self _)
      have HPT : Hid (pt = -1 ∨ (0 ≤ pt ∧ pt ≤ ds.length)) := hpt
      clear hsc hdg hbd hbl
      by_cases hlt : i < t.size
      · have hdrop : (bl t).drop i = (t[i]'hlt) :: (bl t).drop (i + 1) := by
          rw [bl_get t i hlt, ← List.drop_eq_getElem_cons]
        obtain ⟨c, hc⟩ : ∃ c, c = t[i]'hlt := ⟨_, rfl⟩
        have hcv : (t[i]'hlt).toNat = c.toNat := by rw [hc]
        have HDR : Hid ((bl t).drop i = c :: (bl t).drop (i + 1)) := by show _ = _; rw [hc]; exact hdrop
        obtain ⟨n, hn⟩ : ∃ n, n = c.toNat := ⟨_, rfl⟩
        rw [← hn] at hcv
        have HNC : Hid (n = c.toNat) := hn
        clear hdrop hc hn
        by_cases hd1 : n < 48
        · by_cases hd2 : n = 46
          · by_cases hp : pt < 0
            · have hdig : ¬ (48 ≤ n) := by omega
              have HSC' : Hid (scanL ((bl t).drop i) ds pt = scanL ((bl t).drop (i + 1)) ds ds.length) := by
                show _ = _
                rw [HDR.out, byte_eq (k := 46) (show c.toNat = 46 by rw [← HNC.out]; exact hd2), scan_point _ _ hp]
              go_wp2_with fail
              with_reducible refine (blen_any _ _ ds _ HBD.out).mono ?_
              rintro e w9 ⟨rfl, rfl⟩
              go_wp2
              go_roundw
              case rel => exact ⟨ds, ds.length, i + 1, rfl, rfl, by go_num, by omega, by rw [HSC.out, HSC'.out], HDG.out, by omega, .inr ⟨by omega, Int.le_refl _⟩, HBD.out, HBL.out⟩
              case measure => simp [intOf]; omega
            · have hdig : ¬ (48 ≤ n) := by omega
              have hp' : 0 ≤ pt := by omega
              have HBAD : Hid (scanL ((bl t).drop i) ds pt = none) := by
                show _ = _
                rw [HDR.out]
                refine scan_bad ?_ (fun h => hp h.2) ?_
                · rw [isDig_iff, ← HNC.out]; omega
                · rintro (h | h) <;> (rw [h] at HNC; have := HNC.out; rw [hd2] at this; exact absurd this (by decide))
              obtain ⟨f0, c0, f1, c1, f2, c2, r3⟩ := rw3 HROW.out
              have HRR : Hid _ := r3
              have HDX : Hid (D = Dc.none ∧ X = 3) := by
                show _ ∧ _
                rw [HF.out.1, HF.out.2, HSC.out, HBAD.out]; exact ⟨rfl, rfl⟩
              clear r3
              go_wp2
              exact dc_end rfl rfl rfl (HRR.out _ _ _) HDX.out.1 HDX.out.2.symm (below_row3 HBW.out (Nat.le_refl _) _ _ _)
          · have hdig : ¬ (48 ≤ n) := by omega
            have HBAD : Hid (scanL ((bl t).drop i) ds pt = none) := by
              show _ = _
              rw [HDR.out]
              refine scan_bad ?_ ?_ ?_
              · rw [isDig_iff, ← HNC.out]; omega
              · rintro ⟨h, -⟩; rw [h] at HNC; exact hd2 HNC.out
              · rintro (h | h) <;> (rw [h] at HNC; have := HNC.out; rw [this] at hd1; exact absurd hd1 (by decide))
            have hq1 : ((n : Int) == 46) = false := by rw [beq_eq_false_iff_ne]; omega
            have hq2 : ((n : Int) == 101) = false := by rw [beq_eq_false_iff_ne]; omega
            have hq3 : ((n : Int) == 69) = false := by rw [beq_eq_false_iff_ne]; omega
            clear hd2
            obtain ⟨f0, c0, f1, c1, f2, c2, r3⟩ := rw3 HROW.out
            have HRR : Hid _ := r3
            have HDX : Hid (D = Dc.none ∧ X = 3) := by
              show _ ∧ _
              rw [HF.out.1, HF.out.2, HSC.out, HBAD.out]; exact ⟨rfl, rfl⟩
            clear r3
            go_wp2
            exact dc_end rfl rfl rfl (HRR.out _ _ _) HDX.out.1 HDX.out.2.symm (below_row3 HBW.out (Nat.le_refl _) _ _ _)
        · have hd1' : 48 ≤ n := by omega
          by_cases hd3 : n ≤ 57
          · have HSC' : Hid (scanL ((bl t).drop i) ds pt = scanL ((bl t).drop (i + 1)) (ds ++ [c]) pt) := by
              show _ = _
              rw [HDR.out, scan_d ((isDig_iff c).2 (by rw [← HNC.out]; exact ⟨hd1', hd3⟩))]
            have HWB : Hid (Calls Tryz.prog 48 #[.pointer (some ⟨w.heap.size + 1, 0, none⟩), .int .u8 (n : Int)] wr fun e w' => e = .returned .nilIface ∧ Lib.IsBuilder 75 5 (w.heap.size + 1) (w.heap.size + 1) (Lib.byteCells (ds ++ [c])) w' ∧ Below (w.heap.size + 1) wr w') := by
              have := wbyte_any (w.heap.size + 1) (w.heap.size + 1) ds c wr HBD.out (by have := HTS.out; omega) (blk_lt HROW.out)
              rwa [← HNC.out] at this
            have HCD : Hid (isDig c = true) := (isDig_iff c).2 (by rw [← HNC.out]; exact ⟨hd1', hd3⟩)
            go_wp2_with fail
            with_reducible refine HWB.out.mono ?_
            rintro e w2 ⟨rfl, hbd', hb'⟩
            have HBD' : Hid _ := hbd'
            have HB' : Hid (Below (w.heap.size + 1) wr w2) := hb'
            clear hbd' hb'
            go_wp2
            go_roundw
            case rel =>
              refine ⟨ds ++ [c], pt, i + 1, rfl, rfl, by go_num, by omega, by rw [HSC.out, HSC'.out], ?_, by rw [List.length_append]; simp; omega, ?_, HBD'.out, HBL.out.trans HB'.out⟩
              · intro x hx
                rw [List.mem_append, List.mem_singleton] at hx
                rcases hx with h | h
                · exact HDG.out x h
                · rw [h]; exact HCD.out
              · rcases HPT.out with h | h
                · exact .inl h
                · exact .inr ⟨h.1, by rw [List.length_append]; simp; omega⟩
            case measure => simp [intOf]; omega
          · have hd3' : ¬ (n ≤ 57) := hd3
            have hn46 : ¬ n = 46 := by omega
            by_cases he : n = 101 ∨ n = 69
            · have HSX : Hid (scanL ((bl t).drop i) ds pt = some (ds, pt, some ((bl t).drop (i + 1)))) := by
                show _ = _
                rw [HDR.out, scan_exp]
                rcases he with h | h
                · exact .inl (byte_eq (by rw [← HNC.out]; exact h))
                · exact .inr (byte_eq (by rw [← HNC.out]; exact h))
              have hwi : IntKind.i64.wrap ((i : Int) + 1) = ((i + 1 : Nat) : Int) := by rw [IntWalk.i64_in _ (by omega)]; omega
              obtain ⟨y, hy⟩ : ∃ y, y = powL ((bl t).drop (i + 1)) := ⟨_, rfl⟩
              have HPI : Hid (Calls Tryz.prog 50 #[.string (t.extract (i + 1) t.size)] wr fun e w' => e = .returned (.tuple #[.int .i64 (y.getD 0), .bool y.isSome]) ∧ Below wr.heap.size wr w') := by rw [hy]; exact HPW.out wr (i + 1)
              have HY : Hid (y = powL ((bl t).drop (i + 1))) := hy
              clear hy
              have hi1 : i + 1 ≤ t.size := hlt
              cases y with
              | none =>
                have HBAD : Hid (finC false (scanL ((bl t).drop i) ds pt) = (Dc.none, 3)) := by
                  show _ = _
                  rw [HSX.out]
                  exact fin_none _ _ _ _ HY.out.symm
                have HPI' : Hid (Calls Tryz.prog 50 #[.string (t.extract (i + 1) t.size)] wr fun e w' => e = .returned (.tuple #[.int .i64 0, .bool false]) ∧ Below wr.heap.size wr w') := HPI.out
                clear HPI
                rcases he with he | he
                all_goals
                  go_wp2_with fail
                  with_reducible refine HPI'.out.mono ?_
                  rintro e w2 ⟨rfl, hb⟩
                  have r1 := hb.blk HROW.out (blk_lt HROW.out)
                  obtain ⟨f0, c0, f1, c1, f2, c2, r3⟩ := rw3 r1
                  have HRR : Hid _ := r3
                  have HB2 : Hid (Below w.heap.size w w2) := HBW.out.thru hb
                  have HDX : Hid (D = Dc.none ∧ X = 3) := by
                    show _ ∧ _
                    rw [HF.out.1, HF.out.2, HSC.out, HBAD.out]; exact ⟨rfl, rfl⟩
                  clear r1 r3 hb
                  go_wp2
                  exact dc_end rfl rfl rfl (HRR.out _ _ _) HDX.out.1 HDX.out.2.symm (below_row3 HB2.out (Nat.le_refl _) _ _ _)
              | some x =>
                have HXB : Hid (-1099511627776 ≤ x ∧ x ≤ 1099511627776) := powL_bd _ HY.out.symm
                have HPO : Hid (powO (some ((bl t).drop (i + 1))) = some x) := HY.out.symm
                have HPI' : Hid (Calls Tryz.prog 50 #[.string (t.extract (i + 1) t.size)] wr fun e w' => e = .returned (.tuple #[.int .i64 x, .bool true]) ∧ Below wr.heap.size wr w') := HPI.out
                clear HPI
                rcases he with he | he
                all_goals
                  go_wp2_with fail
                  with_reducible refine HPI'.out.mono ?_
                  rintro e w2 ⟨rfl, hb⟩
                  have HROW2 : Hid _ := hb.blk HROW.out (blk_lt HROW.out)
                  have HBW2 : Hid (Below w.heap.size w w2) := HBW.out.thru hb
                  have HBD2 : Hid (Lib.IsBuilder 75 5 (w.heap.size + 1) (w.heap.size + 1) (Lib.byteCells ds) w2) := builder_kept HBD.out hb
                  clear hb
                  by_cases hds : ds = []
                  · subst hds
                    obtain ⟨f0, c0, f1, c1, f2, c2, r3⟩ := rw3 HROW2.out
                    have HRR : Hid _ := r3
                    have HDX : Hid (D = Dc.none ∧ X = 3) := by
                      show _ ∧ _
                      rw [HF.out.1, HF.out.2, HSC.out, HSX.out]; exact ⟨rfl, rfl⟩
                    clear r3
                    go_wp2_with fail
                    with_reducible refine (blen_any _ _ [] _ HBD2.out).mono ?_
                    rintro e w9 ⟨rfl, rfl⟩
                    go_wp2
                    exact dc_end rfl rfl rfl (HRR.out _ _ _) HDX.out.1 HDX.out.2.symm (below_row3 HBW2.out (Nat.le_refl _) _ _ _)
                  · have hl0 : ¬ ds.length = 0 := fun e => hds (List.eq_nil_of_length_eq_zero e)
                    have hlb : ds.length ≤ 9223372036854775807 := by have := HTS.out; omega
                    by_cases hp : 0 ≤ pt
                    · have hpl : pt ≤ ds.length := by omega
                      have hw1 : IntKind.i64.wrap ((ds.length : Int) - pt) = (ds.length : Int) - pt := IntWalk.i64_in _ (by have := HTS.out; omega)
                      have hw2 : IntKind.i64.wrap (x - ((ds.length : Int) - pt)) = x - ((ds.length : Int) - pt) := IntWalk.i64_in _ (by have := HTS.out; have := HXB.out; omega)
                      have HDX : Hid (D = ⟨madeS false (dval ds) (x - ((ds.length : Int) - pt)), madeL (dval ds) (x - ((ds.length : Int) - pt)), madeE (dval ds) (x - ((ds.length : Int) - pt))⟩ ∧ X = madeX (dval ds) (x - ((ds.length : Int) - pt))) := by
                        show _ ∧ _
                        rw [HF.out.1, HF.out.2, HSC.out, HSX.out, fin_some _ _ _ _ _ hds HPO.out, if_pos hp]
                        exact ⟨rfl, rfl⟩
                      have HDL : Hid (ds.length ≤ 70368744177664) := by show _ ≤ _; have := HTS.out; omega
                      generalize hE : x - ((ds.length : Int) - pt) = E at *
                      clear hds
                      go_wp2_with fail
                      with_reducible refine (blen_any _ _ ds _ HBD2.out).mono ?_
                      rintro e w9 ⟨rfl, rfl⟩
                      go_wp2_with fail
                      with_reducible refine (blen_any _ _ ds _ HBD2.out).mono ?_
                      rintro e w9 ⟨rfl, rfl⟩
                      go_wp2_with fail
                      with_reducible refine (bstring_any _ _ ds _ HBD2.out (by have := blk_lt HROW2.out; omega)).mono ?_
                      rintro e w3 ⟨rfl, hb3⟩
                      have r1 := hb3.blk HROW2.out (Nat.lt_succ_self _)
                      have HR1 : Hid _ := r1
                      have HB3 : Hid (Below w.heap.size w w3) := HBW2.out.trans (hb3.mono (Nat.le_succ _))
                      clear r1 hb3
                      go_wp2_with fail
                      with_reducible refine (HMD.out _ ds _ HDG.out HDL.out).mono ?_
                      rintro e w4 ⟨rfl, hb4⟩
                      have r2 := hb4.blk HR1.out (blk_lt HR1.out)
                      obtain ⟨f0, c0, f1, c1, f2, c2, r3⟩ := rw3 r2
                      have HRR : Hid _ := r3
                      have HBB : Hid (Below w.heap.size w w4) := HB3.out.thru hb4
                      clear r2 r3 hb4
                      simp only [dcV]
                      go_wp2
                      exact dc_end rfl rfl rfl (HRR.out _ _ _) HDX.out.1 HDX.out.2.symm (below_row3 HBB.out (Nat.le_refl _) _ _ _)
                    · have HDX : Hid (D = ⟨madeS false (dval ds) (x), madeL (dval ds) (x), madeE (dval ds) (x)⟩ ∧ X = madeX (dval ds) (x)) := by
                        show _ ∧ _
                        rw [HF.out.1, HF.out.2, HSC.out, HSX.out, fin_some _ _ _ _ _ hds HPO.out, if_neg hp]
                        exact ⟨rfl, rfl⟩
                      have HDL : Hid (ds.length ≤ 70368744177664) := by show _ ≤ _; have := HTS.out; omega
                      clear hds
                      go_wp2_with fail
                      with_reducible refine (blen_any _ _ ds _ HBD2.out).mono ?_
                      rintro e w9 ⟨rfl, rfl⟩
                      go_wp2_with fail
                      with_reducible refine (bstring_any _ _ ds _ HBD2.out (by have := blk_lt HROW2.out; omega)).mono ?_
                      rintro e w3 ⟨rfl, hb3⟩
                      have r1 := hb3.blk HROW2.out (Nat.lt_succ_self _)
                      have HR1 : Hid _ := r1
                      have HB3 : Hid (Below w.heap.size w w3) := HBW2.out.trans (hb3.mono (Nat.le_succ _))
                      clear r1 hb3
                      go_wp2_with fail
                      with_reducible refine (HMD.out _ ds _ HDG.out HDL.out).mono ?_
                      rintro e w4 ⟨rfl, hb4⟩
                      have r2 := hb4.blk HR1.out (blk_lt HR1.out)
                      obtain ⟨f0, c0, f1, c1, f2, c2, r3⟩ := rw3 r2
                      have HRR : Hid _ := r3
                      have HBB : Hid (Below w.heap.size w w4) := HB3.out.thru hb4
                      clear r2 r3 hb4
                      simp only [dcV]
                      go_wp2
                      exact dc_end rfl rfl rfl (HRR.out _ _ _) HDX.out.1 HDX.out.2.symm (below_row3 HBB.out (Nat.le_refl _) _ _ _)
            · have HBAD : Hid (scanL ((bl t).drop i) ds pt = none) := by
                show _ = _
                rw [HDR.out]
                refine scan_bad ?_ ?_ ?_
                · rw [isDig_iff, ← HNC.out]; omega
                · rintro ⟨h, -⟩; rw [h] at HNC; exact hn46 HNC.out
                · rintro (h | h)
                  · rw [h] at HNC; exact he (.inl HNC.out)
                  · rw [h] at HNC; exact he (.inr HNC.out)
              have hq1 : ((n : Int) == 46) = false := by rw [beq_eq_false_iff_ne]; omega
              have hq2 : ((n : Int) == 101) = false := by rw [beq_eq_false_iff_ne]; omega
              have hq3 : ((n : Int) == 69) = false := by rw [beq_eq_false_iff_ne]; omega
              clear he hn46
              obtain ⟨f0, c0, f1, c1, f2, c2, r3⟩ := rw3 HROW.out
              have HRR : Hid _ := r3
              have HDX : Hid (D = Dc.none ∧ X = 3) := by
                show _ ∧ _
                rw [HF.out.1, HF.out.2, HSC.out, HBAD.out]; exact ⟨rfl, rfl⟩
              clear r3
              go_wp2
              exact dc_end rfl rfl rfl (HRR.out _ _ _) HDX.out.1 HDX.out.2.symm (below_row3 HBW.out (Nat.le_refl _) _ _ _)
      · have hie : i = t.size := by omega
        have HEND : Hid (scanL ((bl t).drop i) ds pt = some (ds, pt, none)) := by
          show _ = _
          rw [List.drop_eq_nil_of_le (by rw [bl_len]; omega)]; rfl
        by_cases hds : ds = []
        · subst hds
          obtain ⟨f0, c0, f1, c1, f2, c2, r3⟩ := rw3 HROW.out
          have HRR : Hid _ := r3
          have HDX : Hid (D = Dc.none ∧ X = 3) := by
            show _ ∧ _
            rw [HF.out.1, HF.out.2, HSC.out, HEND.out]; exact ⟨rfl, rfl⟩
          clear r3
          go_wp2_with fail
          with_reducible refine (blen_any _ _ [] _ HBD.out).mono ?_
          rintro e w9 ⟨rfl, rfl⟩
          go_wp2
          exact dc_end rfl rfl rfl (HRR.out _ _ _) HDX.out.1 HDX.out.2.symm (below_row3 HBW.out (Nat.le_refl _) _ _ _)
        · have hl0 : ¬ ds.length = 0 := fun e => hds (List.eq_nil_of_length_eq_zero e)
          have hlb : ds.length ≤ 9223372036854775807 := by have := HTS.out; omega
          by_cases hp : 0 ≤ pt
          · have hpl : pt ≤ ds.length := by omega
            have hw1 : IntKind.i64.wrap ((ds.length : Int) - pt) = (ds.length : Int) - pt := IntWalk.i64_in _ (by have := HTS.out; omega)
            have hw2 : IntKind.i64.wrap ((0 : Int) - ((ds.length : Int) - pt)) = (0 : Int) - ((ds.length : Int) - pt) := IntWalk.i64_in _ (by have := HTS.out; have := (trivial : True); omega)
            have HDX : Hid (D = ⟨madeS false (dval ds) ((0 : Int) - ((ds.length : Int) - pt)), madeL (dval ds) ((0 : Int) - ((ds.length : Int) - pt)), madeE (dval ds) ((0 : Int) - ((ds.length : Int) - pt))⟩ ∧ X = madeX (dval ds) ((0 : Int) - ((ds.length : Int) - pt))) := by
              show _ ∧ _
              rw [HF.out.1, HF.out.2, HSC.out, HEND.out, fin_some _ _ _ _ _ hds (show powO none = some 0 from rfl), if_pos hp]
              exact ⟨rfl, rfl⟩
            have HDL : Hid (ds.length ≤ 70368744177664) := by show _ ≤ _; have := HTS.out; omega
            generalize hE : (0 : Int) - ((ds.length : Int) - pt) = E at *
            clear hds
            go_wp2_with fail
            with_reducible refine (blen_any _ _ ds _ HBD.out).mono ?_
            rintro e w9 ⟨rfl, rfl⟩
            go_wp2_with fail
            with_reducible refine (blen_any _ _ ds _ HBD.out).mono ?_
            rintro e w9 ⟨rfl, rfl⟩
            go_wp2_with fail
            with_reducible refine (bstring_any _ _ ds _ HBD.out (by have := blk_lt HROW.out; omega)).mono ?_
            rintro e w3 ⟨rfl, hb3⟩
            have r1 := hb3.blk HROW.out (Nat.lt_succ_self _)
            have HR1 : Hid _ := r1
            have HB3 : Hid (Below w.heap.size w w3) := HBW.out.trans (hb3.mono (Nat.le_succ _))
            clear r1 hb3
            go_wp2_with fail
            with_reducible refine (HMD.out _ ds _ HDG.out HDL.out).mono ?_
            rintro e w4 ⟨rfl, hb4⟩
            have r2 := hb4.blk HR1.out (blk_lt HR1.out)
            obtain ⟨f0, c0, f1, c1, f2, c2, r3⟩ := rw3 r2
            have HRR : Hid _ := r3
            have HBB : Hid (Below w.heap.size w w4) := HB3.out.thru hb4
            clear r2 r3 hb4
            simp only [dcV]
            go_wp2
            exact dc_end rfl rfl rfl (HRR.out _ _ _) HDX.out.1 HDX.out.2.symm (below_row3 HBB.out (Nat.le_refl _) _ _ _)
          · have HDX : Hid (D = ⟨madeS false (dval ds) ((0 : Int)), madeL (dval ds) ((0 : Int)), madeE (dval ds) ((0 : Int))⟩ ∧ X = madeX (dval ds) ((0 : Int))) := by
              show _ ∧ _
              rw [HF.out.1, HF.out.2, HSC.out, HEND.out, fin_some _ _ _ _ _ hds (show powO none = some 0 from rfl), if_neg hp]
              exact ⟨rfl, rfl⟩
            have HDL : Hid (ds.length ≤ 70368744177664) := by show _ ≤ _; have := HTS.out; omega
            clear hds
            go_wp2_with fail
            with_reducible refine (blen_any _ _ ds _ HBD.out).mono ?_
            rintro e w9 ⟨rfl, rfl⟩
            go_wp2_with fail
            with_reducible refine (bstring_any _ _ ds _ HBD.out (by have := blk_lt HROW.out; omega)).mono ?_
            rintro e w3 ⟨rfl, hb3⟩
            have r1 := hb3.blk HROW.out (Nat.lt_succ_self _)
            have HR1 : Hid _ := r1
            have HB3 : Hid (Below w.heap.size w w3) := HBW.out.trans (hb3.mono (Nat.le_succ _))
            clear r1 hb3
            go_wp2_with fail
            with_reducible refine (HMD.out _ ds _ HDG.out HDL.out).mono ?_
            rintro e w4 ⟨rfl, hb4⟩
            have r2 := hb4.blk HR1.out (blk_lt HR1.out)
            obtain ⟨f0, c0, f1, c1, f2, c2, r3⟩ := rw3 r2
            have HRR : Hid _ := r3
            have HBB : Hid (Below w.heap.size w w4) := HB3.out.thru hb4
            clear r2 r3 hb4
            simp only [dcV]
            go_wp2
            exact dc_end rfl rfl rfl (HRR.out _ _ _) HDX.out.1 HDX.out.2.symm (below_row3 HBB.out (Nat.le_refl _) _ _ _)
end Go.Proofs.YtpfnfhikhlceoaaGreatDoor
