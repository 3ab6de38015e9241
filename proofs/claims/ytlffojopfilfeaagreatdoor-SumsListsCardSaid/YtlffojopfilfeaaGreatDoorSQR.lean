/- Parts Dk, Dl, Dm, Dn of the proof, in one text. -/
import Derived.Test.YtlffojopfilfeaaGreatDoorSQP
import Derived.Shelf.Strings.Builder1
import Derived.Shelf.Strings.Builder2
import Derived.Shelf.Strings.Trim
import Derived.Shelf.Small.Utf8
import Derived.Shelf.Small.Bits
import Derived.Shelf.Small.Strs
import Derived.Shelf.Strings.BuilderF
import Derived.Shelf.Strings.BuilderK
import Derived.Shelf.Strings.Builder2Cap
import Derived.Shelf.Strconv.Itoa0
import Derived.Shelf.Strconv.Itoa1
import Derived.Shelf.LaysM
import Derived.Shelf.Strconv.Itoa2
import Derived.Shelf.Strconv.Itoa3
import Derived.Shelf.Strconv.Clone
import Derived.Shelf.Strconv.SyntaxError
import Derived.Shelf.Strconv.Lower
import Derived.Shelf.Strconv.ParseUint10
import Derived.Shelf.Strconv.ParseUint10Empty
import Derived.Shelf.Strconv.RangeError
import Derived.Shelf.Strconv.ParseUintEmpty
import Derived.Shelf.Strconv.ParseUint10b64
import Derived.Shelf.Strconv.ParseUint10b32
import Derived.Shelf.Strconv.ParseUint10b16
import Derived.Shelf.Strconv.ParseUint10b8
import Derived.Shelf.Strconv.ParseUint10At
import Derived.Ground.MpProg
import Derived.Shelf.Pu.ParseUintPublic10
import Derived.Shelf.Strings.Search1
import Derived.Shelf.Strings.Prefix
import Derived.Shelf.Unicode.Decode
import Derived.Shelf.Strings.Runes
import Derived.Shelf.Strings.AsciiSet
import Derived.Shelf.Bits.Mul64
import Derived.Shelf.Strings.Repeat
import Derived.Shelf.Unicode.DecodeSlow
import Derived.Shelf.Unicode.DecodeAny
import Derived.Test.YtlffojopfilfeaaGreatDoorProg
import Derived.Lib.AppendIntMem
import Derived.Test.YtlffojopfilfeaaGreatDoorSQM

namespace Go.Proofs.YtlffojopfilfeaaGreatDoor
open Go.RowKit

theorem dec_row_tmp {fn : Func} {p u : Tmp} (h : fn.results = #[.cell p 115, .tmp u]) (tmps : Array Value) (w : World) (g : Nat) (x y z : Value)
  (hp : tmps.getD p undef = .pointer (some ⟨g, 0, none⟩)) (hg : w.heap[g]? = some (.cells #[x, y, z] 115 (0, 0))) : (results fn tmps).run Tryz.prog w = .ok (.tuple #[.agg #[x, y, z], tmps.getD u undef]) w := by
 have hp' : tmps[p]?.getD undef = .pointer (some ⟨g, 0, none⟩) := by simpa using hp
 rw [results_cell_tmp h]
 simp [hp', asAddr, run_loadVar_row (P := Tryz.prog) w g _ 115 #[x, y, z] (0, 0) _ hg Tryz.underlying115 rfl (by kernel_rfl), Result.andThen]

def DecR (neg : Bool) (N : Nat) (e : Int) (w : World) (en : Ending) (w' : World) : Prop :=
 en = .returned (.tuple #[.agg #[.bool (madeS neg N e), .string (bs (madeL N e)), .int .i64 (madeE N e)], .int .i64 (madeX N e)]) ∧ Below w.heap.size w w'

theorem clone_any (s : ByteArray) (w : World) (hs : s.size ≤ 281474976710656) : Calls Tryz.prog 120 #[.string s] w fun e w' => e = .returned (.string s) ∧ Below w.heap.size w w' := by
 go_enter Tryz.func120, Tryz.ntmps120
 go_wp2_with (go_at_call 146; refine (Tryz.stringslite_Clone s _ hs).mono ?_; rintro e w' ⟨rfl, hb⟩)
 go_ret
 exact ⟨rfl, hb⟩

theorem new_blk (w : World) (o : Obj) : (w.alloc o).heap[w.heap.size]? = some o := by
 show (w.heap.push o)[w.heap.size]? = _
 simp
theorem blk_lt {w : World} {g : Nat} {o : Obj} (h : w.heap[g]? = some o) : g < w.heap.size := (Array.getElem?_eq_some_iff.1 h).1
theorem rw3 {w : World} {g : Nat} {a b c : Value} {t : TypeId} (h : w.heap[g]? = some (.cells #[a, b, c] t (0, 0))) :
  w.frozen? ⟨g, 0, none⟩ = false ∧ w.cell? ⟨g, 0, none⟩ = some a ∧ (∀ u, (w.setCell ⟨g, 0, none⟩ u).frozen? ⟨g, 1, none⟩ = false) ∧ (∀ u, (w.setCell ⟨g, 0, none⟩ u).cell? ⟨g, 1, none⟩ = some b) ∧
   (∀ u v, ((w.setCell ⟨g, 0, none⟩ u).setCell ⟨g, 1, none⟩ v).frozen? ⟨g, 2, none⟩ = false) ∧ (∀ u v, ((w.setCell ⟨g, 0, none⟩ u).setCell ⟨g, 1, none⟩ v).cell? ⟨g, 2, none⟩ = some c) ∧
   ∀ u v x, (((w.setCell ⟨g, 0, none⟩ u).setCell ⟨g, 1, none⟩ v).setCell ⟨g, 2, none⟩ x).heap[g]? = some (.cells #[u, v, x] t (0, 0)) := by
 have h1 := fun u => heap_setCell_same w g 0 _ _ u h
 have h2 := fun u v => heap_setCell_same _ g 1 _ _ v (h1 u)
 have h3 := fun u v x => heap_setCell_same _ g 2 _ _ x (h2 u v)
 exact ⟨frozen_of_row w g 0 _ _ h, cell_of_row w g 0 _ _ _ h, fun u => frozen_of_row _ g 1 _ _ (h1 u), fun u => cell_of_row _ g 1 _ _ _ (h1 u), fun u v => frozen_of_row _ g 2 _ _ (h2 u v), fun u v => cell_of_row _ g 2 _ _ _ (h2 u v), h3⟩
theorem below_row3 {B g : Nat} {a w : World} (h : Below B a w) (hg : B ≤ g) (x y z : Value) : Below B a (((w.setCell ⟨g, 0, none⟩ x).setCell ⟨g, 1, none⟩ y).setCell ⟨g, 2, none⟩ z) :=
 ((h.setCell (by exact hg) _).setCell (by exact hg) _).setCell (by exact hg) _

theorem dec_end {fn : Func} {p u : Tmp} (hf : fn.results = #[.cell p 115, .tmp u]) {tmps : Array Value} {w0 w : World} {g : Nat} {b : Bool} {s : ByteArray} {e x : Int} {neg : Bool} {N : Nat} {e0 : Int}
  (hp : tmps.getD p undef = .pointer (some ⟨g, 0, none⟩)) (hu : tmps.getD u undef = .int .i64 x) (hg : w.heap[g]? = some (.cells #[.bool b, .string s, .int .i64 e] 115 (0, 0)))
  (h1 : b = madeS neg N e0) (h2 : s = bs (madeL N e0)) (h3 : e = madeE N e0) (h4 : x = madeX N e0) (hb : Below w0.heap.size w0 w) :
  bodyPost Tryz.prog fn (DecR neg N e0 w0) .ret ⟨tmps, []⟩ w := by
 subst h1 h2 h3 h4
 refine bodyPost_ret (dec_row_tmp hf _ _ g _ _ _ hp hg) rfl ⟨?_, hb⟩
 show _ = Ending.returned (.tuple #[_, _])
 rw [← hu]

theorem made_zero (neg : Bool) (e : Int) : madeX 0 e = 0 ∧ madeS neg 0 e = false ∧ madeL 0 e = [] ∧ madeE 0 e = 0 := by
 unfold madeS madeL madeE madeX; simp
theorem made_err {N : Nat} {e x : Int} (neg : Bool) (h : madeX N e = x) (hx : x ≠ 0) : madeS neg N e = false ∧ madeL N e = [] ∧ madeE N e = 0 := by
 unfold madeS madeL madeE; rw [h]; simp [hx]
theorem made_ok {N : Nat} {e : Int} (neg : Bool) (hN : 0 < N) (h : madeX N e = 0) : madeS neg N e = neg ∧ madeL N e = bareD (strip N) ∧ madeE N e = e + tz N := by
 unfold madeS madeL madeE; rw [h]; simp [show ¬ N = 0 by omega]

set_option maxRecDepth 100000 in
theorem dmade_any (neg : Bool) (s : ByteArray) (e : Int) (w : World) (hd : allDig (bl s)) (hs : s.size ≤ 4611686018427387904) :
  Calls Tryz.prog 97 #[.bool neg, .string s, .int .i64 e] w (DecR neg (dval (bl s)) e w) := by
 obtain ⟨N, hN⟩ : ∃ N, N = dval (bl s) := ⟨_, rfl⟩
 have ht := trimL_bare (bl s) hd
 have hts : (bareD N).length ≤ s.size := by
  rw [hN, ← ht, ← bl_len]
  exact (List.dropWhile_sublist _).length_le
 rw [← hN] at ht ⊢
 obtain ⟨t, htt⟩ : ∃ t, t = bs (bareD N) := ⟨_, rfl⟩
 have htl : t.size = (bareD N).length := by rw [htt]; rfl
 have HTL : Hid (∀ W, Calls Tryz.prog 118 #[.string s, .string ⟨#[48]⟩] W fun e w' => e = .returned (.string t) ∧ w' = W) := fun W => by
  refine (Tryz.strings_TrimLeft_one s 48 (by decide) W).mono ?_
  rintro e w' ⟨rfl, rfl⟩
  refine ⟨?_, rfl⟩
  rw [show Lib.trimLeftB s.data.toList 48 = bareD N from ht, htt]
  rfl
 have hb0 : Below w.heap.size w (w.alloc (.cells #[.bool false, .string ⟨#[]⟩, .int .i64 0] 115)) := (Below.refl _ _).alloc (Nat.le_refl _) _
 have HB0 : Hid _ := hb0
 clear hb0 hN hd
 rcases Nat.eq_zero_or_pos N with g | g
 ·subst g
  have h0 : t.toList.isEmpty = true := by rw [htt]; show (ByteArray.mk _).toList.isEmpty = true; rw [ByteArray.toList_mk]; rfl
  clear htt htl ht
  go_enter Tryz.func97, Tryz.ntmps97
  go_wp2_with (go_at_call 118; refine (HTL.out _).mono ?_; rintro e w' ⟨rfl, rfl⟩)
  obtain ⟨m1, m2, m3, m4⟩ := made_zero neg e
  exact dec_end rfl rfl rfl (new_blk _ _) m2.symm (by rw [m3]; rfl) m4.symm m1.symm HB0.out
 ·have h0 : t.toList.isEmpty = false := by
   rw [htt]; show (ByteArray.mk _).toList.isEmpty = false; rw [ByteArray.toList_mk, bare_step N g]
   cases bareD (N / 10) <;> rfl
  obtain ⟨u, huu⟩ : ∃ u, u = bs (bareD (strip N)) := ⟨_, rfl⟩
  have hul : u.size = (bareD (strip N)).length := by rw [huu]; rfl
  have HTR : Hid (∀ W, Calls Tryz.prog 119 #[.string t, .string ⟨#[48]⟩] W fun e w' => e = .returned (.string u) ∧ w' = W) := fun W => by
   refine (Tryz.strings_TrimRight_one t 48 (by decide) W (by omega)).mono ?_
   rintro e w' ⟨rfl, rfl⟩
   refine ⟨?_, rfl⟩
   rw [show Lib.trimRightB t.data.toList 48 = bareD (strip N) by rw [htt]; exact trimR_bare N g, huu]
   rfl
  have hlen := bare_len_tz N g
  obtain ⟨k, hk⟩ : ∃ k, k = tz N := ⟨_, rfl⟩
  have HU : Hid (u = bs (bareD (strip N))) := huu
  have HX : Hid (madeX N e = if 8192 < u.size then 12 else if 20000 - (k : Int) < e ∨ e < -20000 - (k : Int) then 11 else 0) := by
   show _ = _; unfold madeX; rw [if_neg (show ¬ N = 0 by omega), hul, hk]
  have HK : Hid (k = tz N) := hk
  have hut : t.size = u.size + k := by rw [htl, hul, hk]; exact hlen
  have hts' : t.size ≤ 4611686018427387904 := by omega
  clear huu hul hk hlen htl hts htt ht
  by_cases hlong : 8192 < u.size
  ·have hL : (8192 : Int) < (u.size : Int) := by omega
   have hx : madeX N e = 12 := by rw [HX.out, if_pos hlong]
   have HX2 : Hid _ := hx
   clear hx hut hlong
   go_enter Tryz.func97, Tryz.ntmps97
   go_wp2_with (first | (go_at_call 118; refine (HTL.out _).mono ?_; rintro e w' ⟨rfl, rfl⟩) | (go_at_call 119; refine (HTR.out _).mono ?_; rintro e w' ⟨rfl, rfl⟩))
   obtain ⟨m2, m3, m4⟩ := made_err neg HX2.out (by decide)
   exact dec_end rfl rfl rfl (new_blk _ _) m2.symm (by rw [m3]; rfl) m4.symm HX2.out.symm HB0.out
  ·have hL : ¬ (8192 : Int) < (u.size : Int) := by omega
   have hsub : IntKind.i64.wrap ((t.size : Int) - (u.size : Int)) = (k : Int) := by rw [IntWalk.i64_in _ (by omega)]; omega
   have w1 : IntKind.i64.wrap (20000 - (k : Int)) = 20000 - (k : Int) := IntWalk.i64_in _ (by omega)
   have w2 : IntKind.i64.wrap (-20000 - (k : Int)) = -20000 - (k : Int) := IntWalk.i64_in _ (by omega)
   by_cases hr1 : 20000 - (k : Int) < e
   ·have hx : madeX N e = 11 := by rw [HX.out, if_neg hlong, if_pos (.inl hr1)]
    have HX2 : Hid _ := hx
    clear hx hut hlong
    go_enter Tryz.func97, Tryz.ntmps97
    go_wp2_with (first | (go_at_call 118; refine (HTL.out _).mono ?_; rintro e w' ⟨rfl, rfl⟩) | (go_at_call 119; refine (HTR.out _).mono ?_; rintro e w' ⟨rfl, rfl⟩))
    obtain ⟨m2, m3, m4⟩ := made_err neg HX2.out (by decide)
    exact dec_end rfl rfl rfl (new_blk _ _) m2.symm (by rw [m3]; rfl) m4.symm HX2.out.symm HB0.out
   ·by_cases hr2 : e < -20000 - (k : Int)
    ·have hx : madeX N e = 11 := by rw [HX.out, if_neg hlong, if_pos (.inr hr2)]
     have HX2 : Hid _ := hx
     clear hx hut hlong
     go_enter Tryz.func97, Tryz.ntmps97
     go_wp2_with (first | (go_at_call 118; refine (HTL.out _).mono ?_; rintro e w' ⟨rfl, rfl⟩) | (go_at_call 119; refine (HTR.out _).mono ?_; rintro e w' ⟨rfl, rfl⟩))
     obtain ⟨m2, m3, m4⟩ := made_err neg HX2.out (by decide)
     exact dec_end rfl rfl rfl (new_blk _ _) m2.symm (by rw [m3]; rfl) m4.symm HX2.out.symm HB0.out
    ·have hx : madeX N e = 0 := by rw [HX.out, if_neg hlong, if_neg (by omega)]
     have HX2 : Hid _ := hx
     have w3 : IntKind.i64.wrap (e + (k : Int)) = e + (k : Int) := IntWalk.i64_in _ (by omega)
     have HUL : Hid (u.size ≤ 281474976710656) := by show _ ≤ _; omega
     have HG : Hid (0 < N) := g
     clear hx hut hlong g
     go_enter Tryz.func97, Tryz.ntmps97
     go_wp2_with (first | (go_at_call 118; refine (HTL.out _).mono ?_; rintro e w' ⟨rfl, rfl⟩) | (go_at_call 119; refine (HTR.out _).mono ?_; rintro e w' ⟨rfl, rfl⟩) | fail)
     go_at_call 120
     refine (clone_any u _ HUL.out).mono ?_
     rintro e' w' ⟨rfl, hb⟩
     have hrow := hb.blk (new_blk w _) (by simp)
     obtain ⟨f0, c0, f1, c1, f2, c2, r3⟩ := rw3 hrow
     have HR : Hid _ := r3
     have HBB : Hid (Below w.heap.size w w') := HB0.out.trans (hb.mono (by simp))
     clear hrow r3 hb
     go_wp2
     obtain ⟨m2, m3, m4⟩ := made_ok neg HG.out HX2.out
     exact dec_end rfl rfl rfl (HR.out _ _ _) m2.symm (by rw [m3]; exact HU.out) (by rw [m4, HK.out]) HX2.out.symm (below_row3 HBB.out (Nat.le_refl _) _ _ _)

set_option maxRecDepth 100000 in
theorem Made_any (neg : Bool) (s : ByteArray) (e : Int) (w : World) (hd : allDig (bl s)) (hs : s.size ≤ 4611686018427387904) :
  Calls Tryz.prog 72 #[.bool neg, .string s, .int .i64 e] w (DecR neg (dval (bl s)) e w) := by
 have HN : Hid (∀ W, Calls Tryz.prog 96 #[.string s] W fun e w' => e = .returned (.bool true) ∧ Below W.heap.size W w') := fun W => by
  rw [← all_dig.2 hd]; exact number_any s W (by omega)
 have HM : Hid (∀ W, Calls Tryz.prog 97 #[.bool neg, .string s, .int .i64 e] W (DecR neg (dval (bl s)) e W)) := fun W => dmade_any neg s e W hd hs
 have HB0 : Hid (Below w.heap.size w (w.alloc (.cells #[.bool false, .string ⟨#[]⟩, .int .i64 0] 115))) := (Below.refl _ _).alloc (Nat.le_refl _) _
 clear hd hs
 go_enter Tryz.func72, Tryz.ntmps72
 go_wp2_with fail
 refine (HN.out _).mono ?_
 rintro e' w' ⟨rfl, hb⟩
 have HBB : Hid (Below w.heap.size w w') := HB0.out.trans (hb.mono (by simp))
 have HROW : Hid _ := hb.blk (new_blk w _) (by simp)
 clear hb
 go_wp2_with fail
 refine (HM.out _).mono ?_
 rintro e' w'' ⟨rfl, hb⟩
 have hlt : w.heap.size < w'.heap.size := blk_lt HROW.out
 have hrow := hb.blk HROW.out hlt
 obtain ⟨f0, c0, f1, c1, f2, c2, r3⟩ := rw3 hrow
 have HR : Hid _ := r3
 have HB2 : Hid (Below w.heap.size w w'') := HBB.out.trans (hb.mono (by omega))
 clear hrow r3 hb hlt
 go_wp2
 exact dec_end rfl rfl rfl (HR.out _ _ _) rfl rfl rfl rfl (below_row3 HB2.out (Nat.le_refl _) _ _ _)
end Go.Proofs.YtlffojopfilfeaaGreatDoor

namespace Go.Proofs.YtlffojopfilfeaaGreatDoor
open Go.RowKit Go.Lib Go.Sort

def Tab (w : World) : Prop := Lib.TabIs Tryz.prog w "internal/strconv.uint64pow10" .u64 Lib.pow10Tab
theorem Tab.below {w w' : World} (h : Tab w) (hb : Below w.heap.size w w') : Tab w' := Lib.tabBelow_of_tabIs h w' hb

set_option maxHeartbeats 2000000 in
set_option maxRecDepth 100000 in
theorem iformat_any (u : Nat) (hu64 : u < 18446744073709551616) (w : World) (htab : Tab w) :
  Calls Tryz.prog 122 #[.int .u64 u, .int .i64 10] w fun e w' => e = .returned (.string (bs (decDigits u))) ∧ Below w.heap.size w w' := by
 by_cases hs : u < 100
 ·have h1 : ((u : Nat) : Int) < 100 := by omega
  have hw : IntKind.i64.wrap (u : Int) = (u : Int) := IntWalk.i64_in _ (by omega)
  go_enter Tryz.func122, Tryz.ntmps122
  go_wp2_with (go_at_call 148; refine (Tryz.internal_strconv_small u hs _).mono ?_; rintro e w' ⟨rfl, rfl⟩)
  go_ret
  exact ⟨rfl, Below.refl _ _⟩
 ·have h1 : ¬ ((u : Nat) : Int) < 100 := by omega
  have hu1 : 1 ≤ u := by omega
  have hnd20 : Lib.nDigits u ≤ 20 := by have := Lib.numDigits_eq u hu1 hu64; split at this <;> omega
  have hal : Tryz.prog.arrayLen 192 = 24 := by simp [Program.arrayLen, Tryz.underlying192]
  have hsl1 : ∀ W, (Instr.sliceAt 192 (.pointer (some ⟨w.heap.size, 0, none⟩)) none (some (.int .i64 (Lib.nDigits u : Int))) none).run Tryz.prog W = .ok (.slice (some ⟨w.heap.size, 0, none⟩) (Lib.nDigits u) 24) W := fun W => by
   rw [run_sliceAt_array_h W 192 ⟨w.heap.size, 0, none⟩ (by simp [Program.arrayLen, Program.elem, Tryz.underlying192]) .i64 (Lib.nDigits u : Int) (by omega) (by rw [hal]; omega)]
   go_simp
  have hH0 := Lib.holds_zero0 w 192 (Lib.nDigits u) (by omega)
  have hfmt := Tryz.internal_strconv_formatBase10 w.heap.size 0 24 u (Array.replicate (Lib.nDigits u) 0) (w.alloc (.cells Lib.zeros24 192)) hH0 (by rw [Array.size_replicate]; exact Lib.lt_pow_nDigits u) hu64 (by rw [Array.size_replicate]; omega)
  rw [Array.size_replicate] at hfmt
  have HH0 := Lib.hid hH0
  have HT : Hid (Tab w) := htab
  have HND : Hid (∀ W, W = w.alloc (.cells Lib.zeros24 192) → Calls Tryz.prog 149 #[.int .u64 u] W fun e w' => e = .returned (.int .i64 (Lib.nDigits u)) ∧ w' = W) := fun W hW => by
   subst hW
   exact Tryz.internal_strconv_numDigits u hu1 hu64 _ (HT.out.below ((Below.refl _ _).alloc (Nat.le_refl _) _))
  clear hH0 hal htab hs
  go_enter Tryz.func122, Tryz.ntmps122
  go_wp2_with (go_at_call 149; refine (HND.out _ rfl).mono ?_; rintro e w' ⟨rfl, rfl⟩)
  go_at_call 150
  refine hfmt.mono ?_
  rintro e w' ⟨rfl, k, v', dk, rfl, hF⟩
  have hcv : (convert 144 9 (.slice (some ⟨w.heap.size, 0, none⟩) (Lib.nDigits u) 24)).run Tryz.prog ((putRow (fun (b : UInt8) => Value.int .u8 (b.toNat : Int)) (w.alloc (.cells Lib.zeros24 192)) w.heap.size 0 dk).drewN k) = .ok (.string (bs (decDigits u))) ((putRow (fun (b : UInt8) => Value.int .u8 (b.toNat : Int)) (w.alloc (.cells Lib.zeros24 192)) w.heap.size 0 dk).drewN k) := by
   have h := run_convert_bytes_back (P := Tryz.prog) ((putRow (fun (b : UInt8) => Value.int .u8 (b.toNat : Int)) (w.alloc (.cells Lib.zeros24 192)) w.heap.size 0 dk).drewN k) 144 9 5 ⟨w.heap.size, 0, none⟩ 24 (Lib.decDigits u) Tryz.underlying144 Tryz.underlying5 Tryz.underlying9 (fun j hj => by
    rw [Lib.row_is_numeral hF j hj, Lib.add_plain, World.cell?_drewN]
    exact cell?_putRow (fun (b : UInt8) => Value.int .u8 (b.toNat : Int)) _ w.heap.size 0 _ dk HH0.out (by rw [hF.size, Array.size_replicate]) j (by rw [hF.size]; rw [Lib.decDigits_length] at hj; exact hj))
   rw [Lib.decDigits_length] at h
   exact h
  go_wp2
  go_ret
  obtain ⟨os, eo⟩ := Lib.fin_at w (.cells Lib.zeros24 192) dk k 0
  refine ⟨rfl, ?_⟩
  rw [eo]
  exact Lib.below_grow _ _ (Nat.le_refl _) _ _

set_option maxRecDepth 100000 in
theorem format_any (u : Nat) (hu64 : u < 18446744073709551616) (w : World) (htab : Tab w) :
  Calls Tryz.prog 100 #[.int .u64 u, .int .i64 10] w fun e w' => e = .returned (.string (bs (decDigits u))) ∧ Below w.heap.size w w' := by
 have HF : Hid _ := iformat_any u hu64 w htab
 clear htab
 go_enter Tryz.func100, Tryz.ntmps100
 go_wp2_with fail
 refine Calls.mono HF.out ?_
 rintro e w' ⟨rfl, hb⟩
 go_wp2
 go_ret
 exact ⟨rfl, hb⟩
end Go.Proofs.YtlffojopfilfeaaGreatDoor

namespace Go.Proofs.YtlffojopfilfeaaGreatDoor
open Go.Shelf

theorem lays166 : Go.Proofs.Lays.n166 Tryz.prog Tryz.lays105_ren := { Tryz.lays105 with }
open Go.RowKit

theorem wstring_any (B b : Nat) (l : List UInt8) (s : ByteArray) (w : World) (h : Lib.IsBuilder 146 5 B b (Lib.byteCells l) w) (hlen : l.length + s.size ≤ 140737488355328) (hBw : B ≤ w.heap.size) :
  Calls Tryz.prog 103 #[.pointer (some ⟨b, 0, none⟩), .string s] w fun e w' => e = .returned (.tuple #[.int .i64 s.size, .nilIface]) ∧ Lib.IsBuilder 146 5 B b (Lib.byteCells (l ++ bl s)) w' ∧ Below B w w' := by
 refine (Any.Builder_WriteString lays166 Tryz.Builder_Extra_105 B b _ s w h (by rw [Lib.byteCells_length]; exact hlen) hBw).mono ?_
 rintro e w' ⟨rfl, h1, h2⟩
 refine ⟨rfl, Or.inr ?_, h2⟩
 have e : Lib.byteCells l ++ Lib.strCells s = Lib.byteCells (l ++ bl s) := by
  show _ ++ Lib.strCells ⟨(bl s).toArray⟩ = _
  rw [Lib.strCells_toArray]; unfold Lib.byteCells; rw [List.map_append]
 rw [← e]; exact h1
theorem bstring_any (B b : Nat) (l : List UInt8) (w : World) (h : Lib.IsBuilder 146 5 B b (Lib.byteCells l) w) (hBw : B ≤ w.heap.size) :
  Calls Tryz.prog 104 #[.pointer (some ⟨b, 0, none⟩)] w fun e w' => e = .returned (.string (bs l)) ∧ Below B w w' := Tryz.Builder_String_any B b l w h hBw
theorem builder_new (B : Nat) (w : World) (hB : B ≤ w.heap.size) : Lib.IsBuilder 146 5 B w.heap.size (Lib.byteCells []) (w.alloc (.cells #[.pointer none, .slice none 0 0] 146)) :=
 Or.inl ⟨hB, _, new_blk w _, World.ownsRow_nil _ _ _ _, by simp [Value.ownBlock]⟩
end Go.Proofs.YtlffojopfilfeaaGreatDoor

namespace Go.Proofs.YtlffojopfilfeaaGreatDoor
open Go.Lib

def joinR (L : List ByteArray) : List UInt8 := (L.reverse.map bl).flatten
theorem joinR_nil : joinR [] = [] := rfl
theorem joinR_snoc (L : List ByteArray) (s : ByteArray) : joinR (L ++ [s]) = bl s ++ joinR L := by unfold joinR; simp
theorem joinR_app (L M : List ByteArray) : joinR (L ++ M) = joinR M ++ joinR L := by unfold joinR; simp
theorem joinR_drop (L : List ByteArray) (i : Nat) (hi : i < L.length) : joinR (L.drop i) = joinR (L.drop (i + 1)) ++ bl L[i] := by
 rw [List.drop_eq_getElem_cons hi]
 show joinR ([L[i]] ++ L.drop (i + 1)) = _
 rw [joinR_app]
 unfold joinR; simp
theorem joinR_len_le (L : List ByteArray) (i : Nat) : (joinR (L.drop i)).length ≤ (joinR L).length := by
 have h : joinR L = joinR (L.drop i) ++ joinR (L.take i) := by rw [← joinR_app, List.take_append_drop]
 rw [h, List.length_append]; omega
def piece (Y : Nat) : List UInt8 :=
 if Y / 1000000000000000000 = 0 then decDigits (Y % 1000000000000000000) else List.replicate (18 - (decDigits (Y % 1000000000000000000)).length) 48 ++ decDigits (Y % 1000000000000000000)
theorem piece_bare (Y : Nat) (h : 0 < Y) : bareD Y = bareD (Y / 1000000000000000000) ++ piece Y := by
 unfold bareD piece
 rw [if_neg (show ¬ Y = 0 by omega)]
 by_cases g : Y / 1000000000000000000 = 0
 ·rw [if_pos g, if_pos g, Nat.mod_eq_of_lt (by omega)]; rfl
 ·rw [if_neg g, if_neg g]; exact (dec_row Y (by omega)).1
def TextInv (N k Y : Nat) (L : List ByteArray) : Prop := L.length = k ∧ Y = N / 1000000000000000000 ^ k ∧ bareD N = bareD Y ++ joinR L
theorem text_start (N : Nat) : TextInv N 0 N [] := ⟨rfl, by rw [Nat.pow_zero, Nat.div_one], by rw [joinR_nil, List.append_nil]⟩
theorem text_next {N k Y : Nat} {L : List ByteArray} (h : TextInv N k Y L) (hY : 0 < Y) {s : ByteArray} (hs : s = bs (piece Y)) : TextInv N (k + 1) (Y / 1000000000000000000) (L ++ [s]) := by
 obtain ⟨h1, h2, h3⟩ := h
 refine ⟨by simp [h1], by rw [Nat.pow_succ, ← Nat.div_div_eq_div_mul, ← h2], ?_⟩
 rw [h3, joinR_snoc, piece_bare Y hY, List.append_assoc, hs, bl_bs]
theorem text_count {N k Y : Nat} {L : List ByteArray} (h : TextInv N k Y L) (hY : 0 < Y) {bb : Nat} (hN : N < 2 ^ bb) : k < bb ∧ k < N := by
 obtain ⟨-, h2, -⟩ := h
 have h3 : 1000000000000000000 ^ k ≤ N := by
  rcases Nat.lt_or_ge N (1000000000000000000 ^ k) with g | g
  ·rw [Nat.div_eq_of_lt g] at h2; omega
  ·exact g
 have h4 : 2 ^ k ≤ 1000000000000000000 ^ k := Nat.pow_le_pow_left (by decide) k
 have h5 : k < 2 ^ k := Nat.lt_two_pow_self
 refine ⟨?_, by omega⟩
 rcases Nat.lt_or_ge k bb with g | g
 ·exact g
 ·have := Nat.pow_le_pow_right (show 0 < 2 by decide) g
  omega
theorem text_end {N k : Nat} {L : List ByteArray} (h : TextInv N k 0 L) : bareD N = joinR L := h.2.2
theorem bare_len_bits {N bb : Nat} (hN : N < 2 ^ bb) : (bareD N).length ≤ bb :=
 bare_len_le N bb (Nat.lt_of_lt_of_le hN (Nat.pow_le_pow_left (by decide) bb))
theorem dec_bare {N : Nat} (h : 0 < N) : decDigits N = bareD N := by unfold bareD; rw [if_neg (by omega)]
end Go.Proofs.YtlffojopfilfeaaGreatDoor
