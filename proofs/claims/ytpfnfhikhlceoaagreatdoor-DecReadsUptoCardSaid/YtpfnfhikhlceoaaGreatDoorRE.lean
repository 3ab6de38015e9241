/- Parts Er of the proof, in one text. -/
import Derived.Test.YtpfnfhikhlceoaaGreatDoorRD
import Derived.Lib.LaidTab

/- The examples that each law of layer 2 holds: known. -/
namespace Go.Proofs.YtpfnfhikhlceoaaGreatDoor
open Go.RowKit

/-- What a listed variable holds. -/
theorem laid_mem {P : Program} {W : World} : ∀ {l : List (String × DataW Unit)} {ps : List MemPlace}, DataW.LaidVars P W l ps → ∀ {n : String} {d : DataW Unit}, (n, d) ∈ l →
    ∃ g t cs fuel p, P.globalNamed n = some g ∧ (P.globals[g]?).map (·.type) = some t ∧ W.var? P n = some cs ∧ DataW.trod (fun _ => ()) P W 0 (fun _ => true) false fuel t cs.toList = some (d, p)
  | [], _, _, _, _, hm => by cases hm
  | (n', d') :: r, ps, h, n, d, hm => by
    obtain ⟨g, t, cs, fuel, p, q, h1, h2, h3, h4, h5, -⟩ := h
    rcases List.mem_cons.1 hm with e | hm
    · cases e
      exact ⟨g, t, cs, fuel, p, h1, h2, h3, h4⟩
    · exact laid_mem h5 hm
theorem tabIs_mem {P : Program} {W : World} {l : List (String × DataW Unit)} {name : String} {k : IntKind} {zs : List Int} {g : Nat} {t e : TypeId} {n : Nat}
    (hg : P.globalNamed name = some g) (hty : (P.globals[g]?).map (·.type) = some t) (ht : P.underlying t = some (.array n e)) (he : P.underlying e = some (.int k)) (hce : P.cellsOf e = 1) (hct : P.cellsOf t = n)
    (h : laidMet P l W) (hm : (name, Lib.tabData k zs) ∈ l) : Lib.TabIs P W name k zs := by
  obtain ⟨ps, hl, -⟩ := h
  obtain ⟨g', t', cs, fuel, p, h1, h2, h3, h4⟩ := laid_mem hl hm
  obtain rfl := Option.some.inj (hg.symm.trans h1)
  obtain rfl := Option.some.inj (hty.symm.trans h2)
  unfold Lib.TabIs
  rw [h3, ← Lib.cells_of_tab ht he hce hct h4]
theorem ok_of {d : Dc} (h : d.okB = true) : d.ok := (okB_iff d).1 h
theorem made_of {d : Dc} (h : d.ok) (N k : Nat) (e : Int) (hN : N = dval d.s * 10 ^ k) (he : d.e = e + k) : madeX N e = 0 ∧ madeS d.neg N e = d.neg ∧ madeL N e = d.s ∧ madeE N e = d.e := by
  obtain ⟨h1, h2, h3, h4⟩ := made_scale d.neg (dval d.s) k e
  obtain ⟨k1, k2, k3, k4⟩ := made_self h
  rw [hN, h1, h2, h3, h4, ← he, k1, k2, k3, k4]; exact ⟨rfl, rfl, rfl, rfl⟩
theorem known_of : ofD 4591870180066957722 = ⟨false, [49, 48, 48, 48, 48, 48, 48, 48, 48, 48, 48, 48, 48, 48, 48, 48, 48, 53, 53, 53, 49, 49, 49, 53, 49, 50, 51, 49, 50, 53, 55, 56, 50, 55, 48, 50, 49, 49, 56, 49, 53, 56, 51, 52, 48, 52, 53, 52, 49, 48, 49, 53, 54, 50, 53], -55⟩ ∧ ofX 4591870180066957722 = 0 := by
  have ho : (⟨false, [49, 48, 48, 48, 48, 48, 48, 48, 48, 48, 48, 48, 48, 48, 48, 48, 48, 53, 53, 53, 49, 49, 49, 53, 49, 50, 51, 49, 50, 53, 55, 56, 50, 55, 48, 50, 49, 49, 56, 49, 53, 56, 51, 52, 48, 52, 53, 52, 49, 48, 49, 53, 54, 50, 53], -55⟩ : Dc).ok := ok_of (by kernel_rfl)
  obtain ⟨h1, h2, h3, h4⟩ := made_of ho (ofN 4591870180066957722) 1 (ofE 4591870180066957722) (by kernel_rfl) (by kernel_rfl)
  have hs : spS 4591870180066957722 = false := by kernel_rfl
  have hx : spX 4591870180066957722 = 0 := by kernel_rfl
  unfold ofD ofX
  rw [if_pos hx, if_pos hx, hs, h1, h2, h3, h4]
  exact ⟨rfl, rfl⟩
theorem known_read : readC [43, 49, 46, 53, 48] = (⟨false, [49, 53], -1⟩, 0) := by
  have ho : (⟨false, [49, 53], -1⟩ : Dc).ok := ok_of (by kernel_rfl)
  obtain ⟨h1, h2, h3, h4⟩ := made_of ho 150 1 (-2) (by kernel_rfl) (by kernel_rfl)
  have e : readC [43, 49, 46, 53, 48] = (⟨madeS false 150 (-2), madeL 150 (-2), madeE 150 (-2)⟩, madeX 150 (-2)) := by kernel_rfl
  rw [e, h1, h2, h3, h4]
theorem known_add : addD ⟨false, [49, 53], -1⟩ ⟨false, [53], -1⟩ = ⟨false, [50], 0⟩ ∧ addX ⟨false, [49, 53], -1⟩ ⟨false, [53], -1⟩ = 0 := by
  have ho : (⟨false, [50], 0⟩ : Dc).ok := ok_of (by kernel_rfl)
  obtain ⟨h1, h2, h3, h4⟩ := made_of ho 20 1 (-1) (by kernel_rfl) (by kernel_rfl)
  have e1 : addD ⟨false, [49, 53], -1⟩ ⟨false, [53], -1⟩ = ⟨madeS false 20 (-1), madeL 20 (-1), madeE 20 (-1)⟩ := by kernel_rfl
  have e2 : addX ⟨false, [49, 53], -1⟩ ⟨false, [53], -1⟩ = madeX 20 (-1) := by kernel_rfl
  rw [e1, e2, h1, h2, h3, h4]; exact ⟨rfl, rfl⟩
theorem known_cmp : cmpV ⟨false, [49, 53], -1⟩ ⟨false, [50], 0⟩ = -1 := by kernel_rfl
theorem known_text : textL ⟨false, [49, 53], -1⟩ = [49, 53, 101, 45, 49] := by
  have : itoaL (-1) = [45, 49] := by
    unfold itoaL; rw [if_pos (by decide)]; rw [show (-1 : Int).natAbs = 1 from rfl, decDigits_small (by decide)]; rfl
  have e : textL ⟨false, [49, 53], -1⟩ = [49, 53, 101] ++ itoaL (-1) := by kernel_rfl
  rw [e, this]; rfl

set_option maxHeartbeats 2000000 in
set_option maxRecDepth 100000 in
theorem known_any (w : World) (htab : Tab w) : Calls Tryz.prog 14 #[] w fun e w' => e = .returned (.bool true) ∧ Below w.heap.size w w' := by
  have HO : Hid (∀ W, Below w.heap.size w W → Calls Tryz.prog 15 #[.float .f64 4591870180066957722] W fun e w' => e = .returned (.tuple #[.agg #[.bool false, .string ⟨#[49, 48, 48, 48, 48, 48, 48, 48, 48, 48, 48, 48, 48, 48, 48, 48, 48, 53, 53, 53, 49, 49, 49, 53, 49, 50, 51, 49, 50, 53, 55, 56, 50, 55, 48, 50, 49, 49, 56, 49, 53, 56, 51, 52, 48, 52, 53, 52, 49, 48, 49, 53, 54, 50, 53]⟩, .int .i64 (-55)], .int .i64 0]) ∧ Below W.heap.size W w') := fun W hW => by
    refine (of_v 4591870180066957722 (by unfold W64; decide) W (htab.below hW)).mono ?_
    rintro e w' ⟨rfl, hb⟩
    refine ⟨?_, hb⟩
    rw [known_of.1, known_of.2]; rfl
  have HP : Hid (∀ W, Calls Tryz.prog 19 #[.string ⟨#[43, 49, 46, 53, 48]⟩] W fun e w' => e = .returned (.tuple #[.agg #[.bool false, .string ⟨#[49, 53]⟩, .int .i64 (-1)], .int .i64 0]) ∧ Below W.heap.size W w') := fun W => by
    refine (dparse_any ⟨#[43, 49, 46, 53, 48]⟩ W (by decide)).mono ?_
    rintro e w' ⟨rfl, hb⟩
    refine ⟨?_, hb⟩
    rw [show bl ⟨#[43, 49, 46, 53, 48]⟩ = [43, 49, 46, 53, 48] from rfl, known_read]; rfl
  have HA : Hid (∀ W, Below w.heap.size w W → Calls Tryz.prog 32 #[.agg #[.bool false, .string ⟨#[49, 53]⟩, .int .i64 (-1)], .agg #[.bool false, .string ⟨#[53]⟩, .int .i64 (-1)]] W fun e w' => e = .returned (.tuple #[.agg #[.bool false, .string ⟨#[50]⟩, .int .i64 0], .int .i64 0]) ∧ Below W.heap.size W w') := fun W hW => by
    refine (add_v ⟨false, [49, 53], -1⟩ ⟨false, [53], -1⟩ W (by decide) (by decide) (htab.below hW)).mono ?_
    rintro e w' ⟨rfl, hb⟩
    refine ⟨?_, hb⟩
    rw [show ((⟨false, [49, 53], -1⟩ : Dc).okB && (⟨false, [53], -1⟩ : Dc).okB) = true by kernel_rfl, if_pos rfl, if_pos rfl, known_add.1, known_add.2]; rfl
  have HC : Hid (∀ W, Calls Tryz.prog 31 #[.agg #[.bool false, .string ⟨#[49, 53]⟩, .int .i64 (-1)], .agg #[.bool false, .string ⟨#[50]⟩, .int .i64 0]] W fun e w' => e = .returned (.tuple #[.int .i64 (-1), .int .i64 0]) ∧ Below W.heap.size W w') := fun W => by
    refine (cmp_v ⟨false, [49, 53], -1⟩ ⟨false, [50], 0⟩ W (by decide) (by decide)).mono ?_
    rintro e w' ⟨rfl, hb⟩
    refine ⟨?_, hb⟩
    rw [show ((⟨false, [49, 53], -1⟩ : Dc).okB && (⟨false, [50], 0⟩ : Dc).okB) = true by kernel_rfl, if_pos rfl, if_pos rfl, known_cmp]
  have HT : Hid (∀ W, Below w.heap.size w W → Calls Tryz.prog 24 #[.agg #[.bool false, .string ⟨#[49, 53]⟩, .int .i64 (-1)]] W fun e w' => e = .returned (.tuple #[.string ⟨#[49, 53, 101, 45, 49]⟩, .int .i64 0]) ∧ Below W.heap.size W w') := fun W hW => by
    refine (text_ok ⟨false, [49, 53], -1⟩ W (ok_of (by kernel_rfl)) (htab.below hW)).mono ?_
    rintro e w' ⟨rfl, hb⟩
    refine ⟨?_, hb⟩
    rw [known_text]; rfl
  clear htab
  go_enter Tryz.func14, Tryz.ntmps14
  go_wp2_with fail
  with_reducible refine (HO.out _ (Below.refl _ _)).mono ?_
  rintro e w1 ⟨rfl, hb1⟩
  have HB1 : Hid (Below w.heap.size w (w1.alloc (.cells #[.bool false, .string ⟨#[49, 48, 48, 48, 48, 48, 48, 48, 48, 48, 48, 48, 48, 48, 48, 48, 48, 53, 53, 53, 49, 49, 49, 53, 49, 50, 51, 49, 50, 53, 55, 56, 50, 55, 48, 50, 49, 49, 56, 49, 53, 56, 51, 52, 48, 52, 53, 52, 49, 48, 49, 53, 54, 50, 53]⟩, .int .i64 (-55)] 25))) := hb1.alloc hb1.size _
  have HR1 : Hid _ := new_blk w1 (.cells #[.bool false, .string ⟨#[49, 48, 48, 48, 48, 48, 48, 48, 48, 48, 48, 48, 48, 48, 48, 48, 48, 53, 53, 53, 49, 49, 49, 53, 49, 50, 51, 49, 50, 53, 55, 56, 50, 55, 48, 50, 49, 49, 56, 49, 53, 56, 51, 52, 48, 52, 53, 52, 49, 48, 49, 53, 54, 50, 53]⟩, .int .i64 (-55)] 25)
  clear hb1
  go_wp2_with fail
  with_reducible refine (HP.out _).mono ?_
  rintro e w2 ⟨rfl, hb2⟩
  have HB2 : Hid (Below w.heap.size w (w2.alloc (.cells #[.bool false, .string ⟨#[49, 53]⟩, .int .i64 (-1)] 25))) := (HB1.out.thru hb2).alloc (HB1.out.thru hb2).size _
  have HR2 : Hid _ := new_blk w2 (.cells #[.bool false, .string ⟨#[49, 53]⟩, .int .i64 (-1)] 25)
  have HR1' : Hid _ := ((Below.refl w2.heap.size w2).alloc (Nat.le_refl _) (.cells #[.bool false, .string ⟨#[49, 53]⟩, .int .i64 (-1)] 25)).blk (hb2.blk HR1.out (blk_lt HR1.out)) (by have := blk_lt HR1.out; have := hb2.size; omega)
  clear hb2
  go_wp2_with fail
  with_reducible refine (HA.out _ HB2.out).mono ?_
  rintro e w3 ⟨rfl, hb3⟩
  have HB3 : Hid (Below w.heap.size w (w3.alloc (.cells #[.bool false, .string ⟨#[50]⟩, .int .i64 0] 25))) := (HB2.out.thru hb3).alloc (HB2.out.thru hb3).size _
  have bz := (Below.refl w3.heap.size w3).alloc (Nat.le_refl _) (.cells #[.bool false, .string ⟨#[50]⟩, .int .i64 0] 25)
  have HR3 : Hid _ := new_blk w3 (.cells #[.bool false, .string ⟨#[50]⟩, .int .i64 0] 25)
  have HS2 : Hid _ := bz.blk (hb3.blk HR2.out (blk_lt HR2.out)) (by have := blk_lt HR2.out; have := hb3.size; omega)
  have HS1 : Hid _ := bz.blk (hb3.blk HR1'.out (blk_lt HR1'.out)) (by have := blk_lt HR1'.out; have := hb3.size; omega)
  have a0 := cell_of_row _ _ 0 _ _ _ HS2.out
  have a1 := cell_of_row _ _ 1 _ _ _ HS2.out
  have a2 := cell_of_row _ _ 2 _ _ _ HS2.out
  clear hb3 bz
  go_wp2_with fail
  with_reducible refine (HC.out _).mono ?_
  rintro e w4 ⟨rfl, hb4⟩
  have HB4 : Hid (Below w.heap.size w w4) := HB3.out.thru hb4
  have HT3 : Hid _ := hb4.blk HR3.out (blk_lt HR3.out)
  have HT2 : Hid _ := hb4.blk HS2.out (blk_lt HS2.out)
  have HT1 : Hid _ := hb4.blk HS1.out (blk_lt HS1.out)
  clear hb4 a0 a1 a2
  have a0 := cell_of_row _ _ 0 _ _ _ HT2.out
  have a1 := cell_of_row _ _ 1 _ _ _ HT2.out
  have a2 := cell_of_row _ _ 2 _ _ _ HT2.out
  go_wp2_with fail
  with_reducible refine (HT.out _ HB4.out).mono ?_
  rintro e w5 ⟨rfl, hb5⟩
  have HB5 : Hid (Below w.heap.size w w5) := HB4.out.thru hb5
  have r3 := hb5.blk HT3.out (blk_lt HT3.out)
  have r1 := hb5.blk HT1.out (blk_lt HT1.out)
  clear hb5 a0 a1 a2
  have a0 := cell_of_row _ _ 0 _ _ _ r3
  have a1 := cell_of_row _ _ 1 _ _ _ r3
  have a2 := cell_of_row _ _ 2 _ _ _ r3
  have b0 := cell_of_row _ _ 0 _ _ _ r1
  have b1 := cell_of_row _ _ 1 _ _ _ r1
  have b2 := cell_of_row _ _ 2 _ _ _ r1
  clear r1 r3
  go_wp2
  go_ret
  exact ⟨rfl, HB5.out⟩
theorem decNames_walk (w : World) (htab : Tab w) : Calls Tryz.prog 3 #[] w fun e w' => e = .returned (.bool true) ∧ Below w.heap.size w w' := by
  have HK : Hid _ := known_any w htab
  clear htab
  go_enter Tryz.func3, Tryz.ntmps3
  go_wp2_with fail
  refine Calls.mono HK.out ?_
  rintro e w' ⟨rfl, hb⟩
  go_wp2
  go_ret
  exact ⟨rfl, hb⟩
end Go.Proofs.YtpfnfhikhlceoaaGreatDoor
