/- OrderShares: for every input the law returns true, tied to the text of the variables that the code reads. The walk lies in Ii. -/
import Derived.Test.YtlbokicainimnaaGreatDoorQIX
import Derived.Test.YtlbokicainimnaaGreatDoorQRE
import Derived.Test.YtlbokicainimnaaGreatDoorCards
import Derived.Test.YtlbokicainimnaaGreatDoorTie
import Derived.WalkKit
import Derived.ProofKit
import Derived.OpenShut
import Derived.Deep.DeepHandedRow
import Derived.Lib.LaidTab
import Derived.SizedLaws
namespace Go.Proofs.YtlbokicainimnaaGreatDoor.orderShares
open Go.ChangeShapes Go.WideShapes Go.ChangeAt Go.RowKit

theorem wf_u64_bd {n : Int} (h : (Lit.int .u64 n).wf = true) : 0 ≤ n ∧ n ≤ 18446744073709551615 := by
  simp [Lit.wf, IntKind.min, IntKind.max, IntKind.signed, IntKind.bits] at h; omega
theorem wf_i64_bd {n : Int} (h : (Lit.int .i64 n).wf = true) : -9223372036854775808 ≤ n ∧ n ≤ 9223372036854775807 := by
  simp [Lit.wf, IntKind.min, IntKind.max, IntKind.signed, IntKind.bits] at h; omega
theorem wf_i32_bd {n : Int} (h : (Lit.int .i32 n).wf = true) : -2147483648 ≤ n ∧ n ≤ 2147483647 := by
  simp [Lit.wf, IntKind.min, IntKind.max, IntKind.signed, IntKind.bits] at h; omega
theorem own : ownKnob Tryz.prog.godebug = none := by kernel_rfl
theorem laidOut : laidOutB Tryz.prog = true := by kernel_rfl
theorem gTab : Tryz.prog.globalNamed "internal/strconv.uint64pow10" = some 5 := by kernel_rfl
theorem gTabType : (Tryz.prog.globals[5]?).map (·.type) = some 279 := by kernel_rfl
theorem cellsArr : Tryz.prog.cellsOf 279 = 20 := by kernel_rfl
theorem cellsOne : Tryz.prog.cellsOf 22 = 1 := by kernel_rfl
theorem tab {W : World} (h : laidMetH Tryz.prog Rows.orderSharesRow.laid W) : Tab W := by
  have := tabIs_mem (l := Rows.orderSharesRow.laid) (zs := [1, 10, 100, 1000, 10000, 100000, 1000000, 10000000, 100000000, 1000000000, 10000000000, 100000000000, 1000000000000, 10000000000000, 100000000000000, 1000000000000000, 10000000000000000, 100000000000000000, 1000000000000000000, 10000000000000000000]) gTab gTabType Tryz.underlying279 Tryz.underlying22 cellsOne cellsArr h (by simp [Rows.orderSharesRow, Rows.laid_internal_strconv_uint64pow10, Lib.tabData])
  exact this

set_option maxRecDepth 100000 in
theorem contract (H : Type) (enc : TypeId × Value → H) (W : World) (base : Nat) (args : Array Value) (ds gs : List (DataW H)) (before : List MemPlace)
    (hval : ∀ (j : Nat) t v, Tryz.f5.params[j]? = some t → args[j]? = some v → Value.okWide Tryz.prog W .any base t v)
    (hW : DataW.Whole enc Tryz.prog Tryz.f5.params.toList Rows.orderSharesSpec.vars false W args.toList ds gs before) (hL : laidMetH Tryz.prog Rows.orderSharesRow.laid W)
    (hsz : (DataW.weightsEach Tryz.prog (Tryz.f5.params.toList ++ (OpenSpec.ofChange Rows.orderSharesSpec).bare.plain.varTypes Tryz.prog) (ds ++ gs)).all (· ≤ reachBytes) = true) :
    Calls Tryz.prog 5 args W fun e W' => ∃ v, e = .returned v ∧ Rows.orderSharesSpec.post enc Tryz.prog Tryz.f5 false true false false W args v W' := by
  have hW' := hW
  obtain ⟨p, q, hA0, hV, rfl, hfz, hnd⟩ := hW
  have hA : DataW.TrodAll enc Tryz.prog W 0 (fun _ => true) true Tryz.f5.params.toList args.toList ds p := hA0
  rw [Tryz.params5] at hA hval
  rw [Tryz.params5] at hsz
  obtain ⟨v0, vs0, d0, ds0, p0, q0, hargs, rfl, rfl, h0, r0⟩ := trodAll_cons hA
  obtain ⟨v1, vs1, d1, ds1, p1, q1, rfl, rfl, rfl, h1, r1⟩ := trodAll_cons r0
  obtain ⟨rfl, rfl, rfl⟩ := trodAll_nil r1
  obtain rfl : args = #[v0, v1] := by rcases args with ⟨l⟩; exact congrArg Array.mk hargs
  obtain ⟨rfl, rfl⟩ := trodVars_none hV
  have k0 := h0
  have hlt0 : ∀ x ∈ p0, x.block < W.heap.size := fun x hx => hW'.lt x (by simp [hx])
  obtain ⟨a0, l0, c0, rfl⟩ := okWide_slice Tryz.underlying39 (hval 0 39 v0 rfl rfl)
  obtain ⟨a1, rfl, rfl, rfl, w1⟩ := open_int Tryz.underlying22 (hval 1 22 v1 rfl rfl) h1
  clear hA0
  simp only [List.append_nil] at hW'
  obtain ⟨b10, b11⟩ := wf_u64_bd w1
  obtain ⟨n1, e1⟩ : ∃ n : Nat, a1 = n := ⟨a1.toNat, by omega⟩
  have b1 : W64 n1 := by unfold W64; omega
  have walk : Calls Tryz.prog 5 #[.slice a0 l0 c0, .int .u64 a1] W fun e w' => e = .returned (.bool true) ∧ Below W.heap.size W w' := by
    rw [e1]
    have K0 : ∃ l : List Nat, l.length = l0 ∧ l0 * 8 ≤ 140737488351232 ∧ (∀ x ∈ l, W64 x) ∧ UIn W a0 l0 l := by
      obtain ⟨fuel, hf⟩ := h0
      rcases open_ints Tryz.underlying39 Tryz.underlying22 (by kernel_rfl) hf with ⟨hcs, hx⟩ | ⟨a, len, cap, zs, hcs, _, hl, hm, hz, hx, hcell, hwz⟩
      · simp only [Value.cells, List.cons.injEq, Value.slice.injEq, and_true] at hcs
        obtain ⟨rfl, rfl, rfl⟩ := hcs
        exact ⟨[], rfl, by decide, fun x hx => (by cases hx), fun h => absurd h (Nat.lt_irrefl 0)⟩
      · simp only [Value.cells, List.cons.injEq, Value.slice.injEq, and_true] at hcs
        obtain ⟨rfl, rfl, rfl⟩ := hcs
        have hzl : l0 ≤ zs.length := by rw [hz]; simp; exact hl
        have hd : d0 = _ := congrArg Prod.fst hx
        have hs : ((lits (H := H) .u64 (zs.take l0)).length + (lits (H := H) .u64 (zs.drop l0)).length) * Tryz.prog.bytesOf 22 ∈ DataW.weights Tryz.prog 39 d0 := by rw [hd]; simp only [DataW.weights, Tryz.underlying39]; exact List.mem_cons_self
        have h1 := List.all_eq_true.1 hsz _ (DataW.weights_mem_each (j := 0) (t := 39) (d := d0) rfl rfl _ hs)
        have h2 := of_decide_eq_true h1
        have hby : Tryz.prog.bytesOf 22 = 8 := by kernel_rfl
        rw [hby] at h2
        have h3 : l0 * 8 ≤ 140737488351232 := by simp [lits, reachBytes] at h2; omega
        have hbd : ∀ j, 0 ≤ zs.getD j 0 ∧ zs.getD j 0 ≤ 18446744073709551615 := fun j => by
          rw [List.getD_eq_getElem?_getD]
          rcases Nat.lt_or_ge j zs.length with g | g
          · rw [List.getElem?_eq_getElem g]
            exact wf_u64_bd (hwz _ (List.getElem_mem g))
          · rw [List.getElem?_eq_none g]; simp
        refine ⟨(List.range l0).map (fun j => (zs.getD j 0).toNat), by simp, h3, fun x hx => ?_, fun h0 => ?_⟩
        · obtain ⟨j, -, rfl⟩ := List.mem_map.1 hx
          have := hbd j; unfold W64; omega
        · obtain ⟨b, o, rfl, hc⟩ := ints_at hcell (by omega)
          refine ⟨b, o, rfl, World.block_lt_of_cell? W _ (hc 0 (by omega)), fun j hj => ?_⟩
          have e : ((List.range l0).map (fun j => (zs.getD j 0).toNat)).getD j 0 = (zs.getD j 0).toNat := by simp [List.getD, hj]
          have := hbd j
          rw [hc j (by omega), e, show (((zs.getD j 0).toNat : Nat) : Int) = zs.getD j 0 by omega]
    obtain ⟨L0, hn0, hr0, hw0, hc0⟩ := K0
    exact orderShares_walk (a := a0) (n := l0) (c := c0) (l := L0) n1 W hn0 hr0 hw0 hc0 b1 (tab hL)
  refine walk.mono fun e W' ⟨he, hg⟩ => ?_
  subst he
  exact ⟨_, rfl, _, _, _, [], (p0 ++ ([] ++ [])), [], hW', (trodAll_cons_mk (shut_bool Tryz.underlying4 _) trodAll_mk0), (trodAll_cons_mk (Below.trod laidOut (by kernel_rfl) (of_decide_eq_true (by kernel_rfl)) k0 hg hlt0) (trodAll_cons_mk (shut_int Tryz.underlying22 w1) trodAll_mk0)), rfl, hg.frame _, fun h => by cases h⟩

/-- A world for the witness: the settled one, the variables holding what their initialisers lay. -/
noncomputable def laidWorld (os : Os) : World :=
  { World.holding Tryz.prog os ⟨#[], #[], []⟩ with heap := ((((((((((World.holding Tryz.prog os ⟨#[], #[], []⟩).heap.modify 11 (fun | .cells _ t frozen => .cells #[.int .u8 0, .int .u8 1, .int .u8 28, .int .u8 2, .int .u8 29, .int .u8 14, .int .u8 24, .int .u8 3, .int .u8 30, .int .u8 22, .int .u8 20, .int .u8 15, .int .u8 25, .int .u8 17, .int .u8 4, .int .u8 8, .int .u8 31, .int .u8 27, .int .u8 13, .int .u8 23, .int .u8 21, .int .u8 19, .int .u8 16, .int .u8 7, .int .u8 26, .int .u8 12, .int .u8 18, .int .u8 6, .int .u8 11, .int .u8 5, .int .u8 10, .int .u8 9] t frozen | o => o)).modify 12 (fun | .cells _ t frozen => .cells #[.int .u8 0, .int .u8 1, .int .u8 56, .int .u8 2, .int .u8 57, .int .u8 49, .int .u8 28, .int .u8 3, .int .u8 61, .int .u8 58, .int .u8 42, .int .u8 50, .int .u8 38, .int .u8 29, .int .u8 17, .int .u8 4, .int .u8 62, .int .u8 47, .int .u8 59, .int .u8 36, .int .u8 45, .int .u8 43, .int .u8 51, .int .u8 22, .int .u8 53, .int .u8 39, .int .u8 33, .int .u8 30, .int .u8 24, .int .u8 18, .int .u8 12, .int .u8 5, .int .u8 63, .int .u8 55, .int .u8 48, .int .u8 27, .int .u8 60, .int .u8 41, .int .u8 37, .int .u8 16, .int .u8 46, .int .u8 35, .int .u8 44, .int .u8 21, .int .u8 52, .int .u8 32, .int .u8 23, .int .u8 11, .int .u8 54, .int .u8 26, .int .u8 40, .int .u8 15, .int .u8 34, .int .u8 20, .int .u8 31, .int .u8 10, .int .u8 25, .int .u8 14, .int .u8 19, .int .u8 9, .int .u8 13, .int .u8 8, .int .u8 7, .int .u8 6] t frozen | o => o)).modify 5 (fun | .cells _ t frozen => .cells #[.int .u64 1, .int .u64 10, .int .u64 100, .int .u64 1000, .int .u64 10000, .int .u64 100000, .int .u64 1000000, .int .u64 10000000, .int .u64 100000000, .int .u64 1000000000, .int .u64 10000000000, .int .u64 100000000000, .int .u64 1000000000000, .int .u64 10000000000000, .int .u64 100000000000000, .int .u64 1000000000000000, .int .u64 10000000000000000, .int .u64 100000000000000000, .int .u64 1000000000000000000, .int .u64 10000000000000000000] t frozen | o => o)).modify 7 (fun | .cells _ t frozen => .cells #[.int .u8 128, .int .u8 191, .int .u8 160, .int .u8 191, .int .u8 128, .int .u8 159, .int .u8 144, .int .u8 191, .int .u8 128, .int .u8 143, .int .u8 0, .int .u8 0, .int .u8 0, .int .u8 0, .int .u8 0, .int .u8 0, .int .u8 0, .int .u8 0, .int .u8 0, .int .u8 0, .int .u8 0, .int .u8 0, .int .u8 0, .int .u8 0, .int .u8 0, .int .u8 0, .int .u8 0, .int .u8 0, .int .u8 0, .int .u8 0, .int .u8 0, .int .u8 0] t frozen | o => o)).modify 10 (fun | .cells _ t frozen => .cells #[.iface 299 (.pointer (some ⟨(World.holding Tryz.prog os ⟨#[], #[], []⟩).heap.size + 0, 0, none⟩))] t frozen | o => o)).modify 9 (fun | .cells _ t frozen => .cells #[.iface 299 (.pointer (some ⟨(World.holding Tryz.prog os ⟨#[], #[], []⟩).heap.size + 1, 0, none⟩))] t frozen | o => o)).modify 6 (fun | .cells _ t frozen => .cells #[.int .u8 240, .int .u8 240, .int .u8 240, .int .u8 240, .int .u8 240, .int .u8 240, .int .u8 240, .int .u8 240, .int .u8 240, .int .u8 240, .int .u8 240, .int .u8 240, .int .u8 240, .int .u8 240, .int .u8 240, .int .u8 240, .int .u8 240, .int .u8 240, .int .u8 240, .int .u8 240, .int .u8 240, .int .u8 240, .int .u8 240, .int .u8 240, .int .u8 240, .int .u8 240, .int .u8 240, .int .u8 240, .int .u8 240, .int .u8 240, .int .u8 240, .int .u8 240, .int .u8 240, .int .u8 240, .int .u8 240, .int .u8 240, .int .u8 240, .int .u8 240, .int .u8 240, .int .u8 240, .int .u8 240, .int .u8 240, .int .u8 240, .int .u8 240, .int .u8 240, .int .u8 240, .int .u8 240, .int .u8 240, .int .u8 240, .int .u8 240, .int .u8 240, .int .u8 240, .int .u8 240, .int .u8 240, .int .u8 240, .int .u8 240, .int .u8 240, .int .u8 240, .int .u8 240, .int .u8 240, .int .u8 240, .int .u8 240, .int .u8 240, .int .u8 240, .int .u8 240, .int .u8 240, .int .u8 240, .int .u8 240, .int .u8 240, .int .u8 240, .int .u8 240, .int .u8 240, .int .u8 240, .int .u8 240, .int .u8 240, .int .u8 240, .int .u8 240, .int .u8 240, .int .u8 240, .int .u8 240, .int .u8 240, .int .u8 240, .int .u8 240, .int .u8 240, .int .u8 240, .int .u8 240, .int .u8 240, .int .u8 240, .int .u8 240, .int .u8 240, .int .u8 240, .int .u8 240, .int .u8 240, .int .u8 240, .int .u8 240, .int .u8 240, .int .u8 240, .int .u8 240, .int .u8 240, .int .u8 240, .int .u8 240, .int .u8 240, .int .u8 240, .int .u8 240, .int .u8 240, .int .u8 240, .int .u8 240, .int .u8 240, .int .u8 240, .int .u8 240, .int .u8 240, .int .u8 240, .int .u8 240, .int .u8 240, .int .u8 240, .int .u8 240, .int .u8 240, .int .u8 240, .int .u8 240, .int .u8 240, .int .u8 240, .int .u8 240, .int .u8 240, .int .u8 240, .int .u8 240, .int .u8 240, .int .u8 240, .int .u8 240, .int .u8 241, .int .u8 241, .int .u8 241, .int .u8 241, .int .u8 241, .int .u8 241, .int .u8 241, .int .u8 241, .int .u8 241, .int .u8 241, .int .u8 241, .int .u8 241, .int .u8 241, .int .u8 241, .int .u8 241, .int .u8 241, .int .u8 241, .int .u8 241, .int .u8 241, .int .u8 241, .int .u8 241, .int .u8 241, .int .u8 241, .int .u8 241, .int .u8 241, .int .u8 241, .int .u8 241, .int .u8 241, .int .u8 241, .int .u8 241, .int .u8 241, .int .u8 241, .int .u8 241, .int .u8 241, .int .u8 241, .int .u8 241, .int .u8 241, .int .u8 241, .int .u8 241, .int .u8 241, .int .u8 241, .int .u8 241, .int .u8 241, .int .u8 241, .int .u8 241, .int .u8 241, .int .u8 241, .int .u8 241, .int .u8 241, .int .u8 241, .int .u8 241, .int .u8 241, .int .u8 241, .int .u8 241, .int .u8 241, .int .u8 241, .int .u8 241, .int .u8 241, .int .u8 241, .int .u8 241, .int .u8 241, .int .u8 241, .int .u8 241, .int .u8 241, .int .u8 241, .int .u8 241, .int .u8 2, .int .u8 2, .int .u8 2, .int .u8 2, .int .u8 2, .int .u8 2, .int .u8 2, .int .u8 2, .int .u8 2, .int .u8 2, .int .u8 2, .int .u8 2, .int .u8 2, .int .u8 2, .int .u8 2, .int .u8 2, .int .u8 2, .int .u8 2, .int .u8 2, .int .u8 2, .int .u8 2, .int .u8 2, .int .u8 2, .int .u8 2, .int .u8 2, .int .u8 2, .int .u8 2, .int .u8 2, .int .u8 2, .int .u8 2, .int .u8 19, .int .u8 3, .int .u8 3, .int .u8 3, .int .u8 3, .int .u8 3, .int .u8 3, .int .u8 3, .int .u8 3, .int .u8 3, .int .u8 3, .int .u8 3, .int .u8 3, .int .u8 35, .int .u8 3, .int .u8 3, .int .u8 52, .int .u8 4, .int .u8 4, .int .u8 4, .int .u8 68, .int .u8 241, .int .u8 241, .int .u8 241, .int .u8 241, .int .u8 241, .int .u8 241, .int .u8 241, .int .u8 241, .int .u8 241, .int .u8 241, .int .u8 241] t frozen | o => o)).push (.cells #[.string ⟨#[118, 97, 108, 117, 101, 32, 111, 117, 116, 32, 111, 102, 32, 114, 97, 110, 103, 101]⟩] 301 (0, 0))).push (.cells #[.string ⟨#[105, 110, 118, 97, 108, 105, 100, 32, 115, 121, 110, 116, 97, 120]⟩] 301 (0, 0))) }
set_option maxRecDepth 100000 in
theorem laid_met (os : Os) : laidMet Tryz.prog Rows.orderSharesRow.laid ((laidWorld os).forCall (fun _ _ => 0) ⟨#[], #[.slice none 0 0, .int .u64 0], []⟩).memory :=
  laidMet_of_run' 8 (by kernel_rfl) (by kernel_rfl)
theorem reads (os : Os) {H : Type} (enc : TypeId × Value → H) : ∃ places, DataW.whole enc Tryz.prog ((laidWorld os).forCall (fun _ _ => 0) ⟨#[], #[.slice none 0 0, .int .u64 0], []⟩).memory Tryz.f5.params.toList Rows.orderSharesSpec.vars false (#[.slice none 0 0, .int .u64 0] : Array Value).toList 8 = some ([.nil, .lit (.int .u64 0)], [], places) :=
  ⟨[], by kernel_rfl⟩
set_option maxRecDepth 100000 in
theorem lifted (os : Os) (started : os.Started) (H : Type) (enc : TypeId × Value → H) (F : Stop.Interp) :
    ReturnsInHanded {} Tryz.checked os 5 .any ((OpenSpec.ofChange Rows.orderSharesSpec).preRow enc Tryz.prog Tryz.f5 Rows.orderSharesRow.domain false Rows.orderSharesRow.laid) (((OpenSpec.ofChange Rows.orderSharesSpec).at F).post enc Tryz.prog Tryz.f5 false true false false) := by
  obtain ⟨places, hx⟩ := reads os enc
  refine returnsInHanded_of_row (C := Tryz.checked) (s := OpenSpec.ofChange Rows.orderSharesSpec) own started (by kernel_rfl) Tryz.func5
    (witness_row_at (enc := enc) (C := Tryz.checked) false (laidWorld os) #[.slice none 0 0, .int .u64 0] rfl (by kernel_rfl) (by kernel_rfl) (by kernel_rfl)
      (OpenSpec.preRow_of_cond 8 hx (by kernel_rfl) (fun k hk => by cases hk) (by kernel_rfl) (laid_met os))) ?_
  intro W base args ds gs before hval hW _ _ hsz hL _ _
  exact contract H enc W base args ds gs before hval hW hL hsz
set_option maxRecDepth 100000 in
theorem ja : (Rows.orderSharesRow.inPlace == Tryz.pinned.checked.prog.inPlace 5) = true := by kernel_rfl
set_option maxRecDepth 100000 in
theorem jb : (Rows.orderSharesRow.unfollowed == Tryz.pinned.checked.prog.unfollowed 5) = true := by kernel_rfl
set_option maxRecDepth 100000 in
theorem jc : (Rows.orderSharesRow.recurses == Tryz.pinned.checked.prog.recurses 5) = true := by kernel_rfl
set_option maxRecDepth 100000 in
theorem jd : (Rows.orderSharesRow.named == Tryz.pinned.checked.prog.varsNamed 5) = true := by kernel_rfl
set_option maxRecDepth 100000 in
theorem je : laidOutB Tryz.pinned.checked.prog = true := by kernel_rfl
set_option maxRecDepth 100000 in
theorem jk : mapsRowed Tryz.pinned.checked.prog = true := by kernel_rfl
set_option maxRecDepth 100000 in
theorem closed : joinedFacts Tryz.pinned.checked.prog 5 Tryz.f5 (OpenSpec.ofChange Rows.orderSharesSpec).bare Rows.orderSharesRow = true := by
  unfold joinedFacts
  simp only [Bool.and_eq_true]
  repeat' refine And.intro ?_ ?_
  all_goals first | (with_reducible exact ja) | (with_reducible exact jb) | (with_reducible exact jc) | (with_reducible exact jd) | (with_reducible exact je) | (with_reducible exact jk) | kernel_rfl
theorem said : Rows.OrderSharesSaid :=
  OpenClaim.holds_of_cond 5 Tryz.f5 rfl rfl rfl rfl rfl rfl rfl ⟨rfl, rfl, rfl, rfl, rfl⟩ rfl rfl rfl rfl rfl (by kernel_rfl) Tryz.func5 closed
    (of_decide_eq_true (by kernel_rfl)) (by unfold Func.isWrapper; rw [if_neg (of_decide_eq_false (by kernel_rfl))]; exact ⟨rfl, rfl⟩)
    (fun os started H enc _ F => by rw [OpenClaim.pre_eq_preRow]; exact lifted os started H enc F)
theorem plain (f : FuncId) (fn : Func) (hf : Tryz.pinned.checked.prog.funcNamed "quadrille/quadrillelaw09.OrderShares" = some f) (hfn : Tryz.pinned.checked.prog.funcs[f]? = some fn) :
    true = Tryz.pinned.checked.prog.looks [] ∧ ∀ (j : Nat) t, fn.params[j]? = some t → Tryz.pinned.checked.prog.wantsStandIn t = false := by
  obtain rfl : f = 5 := Option.some.inj ((show Tryz.prog.funcNamed "quadrille/quadrillelaw09.OrderShares" = some 5 by kernel_rfl).symm.trans hf) |>.symm
  obtain rfl : fn = Tryz.f5 := (Option.some.inj (Tryz.func5.symm.trans hfn)).symm
  refine ⟨by kernel_rfl, fun j t ht => ?_⟩
  rw [Tryz.params5] at ht
  have hm := Array.mem_of_getElem? ht
  simp only [List.mem_toArray, List.mem_cons, List.not_mem_nil, or_false] at hm
  rcases hm with rfl | rfl
  · exact (show Tryz.prog.wantsStandIn 39 = false by kernel_rfl)
  · exact (show Tryz.prog.wantsStandIn 22 = false by kernel_rfl)
theorem card : Rows.OrderSharesCardSaid :=
  Claim7.holds_tied_plain_at .later [] _ _ _ _ said (fun _ h => by cases h) (by kernel_rfl) (fun _ h => by cases h) orderShares_row_tie rfl ⟨rfl, rfl⟩ (by kernel_rfl) rfl plain (by kernel_rfl)
end Go.Proofs.YtlbokicainimnaaGreatDoor.orderShares
