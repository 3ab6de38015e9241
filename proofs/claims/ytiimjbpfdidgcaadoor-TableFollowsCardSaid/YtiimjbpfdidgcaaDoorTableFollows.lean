/- TableFollows: for every input the law returns true, tied to the text of the tables that the code reads. The walk lies in Yd. -/
import Derived.Test.YtiimjbpfdidgcaaDoorJG
import Derived.Test.YtiimjbpfdidgcaaDoorCards
import Derived.Test.YtiimjbpfdidgcaaDoorTie
import Derived.WalkKit
import Derived.ProofKit
import Derived.OpenShut
import Derived.Deep.DeepHandedRow
import Derived.Lib.LaidTab
namespace Go.Proofs.YtiimjbpfdidgcaaDoor.tableFollows
open Go.ChangeShapes Go.WideShapes Go.ChangeAt Go.RowKit

theorem own : ownKnob Tryd.prog.godebug = none := by kernel_rfl
theorem cells9 : Tryd.prog.cellsOf 86 = 9 := by kernel_rfl
theorem cells3 : Tryd.prog.cellsOf 85 = 3 := by kernel_rfl
theorem cells1 : Tryd.prog.cellsOf 3 = 1 := by kernel_rfl
theorem g_products : Tryd.prog.globalNamed "quadrille/table.products" = some 2 := by kernel_rfl
theorem gt_products : (Tryd.prog.globals[2]?).map (·.type) = some 86 := by kernel_rfl
theorem tab_products {W : World} (h : laidMetH Tryd.prog Rows.tableFollowsRow.laid W) : Tab9 W 2 prodZ :=
  tab9_of (l := Rows.tableFollowsRow.laid) (r0 := [0, 5, 4]) (r1 := [5, 5, 1]) (r2 := [4, 1, 4]) g_products gt_products Tryd.underlying86 Tryd.underlying85 Tryd.underlying3 cells1 cells3 cells9 h (by simp [Rows.tableFollowsRow, Rows.laid_quadrille_table_products, Lib.tabData]) rfl
theorem g_quotients : Tryd.prog.globalNamed "quadrille/table.quotients" = some 4 := by kernel_rfl
theorem gt_quotients : (Tryd.prog.globals[4]?).map (·.type) = some 86 := by kernel_rfl
theorem tab_quotients {W : World} (h : laidMetH Tryd.prog Rows.tableFollowsRow.laid W) : Tab9 W 4 quoZ :=
  tab9_of (l := Rows.tableFollowsRow.laid) (r0 := [0, 6, 5]) (r1 := [5, 6, 5]) (r2 := [4, 6, 1]) g_quotients gt_quotients Tryd.underlying86 Tryd.underlying85 Tryd.underlying3 cells1 cells3 cells9 h (by simp [Rows.tableFollowsRow, Rows.laid_quadrille_table_quotients, Lib.tabData]) rfl
theorem g_rests : Tryd.prog.globalNamed "quadrille/table.rests" = some 3 := by kernel_rfl
theorem gt_rests : (Tryd.prog.globals[3]?).map (·.type) = some 86 := by kernel_rfl
theorem tab_rests {W : World} (h : laidMetH Tryd.prog Rows.tableFollowsRow.laid W) : Tab9 W 3 restZ :=
  tab9_of (l := Rows.tableFollowsRow.laid) (r0 := [0, 6, 0]) (r1 := [0, 6, 2]) (r2 := [1, 6, 1]) g_rests gt_rests Tryd.underlying86 Tryd.underlying85 Tryd.underlying3 cells1 cells3 cells9 h (by simp [Rows.tableFollowsRow, Rows.laid_quadrille_table_rests, Lib.tabData]) rfl
theorem g_totals : Tryd.prog.globalNamed "quadrille/table.totals" = some 1 := by kernel_rfl
theorem gt_totals : (Tryd.prog.globals[1]?).map (·.type) = some 86 := by kernel_rfl
theorem tab_totals {W : World} (h : laidMetH Tryd.prog Rows.tableFollowsRow.laid W) : Tab9 W 1 totZ :=
  tab9_of (l := Rows.tableFollowsRow.laid) (r0 := [0, 0, 3]) (r1 := [0, 0, 3]) (r2 := [2, 2, 0]) g_totals gt_totals Tryd.underlying86 Tryd.underlying85 Tryd.underlying3 cells1 cells3 cells9 h (by simp [Rows.tableFollowsRow, Rows.laid_quadrille_table_totals, Lib.tabData]) rfl
set_option maxRecDepth 100000 in
theorem contract (H : Type) (enc : TypeId × Value → H) (W : World) (base : Nat) (args : Array Value) (ds gs : List (DataW H)) (before : List MemPlace)
    (hval : ∀ (j : Nat) t v, Tryd.f7.params[j]? = some t → args[j]? = some v → Value.okWide Tryd.prog W .any base t v)
    (hW : DataW.Whole enc Tryd.prog Tryd.f7.params.toList Rows.tableFollowsSpec.vars false W args.toList ds gs before) (hL : laidMetH Tryd.prog Rows.tableFollowsRow.laid W) :
    Calls Tryd.prog 7 args W fun e W' => ∃ v, e = .returned v ∧ Rows.tableFollowsSpec.post enc Tryd.prog Tryd.f7 false true false false W args v W' := by
  have hW' := hW
  obtain ⟨p, q, hA0, hV, rfl, hfz, hnd⟩ := hW
  have hA : DataW.TrodAll enc Tryd.prog W 0 (fun _ => true) true Tryd.f7.params.toList args.toList ds p := hA0
  rw [Tryd.params7] at hA hval
  obtain ⟨v0, vs0, d0, ds0, p0, q0, hargs, rfl, rfl, h0, r0⟩ := trodAll_cons hA
  obtain ⟨v1, vs1, d1, ds1, p1, q1, rfl, rfl, rfl, h1, r1⟩ := trodAll_cons r0
  obtain ⟨rfl, rfl, rfl⟩ := trodAll_nil r1
  obtain rfl : args = #[v0, v1] := by rcases args with ⟨l⟩; exact congrArg Array.mk hargs
  obtain ⟨rfl, rfl⟩ := trodVars_none hV
  obtain ⟨a0, rfl, rfl, rfl, w0⟩ := open_int Tryd.underlying22 (hval 0 22 v0 rfl rfl) h0
  obtain ⟨a1, rfl, rfl, rfl, w1⟩ := open_int Tryd.underlying22 (hval 1 22 v1 rfl rfl) h1
  clear hA0
  simp only [List.append_nil] at hW'
  obtain ⟨b00, b01⟩ := wf_u64_bd w0
  obtain ⟨n0, e0⟩ : ∃ n : Nat, a0 = n := ⟨a0.toNat, by omega⟩
  have b0 : W64 n0 := by unfold W64; omega
  obtain ⟨b10, b11⟩ := wf_u64_bd w1
  obtain ⟨n1, e1⟩ : ∃ n : Nat, a1 = n := ⟨a1.toNat, by omega⟩
  have b1 : W64 n1 := by unfold W64; omega
  have walk : Calls Tryd.prog 7 #[.int .u64 a0, .int .u64 a1] W fun e w' => e = .returned (.bool true) ∧ Below W.heap.size W w' := by
    rw [e0]
    rw [e1]
    exact law_follows n0 n1 W b0 b1 (tab_totals hL) (tab_quotients hL) (tab_products hL) (tab_rests hL)
  refine walk.mono fun e W' ⟨he, hg⟩ => ?_
  subst he
  exact ⟨_, rfl, _, _, _, [], [], [], hW', (trodAll_cons_mk (shut_bool Tryd.underlying4 _) trodAll_mk0), (trodAll_cons_mk (shut_int Tryd.underlying22 w0) (trodAll_cons_mk (shut_int Tryd.underlying22 w1) trodAll_mk0)), rfl, hg.frame _, fun h => by cases h⟩

/-- A world for the witness: the settled one, the tables holding what their initialisers lay. -/
noncomputable def laidWorld (os : Os) : World :=
  { World.holding Tryd.prog os ⟨#[], #[], []⟩ with heap := (((((World.holding Tryd.prog os ⟨#[], #[], []⟩).heap.modify 2 (fun
      | .cells _ t frozen => .cells #[.int .i64 0, .int .i64 5, .int .i64 4, .int .i64 5, .int .i64 5, .int .i64 1, .int .i64 4, .int .i64 1, .int .i64 4] t frozen
      | o => o)).modify 4 (fun
      | .cells _ t frozen => .cells #[.int .i64 0, .int .i64 6, .int .i64 5, .int .i64 5, .int .i64 6, .int .i64 5, .int .i64 4, .int .i64 6, .int .i64 1] t frozen
      | o => o)).modify 3 (fun
      | .cells _ t frozen => .cells #[.int .i64 0, .int .i64 6, .int .i64 0, .int .i64 0, .int .i64 6, .int .i64 2, .int .i64 1, .int .i64 6, .int .i64 1] t frozen
      | o => o)).modify 1 (fun
      | .cells _ t frozen => .cells #[.int .i64 0, .int .i64 0, .int .i64 3, .int .i64 0, .int .i64 0, .int .i64 3, .int .i64 2, .int .i64 2, .int .i64 0] t frozen
      | o => o)) }
theorem laid_met (os : Os) : laidMet Tryd.prog Rows.tableFollowsRow.laid ((laidWorld os).forCall (fun _ _ => 0) ⟨#[], #[.int .u64 0, .int .u64 0], []⟩).memory :=
  laidMet_of_run' 8 (by kernel_rfl) (by kernel_rfl)
theorem reads (os : Os) {H : Type} (enc : TypeId × Value → H) : ∃ places, DataW.whole enc Tryd.prog ((laidWorld os).forCall (fun _ _ => 0) ⟨#[], #[.int .u64 0, .int .u64 0], []⟩).memory Tryd.f7.params.toList Rows.tableFollowsSpec.vars false (#[.int .u64 0, .int .u64 0] : Array Value).toList 8 = some ([.lit (.int .u64 0), .lit (.int .u64 0)], [], places) :=
  ⟨[], by kernel_rfl⟩
set_option maxRecDepth 100000 in
theorem lifted (os : Os) (started : os.Started) (H : Type) (enc : TypeId × Value → H) (F : Stop.Interp) :
    ReturnsInHanded {} Tryd.checked os 7 .any ((OpenSpec.ofChange Rows.tableFollowsSpec).preRow enc Tryd.prog Tryd.f7 Rows.tableFollowsRow.domain false Rows.tableFollowsRow.laid) (((OpenSpec.ofChange Rows.tableFollowsSpec).at F).post enc Tryd.prog Tryd.f7 false true false false) := by
  obtain ⟨places, hx⟩ := reads os enc
  refine returnsInHanded_of_row (C := Tryd.checked) (s := OpenSpec.ofChange Rows.tableFollowsSpec) own started (by kernel_rfl) Tryd.func7
    (witness_row_at (enc := enc) (C := Tryd.checked) false (laidWorld os) #[.int .u64 0, .int .u64 0] rfl (by kernel_rfl) (by kernel_rfl) (by kernel_rfl)
      (OpenSpec.preRow_of_cond 8 hx (by kernel_rfl) (fun k hk => by cases hk) (by kernel_rfl) (laid_met os))) ?_
  intro W base args ds gs before hval hW _ _ _ hL _ _
  exact contract H enc W base args ds gs before hval hW hL
theorem said : Rows.TableFollowsSaid :=
  OpenClaim.holds_of_cond 7 Tryd.f7 rfl rfl rfl rfl rfl rfl rfl ⟨rfl, rfl, rfl, rfl, rfl⟩ rfl rfl rfl rfl rfl (by kernel_rfl) Tryd.func7 (by kernel_rfl)
    (of_decide_eq_true (by kernel_rfl)) (by unfold Func.isWrapper; rw [if_neg (of_decide_eq_false (by kernel_rfl))]; exact ⟨rfl, rfl⟩)
    (fun os started H enc _ F => by rw [OpenClaim.pre_eq_preRow]; exact lifted os started H enc F)
theorem plain (f : FuncId) (fn : Func) (hf : Tryd.pinned.checked.prog.funcNamed "quadrille/quadrillelaw07.TableFollows" = some f) (hfn : Tryd.pinned.checked.prog.funcs[f]? = some fn) :
    false = Tryd.pinned.checked.prog.looks [] ∧ ∀ (j : Nat) t, fn.params[j]? = some t → Tryd.pinned.checked.prog.wantsStandIn t = false := by
  obtain rfl : f = 7 := Option.some.inj ((show Tryd.prog.funcNamed "quadrille/quadrillelaw07.TableFollows" = some 7 by kernel_rfl).symm.trans hf) |>.symm
  obtain rfl : fn = Tryd.f7 := (Option.some.inj (Tryd.func7.symm.trans hfn)).symm
  refine ⟨by kernel_rfl, fun j t ht => ?_⟩
  rw [Tryd.params7] at ht
  have hm := Array.mem_of_getElem? ht
  simp only [List.mem_toArray, List.mem_cons, List.not_mem_nil, or_false] at hm
  rcases hm with rfl | rfl
  · exact (show Tryd.prog.wantsStandIn 22 = false by kernel_rfl)
  · exact (show Tryd.prog.wantsStandIn 22 = false by kernel_rfl)
theorem card : Rows.TableFollowsCardSaid :=
  Claim7.holds_tied_plain_at .later [] _ _ _ _ said (fun _ h => by cases h) (by kernel_rfl) (fun _ h => by cases h) tableFollows_row_tie rfl ⟨rfl, rfl⟩ (by kernel_rfl) rfl plain (by kernel_rfl)
end Go.Proofs.YtiimjbpfdidgcaaDoor.tableFollows
