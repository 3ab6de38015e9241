/- Parts Bc of the proof, in one text. -/
import Derived.Test.YtgfbcncjboenbaaGreatDoorSAD
import Derived.Test.YtgfbcncjboenbaaGreatDoorSAT
import Derived.Test.YtgfbcncjboenbaaGreatDoorSAX
import Derived.Test.YtgfbcncjboenbaaGreatDoorSAA

/- Walks: round.float, to a kind of 53 bits. -/
namespace Go.Proofs.YtgfbcncjboenbaaGreatDoor
open Go.RowKit

/-- What float hands back. -/
def FloatQ (o : Out) (w : World) (e : Ending) (w' : World) : Prop := e = .returned (.tuple #[.int .u64 (o.m : Nat), .int .i64 o.e, .bool o.inf, .agg #[.bool o.ine, .bool o.ov, .bool o.un]]) ∧ Below w.heap.size w w'
theorem results_tttc {fn : Func} {p q r u : Tmp} {ty : TypeId} (h : fn.results = #[.tmp p, .tmp q, .tmp r, .cell u ty]) (tmps : Array Value) (P : Program) (w : World) :
    (results fn tmps).run P w =
      ((asAddr (tmps.getD u undef)).run P w).andThen fun a w₁ => ((loadVar ty a).run P w₁).andThen fun x w₂ => .ok (.tuple #[tmps.getD p undef, tmps.getD q undef, tmps.getD r undef, x]) w₂ := by
  simp only [results, h]
  simp [Sem.run_bind, Result.andThen]
theorem float_end {fn : Func} {p q r u : Tmp} (hf : fn.results = #[.tmp p, .tmp q, .tmp r, .cell u 35]) {tmps : Array Value} {w0 w : World} {g0 m : Nat} {e : Int} {inf a b c : Bool} {o : Out}
    (hp : tmps.getD p undef = .int .u64 (m : Nat)) (hq : tmps.getD q undef = .int .i64 e) (hr : tmps.getD r undef = .bool inf) (hu : tmps.getD u undef = .pointer (some ⟨g0, 0, none⟩))
    (hg : w.heap[g0]? = some (.cells #[.bool a, .bool b, .bool c] 35 (0, 0))) (hb : Below w0.heap.size w0 w) (ho : o = ⟨inf, m, e, a, b, c⟩) : bodyPost Tryz.prog fn (FloatQ o w0) .ret ⟨tmps, []⟩ w := by
  subst ho
  have hu' : tmps[u]?.getD undef = .pointer (some ⟨g0, 0, none⟩) := by simpa using hu
  refine bodyPost_ret (v := .tuple #[tmps.getD p undef, tmps.getD q undef, tmps.getD r undef, .agg #[.bool a, .bool b, .bool c]]) ?_ rfl ⟨?_, hb⟩
  · rw [results_tttc hf]
    simp [hu', asAddr, run_loadVar_row (P := Tryz.prog) w g0 _ 35 #[.bool a, .bool b, .bool c] (0, 0) _ hg Tryz.underlying35 rfl (by kernel_rfl), Result.andThen]
  · show _ = Ending.returned (.tuple #[_, _, _, _])
    rw [hp, hq, hr]

end Go.Proofs.YtgfbcncjboenbaaGreatDoor
