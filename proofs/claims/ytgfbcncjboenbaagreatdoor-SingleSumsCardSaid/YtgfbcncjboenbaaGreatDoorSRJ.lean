/- Parts Rj of the proof, in one text. -/
import Derived.Test.YtgfbcncjboenbaaGreatDoorSMN
import Derived.Test.YtgfbcncjboenbaaGreatDoorSQA

/- Walks: the reference's root of a quotient of whole numbers. -/
namespace Go.Proofs.YtgfbcncjboenbaaGreatDoor
open Go.RowKit

theorem results_tmp3r {fn : Func} {t u v : Tmp} (h : fn.results = #[.tmp t, .tmp u, .tmp v]) (tmps : Array Value) (P : Program) (w : World) :
    (results fn tmps).run P w = .ok (.tuple #[tmps.getD t undef, tmps.getD u undef, tmps.getD v undef]) w := by
  simp [results, h]

end Go.Proofs.YtgfbcncjboenbaaGreatDoor
