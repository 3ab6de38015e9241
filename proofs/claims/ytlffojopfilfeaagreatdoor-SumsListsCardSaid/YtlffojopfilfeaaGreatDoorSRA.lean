import Derived.Test.YtlffojopfilfeaaGreatDoorSQW
import Derived.Test.YtlffojopfilfeaaGreatDoorSQS
namespace Go.Proofs.YtlffojopfilfeaaGreatDoor
open Go.RowKit
structure LiftG (w : World) (a b : Dc) (g7 g8 : Nat) (ba bb : Bool) (s t : Value) (W : World) : Prop where
 bel : Below w.heap.size w W
 ra : W.heap[w.heap.size]? = some (.cells #[.bool a.neg, .string (bs a.s), .int .i64 a.e] 115 (0, 0))
 rb : W.heap[w.heap.size + 1]? = some (.cells #[.bool b.neg, .string (bs b.s), .int .i64 b.e] 115 (0, 0))
 r7 : W.heap[g7]? = some (.cells #[.bool ba, s] 73 (0, 0))
 r8 : W.heap[g8]? = some (.cells #[.bool bb, t] 73 (0, 0))
 n7 : Num .u64 18446744073709551616 W s a.v.natAbs
 n8 : Num .u64 18446744073709551616 W t b.v.natAbs
 r4 : ∃ x a m c, W.heap[w.heap.size + 2]? = some (.cells #[.bool x, .slice a m c] 73 (0, 0))
 r5 : ∃ x a m c, W.heap[w.heap.size + 3]? = some (.cells #[.bool x, .slice a m c] 73 (0, 0))
 d7 : w.heap.size + 4 ≤ g7
 d8 : w.heap.size + 4 ≤ g8
end Go.Proofs.YtlffojopfilfeaaGreatDoor
