/- Parts Ow of the proof, in one text. -/
import Derived.Test.YtlffojopfilfeaaGreatDoorROS
import Derived.Test.YtlffojopfilfeaaGreatDoorROK
import Derived.Test.YtlffojopfilfeaaGreatDoorRAW
import Derived.Test.YtlffojopfilfeaaGreatDoorROA

/- Walks: the document's Total, Of, Sum, Dot, Mean. -/
namespace Go.Proofs.YtlffojopfilfeaaGreatDoor
open Go Go.RowKit

/-- The words of a list as they lie in memory. -/
def UCells (w : World) (a : Option Addr) (n : Nat) (l : List Nat) : Prop := 0 < n → ∃ b o, a = some ⟨b, o, none⟩ ∧ b < w.heap.size ∧ ∀ k, k < n → w.cell? ⟨b, o + k, none⟩ = some (.int .u64 (l.getD k 0 : Nat))
theorem UCells.below {w w' : World} {a : Option Addr} {n : Nat} {l : List Nat} (h : UCells w a n l) (hb : Below w.heap.size w w') : UCells w' a n l := fun hn => by
  obtain ⟨b, o, h1, h2, h3⟩ := h hn
  exact ⟨b, o, h1, Nat.lt_of_lt_of_le h2 hb.size, fun k hk => (hb.cell (p := ⟨b, o + k, none⟩) h2).trans (h3 k hk)⟩
end Go.Proofs.YtlffojopfilfeaaGreatDoor
