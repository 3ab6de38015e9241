/- Parts Re of the proof, in one text. -/
import Derived.Test.YtiimjbpfdidgcaaGreatDoorHW
import Derived.Test.YtiimjbpfdidgcaaGreatDoorHA

/- Walks: the document's answer for layer 7: Sum. -/
namespace Go.Proofs.YtiimjbpfdidgcaaGreatDoor
open Go.RowKit

end Go.Proofs.YtiimjbpfdidgcaaGreatDoor
