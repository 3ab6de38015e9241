/- Parts Rd of the proof, in one text. -/
import Derived.Test.YtiimjbpfdidgcaaGreatDoorHV
import Derived.Test.YtiimjbpfdidgcaaGreatDoorHM
import Derived.Deep.RegionHeld3
import Derived.Deep.CutBlock
import Derived.Deep.DeepCutAuto

/- Walks: the document's answer for layer 7: Product. -/
namespace Go.Proofs.YtiimjbpfdidgcaaGreatDoor
open Go.RowKit

end Go.Proofs.YtiimjbpfdidgcaaGreatDoor
