import Derived.Test.YtlffojopfilfeaaGreatDoorSRA
import Derived.Test.YtlffojopfilfeaaGreatDoorSQT
import Derived.Test.YtlffojopfilfeaaGreatDoorSQC
import Derived.WalkMore
import Derived.Lib.LaidTab
namespace Go.Proofs.YtlffojopfilfeaaGreatDoor
open Go.RowKit
theorem bs_inj {l r : List UInt8} : (bs l).toList = (bs r).toList ↔ l = r := by
 simp [ByteArray.toList_eq, bs]
end Go.Proofs.YtlffojopfilfeaaGreatDoor
