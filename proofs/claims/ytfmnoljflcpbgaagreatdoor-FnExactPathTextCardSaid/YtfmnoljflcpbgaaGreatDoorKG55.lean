/- spec.l1Told, l14Merge, MergeValues; impl.MergeValues, by the engine. -/
import Derived.Test.YtfmnoljflcpbgaaGreatDoorKM2
import Derived.Test.YtfmnoljflcpbgaaGreatDoorKG20
import Derived.Test.YtfmnoljflcpbgaaGreatDoorKE6
import Derived.Test.YtfmnoljflcpbgaaGreatDoorKG14
import Derived.Shelf.SortM.Plain
import Derived.Shelf.SortM.SortNone
import Derived.Test.YtfmnoljflcpbgaaGreatDoorKG04
import Derived.Test.YtfmnoljflcpbgaaGreatDoorKS02
import Derived.Sort.OwnSorted
import Derived.Test.YtfmnoljflcpbgaaGreatDoorKG02
import Derived.Test.YtfmnoljflcpbgaaGreatDoorKG23
import Derived.Test.YtfmnoljflcpbgaaGreatDoorKG22
import Derived.Test.YtfmnoljflcpbgaaGreatDoorKG06
import Derived.Test.YtfmnoljflcpbgaaGreatDoorKG08
import Derived.Test.YtfmnoljflcpbgaaGreatDoorKE5
set_option linter.unusedSimpArgs false
set_option linter.unusedVariables false
set_option linter.unnecessarySimpa false
namespace Go.Proofs.YtfmnoljflcpbgaaGreatDoor
open Go.RowKit
set_option maxRecDepth 10000
theorem enc_rows (t : V) : rowsAt (t.enc.map CellD.cs) 5 0 = true := by unfold rowsAt; rw [show (0 : Int).toNat = 0 from rfl, enc_head]; rfl
end Go.Proofs.YtfmnoljflcpbgaaGreatDoor
