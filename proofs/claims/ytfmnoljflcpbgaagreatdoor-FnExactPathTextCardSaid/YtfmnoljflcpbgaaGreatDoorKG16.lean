/- The laws' own functions on PathsResult without paths; a lemma on measures: eq, mark, held. -/
import Derived.Test.YtfmnoljflcpbgaaGreatDoorKG14
set_option linter.unusedSimpArgs false
set_option linter.unusedVariables false
set_option linter.unnecessarySimpa false
namespace Go.Proofs.YtfmnoljflcpbgaaGreatDoor
open Go.RowKit
set_option maxRecDepth 10000
theorem szR_le (xs : List CellD) (left : Int) (h : 0 ≤ left) : szR xs left ≤ left := by
  unfold szR
  split
  · omega
  · have : (0 : Int) ≤ (xs.length : Int) := by omega
    have : (0 : Int) ≤ (bulk xs : Int) := by omega
    omega
end Go.Proofs.YtfmnoljflcpbgaaGreatDoor
