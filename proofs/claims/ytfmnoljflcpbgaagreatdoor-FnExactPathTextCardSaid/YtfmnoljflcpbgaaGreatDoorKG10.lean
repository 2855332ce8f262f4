/- The laws' own functions that mark memory, as the engine's contracts: markText, markCellS. -/
import Derived.Test.YtfmnoljflcpbgaaGreatDoorKE5
import Derived.Test.YtfmnoljflcpbgaaGreatDoorKG08
import Derived.Test.YtfmnoljflcpbgaaGreatDoorKL1
import Derived.Test.YtfmnoljflcpbgaaGreatDoorKA1
import Derived.Deep.RegionHeld3
import Derived.Deep.RegionWith
set_option linter.unusedSimpArgs false
set_option linter.unusedVariables false
set_option linter.unnecessarySimpa false
namespace Go.Proofs.YtfmnoljflcpbgaaGreatDoor
open Go.RowKit
theorem eqCellS_ac (xs : List CellD) (hl : xs.length ≤ 9223372036854775807) : AC Tryz.prog 15 [cellsA xs, cellsA xs] [] (.c (.bool true)) [] := by
  refine AC.of_calls fun S w κ vs hv => ?_
  obtain ⟨v, vs', rfl, h1, v2, vs2, rfl, h2, rfl⟩ := hv
  obtain ⟨A, cap, rfl, _, hc⟩ := cr_cells.1 h1
  obtain ⟨B, cap', rfl, _, hc'⟩ := cr_cells.1 h2
  refine (eqCellS_same xs hl A B cap cap' S S w hc hc').mono ?_
  rintro e w' ⟨rfl, hb⟩
  exact ⟨hb, _, rfl, fun T _ _ => ⟨rfl, rfl⟩⟩
set_option maxRecDepth 10000
end Go.Proofs.YtfmnoljflcpbgaaGreatDoor
