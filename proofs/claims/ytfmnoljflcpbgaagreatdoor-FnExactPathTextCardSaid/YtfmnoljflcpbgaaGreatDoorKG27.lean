/- spec.l13Asked, by the engine. -/
import Derived.Test.YtfmnoljflcpbgaaGreatDoorKG08
import Derived.Test.YtfmnoljflcpbgaaGreatDoorKG14
import Derived.Test.YtfmnoljflcpbgaaGreatDoorKE5
import Derived.Test.YtfmnoljflcpbgaaGreatDoorKM2
import Derived.Test.YtfmnoljflcpbgaaGreatDoorKG23
set_option linter.unusedSimpArgs false
set_option linter.unusedVariables false
set_option linter.unnecessarySimpa false
namespace Go.Proofs.YtfmnoljflcpbgaaGreatDoor
open Go.RowKit
set_option maxRecDepth 10000
theorem specPath_ac (ps : List CellD) : AC Tryz.prog 42 [cellsA ps] [] (.c (.int .i64 (pathDec ps).1)) [] := by
  refine AC.of_calls fun S w κ vs hv => ?_
  obtain ⟨v, vs', rfl, h1, rfl⟩ := hv
  obtain ⟨A, cap, rfl, hcap, hc⟩ := cr_cells.1 h1
  refine (specPathFault_any ps A cap hcap S w hc).mono ?_
  rintro e w' ⟨rfl, hb⟩
  exact ⟨hb, _, rfl, fun T _ _ => ⟨rfl, rfl⟩⟩
end Go.Proofs.YtfmnoljflcpbgaaGreatDoor
