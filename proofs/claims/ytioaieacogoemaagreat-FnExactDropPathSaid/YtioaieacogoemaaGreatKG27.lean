/- spec.l13Asked, by the engine. -/
import Derived.Test.YtioaieacogoemaaGreatKG26
set_option linter.unusedSimpArgs false
set_option linter.unusedVariables false
set_option linter.unnecessarySimpa false
namespace Go.Proofs.YtioaieacogoemaaGreat
open Go.RowKit
set_option maxRecDepth 10000
theorem specPath_ac (ps : List CellD) : AC Tryz.prog 63 [cellsA ps] [] (.c (.int .i64 (pathDec ps).1)) [] := by
  refine AC.of_calls fun S w κ vs hv => ?_
  obtain ⟨v, vs', rfl, h1, rfl⟩ := hv
  obtain ⟨A, cap, rfl, hcap, hc⟩ := cr_cells.1 h1
  refine (specPathFault_any ps A cap hcap S w hc).mono ?_
  rintro e w' ⟨rfl, hb⟩
  exact ⟨hb, _, rfl, fun T _ _ => ⟨rfl, rfl⟩⟩
theorem l13Asked_one (xs ps : List CellD) (h0 : (dec xs).1 ≠ 0) : AC Tryz.prog 33 [cellsA xs, cellsA ps] [] (.c (.int .i64 (dec xs).1)) [] := by
  have hb : ((dec xs).1 != 0) = true := by simpa using h0
  have hv := fault_ac xs
  refine wEnter Tryz.func33 Tryz.ntmps33 ?_
  refine wRUN trivial ?_
  refine w7 (op_data [] hv) trivial ?_
  refine wRUN hb ?_
  exact wRet (ret_data []) Tryz.results33
theorem l13Asked_two (xs ps : List CellD) (h0 : (dec xs).1 = 0) : AC Tryz.prog 33 [cellsA xs, cellsA ps] [] (.c (.int .i64 (pathDec ps).1)) [] := by
  have hb : ((0 : Int) != 0) = false := rfl
  have hv := fault_ac xs
  rw [h0] at hv
  have hp := specPath_ac ps
  refine wEnter Tryz.func33 Tryz.ntmps33 ?_
  refine wRUN trivial ?_
  refine w7 (op_data [] hv) trivial ?_
  refine wRUN hb ?_
  refine w7 (op_data [] hp) trivial ?_
  refine wRUN trivial ?_
  exact wRet (ret_data []) Tryz.results33
end Go.Proofs.YtioaieacogoemaaGreat
