/- spec.l1Sign, l1KeyLists, l1Lists, l1Compare, l3Both, by the engine. -/
import Derived.Test.YtioaieacogoemaaGreatKG07
import Derived.Test.YtioaieacogoemaaGreatKM2
set_option linter.unusedSimpArgs false
set_option linter.unusedVariables false
set_option linter.unnecessarySimpa false
namespace Go.Proofs.YtioaieacogoemaaGreat
open Go.RowKit
set_option maxRecDepth 10000
/-- The first code of two values. -/
def bothCode (x y : List CellD) : Int := if (dec x).1 = 0 then (dec y).1 else (dec x).1
theorem l3Both_ac (x y : List CellD) : AC Tryz.prog 53 [cellsA x, cellsA y] [] (.c (.int .i64 (bothCode x y))) [] := by
  have h1 := fault_ac x
  have h2 := fault_ac y
  unfold bothCode
  by_cases h : (dec x).1 = 0
  · rw [if_pos h]
    rw [h] at h1
    have h00 : ((0 : Int) != 0) = false := rfl
    refine wEnter Tryz.func53 Tryz.ntmps53 ?_
    refine wRUN trivial ?_
    refine w7 (op_data [] h1) trivial ?_
    refine wRUN h00 ?_
    refine w7 (op_data [] h2) trivial ?_
    refine wRUN trivial ?_
    exact wRet (ret_data []) Tryz.results53
  · rw [if_neg h]
    have hb : ((dec x).1 != 0) = true := by simpa using h
    refine wEnter Tryz.func53 Tryz.ntmps53 ?_
    refine wRUN trivial ?_
    refine w7 (op_data [] h1) trivial ?_
    refine wRUN hb ?_
    exact wRet (ret_data []) Tryz.results53
end Go.Proofs.YtioaieacogoemaaGreat
