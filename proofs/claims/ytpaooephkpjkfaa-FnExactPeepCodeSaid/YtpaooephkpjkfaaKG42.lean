/- The laws' own functions on lists of numbers and on results with one: eq, mark, held; the same of CodeResult without instructions. -/
import Derived.Test.YtpaooephkpjkfaaKG16uG33
import Derived.Test.YtpaooephkpjkfaaKG38
import Derived.Test.YtpaooephkpjkfaaKG40
set_option linter.unusedSimpArgs false
set_option linter.unusedVariables false
set_option linter.unnecessarySimpa false
namespace Go.Proofs.Ytpaooephkpjkfaa
open Go.RowKit
set_option maxRecDepth 10000
theorem markInS_nil (K : Nat) : AC Try.prog 10 [.nils, .c (.int .i64 K)] [] (.c (.int .i64 K)) [] := by
  have hd : decide ((0 : Int) < 0) = false := rfl
  refine wEnter Try.func10 Try.ntmps10 ?_
  refine wRUN trivial ?_
  refine a_loop (κ := Nat) (fun k => ⟨mkS 0 34 [(0, .nils), (1, .c (.int .i64 K)), (5, .c (.int .i64 0))], []⟩)
    (fun _ => True) (fun k => k) 0 trivial ?_ ?_
  · exact wSays (Says.of [] []) hd
  · intro k hk
    refine wRUN hd ?_
    exact wRet (ret_data []) Try.results10
theorem heldInS_nil (K : Nat) : AC Try.prog 26 [.nils, .c (.int .i64 K)] [] (.c (.int .i64 K)) [] := by
  have hd : decide ((0 : Int) < 0) = false := rfl
  refine wEnter Try.func26 Try.ntmps26 ?_
  refine wRUN trivial ?_
  refine a_loop (κ := Nat) (fun k => ⟨mkS 0 40 [(0, .nils), (1, .c (.int .i64 K)), (5, .c (.int .i64 0))], []⟩)
    (fun _ => True) (fun k => k) 0 trivial ?_ ?_
  · exact wSays (Says.of [] []) hd
  · intro k hk
    refine wRUN hd ?_
    exact wRet (ret_data []) Try.results26
theorem heldCodeResult_nil (c at1 : Int) (K : Nat) (hK : K ≤ 3000000000) : AC Try.prog 12 [.agg [.c (.int .i64 c), .c (.int .i64 at1), .nils, .c (.int .i64 0)], .c (.int .i64 K)] [] (.c (.int .i64 K)) [] := by
  have he := heldInS_nil K
  have hn0 : decide ((K : Int) < 0) = false := by simp
  refine wEnter Try.func12 Try.ntmps12 ?_
  refine wRUN trivial ?_
  refine w7 (op_data [] he) trivial ?_
  refine wRUN hn0 ?_
  exact wRet (ret_data []) Try.results12
theorem markCodeResult_nil (c at1 : Int) (K : Nat) : AC Try.prog 11 [.agg [.c (.int .i64 c), .c (.int .i64 at1), .nils, .c (.int .i64 0)], .c (.int .i64 K)] [] (.c (.int .i64 K)) [] := by
  have he := markInS_nil K
  refine wEnter Try.func11 Try.ntmps11 ?_
  refine wRUN trivial ?_
  refine w7 (op_data [] he) trivial ?_
  refine wRUN trivial ?_
  exact wRet (ret_data []) Try.results11
end Go.Proofs.Ytpaooephkpjkfaa
