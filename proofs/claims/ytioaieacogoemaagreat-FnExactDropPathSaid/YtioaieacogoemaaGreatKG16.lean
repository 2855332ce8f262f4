/- The laws' own functions on PathsResult without paths; a lemma on measures: eq, mark, held. -/
import Derived.Test.YtioaieacogoemaaGreatKG14
set_option linter.unusedSimpArgs false
set_option linter.unusedVariables false
set_option linter.unnecessarySimpa false
namespace Go.Proofs.YtioaieacogoemaaGreat
open Go.RowKit
set_option maxRecDepth 10000
theorem szR_le (xs : List CellD) (left : Int) (h : 0 ≤ left) : szR xs left ≤ left := by
  unfold szR
  split
  · omega
  · have : (0 : Int) ≤ (xs.length : Int) := by omega
    have : (0 : Int) ≤ (bulk xs : Int) := by omega
    omega
theorem markCellS_nil (K : Nat) : AC Tryz.prog 13 [.nils, .c (.int .i64 K)] [] (.c (.int .i64 K)) [] := by
  have hd : decide ((0 : Int) < 0) = false := rfl
  refine wEnter Tryz.func13 Tryz.ntmps13 ?_
  refine wRUN trivial ?_
  refine a_loop (κ := Nat) (fun k => ⟨mkS 0 50 [(0, .nils), (1, .c (.int .i64 K)), (5, .c (.int .i64 0))], []⟩)
    (fun _ => True) (fun k => k) 0 trivial ?_ ?_
  · exact wSays (Says.of [] []) hd
  · intro k hk
    refine wRUN hd ?_
    exact wRet (ret_data []) Tryz.results13
end Go.Proofs.YtioaieacogoemaaGreat
