/- The laws' own functions on ReadResult: eq, mark, held. -/
import Derived.Test.YtioaieacogoemaaGreatKG16uG33
set_option linter.unusedSimpArgs false
set_option linter.unusedVariables false
set_option linter.unnecessarySimpa false
namespace Go.Proofs.YtioaieacogoemaaGreat
open Go.RowKit
set_option maxRecDepth 10000
theorem eqReadResult_ac (c at1 : Int) (ys : List CellD) (hl : ys.length ≤ 9223372036854775807) : AC Tryz.prog 20 [.agg [.c (.int .i64 c), .c (.int .i64 at1), cellsA ys], .agg [.c (.int .i64 c), .c (.int .i64 at1), cellsA ys]] [] (.c (.bool true)) [] := by
  have hne : (c != c) = false := by simp
  have hne2 : (at1 != at1) = false := by simp
  have he := eqCellS_ac ys hl
  refine wEnter Tryz.func20 Tryz.ntmps20 ?_
  refine wRUN (j2 hne hne2) ?_
  refine w7 (op_data [] he) trivial ?_
  refine wRUN trivial ?_
  exact wRet (ret_data []) Tryz.results20
theorem heldReadResult_ac (c at1 : Int) (n K : Nat) (hK : K + 5 * n ≤ 3000000000) : AC Tryz.prog 24 [.agg [.c (.int .i64 c), .c (.int .i64 at1), cellsA (marks K n)], .c (.int .i64 K)] [] (.c (.int .i64 ((K + 5 * n : Nat) : Int))) [] := by
  have he := heldCellS_ac n K hK
  have hn0 : decide (((K + 5 * n : Nat) : Int) < 0) = false := by simp; omega
  refine wEnter Tryz.func24 Tryz.ntmps24 ?_
  refine wRUN trivial ?_
  refine w7 (op_data [] he) trivial ?_
  refine wRUN hn0 ?_
  exact wRet (ret_data []) Tryz.results24
theorem markReadResult_ac (c at1 : Int) (ys : List CellD) (K es : Nat) (e : TypeId) (hes : ys ≠ [] → es = 5) (hK : K + 5 * ys.length ≤ 3000000000) :
    AC Tryz.prog 23 [.agg [.c (.int .i64 c), .c (.int .i64 at1), .own (0, 0)], .c (.int .i64 K)] [((0, 0), .row false es e (ys.map CellD.cs))] (.c (.int .i64 ((K + 5 * ys.length : Nat) : Int))) [((0, 0), .row false es e ((marks K ys.length).map CellD.cs))] := by
  have he := markCellS_ac ys K es e hes hK
  refine wEnter Tryz.func23 Tryz.ntmps23 ?_
  refine wRUN trivial ?_
  refine w9 (op_own (0, 0) he) trivial ?_
  refine wRUN trivial ?_
  exact wRetOf (ret_of [((0, 0), (0, 0))] []) Tryz.results23 hK
theorem heldReadResult_nil (c at1 : Int) (K : Nat) (hK : K ≤ 3000000000) : AC Tryz.prog 24 [.agg [.c (.int .i64 c), .c (.int .i64 at1), .nils], .c (.int .i64 K)] [] (.c (.int .i64 K)) [] := by
  have he := heldCellS_ac 0 K (by omega)
  rw [show ((K + 5 * 0 : Nat) : Int) = (K : Int) from rfl, show marks K 0 = [] from rfl] at he
  have hn0 : decide ((K : Int) < 0) = false := by simp
  refine wEnter Tryz.func24 Tryz.ntmps24 ?_
  refine wRUN trivial ?_
  (apply (op_data [] he); (iterate 7 (focus (first | (simp only [go_sem, Nat.reduceEqDiff, Nat.reduceAdd, Nat.reduceSub, Nat.reduceLeDiff, Nat.reduceMul, Nat.reduceBEq, Nat.reduceLT, Int.reduceToNat, reduceCtorEq, List.map_nil]; first | done | exact rfl | (and_intros <;> rfl)) | exact rfl | decide))))
  refine wRUN hn0 ?_
  exact wRet (ret_data []) Tryz.results24
theorem markReadResult_nil (c at1 : Int) (K : Nat) : AC Tryz.prog 23 [.agg [.c (.int .i64 c), .c (.int .i64 at1), .nils], .c (.int .i64 K)] [] (.c (.int .i64 K)) [] := by
  have he := markCellS_nil K
  refine wEnter Tryz.func23 Tryz.ntmps23 ?_
  refine wRUN trivial ?_
  refine w7 (op_data [] he) trivial ?_
  refine wRUN trivial ?_
  exact wRet (ret_data []) Tryz.results23
end Go.Proofs.YtioaieacogoemaaGreat
