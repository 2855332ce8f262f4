/- Texts of this proof: G16 G18 H99. -/
import Derived.Test.YtioaieacogoemaaGreatKG14
set_option linter.unusedSimpArgs false
set_option linter.unusedVariables false
set_option linter.unnecessarySimpa false
namespace Go.Proofs.YtioaieacogoemaaGreat
open Go.RowKit
set_option maxRecDepth 10000
theorem szR_le (xs : List CellD) (left : Int) (h : 0 ≤ left) : szR xs left ≤ left := by
  unfold szR
  split
  · omega
  · have : (0 : Int) ≤ (xs.length : Int) := by omega
    have : (0 : Int) ≤ (bulk xs : Int) := by omega
    omega
theorem markCellS_nil (K : Nat) : AC Tryz.prog 13 [.nils, .c (.int .i64 K)] [] (.c (.int .i64 K)) [] := by
  have hd : decide ((0 : Int) < 0) = false := rfl
  refine wEnter Tryz.func13 Tryz.ntmps13 ?_
  refine wRUN trivial ?_
  refine a_loop (κ := Nat) (fun k => ⟨mkS 0 50 [(0, .nils), (1, .c (.int .i64 K)), (5, .c (.int .i64 0))], []⟩)
    (fun _ => True) (fun k => k) 0 trivial ?_ ?_
  · exact wSays (Says.of [] []) hd
  · intro k hk
    refine wRUN hd ?_
    exact wRet (ret_data []) Tryz.results13
end Go.Proofs.YtioaieacogoemaaGreat

/- The laws' own functions on ValueResult: eq, mark, held. -/
namespace Go.Proofs.YtioaieacogoemaaGreat
open Go.RowKit
set_option maxRecDepth 10000
theorem eqValueResult_ac (c : Int) (ys : List CellD) (hl : ys.length ≤ 9223372036854775807) : AC Tryz.prog 11 [.agg [.c (.int .i64 c), cellsA ys], .agg [.c (.int .i64 c), cellsA ys]] [] (.c (.bool true)) [] := by
  have hne : (c != c) = false := by simp
  have he := eqCellS_ac ys hl
  refine wEnter Tryz.func11 Tryz.ntmps11 ?_
  refine wRUN hne ?_
  refine w7 (op_data [] he) trivial ?_
  refine wRUN trivial ?_
  exact wRet (ret_data []) Tryz.results11
theorem heldValueResult_ac (c : Int) (n K : Nat) (hK : K + 5 * n ≤ 3000000000) : AC Tryz.prog 15 [.agg [.c (.int .i64 c), cellsA (marks K n)], .c (.int .i64 K)] [] (.c (.int .i64 ((K + 5 * n : Nat) : Int))) [] := by
  have he := heldCellS_ac n K hK
  have hn0 : decide (((K + 5 * n : Nat) : Int) < 0) = false := by simp; omega
  refine wEnter Tryz.func15 Tryz.ntmps15 ?_
  refine wRUN trivial ?_
  refine w7 (op_data [] he) trivial ?_
  refine wRUN hn0 ?_
  exact wRet (ret_data []) Tryz.results15
theorem markValueResult_ac (c : Int) (ys : List CellD) (K es : Nat) (e : TypeId) (hes : ys ≠ [] → es = 5) (hK : K + 5 * ys.length ≤ 3000000000) :
    AC Tryz.prog 14 [.agg [.c (.int .i64 c), .own (0, 0)], .c (.int .i64 K)] [((0, 0), .row false es e (ys.map CellD.cs))] (.c (.int .i64 ((K + 5 * ys.length : Nat) : Int))) [((0, 0), .row false es e ((marks K ys.length).map CellD.cs))] := by
  have he := markCellS_ac ys K es e hes hK
  refine wEnter Tryz.func14 Tryz.ntmps14 ?_
  refine wRUN trivial ?_
  refine w9 (op_own (0, 0) he) trivial ?_
  refine wRUN trivial ?_
  exact wRetOf (ret_of [((0, 0), (0, 0))] []) Tryz.results14 hK
theorem heldValueResult_nil (c : Int) (K : Nat) (hK : K ≤ 3000000000) : AC Tryz.prog 15 [.agg [.c (.int .i64 c), .nils], .c (.int .i64 K)] [] (.c (.int .i64 K)) [] := by
  have he := heldCellS_ac 0 K (by omega)
  rw [show ((K + 5 * 0 : Nat) : Int) = (K : Int) from rfl, show marks K 0 = [] from rfl] at he
  have hn0 : decide ((K : Int) < 0) = false := by simp
  refine wEnter Tryz.func15 Tryz.ntmps15 ?_
  refine wRUN trivial ?_
  (apply (op_data [] he); (iterate 7 (focus (first | (simp only [go_sem, Nat.reduceEqDiff, Nat.reduceAdd, Nat.reduceSub, Nat.reduceLeDiff, Nat.reduceMul, Nat.reduceBEq, Nat.reduceLT, Int.reduceToNat, reduceCtorEq, List.map_nil]; first | done | exact rfl | (and_intros <;> rfl)) | exact rfl | decide))))
  refine wRUN hn0 ?_
  exact wRet (ret_data []) Tryz.results15
theorem markValueResult_nil (c : Int) (K : Nat) : AC Tryz.prog 14 [.agg [.c (.int .i64 c), .nils], .c (.int .i64 K)] [] (.c (.int .i64 K)) [] := by
  have he := markCellS_nil K
  refine wEnter Tryz.func14 Tryz.ntmps14 ?_
  refine wRUN trivial ?_
  refine w7 (op_data [] he) trivial ?_
  refine wRUN trivial ?_
  exact wRet (ret_data []) Tryz.results14
end Go.Proofs.YtioaieacogoemaaGreat

/- Facts that the laws' walks share: a value has a fault or is a tree; rows of slices. -/
namespace Go.Proofs.YtioaieacogoemaaGreat
open Go.RowKit
theorem closed_osl (l : List (List CellD)) : closedLL (l.map oslCs) = true := by
  induction l with
  | nil => rfl
  | cons c l ih => simp only [List.map_cons, closedLL, ih, Bool.and_true, oslCs, closedL, C.closed, closed_cells]
theorem forget_osl (l : List (List CellD)) : forgetLL (l.map oslCs) = l.map encCs := by
  induction l with
  | nil => rfl
  | cons c l ih => simp only [List.map_cons, forgetLL, ih, oslCs, forgetL, C.forget, forget_cells, encCs]
attribute [go_sem] closed_osl forget_osl
/-- Cells in memory as a value that no one writes. -/
theorem ar_cellsA {w : World} {S : Nat → Prop} {m : Mem} {κ : Id → Value} {xs : List CellD} {A : Option Addr} {cap : Nat} (hcap : xs.length ≤ cap) (h : Cells w S A xs) : AR w S m κ (cellsA xs) (.slice A xs.length cap) :=
  cr_cells.2 ⟨A, cap, rfl, hcap, h⟩
end Go.Proofs.YtioaieacogoemaaGreat
