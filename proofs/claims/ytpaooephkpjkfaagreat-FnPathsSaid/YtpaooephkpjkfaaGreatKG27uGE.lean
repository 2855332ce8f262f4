/- Texts of this proof: G27 G64 G65 G66. -/
import Derived.Test.YtpaooephkpjkfaaGreatKG45uG34
import Derived.Test.YtpaooephkpjkfaaGreatKG11uS02
import Derived.Test.YtpaooephkpjkfaaGreatKH99uG82
import Derived.Test.YtpaooephkpjkfaaGreatKE5
import Derived.Test.YtpaooephkpjkfaaGreatKA1
import Derived.Test.YtpaooephkpjkfaaGreatKE6
set_option linter.unusedSimpArgs false
set_option linter.unusedVariables false
set_option linter.unnecessarySimpa false
namespace Go.Proofs.YtpaooephkpjkfaaGreat
open Go.RowKit
set_option maxRecDepth 10000
theorem specPath_ac (ps : List CellD) : AC Tryz.prog 146 [cellsA ps] [] (.c (.int .i64 (pathDec ps).1)) [] := by
  refine AC.of_calls fun S w κ vs hv => ?_
  obtain ⟨v, vs', rfl, h1, rfl⟩ := hv
  obtain ⟨A, cap, rfl, hcap, hc⟩ := cr_cells.1 h1
  refine (specPathFault_any ps A cap hcap S w hc).mono ?_
  rintro e w' ⟨rfl, hb⟩
  exact ⟨hb, _, rfl, fun T _ _ => ⟨rfl, rfl⟩⟩
theorem l13Asked_one (xs ps : List CellD) (h0 : (dec xs).1 ≠ 0) : AC Tryz.prog 82 [cellsA xs, cellsA ps] [] (.c (.int .i64 (dec xs).1)) [] := by
  have hb : ((dec xs).1 != 0) = true := by simpa using h0
  have hv := fault_ac xs
  refine wEnter Tryz.func82 Tryz.ntmps82 ?_
  refine wRUN trivial ?_
  refine w7 (op_data [] hv) trivial ?_
  refine wRUN hb ?_
  exact wRet (ret_data []) Tryz.results82
theorem l13Asked_two (xs ps : List CellD) (h0 : (dec xs).1 = 0) : AC Tryz.prog 82 [cellsA xs, cellsA ps] [] (.c (.int .i64 (pathDec ps).1)) [] := by
  have hb : ((0 : Int) != 0) = false := rfl
  have hv := fault_ac xs
  rw [h0] at hv
  have hp := specPath_ac ps
  refine wEnter Tryz.func82 Tryz.ntmps82 ?_
  refine wRUN trivial ?_
  refine w7 (op_data [] hv) trivial ?_
  refine wRUN hb ?_
  refine w7 (op_data [] hp) trivial ?_
  refine wRUN trivial ?_
  exact wRet (ret_data []) Tryz.results82
end Go.Proofs.YtpaooephkpjkfaaGreat

/- The laws' own functions on an argument []Edit: szEdit, szEditS, toEdit, toEditS, eqEdit, eqEditS, markEditS. -/
namespace Go.Proofs.YtpaooephkpjkfaaGreat
open Go.RowKit
set_option maxRecDepth 10000
def EditD.cs (d : EditD) : List C := [.int .i64 d.op, .sl (d.path.map CellD.cs), .sl (d.x.map CellD.cs)]
def EditD.os (d : EditD) : List C := [.int .i64 d.op, .osl (d.path.map CellD.cs), .osl (d.x.map CellD.cs)]
def EditD.av (d : EditD) : AV := .agg [.c (.int .i64 d.op), .c (.sl (d.path.map CellD.cs)), .c (.sl (d.x.map CellD.cs))]
theorem forget_edits (l : List EditD) : forgetLL (l.map EditD.os) = l.map EditD.cs := by
  induction l with
  | nil => rfl
  | cons d l ih => simp only [List.map_cons, forgetLL, ih, EditD.os, EditD.cs, forgetL, C.forget, forget_cells]
theorem closed_edits (l : List EditD) : closedLL (l.map EditD.os) = true := by
  induction l with
  | nil => rfl
  | cons d l ih => simp only [List.map_cons, closedLL, ih, Bool.and_true, EditD.os, closedL, C.closed, closed_cells]
theorem all_edits (l : List EditD) : ((l.map EditD.os).all fun r => r.length == 3) = true := by simp [EditD.os]
attribute [go_sem] forget_edits closed_edits all_edits EditD.av
end Go.Proofs.YtpaooephkpjkfaaGreat

/- impl.editFault, EditsFault; spec.l14Edit, EditsFault, by the engine. -/
namespace Go.Proofs.YtpaooephkpjkfaaGreat
open Go.RowKit
set_option maxRecDepth 10000
theorem implFault_ac (xs : List CellD) (hz : Sized xs) : AC Tryz.prog 21 [cellsA xs] [] (.c (.int .i64 (dec xs).1)) [] := by
  rcases dec_cases xs with ⟨t, ht⟩ | ⟨c, _, ht⟩
  · have hv := valOf_ac xs hz (t := t) (by rw [ht])
    rw [ht]
    refine wEnter Tryz.func21 Tryz.ntmps21 ?_
    refine wRUN trivial ?_
    refine w9 (op_shared [] hv) trivial ?_
    refine wRUN trivial ?_
    exact wRet (ret_data []) Tryz.results21
  · have hv := valOf_bad xs hz (by rw [ht])
    refine wEnter Tryz.func21 Tryz.ntmps21 ?_
    refine wRUN trivial ?_
    (apply (op_shared [] hv); (iterate 9 (focus (first | (simp only [go_sem, Nat.reduceEqDiff, Nat.reduceAdd, Nat.reduceSub, Nat.reduceLeDiff, Nat.reduceMul, Nat.reduceBEq, Nat.reduceLT, Int.reduceToNat, reduceCtorEq, noV]; first | done | exact rfl | (and_intros <;> rfl)) | exact rfl | decide))))
    (repeat (first | (with_reducible first | refine a_seq ?_ | refine a_region ?_ | refine a_block ?_ | refine a_scope ?_) | ((with_reducible apply op_any); (iterate 2 (focus (first | (simp only [go_sem, Nat.reduceEqDiff, Nat.reduceAdd, Nat.reduceSub, Nat.reduceLeDiff, Nat.reduceMul, Nat.reduceBEq, Nat.reduceLT, Int.reduceToNat, reduceCtorEq, noV]; first | done | exact rfl | (and_intros <;> rfl)) | exact rfl | decide)))) | ((with_reducible refine o_nil ?_); dsimp only; try ((with_reducible apply o_draw); (focus (simp only [go_sem]; exact rfl)); (focus decide))) | ((with_reducible first | refine a_ret ?_ | refine a_skip ?_ | refine a_label ?_); dsimp only) | ((with_reducible refine a_exit ?_); dsimp only; simp only [if_true, if_false, Nat.reduceEqDiff]) | ((with_reducible apply a_if); (focus (simp only [go_sem, Nat.reduceBEq, Nat.reduceLT, noV]; exact rfl)); dsimp only [cond_true, cond_false]) | ((with_reducible refine a_draw ?_ ?_); (focus exact rfl))))
    exact wRet (ret_data []) Tryz.results21
end Go.Proofs.YtpaooephkpjkfaaGreat
