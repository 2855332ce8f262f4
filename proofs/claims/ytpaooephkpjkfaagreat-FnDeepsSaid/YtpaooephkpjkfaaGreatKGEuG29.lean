/- Texts of this proof: G64 G65 G66 G29. -/
import Derived.Test.YtpaooephkpjkfaaGreatKG14
import Derived.Test.YtpaooephkpjkfaaGreatKH99
import Derived.Test.YtpaooephkpjkfaaGreatKE5
import Derived.Test.YtpaooephkpjkfaaGreatKA1
import Derived.Test.YtpaooephkpjkfaaGreatKE6
import Derived.Test.YtpaooephkpjkfaaGreatKG86uG87
import Derived.Test.YtpaooephkpjkfaaGreatKG05uG20
import Derived.Test.YtpaooephkpjkfaaGreatKM2
import Derived.Test.YtpaooephkpjkfaaGreatKG11
set_option linter.unusedSimpArgs false
set_option linter.unusedVariables false
set_option linter.unnecessarySimpa false
namespace Go.Proofs.YtpaooephkpjkfaaGreat
open Go.RowKit
set_option maxRecDepth 10000
def EditD.cs (d : EditD) : List C := [.int .i64 d.op, .sl (d.path.map CellD.cs), .sl (d.x.map CellD.cs)]
def EditD.os (d : EditD) : List C := [.int .i64 d.op, .osl (d.path.map CellD.cs), .osl (d.x.map CellD.cs)]
def EditD.av (d : EditD) : AV := .agg [.c (.int .i64 d.op), .c (.sl (d.path.map CellD.cs)), .c (.sl (d.x.map CellD.cs))]
theorem forget_edits (l : List EditD) : forgetLL (l.map EditD.os) = l.map EditD.cs := by
  induction l with
  | nil => rfl
  | cons d l ih => simp only [List.map_cons, forgetLL, ih, EditD.os, EditD.cs, forgetL, C.forget, forget_cells]
theorem closed_edits (l : List EditD) : closedLL (l.map EditD.os) = true := by
  induction l with
  | nil => rfl
  | cons d l ih => simp only [List.map_cons, closedLL, ih, Bool.and_true, EditD.os, closedL, C.closed, closed_cells]
theorem all_edits (l : List EditD) : ((l.map EditD.os).all fun r => r.length == 3) = true := by simp [EditD.os]
attribute [go_sem] forget_edits closed_edits all_edits EditD.av
end Go.Proofs.YtpaooephkpjkfaaGreat

/- impl.editFault, EditsFault; spec.l14Edit, EditsFault, by the engine. -/
namespace Go.Proofs.YtpaooephkpjkfaaGreat
open Go.RowKit
set_option maxRecDepth 10000
theorem implFault_ac (xs : List CellD) (hz : Sized xs) : AC Tryz.prog 21 [cellsA xs] [] (.c (.int .i64 (dec xs).1)) [] := by
  rcases dec_cases xs with ⟨t, ht⟩ | ⟨c, _, ht⟩
  · have hv := valOf_ac xs hz (t := t) (by rw [ht])
    rw [ht]
    refine wEnter Tryz.func21 Tryz.ntmps21 ?_
    refine wRUN trivial ?_
    refine w9 (op_shared [] hv) trivial ?_
    refine wRUN trivial ?_
    exact wRet (ret_data []) Tryz.results21
  · have hv := valOf_bad xs hz (by rw [ht])
    refine wEnter Tryz.func21 Tryz.ntmps21 ?_
    refine wRUN trivial ?_
    (apply (op_shared [] hv); (iterate 9 (focus (first | (simp only [go_sem, Nat.reduceEqDiff, Nat.reduceAdd, Nat.reduceSub, Nat.reduceLeDiff, Nat.reduceMul, Nat.reduceBEq, Nat.reduceLT, Int.reduceToNat, reduceCtorEq, noV]; first | done | exact rfl | (and_intros <;> rfl)) | exact rfl | decide))))
    (repeat (first | (with_reducible first | refine a_seq ?_ | refine a_region ?_ | refine a_block ?_ | refine a_scope ?_) | ((with_reducible apply op_any); (iterate 2 (focus (first | (simp only [go_sem, Nat.reduceEqDiff, Nat.reduceAdd, Nat.reduceSub, Nat.reduceLeDiff, Nat.reduceMul, Nat.reduceBEq, Nat.reduceLT, Int.reduceToNat, reduceCtorEq, noV]; first | done | exact rfl | (and_intros <;> rfl)) | exact rfl | decide)))) | ((with_reducible refine o_nil ?_); dsimp only; try ((with_reducible apply o_draw); (focus (simp only [go_sem]; exact rfl)); (focus decide))) | ((with_reducible first | refine a_ret ?_ | refine a_skip ?_ | refine a_label ?_); dsimp only) | ((with_reducible refine a_exit ?_); dsimp only; simp only [if_true, if_false, Nat.reduceEqDiff]) | ((with_reducible apply a_if); (focus (simp only [go_sem, Nat.reduceBEq, Nat.reduceLT, noV]; exact rfl)); dsimp only [cond_true, cond_false]) | ((with_reducible refine a_draw ?_ ?_); (focus exact rfl))))
    exact wRet (ret_data []) Tryz.results21
end Go.Proofs.YtpaooephkpjkfaaGreat

/- (impl.event).value, impl.made, impl.eventsResult, by the engine. -/
namespace Go.Proofs.YtpaooephkpjkfaaGreat
open Go.RowKit
set_option maxRecDepth 10000
theorem all_osl (l : List (List CellD)) : ((l.map oslCs).all fun r => r.length == 1) = true := by simp [oslCs]
attribute [go_sem] all_osl
end Go.Proofs.YtpaooephkpjkfaaGreat
