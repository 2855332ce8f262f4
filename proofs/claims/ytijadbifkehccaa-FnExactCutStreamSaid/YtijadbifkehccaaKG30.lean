/- spec.l14Behind, l15All, by the engine. -/
import Derived.Test.YtijadbifkehccaaKG29
import Derived.Test.YtijadbifkehccaaKG08
import Derived.Test.YtijadbifkehccaaKG14
import Derived.Test.YtijadbifkehccaaKH99
set_option linter.unusedSimpArgs false
set_option linter.unusedVariables false
set_option linter.unnecessarySimpa false
namespace Go.Proofs.Ytijadbifkehccaa
open Go.RowKit
set_option maxRecDepth 10000
theorem l15Leaf_ac (t : V) : AC Try.prog 98 [cellsA t.enc] [] (.c (.bool t.kids.isEmpty)) [] := by
  have hr0 : rowsAt (t.enc.map CellD.cs) 5 0 = true := by unfold rowsAt; rw [show (0 : Int).toNat = 0 from rfl, enc_head]; rfl
  have hg0 := enc_head t
  have h0 : (((t.kids.length : Int)) == 0) = t.kids.isEmpty := by cases t.kids <;> simp; omega
  refine AC.intro follows_mixed Try.func98 rfl ?_; simp only [Try.ntmps98, go_sem, List.replicate, Nat.reduceAdd, Nat.reduceSub]
  (repeat (first | (with_reducible refine a_seq ?_) | (with_reducible refine a_region ?_) | ((with_reducible apply op_any); (iterate 2 (focus (first | (simp only [go_sem, Nat.reduceEqDiff, Nat.reduceAdd, Nat.reduceSub, Nat.reduceLeDiff, Nat.reduceMul, Nat.reduceBEq, Nat.reduceLT, Int.reduceToNat, reduceCtorEq, hr0, hg0]; first | done | exact rfl | (and_intros <;> rfl)) | exact rfl | decide)))) | ((with_reducible refine o_nil ?_); dsimp only; try ((with_reducible apply o_draw); (focus (simp only [go_sem, Nat.reduceEqDiff, Nat.reduceAdd, Nat.reduceSub, Nat.reduceLeDiff, Nat.reduceMul, Nat.reduceBEq, Nat.reduceLT, Int.reduceToNat, reduceCtorEq, hr0, hg0]; exact rfl)); (focus decide))) | ((with_reducible refine a_ret ?_); dsimp only) | (with_reducible refine a_block ?_) | ((with_reducible refine a_exit ?_); dsimp only; simp only [if_true, if_false, Nat.reduceEqDiff]) | ((with_reducible apply a_if); (focus (first | (simp only [go_sem, Nat.reduceEqDiff, Nat.reduceAdd, Nat.reduceSub, Nat.reduceLeDiff, Nat.reduceMul, Nat.reduceBEq, Nat.reduceLT, Int.reduceToNat, reduceCtorEq, hr0, hg0]; first | done | exact rfl | (and_intros <;> rfl)) | exact rfl | decide)); dsimp only [cond_true, cond_false]) | ((with_reducible refine a_draw ?_ ?_); (focus exact rfl)) | ((with_reducible refine a_skip ?_); dsimp only) | ((with_reducible refine a_label ?_); dsimp only) | (with_reducible refine a_scope ?_)))
  exact ret_data [] (by simp only [Try.results98, go_sem]; exact rfl) (by simp only [go_sem, Nat.reduceEqDiff, Nat.reduceAdd, Nat.reduceSub, Nat.reduceLeDiff, Nat.reduceMul, Nat.reduceBEq, Nat.reduceLT, Int.reduceToNat, reduceCtorEq, h0]) rfl
def evAhead (ahead : List V) (e : Ev) : Ev := (ahead ++ e.1, e.2)
/-- The values of events, as cells no one else reaches. -/
def evsO (ahead : List V) (l : List Ev) : List (List C) := ((l.map (evAhead ahead)).map fun e => (evV e).enc).map oslCs
theorem evsO_length (ahead : List V) (l : List Ev) : (evsO ahead l).length = l.length := by simp [evsO]
theorem evsO_closed (ahead : List V) (l : List Ev) : closedLL (evsO ahead l) = true := closed_osl _
theorem evsO_all (ahead : List V) (l : List Ev) : ((evsO ahead l).all fun r => r.length == 1) = true := all_osl _
attribute [go_sem] evsO_length evsO_closed evsO_all
end Go.Proofs.Ytijadbifkehccaa
