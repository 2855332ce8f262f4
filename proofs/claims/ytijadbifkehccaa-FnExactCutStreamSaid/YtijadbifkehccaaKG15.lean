/- slices.IndexFunc, slices.DeleteFunc at values with their paths; (impl.val).leaves, by the engine. -/
import Derived.Test.YtijadbifkehccaaKG05
import Derived.Test.YtijadbifkehccaaKE5
set_option linter.unusedSimpArgs false
set_option linter.unusedVariables false
set_option linter.unnecessarySimpa false
namespace Go.Proofs.Ytijadbifkehccaa
open Go.RowKit
set_option maxRecDepth 10000
theorem isLeaf_ac (t : V) : AC Try.prog 95 [t.av] [] (.c (.bool t.kids.isEmpty)) [] := by
  have h0 : (((t.kids.length : Int)) == 0) = t.kids.isEmpty := by cases t.kids <;> simp; omega
  refine AC.intro follows_mixed Try.func95 rfl ?_; simp only [Try.ntmps95, go_sem, List.replicate, Nat.reduceAdd, Nat.reduceSub]
  (repeat (first | (with_reducible refine a_seq ?_) | (with_reducible refine a_region ?_) | ((with_reducible apply op_any); (iterate 2 (focus (first | (simp only [go_sem, Nat.reduceEqDiff, Nat.reduceAdd, Nat.reduceSub, Nat.reduceLeDiff, Nat.reduceMul, Nat.reduceBEq, Nat.reduceLT, Int.reduceToNat, reduceCtorEq]; first | done | exact rfl | (and_intros <;> rfl)) | exact rfl | decide)))) | ((with_reducible refine o_nil ?_); dsimp only; try ((with_reducible apply o_draw); (focus (simp only [go_sem, Nat.reduceEqDiff, Nat.reduceAdd, Nat.reduceSub, Nat.reduceLeDiff, Nat.reduceMul, Nat.reduceBEq, Nat.reduceLT, Int.reduceToNat, reduceCtorEq]; exact rfl)); (focus decide))) | ((with_reducible refine a_ret ?_); dsimp only) | (with_reducible refine a_block ?_) | ((with_reducible refine a_exit ?_); dsimp only; simp only [if_true, if_false, Nat.reduceEqDiff]) | ((with_reducible apply a_if); (focus (first | (simp only [go_sem, Nat.reduceEqDiff, Nat.reduceAdd, Nat.reduceSub, Nat.reduceLeDiff, Nat.reduceMul, Nat.reduceBEq, Nat.reduceLT, Int.reduceToNat, reduceCtorEq]; first | done | exact rfl | (and_intros <;> rfl)) | exact rfl | decide)); dsimp only [cond_true, cond_false]) | ((with_reducible refine a_draw ?_ ?_); (focus exact rfl)) | ((with_reducible refine a_skip ?_); dsimp only) | ((with_reducible refine a_label ?_); dsimp only) | (with_reducible refine a_scope ?_)))
  exact ret_data [] (by simp only [Try.results95, go_sem]; exact rfl) (by simp only [go_sem, Nat.reduceEqDiff, Nat.reduceAdd, Nat.reduceSub, Nat.reduceLeDiff, Nat.reduceMul, Nat.reduceBEq, Nat.reduceLT, Int.reduceToNat, reduceCtorEq, h0]) rfl
end Go.Proofs.Ytijadbifkehccaa
