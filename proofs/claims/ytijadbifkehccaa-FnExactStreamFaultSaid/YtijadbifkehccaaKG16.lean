/- The laws' own functions on PathsResult without paths; a lemma on measures: eq, mark, held. -/
import Derived.Test.YtijadbifkehccaaKG14
set_option linter.unusedSimpArgs false
set_option linter.unusedVariables false
set_option linter.unnecessarySimpa false
namespace Go.Proofs.Ytijadbifkehccaa
open Go.RowKit
set_option maxRecDepth 10000
theorem szR_le (xs : List CellD) (left : Int) (h : 0 ≤ left) : szR xs left ≤ left := by
  unfold szR
  split
  · omega
  · have : (0 : Int) ≤ (xs.length : Int) := by omega
    have : (0 : Int) ≤ (bulk xs : Int) := by omega
    omega
theorem markCellS_nil (K : Nat) : AC Try.prog 15 [.nils, .c (.int .i64 K)] [] (.c (.int .i64 K)) [] := by
  have hd : decide ((0 : Int) < 0) = false := rfl
  refine AC.intro follows_mixed Try.func15 rfl ?_; simp only [Try.ntmps15, go_sem, List.replicate, Nat.reduceAdd, Nat.reduceSub]
  (repeat (first | (with_reducible refine a_seq ?_) | (with_reducible refine a_region ?_) | ((with_reducible apply op_any); (iterate 2 (focus (first | (simp only [go_sem, Nat.reduceEqDiff, Nat.reduceAdd, Nat.reduceSub, Nat.reduceLeDiff, Nat.reduceMul, Nat.reduceBEq, Nat.reduceLT, Int.reduceToNat, reduceCtorEq]; first | done | exact rfl | (and_intros <;> rfl)) | exact rfl | decide)))) | ((with_reducible refine o_nil ?_); dsimp only; try ((with_reducible apply o_draw); (focus (simp only [go_sem, Nat.reduceEqDiff, Nat.reduceAdd, Nat.reduceSub, Nat.reduceLeDiff, Nat.reduceMul, Nat.reduceBEq, Nat.reduceLT, Int.reduceToNat, reduceCtorEq]; exact rfl)); (focus decide))) | ((with_reducible refine a_ret ?_); dsimp only) | (with_reducible refine a_block ?_) | ((with_reducible refine a_exit ?_); dsimp only; simp only [if_true, if_false, Nat.reduceEqDiff]) | ((with_reducible apply a_if); (focus (first | (simp only [go_sem, Nat.reduceEqDiff, Nat.reduceAdd, Nat.reduceSub, Nat.reduceLeDiff, Nat.reduceMul, Nat.reduceBEq, Nat.reduceLT, Int.reduceToNat, reduceCtorEq]; first | done | exact rfl | (and_intros <;> rfl)) | exact rfl | decide)); dsimp only [cond_true, cond_false]) | ((with_reducible refine a_draw ?_ ?_); (focus exact rfl)) | ((with_reducible refine a_skip ?_); dsimp only) | ((with_reducible refine a_label ?_); dsimp only) | (with_reducible refine a_scope ?_)))
  refine a_loop (κ := Nat) (fun k => ⟨mkS 0 50 [(0, .nils), (1, .c (.int .i64 K)), (5, .c (.int .i64 0))], []⟩)
    (fun _ => True) (fun k => k) 0 trivial ?_ ?_
  · (apply (Says.of [] []); (iterate 2 ((focus (simp only [go_sem, Nat.reduceEqDiff, Nat.reduceAdd, Nat.reduceSub, Nat.reduceLeDiff, Nat.reduceMul, Nat.reduceBEq, Nat.reduceLT, Int.reduceToNat, reduceCtorEq, hd]; try (and_intros <;> rfl))); (focus exact rfl))); (iterate 4 (focus (simp [go_sem, hd]; done))))
  · intro k hk
    (repeat (first | (with_reducible refine a_seq ?_) | (with_reducible refine a_region ?_) | ((with_reducible apply op_any); (iterate 2 (focus (first | (simp only [go_sem, Nat.reduceEqDiff, Nat.reduceAdd, Nat.reduceSub, Nat.reduceLeDiff, Nat.reduceMul, Nat.reduceBEq, Nat.reduceLT, Int.reduceToNat, reduceCtorEq, hd]; first | done | exact rfl | (and_intros <;> rfl)) | exact rfl | decide)))) | ((with_reducible refine o_nil ?_); dsimp only; try ((with_reducible apply o_draw); (focus (simp only [go_sem, Nat.reduceEqDiff, Nat.reduceAdd, Nat.reduceSub, Nat.reduceLeDiff, Nat.reduceMul, Nat.reduceBEq, Nat.reduceLT, Int.reduceToNat, reduceCtorEq, hd]; exact rfl)); (focus decide))) | ((with_reducible refine a_ret ?_); dsimp only) | (with_reducible refine a_block ?_) | ((with_reducible refine a_exit ?_); dsimp only; simp only [if_true, if_false, Nat.reduceEqDiff]) | ((with_reducible apply a_if); (focus (first | (simp only [go_sem, Nat.reduceEqDiff, Nat.reduceAdd, Nat.reduceSub, Nat.reduceLeDiff, Nat.reduceMul, Nat.reduceBEq, Nat.reduceLT, Int.reduceToNat, reduceCtorEq, hd]; first | done | exact rfl | (and_intros <;> rfl)) | exact rfl | decide)); dsimp only [cond_true, cond_false]) | ((with_reducible refine a_draw ?_ ?_); (focus exact rfl)) | ((with_reducible refine a_skip ?_); dsimp only) | ((with_reducible refine a_label ?_); dsimp only) | (with_reducible refine a_scope ?_)))
    exact ret_data [] (by simp only [Try.results15, go_sem]; exact rfl) (by simp only [go_sem, Nat.reduceEqDiff, Nat.reduceAdd, Nat.reduceSub, Nat.reduceLeDiff, Nat.reduceMul, Nat.reduceBEq, Nat.reduceLT, Int.reduceToNat, reduceCtorEq]) rfl
end Go.Proofs.Ytijadbifkehccaa
