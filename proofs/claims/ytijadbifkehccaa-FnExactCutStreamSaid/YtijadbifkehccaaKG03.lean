/- slices.Clone of trees, (impl.val).paths, by the engine. -/
import Derived.Test.YtijadbifkehccaaKG02
set_option linter.unusedSimpArgs false
set_option linter.unusedVariables false
set_option linter.unnecessarySimpa false
namespace Go.Proofs.Ytijadbifkehccaa
open Go.RowKit
/-- A value with its path, as cells. -/
def placedCs (p : List V × V) : List C := [.sl (p.1.map V.cs), .int .i64 p.2.kind, .int .i64 p.2.num, .str p.2.text, .sl (p.2.keys.map strCs), .sl (p.2.kids.map V.cs)]
theorem all_placed (l : List (List V × V)) : ((l.map placedCs).all fun r => r.length == 6) = true := by simp [placedCs]
theorem fl_placed (p : List V × V) : forgetL (placedCs p) = placedCs p := rfl
theorem forget_placed (l : List (List V × V)) : forgetLL (l.map placedCs) = l.map placedCs := forget_map _ fl_placed l
attribute [go_sem] all_placed forget_placed

set_option maxRecDepth 10000
set_option maxHeartbeats 1000000 in
theorem clone_ac (l : List V) (h0 : l ≠ []) (hl : l.length ≤ 1000000) : AC Try.prog 74 [valsA l] [] (.own (0, 0)) [((0, 0), .row false 5 81 (l.map V.cs))] := by
  have he : (l.map V.cs).isEmpty = false := by cases l <;> simp at h0 ⊢
  have hn : 0 + l.length ≤ 1000000 := by omega
  refine AC.intro follows_mixed Try.func74 rfl ?_; simp only [Try.ntmps74, go_sem, List.replicate, Nat.reduceAdd, Nat.reduceSub]
  (repeat (first | (with_reducible refine a_seq ?_) | (with_reducible refine a_region ?_) | ((with_reducible apply op_any); (iterate 2 (focus (first | (simp only [go_sem, Nat.reduceEqDiff, Nat.reduceAdd, Nat.reduceSub, Nat.reduceLeDiff, Nat.reduceMul, Nat.reduceBEq, Nat.reduceLT, Int.reduceToNat, reduceCtorEq, he, hn]; first | done | exact rfl | (and_intros <;> rfl)) | exact rfl | decide)))) | ((with_reducible refine o_nil ?_); dsimp only; try ((with_reducible apply o_draw); (focus (simp only [go_sem, Nat.reduceEqDiff, Nat.reduceAdd, Nat.reduceSub, Nat.reduceLeDiff, Nat.reduceMul, Nat.reduceBEq, Nat.reduceLT, Int.reduceToNat, reduceCtorEq, he, hn]; exact rfl)); (focus decide))) | ((with_reducible refine a_ret ?_); dsimp only) | (with_reducible refine a_block ?_) | ((with_reducible refine a_exit ?_); dsimp only; simp only [if_true, if_false, Nat.reduceEqDiff]) | ((with_reducible apply a_if); (focus (first | (simp only [go_sem, Nat.reduceEqDiff, Nat.reduceAdd, Nat.reduceSub, Nat.reduceLeDiff, Nat.reduceMul, Nat.reduceBEq, Nat.reduceLT, Int.reduceToNat, reduceCtorEq, he, hn]; first | done | exact rfl | (and_intros <;> rfl)) | exact rfl | decide)); dsimp only [cond_true, cond_false]) | ((with_reducible refine a_draw ?_ ?_); (focus exact rfl)) | ((with_reducible refine a_skip ?_); dsimp only) | ((with_reducible refine a_label ?_); dsimp only) | (with_reducible refine a_scope ?_)))
  (apply (ret_of [((0, 0), (7, 0))] []); (focus (simp only [Try.results74, go_sem, he]; exact rfl)); (focus (simp only [go_sem, Nat.reduceEqDiff, Nat.reduceAdd, Nat.reduceSub, Nat.reduceLeDiff, Nat.reduceMul, Nat.reduceBEq, Nat.reduceLT, Int.reduceToNat, reduceCtorEq, he]; try (and_intros <;> rfl))); (focus exact rfl); (focus (simp only [go_sem, Nat.reduceEqDiff, Nat.reduceAdd, Nat.reduceSub, Nat.reduceLeDiff, Nat.reduceMul, Nat.reduceBEq, Nat.reduceLT, Int.reduceToNat, reduceCtorEq, he]; try (and_intros <;> rfl))); (focus exact rfl); (iterate 4 (focus (simp [go_sem, he]; done))))
end Go.Proofs.Ytijadbifkehccaa
