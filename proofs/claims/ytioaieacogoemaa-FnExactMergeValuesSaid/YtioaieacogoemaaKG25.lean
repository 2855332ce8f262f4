/- The specification's reading of parts of values, by the engine: l3Null, l3Bad, l3Get, l3Index, l3At, l13Get. -/
import Derived.Test.YtioaieacogoemaaKG08
import Derived.Test.YtioaieacogoemaaKG14
import Derived.Test.YtioaieacogoemaaKE5
import Derived.Test.YtioaieacogoemaaKM2
import Derived.Test.YtioaieacogoemaaKG22
set_option linter.unusedSimpArgs false
set_option linter.unusedVariables false
set_option linter.unnecessarySimpa false
namespace Go.Proofs.Ytioaieacogoemaa
open Go.RowKit
set_option maxRecDepth 10000
theorem l3Bad_ac (c : Int) : AC Try.prog 50 [.c (.int .i64 c)] [] (.agg [.c (.int .i64 c), .nils]) [] := by
  refine AC.intro_sp follows_mixed Try.func50 rfl Try.ntmps50 (Nat.le_of_ble_eq_true rfl) ?_; simp only [go_sem, Nat.reduceAdd]
  (repeat (first | (with_reducible first | refine a_seq ?_ | refine a_region ?_ | refine a_block ?_ | refine a_scope ?_) | ((with_reducible apply op_any); (iterate 2 (focus (first | (simp only [go_sem, Nat.reduceEqDiff, Nat.reduceAdd, Nat.reduceSub, Nat.reduceLeDiff, Nat.reduceMul, Nat.reduceBEq, Nat.reduceLT, Int.reduceToNat, reduceCtorEq]; first | done | exact rfl | (and_intros <;> rfl)) | exact rfl | decide)))) | ((with_reducible refine o_nil ?_); dsimp only; try ((with_reducible apply o_draw); (focus (simp only [go_sem]; exact rfl)); (focus decide))) | ((with_reducible first | refine a_ret ?_ | refine a_skip ?_ | refine a_label ?_); dsimp only) | ((with_reducible refine a_exit ?_); dsimp only; simp only [if_true, if_false, Nat.reduceEqDiff]) | ((with_reducible apply a_if); (focus (simp only [go_sem, Nat.reduceBEq, Nat.reduceLT]; exact rfl)); dsimp only [cond_true, cond_false]) | ((with_reducible refine a_draw ?_ ?_); (focus exact rfl))))
  exact ret_data [] (by simp only [Try.results50, go_sem, Nat.reduceBEq, Nat.reduceLT]; exact rfl) (by simp only [go_sem, Nat.reduceEqDiff, Nat.reduceAdd, Nat.reduceSub, Nat.reduceLeDiff, Nat.reduceMul, Nat.reduceBEq, Nat.reduceLT, Int.reduceToNat, reduceCtorEq]) rfl
theorem enc_null : nullV.enc.map CellD.cs = [[.int .i64 0, .int .i64 0, .str ByteArray.empty, .str ByteArray.empty, .int .i64 0]] := rfl
theorem l3Null_ac : AC Try.prog 103 [] [] (.own (0, 0)) [((0, 0), .row false 5 66 (nullV.enc.map CellD.cs))] := by
  rw [enc_null]
  refine AC.intro_sp follows_mixed Try.func103 rfl Try.ntmps103 (Nat.le_of_ble_eq_true rfl) ?_; simp only [go_sem, Nat.reduceAdd]
  (repeat (first | (with_reducible first | refine a_seq ?_ | refine a_region ?_ | refine a_block ?_ | refine a_scope ?_) | ((with_reducible apply op_any); (iterate 2 (focus (first | (simp only [go_sem, Nat.reduceEqDiff, Nat.reduceAdd, Nat.reduceSub, Nat.reduceLeDiff, Nat.reduceMul, Nat.reduceBEq, Nat.reduceLT, Int.reduceToNat, reduceCtorEq]; first | done | exact rfl | (and_intros <;> rfl)) | exact rfl | decide)))) | ((with_reducible refine o_nil ?_); dsimp only; try ((with_reducible apply o_draw); (focus (simp only [go_sem]; exact rfl)); (focus decide))) | ((with_reducible first | refine a_ret ?_ | refine a_skip ?_ | refine a_label ?_); dsimp only) | ((with_reducible refine a_exit ?_); dsimp only; simp only [if_true, if_false, Nat.reduceEqDiff]) | ((with_reducible apply a_if); (focus (simp only [go_sem, Nat.reduceBEq, Nat.reduceLT]; exact rfl)); dsimp only [cond_true, cond_false]) | ((with_reducible refine a_draw ?_ ?_); (focus exact rfl))))
  (apply (ret_of [((0, 0), (2, 0))] []); (focus (simp only [Try.results103, go_sem, Nat.reduceBEq, Nat.reduceLT, enc_null]; exact rfl)); (focus (simp only [go_sem, Nat.reduceEqDiff, Nat.reduceAdd, Nat.reduceSub, Nat.reduceLeDiff, Nat.reduceMul, Nat.reduceBEq, Nat.reduceLT, Int.reduceToNat, reduceCtorEq, enc_null]; try (and_intros <;> rfl))); (focus exact rfl); (focus (simp only [go_sem, Nat.reduceEqDiff, Nat.reduceAdd, Nat.reduceSub, Nat.reduceLeDiff, Nat.reduceMul, Nat.reduceBEq, Nat.reduceLT, Int.reduceToNat, reduceCtorEq, enc_null]; try (and_intros <;> rfl))); (focus exact rfl); (iterate 4 (focus (simp [go_sem, enc_null]; done))))
/-- A result of a reading. -/
def vrA (r : Int × Option V) : AV := match r.2 with
  | some t => .agg [.c (.int .i64 0), .c (.sl (t.enc.map CellD.cs))]
  | none => .agg [.c (.int .i64 r.1), .c (.sl [])]
theorem vrA_some (c : Int) (t : V) : vrA (c, some t) = .agg [.c (.int .i64 0), .c (.sl (t.enc.map CellD.cs))] := rfl
theorem vrA_none (c : Int) : vrA (c, none) = .agg [.c (.int .i64 c), .c (.sl [])] := rfl
end Go.Proofs.Ytioaieacogoemaa
