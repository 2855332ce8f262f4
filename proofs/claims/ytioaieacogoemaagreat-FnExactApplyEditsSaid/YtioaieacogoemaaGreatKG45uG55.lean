/- Texts of this proof: G45 G55. -/
import Derived.Test.YtioaieacogoemaaGreatKG07uG08
import Derived.Test.YtioaieacogoemaaGreatKM2
import Derived.Test.YtioaieacogoemaaGreatKG9
import Derived.Test.YtioaieacogoemaaGreatKM3
import Derived.Test.YtioaieacogoemaaGreatKG25
set_option linter.unusedSimpArgs false
set_option linter.unusedVariables false
set_option linter.unnecessarySimpa false
namespace Go.Proofs.YtioaieacogoemaaGreat
open Go.RowKit
set_option maxRecDepth 10000
/-- The first code of two values. -/
def bothCode (x y : List CellD) : Int := if (dec x).1 = 0 then (dec y).1 else (dec x).1
theorem l3Both_ac (x y : List CellD) : AC Tryz.prog 53 [cellsA x, cellsA y] [] (.c (.int .i64 (bothCode x y))) [] := by
  have h1 := fault_ac x
  have h2 := fault_ac y
  unfold bothCode
  by_cases h : (dec x).1 = 0
  · rw [if_pos h]
    rw [h] at h1
    have h00 : ((0 : Int) != 0) = false := rfl
    refine wEnter Tryz.func53 Tryz.ntmps53 ?_
    refine wRUN trivial ?_
    refine w7 (op_data [] h1) trivial ?_
    refine wRUN h00 ?_
    refine w7 (op_data [] h2) trivial ?_
    refine wRUN trivial ?_
    exact wRet (ret_data []) Tryz.results53
  · rw [if_neg h]
    have hb : ((dec x).1 != 0) = true := by simpa using h
    refine wEnter Tryz.func53 Tryz.ntmps53 ?_
    refine wRUN trivial ?_
    refine w7 (op_data [] h1) trivial ?_
    refine wRUN hb ?_
    exact wRet (ret_data []) Tryz.results53
end Go.Proofs.YtioaieacogoemaaGreat

/- spec.l1Told, l14Merge, MergeValues; impl.MergeValues, by the engine. -/
namespace Go.Proofs.YtioaieacogoemaaGreat
open Go.RowKit
set_option maxRecDepth 10000
theorem l1Told_ok (xs : List CellD) (h : (dec xs).1 = 0) : AC Tryz.prog 133 [cellsA xs] [] (.agg [.c (.int .i64 0), cellsA xs]) [] := by
  have hf := fault_ac xs
  rw [h] at hf
  have h00 : ((0 : Int) != 0) = false := rfl
  refine wEnter Tryz.func133 Tryz.ntmps133 ?_
  refine wRUN trivial ?_
  refine w7 (op_data [] hf) trivial ?_
  refine wRUN h00 ?_
  exact wRet (ret_data []) Tryz.results133
theorem l1Told_bad (xs : List CellD) (h : (dec xs).1 ≠ 0) : AC Tryz.prog 133 [cellsA xs] [] (.agg [.c (.int .i64 (dec xs).1), .c (.sl [])]) [] := by
  have hf := fault_ac xs
  have hb : ((dec xs).1 != 0) = true := by simpa using h
  refine wEnter Tryz.func133 Tryz.ntmps133 ?_
  refine wRUN trivial ?_
  refine w7 (op_data [] hf) trivial ?_
  refine wRUN hb ?_
  exact wRet (ret_data []) Tryz.results133
theorem l1Told_ac (t : V) : AC Tryz.prog 133 [cellsA t.enc] [] (vrA (giveR t)) [] := by
  unfold giveR
  split
  · rename_i h
    exact l1Told_ok t.enc h
  · rename_i h
    exact l1Told_bad t.enc h
theorem enc_rows (t : V) : rowsAt (t.enc.map CellD.cs) 5 0 = true := by unfold rowsAt; rw [show (0 : Int).toNat = 0 from rfl, enc_head]; rfl
theorem l3NullS_ac : AC Tryz.prog 64 [] [] (.c (.sl (nullV.enc.map CellD.cs))) [] := by
  have h := l3Null_ac
  (apply (AC.says [] [(0, 0)] h); (focus (simp only [go_sem, Nat.reduceEqDiff, Nat.reduceAdd, Nat.reduceSub, Nat.reduceLeDiff, Nat.reduceMul, Nat.reduceBEq, Nat.reduceLT, Int.reduceToNat, reduceCtorEq]; try (and_intros <;> rfl))); (focus exact rfl); (focus (simp only [go_sem, Nat.reduceEqDiff, Nat.reduceAdd, Nat.reduceSub, Nat.reduceLeDiff, Nat.reduceMul, Nat.reduceBEq, Nat.reduceLT, Int.reduceToNat, reduceCtorEq]; try (and_intros <;> rfl))); (focus exact rfl); (iterate 4 (focus (simp [go_sem]; done))))
end Go.Proofs.YtioaieacogoemaaGreat
