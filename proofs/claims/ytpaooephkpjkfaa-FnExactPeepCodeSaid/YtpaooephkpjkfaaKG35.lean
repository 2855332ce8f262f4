/- impl's functions of one instruction: hasPlace, hasReg, hasVal, hasArg, argOk, inFault, effect, behind, by the engine. -/
import Derived.Test.YtpaooephkpjkfaaKM2uG06
import Derived.Test.YtpaooephkpjkfaaKM13
set_option linter.unusedSimpArgs false
set_option linter.unusedVariables false
set_option linter.unnecessarySimpa false
namespace Go.Proofs.Ytpaooephkpjkfaa
open Go.RowKit
set_option maxRecDepth 10000
def InD.cs (d : InD) : List C := [.int .i64 d.op, .int .i64 d.arg, .sl (d.val.map CellD.cs)]
def InD.av (d : InD) : AV := .agg [.c (.int .i64 d.op), .c (.int .i64 d.arg), .c (.sl (d.val.map CellD.cs))]
abbrev insA (l : List InD) : AV := .c (.sl (l.map InD.cs))
attribute [go_sem] InD.av
theorem hasPlace_ac (d : InD) : AC Try.prog 23 [d.av] [] (.c (.bool (inPlace d.op))) [] := by
  have hw := within_ac d.op 10 14
  refine wEnter Try.func23 Try.ntmps23 ?_
  refine wRUN trivial ?_
  refine w7 (op_data [] hw) trivial ?_
  refine wRUN trivial ?_
  exact ret_data [] (by simp only [Try.results23, go_sem, Nat.reduceBEq, Nat.reduceLT]; exact rfl) (by simp only [go_sem, Nat.reduceEqDiff, Nat.reduceAdd, Nat.reduceSub, Nat.reduceLeDiff, Nat.reduceMul, Nat.reduceBEq, Nat.reduceLT, Int.reduceToNat, reduceCtorEq, inPlace]) rfl
theorem hasReg_ac (d : InD) : AC Try.prog 60 [d.av] [] (.c (.bool (inReg d.op))) [] := by
  have hw := within_ac d.op 16 18
  refine wEnter Try.func60 Try.ntmps60 ?_
  refine wRUN trivial ?_
  refine w7 (op_data [] hw) trivial ?_
  refine wRUN trivial ?_
  exact ret_data [] (by simp only [Try.results60, go_sem, Nat.reduceBEq, Nat.reduceLT]; exact rfl) (by simp only [go_sem, Nat.reduceEqDiff, Nat.reduceAdd, Nat.reduceSub, Nat.reduceLeDiff, Nat.reduceMul, Nat.reduceBEq, Nat.reduceLT, Int.reduceToNat, reduceCtorEq, inReg]) rfl
theorem hasVal_ac (d : InD) : AC Try.prog 48 [d.av] [] (.c (.bool (inVal d.op))) [] := by
  unfold inVal
  cases h1 : (d.op == 3) <;> cases h2 : (d.op == 9)
  all_goals
    refine wEnter Try.func48 Try.ntmps48 ?_
    refine wRUN (j2 h1 h2) ?_
    exact wRet (ret_data []) Try.results48
theorem hasArg_ac (d : InD) : AC Try.prog 47 [d.av] [] (.c (.bool (inArg d.op))) [] := by
  have hp := hasPlace_ac d
  have hr := hasReg_ac d
  unfold inArg
  cases h1 : inPlace d.op with
  | true =>
    rw [h1] at hp
    refine wEnter Try.func47 Try.ntmps47 ?_
    refine wRUN trivial ?_
    refine w7 (op_data [] hp) trivial ?_
    refine wRUN trivial ?_
    exact wRet (ret_data []) Try.results47
  | false =>
    rw [h1] at hp
    cases h2 : inReg d.op <;> cases h3 : (d.op == 5) <;> cases h4 : (d.op == 8)
    all_goals
      rw [h2] at hr
      refine wEnter Try.func47 Try.ntmps47 ?_
      refine wRUN trivial ?_
      refine w7 (op_data [] hp) trivial ?_
      refine wRUN trivial ?_
      refine w7 (op_data [] hr) trivial ?_
      refine wRUN (j2 h3 h4) ?_
      exact wRet (ret_data []) Try.results47
theorem argOk_ac (d : InD) (i n regs : Int) (hi : 0 ≤ i ∧ i ≤ 6000) (hn : 0 ≤ n ∧ n ≤ 6000) (hr : 0 ≤ regs ∧ regs ≤ 1000) : AC Try.prog 50 [d.av, .c (.int .i64 i), .c (.int .i64 n), .c (.int .i64 regs)] [] (.c (.bool (argOk d i n regs))) [] := by
  have w1 : IntKind.i64.wrap (i + 1) = i + 1 := IntWalk.i64_in _ (by omega)
  have w2 : IntKind.i64.wrap (n - 1) = n - 1 := IntWalk.i64_in _ (by omega)
  have w3 : IntKind.i64.wrap (regs - 1) = regs - 1 := IntWalk.i64_in _ (by omega)
  have hp := hasPlace_ac d
  have hg := hasReg_ac d
  unfold argOk
  by_cases h5 : d.op = 5
  · rw [if_pos h5]
    have hb : (d.op == 5) = true := by simpa using h5
    have hw := within_ac d.arg 1 11
    refine wEnter Try.func50 Try.ntmps50 ?_
    refine wRUN hb ?_
    refine w7 (op_data [] hw) trivial ?_
    refine wRUN trivial ?_
    exact ret_data [] (by simp only [Try.results50, go_sem, Nat.reduceBEq, Nat.reduceLT]; exact rfl) (by simp only [go_sem, Nat.reduceEqDiff, Nat.reduceAdd, Nat.reduceSub, Nat.reduceLeDiff, Nat.reduceMul, Nat.reduceBEq, Nat.reduceLT, Int.reduceToNat, reduceCtorEq, between]) rfl
  rw [if_neg h5]
  have hb5 : (d.op == 5) = false := by simpa using h5
  by_cases h8 : d.op = 8
  · rw [if_pos h8]
    have hb : (d.op == 8) = true := by simpa using h8
    have hw := within_ac d.arg 1 8
    refine wEnter Try.func50 Try.ntmps50 ?_
    refine wRUN (j2 hb5 hb) ?_
    refine w7 (op_data [] hw) trivial ?_
    refine wRUN trivial ?_
    exact ret_data [] (by simp only [Try.results50, go_sem, Nat.reduceBEq, Nat.reduceLT]; exact rfl) (by simp only [go_sem, Nat.reduceEqDiff, Nat.reduceAdd, Nat.reduceSub, Nat.reduceLeDiff, Nat.reduceMul, Nat.reduceBEq, Nat.reduceLT, Int.reduceToNat, reduceCtorEq, between]) rfl
  rw [if_neg h8]
  have hb8 : (d.op == 8) = false := by simpa using h8
  cases h1 : inPlace d.op with
  | true =>
    rw [h1] at hp
    have hw := within_ac d.arg (i + 1) (n - 1)
    rw [if_pos rfl]
    refine wEnter Try.func50 Try.ntmps50 ?_
    refine wRUN (j2 hb5 hb8) ?_
    refine w7 (op_data [] hp) trivial ?_
    refine wRUN (j2 w1 w2) ?_
    refine w7 (op_data [] hw) trivial ?_
    refine wRUN trivial ?_
    exact ret_data [] (by simp only [Try.results50, go_sem, Nat.reduceBEq, Nat.reduceLT]; exact rfl) (by simp only [go_sem, Nat.reduceEqDiff, Nat.reduceAdd, Nat.reduceSub, Nat.reduceLeDiff, Nat.reduceMul, Nat.reduceBEq, Nat.reduceLT, Int.reduceToNat, reduceCtorEq, between]) rfl
  | false =>
    rw [h1] at hp
    rw [if_neg (by simp)]
    cases h2 : inReg d.op with
    | true =>
      rw [h2] at hg
      have hw := within_ac d.arg 0 (regs - 1)
      rw [if_pos rfl]
      refine wEnter Try.func50 Try.ntmps50 ?_
      refine wRUN (j2 hb5 hb8) ?_
      refine w7 (op_data [] hp) trivial ?_
      refine wRUN trivial ?_
      refine w7 (op_data [] hg) trivial ?_
      refine wRUN w3 ?_
      refine w7 (op_data [] hw) trivial ?_
      refine wRUN trivial ?_
      exact ret_data [] (by simp only [Try.results50, go_sem, Nat.reduceBEq, Nat.reduceLT]; exact rfl) (by simp only [go_sem, Nat.reduceEqDiff, Nat.reduceAdd, Nat.reduceSub, Nat.reduceLeDiff, Nat.reduceMul, Nat.reduceBEq, Nat.reduceLT, Int.reduceToNat, reduceCtorEq, between]) rfl
    | false =>
      rw [h2] at hg
      rw [if_neg (by simp)]
      refine wEnter Try.func50 Try.ntmps50 ?_
      refine wRUN (j2 hb5 hb8) ?_
      refine w7 (op_data [] hp) trivial ?_
      refine wRUN trivial ?_
      refine w7 (op_data [] hg) trivial ?_
      refine wRUN trivial ?_
      exact wRet (ret_data []) Try.results50
end Go.Proofs.Ytpaooephkpjkfaa
