/- spec.l8Holds, l8Jumps, l8Args, l8One, l8Moves, by the engine. -/
import Derived.Test.YtfmnoljflcpbgaaGreatDoorKM13uG35
import Derived.Test.YtfmnoljflcpbgaaGreatDoorKM2uR12
set_option linter.unusedSimpArgs false
set_option linter.unusedVariables false
set_option linter.unnecessarySimpa false
namespace Go.Proofs.YtfmnoljflcpbgaaGreatDoor
open Go.RowKit
set_option maxRecDepth 10000
theorem inPlace_eq (op : Int) : inPlace op = (op == 10 || (op == 11 || (op == 12 || (op == 13 || op == 14)))) := by
  unfold inPlace
  by_cases h : 10 ≤ op ∧ op ≤ 14
  · have : op = 10 ∨ op = 11 ∨ op = 12 ∨ op = 13 ∨ op = 14 := by omega
    rcases this with rfl | rfl | rfl | rfl | rfl <;> rfl
  · have h1 : (decide (op ≥ 10) && decide (op ≤ 14)) = false := by simp; omega
    rw [h1]
    symm
    simp
    omega
theorem inReg_eq (op : Int) : inReg op = (op == 16 || (op == 17 || op == 18)) := by
  unfold inReg
  by_cases h : 16 ≤ op ∧ op ≤ 18
  · have : op = 16 ∨ op = 17 ∨ op = 18 := by omega
    rcases this with rfl | rfl | rfl <;> rfl
  · have h1 : (decide (op ≥ 16) && decide (op ≤ 18)) = false := by simp; omega
    rw [h1]
    symm
    simp
    omega
theorem l8Holds_ac (op : Int) : AC Tryz.prog 71 [.c (.int .i64 op)] [] (.c (.bool (inVal op))) [] := by
  unfold inVal
  cases h1 : (op == 3) <;> cases h2 : (op == 9)
  all_goals
    refine wEnter Tryz.func71 Tryz.ntmps71 ?_
    refine wRUN (j2 h1 h2) ?_
    exact wRet (ret_data []) Tryz.results71
theorem l8Jumps_ac (op : Int) : AC Tryz.prog 124 [.c (.int .i64 op)] [] (.c (.bool (inPlace op))) [] := by
  rw [inPlace_eq]
  cases h1 : (op == 10) <;> cases h2 : (op == 11) <;> cases h3 : (op == 12) <;> cases h4 : (op == 13) <;> cases h5 : (op == 14)
  all_goals
    refine wEnter Tryz.func124 Tryz.ntmps124 ?_
    refine wRUN (j5 h1 h2 h3 h4 h5) ?_
    exact wRet (ret_data []) Tryz.results124
/-- The bounds of an instruction's Arg. -/
def boundsOf (d : InD) (i n regs : Int) : Int × Int :=
  if d.op = 5 then (1, 11) else if d.op = 8 then (1, 8) else if inReg d.op then (0, regs - 1) else if inPlace d.op then (i + 1, n - 1) else (0, 0)
theorem argOk_eq (d : InD) (i n regs : Int) : argOk d i n regs = (!inArg d.op || between d.arg (boundsOf d i n regs).1 (boundsOf d i n regs).2) := by
  unfold argOk boundsOf inArg
  by_cases h5 : d.op = 5
  · simp [h5]
  · by_cases h8 : d.op = 8
    · simp [h8]
    · have h5' : (d.op == 5) = false := by simpa using h5
      have h8' : (d.op == 8) = false := by simpa using h8
      cases hp : inPlace d.op <;> cases hr : inReg d.op
      · simp [h5, h8]
      · simp [h5, h8]
      · simp [h5, h8]
      · exfalso
        unfold inPlace at hp
        unfold inReg at hr
        simp at hp hr
        omega
set_option maxHeartbeats 4000000 in
theorem l8Args_ac (l : List InD) (k : Nat) (hk : k < l.length) (regs : Int) (hn : l.length ≤ 6000) (hr : 0 ≤ regs ∧ regs ≤ 1000) : AC Tryz.prog 72 [insA l, .c (.int .i64 k), .c (.int .i64 regs)] [] (.tup [.c (.int .i64 (boundsOf l[k] k l.length regs).1), .c (.int .i64 (boundsOf l[k] k l.length regs).2), .c (.bool (inArg l[k].op))]) [] := by
  have w1 : IntKind.i64.wrap ((k : Int) + 1) = (k : Int) + 1 := IntWalk.i64_in _ (by omega)
  have w2 : IntKind.i64.wrap ((l.length : Int) - 1) = (l.length : Int) - 1 := IntWalk.i64_in _ (by omega)
  have w3 : IntKind.i64.wrap (regs - 1) = regs - 1 := IntWalk.i64_in _ (by omega)
  have hrw : rowsAt (l.map InD.cs) 3 k = true := by simp [rowsAt, hk, InD.cs]
  have hg : (l.map InD.cs)[k]? = some [.int .i64 l[k].op, .int .i64 l[k].arg, .sl (l[k].val.map CellD.cs)] := by simp [hk, InD.cs]
  have hj := l8Jumps_ac l[k].op
  generalize l[k] = d at *
  unfold boundsOf inArg
  by_cases h5 : d.op = 5
  · have hb : (d.op == 5) = true := by simpa using h5
    simp only [if_pos h5, hb, Bool.or_true, Bool.true_or]
    refine wEnter Tryz.func72 Tryz.ntmps72 ?_
    refine wRUN (j3 hrw hg hb) ?_
    exact wRet (ret_data []) Tryz.results72
  have hb5 : (d.op == 5) = false := by simpa using h5
  by_cases h8 : d.op = 8
  · have hb : (d.op == 8) = true := by simpa using h8
    simp only [if_neg h5, if_pos h8, hb, Bool.or_true]
    refine wEnter Tryz.func72 Tryz.ntmps72 ?_
    refine wRUN (j4 hrw hg hb5 hb) ?_
    exact wRet (ret_data []) Tryz.results72
  have hb8 : (d.op == 8) = false := by simpa using h8
  simp only [if_neg h5, if_neg h8, hb5, hb8, Bool.or_false]
  cases hg2 : inReg d.op with
  | true =>
    have hq := hg2
    rw [inReg_eq] at hq
    simp only [if_true, Bool.or_true]
    cases h1 : (d.op == 16) <;> cases h2 : (d.op == 17) <;> cases h3 : (d.op == 18) <;> rw [h1, h2, h3] at hq
    all_goals try (cases hq; done)
    all_goals
      refine wEnter Tryz.func72 Tryz.ntmps72 ?_
      refine wRUN (j8 hrw hg hb5 hb8 h1 h2 h3 w3) ?_
      exact wRet (ret_data []) Tryz.results72
  | false =>
    have hq := hg2
    rw [inReg_eq] at hq
    have h1 : (d.op == 16) = false := by cases h : (d.op == 16) <;> simp_all
    have h2 : (d.op == 17) = false := by cases h : (d.op == 17) <;> simp_all
    have h3 : (d.op == 18) = false := by cases h : (d.op == 18) <;> simp_all
    simp only [Bool.false_eq_true, if_false, Bool.or_false]
    cases hp : inPlace d.op
    all_goals
      rw [hp] at hj
      simp only [Bool.false_eq_true, if_false, if_true]
      refine wEnter Tryz.func72 Tryz.ntmps72 ?_
      refine wRUN (j7 hrw hg hb5 hb8 h1 h2 h3) ?_
      refine w7 (op_data [] hj) trivial ?_
      (repeat (first | (with_reducible first | refine a_seq ?_ | refine a_region ?_ | refine a_block ?_ | refine a_scope ?_) | ((with_reducible apply op_any); (iterate 2 (focus (first | (simp only [go_sem, Nat.reduceEqDiff, Nat.reduceAdd, Nat.reduceSub, Nat.reduceLeDiff, Nat.reduceMul, Nat.reduceBEq, Nat.reduceLT, Int.reduceToNat, reduceCtorEq, w1, w2, List.length_map]; first | done | exact rfl | (and_intros <;> rfl)) | exact rfl | decide)))) | ((with_reducible refine o_nil ?_); dsimp only; try ((with_reducible apply o_draw); (focus (simp only [go_sem]; exact rfl)); (focus decide))) | ((with_reducible first | refine a_ret ?_ | refine a_skip ?_ | refine a_label ?_); dsimp only) | ((with_reducible refine a_exit ?_); dsimp only; simp only [if_true, if_false, Nat.reduceEqDiff]) | ((with_reducible apply a_if); (focus (simp only [go_sem, Nat.reduceBEq, Nat.reduceLT, w1, w2, List.length_map]; exact rfl)); dsimp only [cond_true, cond_false]) | ((with_reducible refine a_draw ?_ ?_); (focus exact rfl))))
      exact wRet (ret_data []) Tryz.results72
theorem l8Moves_ac (op : Int) (h1 : 1 ≤ op) (h2 : op ≤ 19) : AC Tryz.prog 163 [.c (.int .i64 op)] [] (.tup [.c (.int .i64 (takesOf op)), .c (.int .i64 (laysOf op))]) [] := by
  have : op = 1 ∨ op = 2 ∨ op = 3 ∨ op = 4 ∨ op = 5 ∨ op = 6 ∨ op = 7 ∨ op = 8 ∨ op = 9 ∨ op = 10 ∨ op = 11 ∨ op = 12 ∨ op = 13 ∨ op = 14 ∨ op = 15 ∨ op = 16 ∨ op = 17 ∨ op = 18 ∨ op = 19 := by omega
  rcases this with rfl | rfl | rfl | rfl | rfl | rfl | rfl | rfl | rfl | rfl | rfl | rfl | rfl | rfl | rfl | rfl | rfl | rfl | rfl
  all_goals
    refine wEnter Tryz.func163 Tryz.ntmps163 ?_
    (repeat (first | (with_reducible first | refine a_seq ?_ | refine a_region ?_ | refine a_block ?_ | refine a_scope ?_) | ((with_reducible apply op_any); (iterate 2 (focus (first | (simp only [go_sem, Nat.reduceEqDiff, Nat.reduceAdd, Nat.reduceSub, Nat.reduceLeDiff, Nat.reduceMul, Nat.reduceBEq, Nat.reduceLT, Int.reduceToNat, reduceCtorEq, Int.reduceBEq]; first | done | exact rfl | (and_intros <;> rfl)) | exact rfl | decide)))) | ((with_reducible refine o_nil ?_); dsimp only; try ((with_reducible apply o_draw); (focus (simp only [go_sem]; exact rfl)); (focus decide))) | ((with_reducible first | refine a_ret ?_ | refine a_skip ?_ | refine a_label ?_); dsimp only) | ((with_reducible refine a_exit ?_); dsimp only; simp only [if_true, if_false, Nat.reduceEqDiff]) | ((with_reducible apply a_if); (focus (simp only [go_sem, Nat.reduceBEq, Nat.reduceLT, Int.reduceBEq]; exact rfl)); dsimp only [cond_true, cond_false]) | ((with_reducible refine a_draw ?_ ?_); (focus exact rfl))))
    exact ret_data [] (by simp only [Tryz.results163, go_sem, Nat.reduceBEq, Nat.reduceLT]; exact rfl) (by simp only [go_sem, Nat.reduceEqDiff, Nat.reduceAdd, Nat.reduceSub, Nat.reduceLeDiff, Nat.reduceMul, Nat.reduceBEq, Nat.reduceLT, Int.reduceToNat, reduceCtorEq]; exact ⟨rfl, rfl⟩) rfl
set_option maxHeartbeats 8000000 in
theorem l8One_ac (l : List InD) (k : Nat) (hk : k < l.length) (regs : Int) (hn : l.length ≤ 6000) (hr : 0 ≤ regs ∧ regs ≤ 1000) : AC Tryz.prog 122 [insA l, .c (.int .i64 k), .c (.int .i64 regs)] [] (.c (.int .i64 (inCode l[k] k l.length regs))) [] := by
  have hrw : rowsAt (l.map InD.cs) 3 k = true := by simp [rowsAt, hk, InD.cs]
  have hg : (l.map InD.cs)[k]? = some [.int .i64 l[k].op, .int .i64 l[k].arg, .sl (l[k].val.map CellD.cs)] := by simp [hk, InD.cs]
  have ha := l8Args_ac l k hk regs hn hr
  have hV := l8Holds_ac l[k].op
  have hw := l1In_ac l[k].op 1 19
  have hf := fault_ac l[k].val
  have hao := argOk_eq l[k] k l.length regs
  have hwb := l1In_ac l[k].arg (boundsOf l[k] k l.length regs).1 (boundsOf l[k] k l.length regs).2
  have h00 : ((0 : Int) != 0) = false := rfl
  generalize hB : boundsOf l[k] k l.length regs = B at *
  unfold inCode
  rw [hao]
  have hdis : inVal l[k].op = true → inArg l[k].op = false := by
    intro hv
    have : l[k].op = 3 ∨ l[k].op = 9 := by unfold inVal at hv; simpa using hv
    rcases this with h | h <;> rw [h] <;> rfl
  by_cases h19 : between l[k].op 1 19 = false
  · rw [if_pos h19]
    unfold between at h19
    rw [h19] at hw
    generalize l[k] = d at *
    refine wEnter Tryz.func122 Tryz.ntmps122 ?_
    refine wRUN (j2 hrw hg) ?_
    refine w7 (op_data [] hw) trivial ?_
    refine wRUN trivial ?_
    exact wRet (ret_data []) Tryz.results122
  have h19' : between l[k].op 1 19 = true := by simpa using h19
  rw [if_neg h19]
  unfold between at h19'
  rw [h19'] at hw
  have hfe : inForm l[k] = ((!inArg l[k].op && l[k].arg != 0) || (!inVal l[k].op && decide ((l[k].val.length : Int) > 0))) := rfl
  by_cases hfo : inForm l[k] = true
  · rw [if_pos hfo]
    rw [hfo] at hfe
    generalize l[k] = d at *
    cases h1 : inArg d.op <;> cases h2 : (d.arg != 0) <;> cases h3 : inVal d.op <;> cases h4 : decide ((d.val.length : Int) > 0) <;> rw [h1, h2, h3, h4] at hfe
    all_goals try (cases hfe; done)
    all_goals
      rw [h1] at ha
      rw [h3] at hV
      refine wEnter Tryz.func122 Tryz.ntmps122 ?_
      refine wRUN (j2 hrw hg) ?_
      refine w7 (op_data [] hw) trivial ?_
      refine wRUN trivial ?_
      refine w7 (op_data [] ha) trivial ?_
      refine wRUN h2 ?_
      try (refine w7 (op_data [] hV) trivial ?_; (repeat (first | (with_reducible first | refine a_seq ?_ | refine a_region ?_ | refine a_block ?_ | refine a_scope ?_) | ((with_reducible apply op_any); (iterate 2 (focus (first | (simp only [go_sem, Nat.reduceEqDiff, Nat.reduceAdd, Nat.reduceSub, Nat.reduceLeDiff, Nat.reduceMul, Nat.reduceBEq, Nat.reduceLT, Int.reduceToNat, reduceCtorEq, h4, List.length_map]; first | done | exact rfl | (and_intros <;> rfl)) | exact rfl | decide)))) | ((with_reducible refine o_nil ?_); dsimp only; try ((with_reducible apply o_draw); (focus (simp only [go_sem]; exact rfl)); (focus decide))) | ((with_reducible first | refine a_ret ?_ | refine a_skip ?_ | refine a_label ?_); dsimp only) | ((with_reducible refine a_exit ?_); dsimp only; simp only [if_true, if_false, Nat.reduceEqDiff]) | ((with_reducible apply a_if); (focus (simp only [go_sem, Nat.reduceBEq, Nat.reduceLT, h4, List.length_map]; exact rfl)); dsimp only [cond_true, cond_false]) | ((with_reducible refine a_draw ?_ ?_); (focus exact rfl)))))
      exact wRet (ret_data []) Tryz.results122
  rw [if_neg hfo]
  have hfo' : inForm l[k] = false := by simpa using hfo
  rw [hfo'] at hfe
  cases hv : inVal l[k].op with
  | false =>
    have h9 : (l[k].op == 9) = false := by
      cases hh : (l[k].op == 9)
      · rfl
      · unfold inVal at hv; rw [hh] at hv; simp at hv
    simp only [Bool.false_and, h9, Bool.false_eq_true, if_false]
    rw [hv] at hV hfe
    generalize l[k] = d at *
    cases h1 : inArg d.op <;> cases h2 : (d.arg != 0) <;> cases h4 : decide ((d.val.length : Int) > 0) <;> rw [h1, h2, h4] at hfe
    all_goals try (cases hfe; done)
    all_goals
      rw [h1] at ha
      unfold between
      cases h6 : (decide (d.arg ≥ B.1) && decide (d.arg ≤ B.2))
      all_goals
        rw [h6] at hwb
        simp only [Bool.not_true, Bool.not_false, Bool.false_or, Bool.true_or, Bool.false_eq_true, if_false, if_true]
        refine wEnter Tryz.func122 Tryz.ntmps122 ?_
        refine wRUN (j2 hrw hg) ?_
        refine w7 (op_data [] hw) trivial ?_
        refine wRUN trivial ?_
        refine w7 (op_data [] ha) trivial ?_
        refine wRUN h2 ?_
        refine w7 (op_data [] hV) trivial ?_
        (repeat (first | (with_reducible first | refine a_seq ?_ | refine a_region ?_ | refine a_block ?_ | refine a_scope ?_) | ((with_reducible apply op_any); (iterate 2 (focus (first | (simp only [go_sem, Nat.reduceEqDiff, Nat.reduceAdd, Nat.reduceSub, Nat.reduceLeDiff, Nat.reduceMul, Nat.reduceBEq, Nat.reduceLT, Int.reduceToNat, reduceCtorEq, h4, List.length_map]; first | done | exact rfl | (and_intros <;> rfl)) | exact rfl | decide)))) | ((with_reducible refine o_nil ?_); dsimp only; try ((with_reducible apply o_draw); (focus (simp only [go_sem]; exact rfl)); (focus decide))) | ((with_reducible first | refine a_ret ?_ | refine a_skip ?_ | refine a_label ?_); dsimp only) | ((with_reducible refine a_exit ?_); dsimp only; simp only [if_true, if_false, Nat.reduceEqDiff]) | ((with_reducible apply a_if); (focus (simp only [go_sem, Nat.reduceBEq, Nat.reduceLT, h4, List.length_map]; exact rfl)); dsimp only [cond_true, cond_false]) | ((with_reducible refine a_draw ?_ ?_); (focus exact rfl))))
        refine w7 (op_data [] hV) trivial ?_
        refine wRUN trivial ?_
        try (refine w7 (op_data [] hwb) trivial ?_; refine wRUN trivial ?_)
        exact wRet (ret_data []) Tryz.results122
  | true =>
    have h1 := hdis hv
    rw [hv] at hV hfe
    rw [h1] at ha hfe
    simp only [h1, Bool.not_false, Bool.true_or, if_true, Bool.true_and]
    rcases dec_cases l[k].val with ⟨t, ht⟩ | ⟨c, hc, hd⟩
    · have hvk : valKind l[k] = t.kind := by unfold valKind; rw [ht]
      obtain ⟨hx, htr⟩ := right_of_dec ht
      rw [ht] at hf
      rw [ht, hvk]
      simp only [bne_self_eq_false, Bool.false_eq_true, if_false]
      have hr0 : rowsAt (l[k].val.map CellD.cs) 5 0 = true := by rw [hx]; unfold rowsAt; rw [show (0 : Int).toNat = 0 from rfl, enc_head]; rfl
      have hg0 := enc_head t
      rw [← hx] at hg0
      generalize l[k] = d at *
      cases h2 : (d.arg != 0) <;> rw [h2] at hfe
      all_goals try (cases hfe; done)
      all_goals
        cases h5 : (d.op == 9) <;> cases h6 : (t.kind != 4)
        all_goals
          simp only [Bool.false_and, Bool.true_and, Bool.and_false, Bool.false_eq_true, if_false, if_true]
          refine wEnter Tryz.func122 Tryz.ntmps122 ?_
          refine wRUN (j2 hrw hg) ?_
          refine w7 (op_data [] hw) trivial ?_
          refine wRUN trivial ?_
          refine w7 (op_data [] ha) trivial ?_
          refine wRUN h2 ?_
          refine w7 (op_data [] hV) trivial ?_
          refine wRUN trivial ?_
          refine w7 (op_data [] hV) trivial ?_
          refine wRUN trivial ?_
          refine w7 (op_data [] hf) trivial ?_
          refine wRUN (j5 h00 h5 h6 hr0 hg0) ?_
          exact wRet (ret_data []) Tryz.results122
    · have h0 : (dec l[k].val).1 ≠ 0 := by rw [hd]; exact hc
      have hb : ((dec l[k].val).1 != 0) = true := by simpa using h0
      simp only [hb, if_true]
      generalize l[k] = d at *
      cases h2 : (d.arg != 0) <;> rw [h2] at hfe
      all_goals try (cases hfe; done)
      all_goals
        refine wEnter Tryz.func122 Tryz.ntmps122 ?_
        refine wRUN (j2 hrw hg) ?_
        refine w7 (op_data [] hw) trivial ?_
        refine wRUN trivial ?_
        refine w7 (op_data [] ha) trivial ?_
        refine wRUN h2 ?_
        refine w7 (op_data [] hV) trivial ?_
        refine wRUN trivial ?_
        refine w7 (op_data [] hV) trivial ?_
        refine wRUN trivial ?_
        refine w7 (op_data [] hf) trivial ?_
        refine wRUN hb ?_
        exact wRet (ret_data []) Tryz.results122
end Go.Proofs.YtfmnoljflcpbgaaGreatDoor
