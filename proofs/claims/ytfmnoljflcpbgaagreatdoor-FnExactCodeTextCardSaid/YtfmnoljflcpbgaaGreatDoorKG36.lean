/- impl.inFault, (impl.In).effect, behind, by the engine. -/
import Derived.Test.YtfmnoljflcpbgaaGreatDoorKM13uG35
set_option linter.unusedSimpArgs false
set_option linter.unusedVariables false
set_option linter.unnecessarySimpa false
namespace Go.Proofs.YtfmnoljflcpbgaaGreatDoor
open Go.RowKit
set_option maxRecDepth 10000
section
variable (d : InD) (i n regs : Int)
theorem inFault_one (h : between d.op 1 19 = false) : AC Tryz.prog 126 [d.av, .c (.int .i64 i), .c (.int .i64 n), .c (.int .i64 regs)] [] (.c (.int .i64 6)) [] := by
  have hw := within_ac d.op 1 19
  unfold between at h
  rw [h] at hw
  refine wEnter Tryz.func126 Tryz.ntmps126 ?_
  refine wRUN trivial ?_
  refine w7 (op_data [] hw) trivial ?_
  refine wRUN trivial ?_
  exact wRet (ret_data []) Tryz.results126
set_option maxHeartbeats 2000000 in
theorem inFault_form (h : between d.op 1 19 = true) (hf : inForm d = true) : AC Tryz.prog 126 [d.av, .c (.int .i64 i), .c (.int .i64 n), .c (.int .i64 regs)] [] (.c (.int .i64 1)) [] := by
  have hw := within_ac d.op 1 19
  unfold between at h
  rw [h] at hw
  have hA := hasArg_ac d
  have hV := hasVal_ac d
  unfold inForm at hf
  cases h1 : inArg d.op <;> cases h2 : (d.arg != 0) <;> cases h3 : inVal d.op <;> cases h4 : decide ((d.val.length : Int) > 0) <;> rw [h1, h2, h3, h4] at hf
  all_goals try (cases hf; done)
  all_goals
    rw [h1] at hA
    rw [h3] at hV
    refine wEnter Tryz.func126 Tryz.ntmps126 ?_
    refine wRUN trivial ?_
    refine w7 (op_data [] hw) trivial ?_
    refine wRUN trivial ?_
    refine w7 (op_data [] hA) trivial ?_
    refine wRUN h2 ?_
    try (refine w7 (op_data [] hV) trivial ?_; refine wRUN h4 ?_)
    exact wRet (ret_data []) Tryz.results126
set_option maxHeartbeats 2000000 in
theorem inFault_val (hz : Sized d.val) (h : between d.op 1 19 = true) (hf : inForm d = false) (hv : inVal d.op = true) (h0 : (dec d.val).1 ≠ 0) : AC Tryz.prog 126 [d.av, .c (.int .i64 i), .c (.int .i64 n), .c (.int .i64 regs)] [] (.c (.int .i64 (dec d.val).1)) [] := by
  have hw := within_ac d.op 1 19
  unfold between at h
  rw [h] at hw
  have hA := hasArg_ac d
  have hV := hasVal_ac d
  have hb : ((dec d.val).1 != 0) = true := by simpa using h0
  have hbad := valOf_bad d.val hz (by rcases dec_cases d.val with ⟨t, ht⟩ | ⟨c, hc, hd⟩; rw [ht] at h0; exact absurd rfl h0; rw [hd])
  unfold inForm at hf
  rw [hv] at hf hV
  cases h1 : inArg d.op <;> cases h2 : (d.arg != 0) <;> rw [h1, h2] at hf
  all_goals try (cases hf; done)
  all_goals
    rw [h1] at hA
    refine wEnter Tryz.func126 Tryz.ntmps126 ?_
    refine wRUN trivial ?_
    refine w7 (op_data [] hw) trivial ?_
    refine wRUN trivial ?_
    refine w7 (op_data [] hA) trivial ?_
    refine wRUN h2 ?_
    refine w7 (op_data [] hV) trivial ?_
    refine wRUN trivial ?_
    refine w7 (op_data [] hV) trivial ?_
    refine wRUN trivial ?_
    refine w9 (op_shared [] hbad) noV_eq ?_
    refine wRUN (j2 hb noV_eq) ?_
    exact wRet (ret_data []) Tryz.results126
set_option maxHeartbeats 2000000 in
theorem inFault_kind (hz : Sized d.val) (h : between d.op 1 19 = true) (hf : inForm d = false) {t : V} (hd : dec d.val = (0, some t)) (h9 : d.op = 9) (hk : t.kind ≠ 4) : AC Tryz.prog 126 [d.av, .c (.int .i64 i), .c (.int .i64 n), .c (.int .i64 regs)] [] (.c (.int .i64 6)) [] := by
  have hw := within_ac d.op 1 19
  unfold between at h
  rw [h] at hw
  have hA := hasArg_ac d
  have hV := hasVal_ac d
  have hv : inVal d.op = true := by rw [h9]; rfl
  have h00 : ((0 : Int) != 0) = false := rfl
  have hb9 : (d.op == 9) = true := by simpa using h9
  have hbk : (t.kind != 4) = true := by simpa using hk
  have hok := valOf_ac d.val hz (t := t) (by rw [hd])
  unfold inForm at hf
  rw [hv] at hf hV
  cases h1 : inArg d.op <;> cases h2 : (d.arg != 0) <;> rw [h1, h2] at hf
  all_goals try (cases hf; done)
  all_goals
    rw [h1] at hA
    refine wEnter Tryz.func126 Tryz.ntmps126 ?_
    refine wRUN trivial ?_
    refine w7 (op_data [] hw) trivial ?_
    refine wRUN trivial ?_
    refine w7 (op_data [] hA) trivial ?_
    refine wRUN h2 ?_
    refine w7 (op_data [] hV) trivial ?_
    refine wRUN trivial ?_
    refine w7 (op_data [] hV) trivial ?_
    refine wRUN trivial ?_
    refine w9 (op_shared [] hok) trivial ?_
    refine wRUN (j3 h00 hb9 hbk) ?_
    exact wRet (ret_data []) Tryz.results126
set_option maxHeartbeats 4000000 in
theorem inFault_rest (hz : Sized d.val) (hi : 0 ≤ i ∧ i ≤ 6000) (hn : 0 ≤ n ∧ n ≤ 6000) (hr : 0 ≤ regs ∧ regs ≤ 1000) (h : between d.op 1 19 = true) (hf : inForm d = false) (hv : inVal d.op = false ∨ ∃ t : V, inVal d.op = true ∧ dec d.val = (0, some t) ∧ (d.op == 9 && (t.kind != 4)) = false) :
    AC Tryz.prog 126 [d.av, .c (.int .i64 i), .c (.int .i64 n), .c (.int .i64 regs)] [] (.c (.int .i64 (if argOk d i n regs then 0 else 3))) [] := by
  have hw := within_ac d.op 1 19
  unfold between at h
  rw [h] at hw
  have hA := hasArg_ac d
  have hV := hasVal_ac d
  have ho := argOk_ac d i n regs hi hn hr
  have h00 : ((0 : Int) != 0) = false := rfl
  unfold inForm at hf
  rcases hv with hv | ⟨t, hv, hd, hk⟩
  · rw [hv] at hf hV
    cases h1 : inArg d.op <;> cases h2 : (d.arg != 0) <;> cases h4 : decide ((d.val.length : Int) > 0) <;> rw [h1, h2, h4] at hf
    all_goals try (cases hf; done)
    all_goals
      rw [h1] at hA
      cases hao : argOk d i n regs
      all_goals
        rw [hao] at ho
        refine wEnter Tryz.func126 Tryz.ntmps126 ?_
        refine wRUN trivial ?_
        refine w7 (op_data [] hw) trivial ?_
        refine wRUN trivial ?_
        refine w7 (op_data [] hA) trivial ?_
        refine wRUN h2 ?_
        refine w7 (op_data [] hV) trivial ?_
        refine wRUN h4 ?_
        refine w7 (op_data [] hV) trivial ?_
        refine wRUN trivial ?_
        refine w7 (op_data [] ho) trivial ?_
        refine wRUN trivial ?_
        exact wRet (ret_data []) Tryz.results126
  · have hok := valOf_ac d.val hz (t := t) (by rw [hd])
    rw [hv] at hf hV
    cases h1 : inArg d.op <;> cases h2 : (d.arg != 0) <;> rw [h1, h2] at hf
    all_goals try (cases hf; done)
    all_goals
      rw [h1] at hA
      cases h5 : (d.op == 9) <;> cases h6 : (t.kind != 4) <;> rw [h5, h6] at hk
      all_goals try (cases hk; done)
      all_goals
        cases hao : argOk d i n regs
        all_goals
          rw [hao] at ho
          refine wEnter Tryz.func126 Tryz.ntmps126 ?_
          refine wRUN trivial ?_
          refine w7 (op_data [] hw) trivial ?_
          refine wRUN trivial ?_
          refine w7 (op_data [] hA) trivial ?_
          refine wRUN h2 ?_
          refine w7 (op_data [] hV) trivial ?_
          refine wRUN trivial ?_
          refine w7 (op_data [] hV) trivial ?_
          refine wRUN trivial ?_
          refine w9 (op_shared [] hok) trivial ?_
          refine wRUN (j3 h00 h5 h6) ?_
          refine w7 (op_data [] ho) trivial ?_
          refine wRUN trivial ?_
          exact wRet (ret_data []) Tryz.results126
theorem inFault_ac (hz : Sized d.val) (hi : 0 ≤ i ∧ i ≤ 6000) (hn : 0 ≤ n ∧ n ≤ 6000) (hr : 0 ≤ regs ∧ regs ≤ 1000) : AC Tryz.prog 126 [d.av, .c (.int .i64 i), .c (.int .i64 n), .c (.int .i64 regs)] [] (.c (.int .i64 (inCode d i n regs))) [] := by
  unfold inCode
  by_cases h : between d.op 1 19 = false
  · rw [if_pos h]; exact inFault_one d i n regs h
  rw [if_neg h]
  have h' : between d.op 1 19 = true := by simpa using h
  by_cases hf : inForm d = true
  · rw [if_pos hf]; exact inFault_form d i n regs h' hf
  rw [if_neg hf]
  have hf' : inForm d = false := by simpa using hf
  cases hv : inVal d.op with
  | false =>
    have h9 : (d.op == 9) = false := by
      cases hh : (d.op == 9)
      · rfl
      · unfold inVal at hv; rw [hh] at hv; simp at hv
    simp only [Bool.false_and, h9, Bool.false_eq_true, if_false]
    exact inFault_rest d i n regs hz hi hn hr h' hf' (.inl hv)
  | true =>
    rcases dec_cases d.val with ⟨t, ht⟩ | ⟨c, hc, hd⟩
    · have hvk : valKind d = t.kind := by unfold valKind; rw [ht]
      rw [ht, hvk]
      by_cases hk : (d.op == 9 && (t.kind != 4)) = true
      · have h9 : d.op = 9 := by simp at hk; exact hk.1
        have hk' : t.kind ≠ 4 := by simp at hk; exact hk.2
        simp only [bne_self_eq_false, Bool.and_false, Bool.false_eq_true, if_false, hk, if_true]
        exact inFault_kind d i n regs hz h' hf' ht h9 hk'
      · have hk' : (d.op == 9 && (t.kind != 4)) = false := by simpa using hk
        simp only [bne_self_eq_false, Bool.and_false, Bool.false_eq_true, if_false, hk']
        exact inFault_rest d i n regs hz hi hn hr h' hf' (.inr ⟨t, hv, ht, hk'⟩)
    · have h0 : (dec d.val).1 ≠ 0 := by rw [hd]; exact hc
      have hb : ((dec d.val).1 != 0) = true := by simpa using h0
      simp only [hb, Bool.and_true, if_true]
      exact inFault_val d i n regs hz h' hf' hv h0
end
set_option maxHeartbeats 4000000 in
theorem effect_ac (d : InD) (h1 : 1 ≤ d.op) (h2 : d.op ≤ 19) : AC Tryz.prog 166 [d.av] [] (.tup [.c (.int .i64 (takesOf d.op)), .c (.int .i64 (laysOf d.op))]) [] := by
  obtain ⟨op, arg, val⟩ := d
  dsimp only at h1 h2
  have : op = 1 ∨ op = 2 ∨ op = 3 ∨ op = 4 ∨ op = 5 ∨ op = 6 ∨ op = 7 ∨ op = 8 ∨ op = 9 ∨ op = 10 ∨ op = 11 ∨ op = 12 ∨ op = 13 ∨ op = 14 ∨ op = 15 ∨ op = 16 ∨ op = 17 ∨ op = 18 ∨ op = 19 := by omega
  rcases this with rfl | rfl | rfl | rfl | rfl | rfl | rfl | rfl | rfl | rfl | rfl | rfl | rfl | rfl | rfl | rfl | rfl | rfl | rfl
  all_goals
    refine wEnter Tryz.func166 Tryz.ntmps166 ?_
    (repeat (first | (with_reducible first | refine a_seq ?_ | refine a_region ?_ | refine a_block ?_ | refine a_scope ?_) | ((with_reducible apply op_any); (iterate 2 (focus (first | (simp only [go_sem, Nat.reduceEqDiff, Nat.reduceAdd, Nat.reduceSub, Nat.reduceLeDiff, Nat.reduceMul, Nat.reduceBEq, Nat.reduceLT, Int.reduceToNat, reduceCtorEq, Int.reduceBEq]; first | done | exact rfl | (and_intros <;> rfl)) | exact rfl | decide)))) | ((with_reducible refine o_nil ?_); dsimp only; try ((with_reducible apply o_draw); (focus (simp only [go_sem]; exact rfl)); (focus decide))) | ((with_reducible first | refine a_ret ?_ | refine a_skip ?_ | refine a_label ?_); dsimp only) | ((with_reducible refine a_exit ?_); dsimp only; simp only [if_true, if_false, Nat.reduceEqDiff]) | ((with_reducible apply a_if); (focus (simp only [go_sem, Nat.reduceBEq, Nat.reduceLT, Int.reduceBEq]; exact rfl)); dsimp only [cond_true, cond_false]) | ((with_reducible refine a_draw ?_ ?_); (focus exact rfl))))
    exact ret_data [] (by simp only [Tryz.results166, go_sem, Nat.reduceBEq, Nat.reduceLT]; exact rfl) (by simp only [go_sem, Nat.reduceEqDiff, Nat.reduceAdd, Nat.reduceSub, Nat.reduceLeDiff, Nat.reduceMul, Nat.reduceBEq, Nat.reduceLT, Int.reduceToNat, reduceCtorEq]; exact ⟨rfl, rfl⟩) rfl
set_option maxHeartbeats 2000000 in
theorem behind_ac (d : InD) (i : Int) (hi : 0 ≤ i ∧ i ≤ 6000) : AC Tryz.prog 167 [d.av, .c (.int .i64 i)] [] (.c (.sl ((nexts d i).map intCs))) [] := by
  have w1 : IntKind.i64.wrap (i + 1) = i + 1 := IntWalk.i64_in _ (by omega)
  have hp := hasPlace_ac d
  unfold nexts
  by_cases h15 : d.op = 15 ∨ d.op = 19
  · rw [if_pos h15]
    cases h1 : (d.op == 15) <;> cases h2 : (d.op == 19)
    · exfalso
      rcases h15 with h | h
      · simp [h] at h1
      · simp [h] at h2
    all_goals
      refine wEnter Tryz.func167 Tryz.ntmps167 ?_
      refine wRUN (j2 h1 h2) ?_
      exact wRetOf (ret_of [] []) Tryz.results167 h1
  rw [if_neg h15]
  have h1 : (d.op == 15) = false := by
    cases hh : (d.op == 15)
    · rfl
    · exact absurd (.inl (by simpa using hh)) h15
  have h2 : (d.op == 19) = false := by
    cases hh : (d.op == 19)
    · rfl
    · exact absurd (.inr (by simpa using hh)) h15
  by_cases h10 : d.op = 10
  · rw [if_pos h10]
    have h3 : (d.op == 10) = true := by simpa using h10
    refine wEnter Tryz.func167 Tryz.ntmps167 ?_
    refine wRUN (j3 h1 h2 h3) ?_
    (apply (ret_of [] [(20, 0)]); (focus (simp only [Tryz.results167, go_sem, Nat.reduceBEq, Nat.reduceLT, intCs]; exact rfl)); (focus (simp only [go_sem, Nat.reduceEqDiff, Nat.reduceAdd, Nat.reduceSub, Nat.reduceLeDiff, Nat.reduceMul, Nat.reduceBEq, Nat.reduceLT, Int.reduceToNat, reduceCtorEq, intCs]; try (and_intros <;> rfl))); (focus exact rfl); (focus (simp only [go_sem, Nat.reduceEqDiff, Nat.reduceAdd, Nat.reduceSub, Nat.reduceLeDiff, Nat.reduceMul, Nat.reduceBEq, Nat.reduceLT, Int.reduceToNat, reduceCtorEq, intCs]; try (and_intros <;> rfl))); (focus exact rfl); (iterate 4 (focus (simp [go_sem, intCs]; done))))
  rw [if_neg h10]
  have h3 : (d.op == 10) = false := by simpa using h10
  cases h4 : inPlace d.op with
  | true =>
    rw [h4] at hp
    rw [if_pos rfl]
    refine wEnter Tryz.func167 Tryz.ntmps167 ?_
    refine wRUN (j3 h1 h2 h3) ?_
    refine w7 (op_data [] hp) trivial ?_
    refine wRUN w1 ?_
    (apply (ret_of [] [(28, 0)]); (focus (simp only [Tryz.results167, go_sem, Nat.reduceBEq, Nat.reduceLT, intCs]; exact rfl)); (focus (simp only [go_sem, Nat.reduceEqDiff, Nat.reduceAdd, Nat.reduceSub, Nat.reduceLeDiff, Nat.reduceMul, Nat.reduceBEq, Nat.reduceLT, Int.reduceToNat, reduceCtorEq, intCs]; try (and_intros <;> rfl))); (focus exact rfl); (focus (simp only [go_sem, Nat.reduceEqDiff, Nat.reduceAdd, Nat.reduceSub, Nat.reduceLeDiff, Nat.reduceMul, Nat.reduceBEq, Nat.reduceLT, Int.reduceToNat, reduceCtorEq, intCs]; try (and_intros <;> rfl))); (focus exact rfl); (iterate 4 (focus (simp [go_sem, intCs]; done))))
  | false =>
    rw [h4] at hp
    rw [if_neg (by simp)]
    refine wEnter Tryz.func167 Tryz.ntmps167 ?_
    refine wRUN (j3 h1 h2 h3) ?_
    refine w7 (op_data [] hp) trivial ?_
    refine wRUN w1 ?_
    (apply (ret_of [] [(31, 0)]); (focus (simp only [Tryz.results167, go_sem, Nat.reduceBEq, Nat.reduceLT, intCs]; exact rfl)); (focus (simp only [go_sem, Nat.reduceEqDiff, Nat.reduceAdd, Nat.reduceSub, Nat.reduceLeDiff, Nat.reduceMul, Nat.reduceBEq, Nat.reduceLT, Int.reduceToNat, reduceCtorEq, intCs]; try (and_intros <;> rfl))); (focus exact rfl); (focus (simp only [go_sem, Nat.reduceEqDiff, Nat.reduceAdd, Nat.reduceSub, Nat.reduceLeDiff, Nat.reduceMul, Nat.reduceBEq, Nat.reduceLT, Int.reduceToNat, reduceCtorEq, intCs]; try (and_intros <;> rfl))); (focus exact rfl); (iterate 4 (focus (simp [go_sem, intCs]; done))))
end Go.Proofs.YtfmnoljflcpbgaaGreatDoor
