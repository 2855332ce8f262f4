/- CodeFault, HeightsOf on both sides, by the engine. -/
import Derived.Test.YtfmnoljflcpbgaaGreatDoorKG38
import Derived.Test.YtfmnoljflcpbgaaGreatDoorKG39
set_option linter.unusedSimpArgs false
set_option linter.unusedVariables false
set_option linter.unnecessarySimpa false
namespace Go.Proofs.YtfmnoljflcpbgaaGreatDoor
open Go.RowKit
set_option maxRecDepth 10000
def codeR (r : Int × Int) : AV := .agg [.c (.int .i64 r.1), .c (.int .i64 r.2), .nils, .c (.int .i64 0)]
theorem many_false {l : List InD} (h : ¬ (l.length < 1 ∨ 6000 < l.length)) : decide ((l.length : Int) ≥ 1) = true ∧ decide ((l.length : Int) ≤ 6000) = true ∧ decide ((l.length : Int) < 1) = false ∧ decide ((l.length : Int) > 6000) = false := by
  refine ⟨?_, ?_, ?_, ?_⟩ <;> simp <;> omega
set_option maxHeartbeats 4000000 in
theorem implCodeFault_ac (l : List InD) (hz : ∀ d ∈ l, Sized d.val) (regs : Int) : AC Tryz.prog 74 [insA l, .c (.int .i64 regs)] [] (codeR (codeFault l regs)) [] := by
  have hln : (l.map InD.cs).length = l.length := by simp
  have hsz := sizeIn_ac l
  have hw1 := within_ac regs 0 1000
  have hw2 := within_ac (l.length : Int) 1 6000
  unfold codeFault codeR
  by_cases hb : between regs 0 1000 = false
  · rw [if_pos hb]
    unfold between at hb
    rw [hb] at hw1
    refine wEnter Tryz.func74 Tryz.ntmps74 ?_
    refine wRUN trivial ?_
    refine w7 (op_data [] hsz) trivial ?_
    refine wRUN trivial ?_
    refine w7 (op_data [] hw1) trivial ?_
    refine wRUN trivial ?_
    exact wRet (ret_data []) Tryz.results74
  rw [if_neg hb]
  have hb1 : between regs 0 1000 = true := by simpa using hb
  have hregs : 0 ≤ regs ∧ regs ≤ 1000 := by unfold between at hb1; simpa using hb1
  unfold between at hb1
  rw [hb1] at hw1
  by_cases hm : l.length < 1 ∨ 6000 < l.length
  · rw [if_pos hm]
    have hmb : (decide ((l.length : Int) ≥ 1) && decide ((l.length : Int) ≤ 6000)) = false := by
      simp only [Bool.and_eq_false_iff, decide_eq_false_iff_not]
      omega
    rw [hmb] at hw2
    refine wEnter Tryz.func74 Tryz.ntmps74 ?_
    refine wRUN trivial ?_
    refine w7 (op_data [] hsz) trivial ?_
    refine wRUN trivial ?_
    refine w7 (op_data [] hw1) trivial ?_
    refine wRUN trivial ?_
    refine w7 (op_data [] hw2) trivial ?_
    refine wRUN trivial ?_
    exact wRet (ret_data []) Tryz.results74
  rw [if_neg hm]
  obtain ⟨m1, m2, _, _⟩ := many_false hm
  rw [m1, m2] at hw2
  have hn : 1 ≤ l.length ∧ l.length ≤ 6000 := by omega
  obtain ⟨R, hR⟩ : ∃ R, R = insGo l.length regs 0 l := ⟨_, rfl⟩
  have hjs := insGo_jumps (l := l) (regs := regs)
  rw [← hR] at hjs ⊢
  refine wEnter Tryz.func74 Tryz.ntmps74 ?_
  refine wRUN trivial ?_
  refine w7 (op_data [] hsz) trivial ?_
  refine wRUN trivial ?_
  refine w7 (op_data [] hw1) trivial ?_
  refine wRUN trivial ?_
  (apply (op_data [] hw2); (iterate 7 (focus (first | (simp only [go_sem, Nat.reduceEqDiff, Nat.reduceAdd, Nat.reduceSub, Nat.reduceLeDiff, Nat.reduceMul, Nat.reduceBEq, Nat.reduceLT, Int.reduceToNat, reduceCtorEq, Bool.and_self]; first | done | exact rfl | (and_intros <;> rfl)) | exact rfl | decide))))
  refine wRUN hln ?_
  refine a_loop (κ := Nat) (fun k => ⟨mkS 0 51 [(0, insA l), (1, .c (.int .i64 regs)), (4, .ptr (4, 0) 0), (5, .c (.int .i64 l.length)), (23, insA l), (24, .c (.int .i64 l.length)), (25, .c (.int .i64 k))], [((4, 0), .box [.c (.int .i64 0), .c (.int .i64 0), .nils, .c (.int .i64 0)])]⟩)
    (fun k => k ≤ l.length ∧ R = insGo l.length regs k (l.drop k)) (fun k => l.length - k) 0 ⟨Nat.zero_le _, by rw [hR]; rfl⟩ ?_ ?_
  · exact wSays (Says.of [((4, 0), (4, 0))] []) hln
  · rintro k ⟨hk, hRk⟩
    by_cases hlt : k < l.length
    · have hdk : decide ((k : Int) < (l.length : Int)) = true := by simpa using hlt
      have hw := wrap_succ (k := k) (by omega)
      obtain ⟨hr0, hg0⟩ := ins_row hlt
      have hca := inFault_ac l[k] k l.length regs (hz _ (List.getElem_mem hlt)) (by omega) (by omega) hregs
      rw [insGo_drop _ _ _ hlt] at hRk
      generalize l[k] = d at *
      generalize inCode d k l.length regs = c at *
      by_cases h0 : c = 0
      · subst h0
        rw [if_pos rfl] at hRk
        have h00 : ((0 : Int) != 0) = false := rfl
        refine wRUN (j3 hdk hr0 hg0) ?_
        refine w7 (op_data [] hca) trivial ?_
        refine wRUN (j2 h00 hw) ?_
        refine ⟨k + 1, by omega, ⟨by omega, hRk⟩, ?_⟩
        exact wSays (Says.of [((4, 0), (4, 0))] []) hw
      · rw [if_neg h0] at hRk
        have hbc : (c != 0) = true := by simpa using h0
        rw [hRk, if_pos h0]
        refine wRUN (j3 hdk hr0 hg0) ?_
        refine w7 (op_data [] hca) trivial ?_
        refine wRUN hbc ?_
        exact wRet (ret_data []) Tryz.results74
    · have hdk : decide ((k : Int) < (l.length : Int)) = false := by simpa using hlt
      rw [List.drop_eq_nil_of_le (by omega)] at hRk
      have hR0 : R = (0, 0) := hRk
      have hj := hjs (by rw [hR0])
      rw [hR0, if_neg (by simp)]
      by_cases hh : 0 ≤ (heightsOf l).2
      · have hhb := heights_bad l hn hj hh
        have hd : decide ((heightsOf l).2 ≥ 0) = true := by simpa using hh
        rw [if_pos hh]
        generalize (heightsOf l).2 = r at *
        refine wRUN hdk ?_
        refine w7 (op_data [] hhb) trivial ?_
        refine wRUN hd ?_
        exact wRet (ret_data []) Tryz.results74
      · have hm1 : (heightsOf l).2 = -1 := by rcases heights_end l with h | h; exact h; exact absurd h hh
        have hha := heights_ac l hn hj hm1
        rw [if_neg hh]
        have hd : decide ((-1 : Int) ≥ 0) = false := rfl
        refine wRUN hdk ?_
        refine w12 (op_rowT [] hha) trivial ?_
        refine wRUN hd ?_
        exact wRet (ret_data []) Tryz.results74
set_option maxHeartbeats 4000000 in
theorem specCodeFault_ac (l : List InD) (regs : Int) : AC Tryz.prog 69 [insA l, .c (.int .i64 regs)] [] (codeR (codeFault l regs)) [] := by
  have hln : (l.map InD.cs).length = l.length := by simp
  have hw1 := l1In_ac regs 0 1000
  unfold codeFault codeR
  by_cases hb : between regs 0 1000 = false
  · rw [if_pos hb]
    unfold between at hb
    rw [hb] at hw1
    refine wEnter Tryz.func69 Tryz.ntmps69 ?_
    refine wRUN trivial ?_
    refine w7 (op_data [] hw1) trivial ?_
    refine wRUN trivial ?_
    exact wRet (ret_data []) Tryz.results69
  rw [if_neg hb]
  have hb1 : between regs 0 1000 = true := by simpa using hb
  have hregs : 0 ≤ regs ∧ regs ≤ 1000 := by unfold between at hb1; simpa using hb1
  unfold between at hb1
  rw [hb1] at hw1
  by_cases hm : l.length < 1 ∨ 6000 < l.length
  · rw [if_pos hm]
    cases h1 : decide ((l.length : Int) < 1) <;> cases h2 : decide ((l.length : Int) > 6000)
    · exfalso
      simp only [decide_eq_false_iff_not] at h1 h2
      omega
    all_goals
      refine wEnter Tryz.func69 Tryz.ntmps69 ?_
      refine wRUN trivial ?_
      refine w7 (op_data [] hw1) trivial ?_
      refine wRUN (j3 hln h1 h2) ?_
      exact wRet (ret_data []) Tryz.results69
  rw [if_neg hm]
  obtain ⟨_, _, m1, m2⟩ := many_false hm
  have hn : 1 ≤ l.length ∧ l.length ≤ 6000 := by omega
  obtain ⟨R, hR⟩ : ∃ R, R = insGo l.length regs 0 l := ⟨_, rfl⟩
  have hjs := insGo_jumps (l := l) (regs := regs)
  rw [← hR] at hjs ⊢
  refine wEnter Tryz.func69 Tryz.ntmps69 ?_
  refine wRUN trivial ?_
  refine w7 (op_data [] hw1) trivial ?_
  refine wRUN (j3 hln m1 m2) ?_
  refine a_loop (κ := Nat) (fun k => ⟨mkS 0 47 [(0, insA l), (1, .c (.int .i64 regs)), (4, .ptr (4, 0) 0), (5, .c (.int .i64 k))], [((4, 0), .box [.c (.int .i64 0), .c (.int .i64 0), .nils, .c (.int .i64 0)])]⟩)
    (fun k => k ≤ l.length ∧ R = insGo l.length regs k (l.drop k)) (fun k => l.length - k) 0 ⟨Nat.zero_le _, by rw [hR]; rfl⟩ ?_ ?_
  · exact wSays (Says.of [((4, 0), (4, 0))] []) hln
  · rintro k ⟨hk, hRk⟩
    by_cases hlt : k < l.length
    · have hdk : decide ((k : Int) < (l.length : Int)) = true := by simpa using hlt
      have hw := wrap_succ (k := k) (by omega)
      have hca := l8One_ac l k hlt regs (by omega) hregs
      rw [insGo_drop _ _ _ hlt] at hRk
      generalize l[k] = d at *
      generalize inCode d k l.length regs = c at *
      by_cases h0 : c = 0
      · subst h0
        rw [if_pos rfl] at hRk
        have h00 : ((0 : Int) != 0) = false := rfl
        refine wRUN (j2 hln hdk) ?_
        refine w7 (op_data [] hca) trivial ?_
        refine wRUN (j2 h00 hw) ?_
        refine ⟨k + 1, by omega, ⟨by omega, hRk⟩, ?_⟩
        exact wSays (Says.of [((4, 0), (4, 0))] []) hw
      · rw [if_neg h0] at hRk
        have hbc : (c != 0) = true := by simpa using h0
        rw [hRk, if_pos h0]
        refine wRUN (j2 hln hdk) ?_
        refine w7 (op_data [] hca) trivial ?_
        refine wRUN hbc ?_
        exact wRet (ret_data []) Tryz.results69
    · have hdk : decide ((k : Int) < (l.length : Int)) = false := by simpa using hlt
      rw [List.drop_eq_nil_of_le (by omega)] at hRk
      have hR0 : R = (0, 0) := hRk
      have hj := hjs (by rw [hR0])
      rw [hR0, if_neg (by simp)]
      have hha := l8Heights_ac l hn hj
      by_cases hh : 0 ≤ (heightsOf l).2
      · have hd : decide ((heightsOf l).2 ≥ 0) = true := by simpa using hh
        rw [if_pos hh]
        generalize (heightsOf l).2 = r at *
        refine wRUN (j2 hln hdk) ?_
        refine w12 (op_rowT [] hha) trivial ?_
        refine wRUN hd ?_
        exact wRet (ret_data []) Tryz.results69
      · rw [if_neg hh]
        have hd : decide ((heightsOf l).2 ≥ 0) = false := by simpa using hh
        generalize (heightsOf l).2 = r at *
        refine wRUN (j2 hln hdk) ?_
        refine w12 (op_rowT [] hha) trivial ?_
        refine wRUN hd ?_
        exact wRet (ret_data []) Tryz.results69
end Go.Proofs.YtfmnoljflcpbgaaGreatDoor
