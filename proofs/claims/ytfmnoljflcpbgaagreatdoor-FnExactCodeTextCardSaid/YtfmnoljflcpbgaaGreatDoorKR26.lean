/- CodeText on both sides. -/
import Derived.Test.YtfmnoljflcpbgaaGreatDoorKR25
import Derived.Test.YtfmnoljflcpbgaaGreatDoorKG37
set_option linter.unusedSimpArgs false
set_option linter.unusedVariables false
set_option linter.unnecessarySimpa false
namespace Go.Proofs.YtfmnoljflcpbgaaGreatDoor
open Go.RowKit
set_option maxRecDepth 10000
variable {o : Obj}
theorem digitsS_ac (n : Int) (h0 : 0 ≤ n) (h1 : n ≤ 6000) : AC Tryz.prog 70 [.c (.int .i64 n)] [] (.c (.str (numS n))) [] := by
  obtain ⟨m, rfl⟩ : ∃ m : Nat, n = m := ⟨n.toNat, by omega⟩
  have h := digits_ac (m + 1) m (by omega) (by omega)
  have e : numS (m : Int) = ⟨(Lib.decDigits m).toArray⟩ := by
    unfold numS
    rw [itoa_of_nonneg (by omega), Int.toNat_natCast]
  rw [e]
  exact h
theorem implCode_bad (l : List InD) (hz : ∀ d ∈ l, Sized d.val) (regs : Int) (h : (codeFault l regs).1 ≠ 0) : AC Tryz.prog 31 [insA l, .c (.int .i64 regs)] (tabM o) (.agg [.c (.int .i64 (codeFault l regs).1), .c (.str ByteArray.empty)]) (tabM o) := by
  have h1 := implCodeFault_ac l hz regs
  unfold codeR at h1
  have hb : ((codeFault l regs).1 != 0) = true := by simpa using h
  refine wEnter Tryz.func31 Tryz.ntmps31 ?_
  refine wRUN trivial ?_
  refine w7 (op_data [] h1) trivial ?_
  refine wRUN hb ?_
  exact wRetOf (ret_of [((8, 0), (8, 0))] []) Tryz.results31 hb
theorem specCode_bad (l : List InD) (regs : Int) (h : (codeFault l regs).1 ≠ 0) : AC Tryz.prog 29 [insA l, .c (.int .i64 regs)] [] (.agg [.c (.int .i64 (codeFault l regs).1), .c (.str ByteArray.empty)]) [] := by
  have h1 := specCodeFault_ac l regs
  unfold codeR at h1
  have hb : ((codeFault l regs).1 != 0) = true := by simpa using h
  refine wEnter Tryz.func29 Tryz.ntmps29 ?_
  refine wRUN trivial ?_
  refine w7 (op_data [] h1) trivial ?_
  refine wRUN hb ?_
  exact wRetOf (ret_of [] []) Tryz.results29 hb
set_option maxHeartbeats 8000000 in
theorem implCode_ac (l : List InD) (hz : ∀ d ∈ l, Sized d.val) (regs : Int) (h : (codeFault l regs).1 = 0) : AC Tryz.prog 31 [insA l, .c (.int .i64 regs)] (tabM o) (.agg [.c (.int .i64 0), .c (.str (codeS l l.length))]) (tabM o) := by
  obtain ⟨hcf, hr0, hr1, hl1, hl, hin⟩ := code_zero h
  have h1 := implCodeFault_ac l hz regs
  unfold codeR at h1
  rw [hcf] at h1
  have hln : (l.map InD.cs).length = l.length := by simp
  have h0 : codeS l 0 = ByteArray.empty := rfl
  have hne : ((0 : Int) != 0) = false := rfl
  refine wEnter Tryz.func31 Tryz.ntmps31 ?_
  refine wRUN trivial ?_
  refine w7 (op_data [] h1) trivial ?_
  refine wRUN1 hne ?_
  refine a_region ?_
  refine wRUN1 hne ?_
  refine a_region ?_
  (apply (op_zeroBld isBT); (iterate 3 (focus (first | (simp only [go_sem, Nat.reduceEqDiff, Nat.reduceAdd, Nat.reduceSub, Nat.reduceLeDiff, Nat.reduceMul, Nat.reduceBEq, Nat.reduceLT, Int.reduceToNat, reduceCtorEq]; first | done | exact rfl | (and_intros <;> rfl)) | exact rfl | decide)))); (apply (op_newBld 5 isBT); (iterate 4 (focus (first | (simp only [go_sem, Nat.reduceEqDiff, Nat.reduceAdd, Nat.reduceSub, Nat.reduceLeDiff, Nat.reduceMul, Nat.reduceBEq, Nat.reduceLT, Int.reduceToNat, reduceCtorEq]; first | done | exact rfl | (and_intros <;> rfl)) | exact rfl | decide)))); (apply (op_storeBld isBT); (iterate 6 (focus (first | (simp only [go_sem, Nat.reduceEqDiff, Nat.reduceAdd, Nat.reduceSub, Nat.reduceLeDiff, Nat.reduceMul, Nat.reduceBEq, Nat.reduceLT, Int.reduceToNat, reduceCtorEq]; first | done | exact rfl | (and_intros <;> rfl)) | exact rfl | decide))))
  refine wRUN hln ?_
  refine a_loop (κ := Nat) (fun k => ⟨mkS 0 60 [(4, .ptr (4, 0) 0), (6, .ptr (6, 0) 0), (20, insA l), (21, .c (.int .i64 l.length)), (22, .c (.int .i64 k))],
      [((4, 0), .box [.c (.int .i64 0), .c (.str ByteArray.empty)]), ((6, 0), bldA (codeS l k)), ((8, 0), .blk (tabR o) [])]⟩)
    (fun k => k ≤ l.length) (fun k => l.length - k) 0 (Nat.zero_le _) ?_ ?_
  · exact wSays (Says.of [((4, 0), (4, 0)), ((6, 0), (6, 0)), ((8, 0), (8, 0))] []) h0
  · intro k hk
    have hz1 := codeS_size hl (by omega) hr1 hin k hk
    by_cases hlt : k < l.length
    · have hdk : decide ((k : Int) < (l.length : Int)) = true := by simpa using hlt
      have hw := wrap_succ (k := k) (by omega)
      have hr : rowsAt (l.map InD.cs) 3 k = true := by simp [rowsAt, hlt, InD.cs]
      have hg : (l.map InD.cs)[k]? = some [.int .i64 l[k].op, .int .i64 l[k].arg, .sl (l[k].val.map CellD.cs)] := by simp [hlt, InD.cs]
      have hc := hin k hlt
      obtain ⟨o1, o2, _⟩ := inCode_zero hc
      have hsz := insS_size hc (by omega) (by omega) hr1
      have hnx := (codeS_next hlt).symm
      have hwr := writeString_ac (codeS l k) (insS l[k] k) (by omega)
      rw [hnx] at hwr
      have hit := itoa_ac (o := o) k (by omega) (by omega)
      obtain ⟨hwa, hwg⟩ := word_at ⟨o1, o2⟩
      have hha := hasArg_ac l[k]
      have hhv := hasVal_ac l[k]
      have hws := word_size ⟨o1, o2⟩
      have hks := numS_size' (n := (k : Int)) (by omega) (by omega)
      have hiw := inWords_ac
      cases ha : inArg l[k].op with
      | true =>
        obtain ⟨a1, a2⟩ := in_arg hc (by omega) (by omega) hr1 ha
        have has := numS_size' a1 a2
        have hfi := formatInt_ac (o := o) l[k].arg (by omega) (by omega)
        rw [ha] at hha
        have hins : insS l[k] k = joinS (bS 32) [numS k, wordS l[k].op, numS l[k].arg] ++ bS 10 := by
          unfold insS
          rw [ha, if_pos rfl]
          simp only [joinS, ByteArray.append_assoc]
        have hjs : (joinS (bS 32) [numS k, wordS l[k].op, numS l[k].arg]).size ≤ 100 := by
          simp only [joinS, ByteArray.size_append, one_size]; omega
        have hj : AC Tryz.prog 81 [.c (.sl [[.str (numS k)], [.str (wordS l[k].op)], [.str (numS l[k].arg)]]), .c (.str (bS 32))] [] (.c (.str (joinS (bS 32) [numS k, wordS l[k].op, numS l[k].arg]))) [] := join_ac [numS k, wordS l[k].op, numS l[k].arg] (bS 32) (by simp) (by omega)
        rw [hins] at hwr
        have x1 : (joinS (bS 32) [numS k, wordS l[k].op, numS l[k].arg]).size + 1 ≤ 9223372036854775807 := by omega
        generalize joinS (bS 32) [numS k, wordS l[k].op, numS l[k].arg] = J at *
        generalize l[k] = d at *
        refine wRUN (j3 hdk hr hg) ?_
        refine w10 (op_reads tab_pin tab_any (8, 0) [] hit) trivial ?_
        refine wRUN trivial ?_
        refine w9 (op_shared [] hiw) trivial ?_
        refine wRUN (j2 hwa hwg) ?_
        refine w7 (op_data [] hha) trivial ?_
        refine wRUN trivial ?_
        refine w10 (op_reads tab_pin tab_any (8, 0) [] hfi) trivial ?_
        refine wRUN trivial ?_
        refine w7 (op_data [(43, 0)] hj) trivial ?_
        refine wRUN x1 ?_
        refine wCall (op_any_call [((0, 0), (6, 0))] [((0, 0), (6, 0))] hwr) trivial ?_
        refine wRUN hw ?_
        refine ⟨k + 1, by omega, by omega, ?_⟩
        exact wSays (Says.of [((4, 0), (4, 0)), ((6, 0), (6, 0)), ((8, 0), (8, 0))] []) trivial
      | false =>
        rw [ha] at hha
        cases hv : inVal l[k].op with
        | true =>
          obtain ⟨u, hu, hue, hur⟩ := in_val hc hv
          have hus := txt_size' hur
          have hvt := valText_ac (o := o) hur
          rw [← hue] at hvt
          rw [hv] at hhv
          have hins : insS l[k] k = joinS (bS 32) [numS k, wordS l[k].op, u.txt] ++ bS 10 := by
            unfold insS
            rw [ha, if_neg (by simp), hv, if_pos rfl, tree_is hu]
            simp only [joinS, ByteArray.append_assoc]
          have hjs : (joinS (bS 32) [numS k, wordS l[k].op, u.txt]).size ≤ 50100 := by
            simp only [joinS, ByteArray.size_append, one_size]; omega
          have hj : AC Tryz.prog 81 [.c (.sl [[.str (numS k)], [.str (wordS l[k].op)], [.str u.txt]]), .c (.str (bS 32))] [] (.c (.str (joinS (bS 32) [numS k, wordS l[k].op, u.txt]))) [] := join_ac [numS k, wordS l[k].op, u.txt] (bS 32) (by simp) (by omega)
          rw [hins] at hwr
          have x1 : (joinS (bS 32) [numS k, wordS l[k].op, u.txt]).size + 1 ≤ 9223372036854775807 := by omega
          generalize joinS (bS 32) [numS k, wordS l[k].op, u.txt] = J at *
          generalize l[k] = d at *
          refine wRUN (j3 hdk hr hg) ?_
          refine w10 (op_reads tab_pin tab_any (8, 0) [] hit) trivial ?_
          refine wRUN trivial ?_
          refine w9 (op_shared [] hiw) trivial ?_
          refine wRUN (j2 hwa hwg) ?_
          refine w7 (op_data [] hha) trivial ?_
          refine wRUN trivial ?_
          refine w7 (op_data [] hhv) trivial ?_
          refine wRUN trivial ?_
          refine w10 (op_reads tab_pin tab_any (8, 0) [] hvt) trivial ?_
          refine wRUN trivial ?_
          refine w7 (op_data [(52, 0)] hj) trivial ?_
          refine wRUN x1 ?_
          refine wCall (op_any_call [((0, 0), (6, 0))] [((0, 0), (6, 0))] hwr) trivial ?_
          refine wRUN hw ?_
          refine ⟨k + 1, by omega, by omega, ?_⟩
          exact wSays (Says.of [((4, 0), (4, 0)), ((6, 0), (6, 0)), ((8, 0), (8, 0))] []) trivial
        | false =>
          rw [hv] at hhv
          have hins : insS l[k] k = joinS (bS 32) [numS k, wordS l[k].op] ++ bS 10 := by
            unfold insS
            rw [ha, if_neg (by simp), hv, if_neg (by simp)]
            simp only [joinS, ByteArray.append_empty]
          have hjs : (joinS (bS 32) [numS k, wordS l[k].op]).size ≤ 100 := by
            simp only [joinS, ByteArray.size_append, one_size]; omega
          have hj : AC Tryz.prog 81 [.c (.sl [[.str (numS k)], [.str (wordS l[k].op)]]), .c (.str (bS 32))] [] (.c (.str (joinS (bS 32) [numS k, wordS l[k].op]))) [] := join_ac [numS k, wordS l[k].op] (bS 32) (by simp) (by omega)
          rw [hins] at hwr
          have x1 : (joinS (bS 32) [numS k, wordS l[k].op]).size + 1 ≤ 9223372036854775807 := by omega
          generalize joinS (bS 32) [numS k, wordS l[k].op] = J at *
          generalize l[k] = d at *
          refine wRUN (j3 hdk hr hg) ?_
          refine w10 (op_reads tab_pin tab_any (8, 0) [] hit) trivial ?_
          refine wRUN trivial ?_
          refine w9 (op_shared [] hiw) trivial ?_
          refine wRUN (j2 hwa hwg) ?_
          refine w7 (op_data [] hha) trivial ?_
          refine wRUN trivial ?_
          refine w7 (op_data [] hhv) trivial ?_
          refine wRUN trivial ?_
          refine w7 (op_data [(34, 0)] hj) trivial ?_
          refine wRUN x1 ?_
          refine wCall (op_any_call [((0, 0), (6, 0))] [((0, 0), (6, 0))] hwr) trivial ?_
          refine wRUN hw ?_
          refine ⟨k + 1, by omega, by omega, ?_⟩
          exact wSays (Says.of [((4, 0), (4, 0)), ((6, 0), (6, 0)), ((8, 0), (8, 0))] []) trivial
    · have hdk : decide ((k : Int) < (l.length : Int)) = false := by simpa using hlt
      obtain rfl : k = l.length := by omega
      have hst := bldString_ac (codeS l l.length)
      refine wRUN hdk ?_
      refine wCall (op_any_call [((0, 0), (6, 0))] [] hst) trivial ?_
      refine wRUN trivial ?_
      exact wRetOf (ret_of [((8, 0), (8, 0))] []) Tryz.results31 hdk
end Go.Proofs.YtfmnoljflcpbgaaGreatDoor
