/- FormatEdits on both sides. -/
import Derived.Test.YtfmnoljflcpbgaaGreatDoorKR19
set_option linter.unusedSimpArgs false
set_option linter.unusedVariables false
set_option linter.unnecessarySimpa false
namespace Go.Proofs.YtfmnoljflcpbgaaGreatDoor
open Go.RowKit
set_option maxRecDepth 10000
variable {o : Obj}
theorem implFormat_bad (l : List EditD) (hz : ∀ d ∈ l, EditOk d) (hl : l.length ≤ 9223372036854775807) (h : editsCode l ≠ 0) : AC Tryz.prog 24 [editsA l] (tabM o) (.agg [.c (.int .i64 (editsCode l)), .c (.str ByteArray.empty)]) (tabM o) := by
  have h1 := implEdits_ac l hz hl
  have hb : (editsCode l != 0) = true := by simpa using h
  refine wEnter Tryz.func24 Tryz.ntmps24 ?_
  refine wRUN trivial ?_
  refine w7 (op_data [] h1) trivial ?_
  refine wRUN hb ?_
  exact wRetOf (ret_of [((8, 0), (8, 0))] []) Tryz.results24 hb
theorem specFormat_bad (l : List EditD) (hl : l.length ≤ 9223372036854775807) (h : editsCode l ≠ 0) : AC Tryz.prog 22 [editsA l] [] (.agg [.c (.int .i64 (editsCode l)), .c (.str ByteArray.empty)]) [] := by
  have h1 := specEdits_ac l hl
  have hb : (editsCode l != 0) = true := by simpa using h
  refine wEnter Tryz.func22 Tryz.ntmps22 ?_
  refine wRUN trivial ?_
  refine w7 (op_data [] h1) trivial ?_
  refine wRUN hb ?_
  exact wRetOf (ret_of [] []) Tryz.results22 hb
set_option maxHeartbeats 8000000 in
theorem implFormat_ac (l : List EditD) (hz : ∀ d ∈ l, EditOk d) (h : editsCode l = 0) : AC Tryz.prog 24 [editsA l] (tabM o) (.agg [.c (.int .i64 0), .c (.str (linesS l))]) (tabM o) := by
  obtain ⟨hl, hd⟩ := edits_none h
  have h1 := implEdits_ac l hz (by omega)
  rw [h] at h1
  have hln : (l.map EditD.cs).length = l.length := by simp
  have h0 : linesS (l.take 0) = ByteArray.empty := rfl
  have hne : ((0 : Int) != 0) = false := rfl
  refine wEnter Tryz.func24 Tryz.ntmps24 ?_
  refine wRUN trivial ?_
  refine w7 (op_data [] h1) trivial ?_
  refine wRUN1 hne ?_
  refine a_region ?_
  refine wRUN1 hne ?_
  refine a_region ?_
  (apply (op_zeroBld isBT); (iterate 3 (focus (first | (simp only [go_sem, Nat.reduceEqDiff, Nat.reduceAdd, Nat.reduceSub, Nat.reduceLeDiff, Nat.reduceMul, Nat.reduceBEq, Nat.reduceLT, Int.reduceToNat, reduceCtorEq]; first | done | exact rfl | (and_intros <;> rfl)) | exact rfl | decide)))); (apply (op_newBld 5 isBT); (iterate 4 (focus (first | (simp only [go_sem, Nat.reduceEqDiff, Nat.reduceAdd, Nat.reduceSub, Nat.reduceLeDiff, Nat.reduceMul, Nat.reduceBEq, Nat.reduceLT, Int.reduceToNat, reduceCtorEq]; first | done | exact rfl | (and_intros <;> rfl)) | exact rfl | decide)))); (apply (op_storeBld isBT); (iterate 6 (focus (first | (simp only [go_sem, Nat.reduceEqDiff, Nat.reduceAdd, Nat.reduceSub, Nat.reduceLeDiff, Nat.reduceMul, Nat.reduceBEq, Nat.reduceLT, Int.reduceToNat, reduceCtorEq]; first | done | exact rfl | (and_intros <;> rfl)) | exact rfl | decide))))
  refine wRUN hln ?_
  refine a_loop (κ := Nat) (fun k => ⟨mkS 0 26 [(2, .ptr (2, 0) 0), (4, .ptr (4, 0) 0), (14, editsA l), (15, .c (.int .i64 l.length)), (16, .c (.int .i64 k))],
      [((2, 0), .box [.c (.int .i64 0), .c (.str ByteArray.empty)]), ((4, 0), bldA (linesS (l.take k))), ((8, 0), .blk (tabR o) [])]⟩)
    (fun k => k ≤ l.length) (fun k => l.length - k) 0 (Nat.zero_le _) ?_ ?_
  · exact wSays (Says.of [((2, 0), (2, 0)), ((4, 0), (4, 0)), ((8, 0), (8, 0))] []) h0
  · intro k hk
    have hz1 := linesS_size hd k hk
    by_cases hlt : k < l.length
    · have hdk : decide ((k : Int) < (l.length : Int)) = true := by simpa using hlt
      have hw := wrap_succ (k := k) (by omega)
      have hr : rowsAt (l.map EditD.cs) 3 k = true := by simp [rowsAt, hlt, EditD.cs]
      have hg : (l.map EditD.cs)[k]? = some [.int .i64 l[k].op, .sl (l[k].path.map CellD.cs), .sl (l[k].x.map CellD.cs)] := by simp [hlt, EditD.cs]
      have hc := hd _ (List.getElem_mem hlt)
      have hli := implLine_ac (o := o) hc
      have hsz := lnS_size hc
      have hnx := (linesS_next hlt).symm
      have hwr := writeString_ac (linesS (l.take k)) (lnS l[k]) (by omega)
      rw [hnx] at hwr
      generalize l[k] = d at *
      refine wRUN (j3 hdk hr hg) ?_
      refine w10 (op_reads tab_pin tab_any (8, 0) [] hli) trivial ?_
      refine wCall (op_any_call [((0, 0), (4, 0))] [((0, 0), (4, 0))] hwr) trivial ?_
      refine wRUN hw ?_
      refine ⟨k + 1, by omega, by omega, ?_⟩
      exact wSays (Says.of [((2, 0), (2, 0)), ((4, 0), (4, 0)), ((8, 0), (8, 0))] []) trivial
    · have hdk : decide ((k : Int) < (l.length : Int)) = false := by simpa using hlt
      obtain rfl : k = l.length := by omega
      have hall : l.take l.length = l := List.take_length
      have hst := bldString_ac (linesS l)
      refine wRUN (j2 hdk hall) ?_
      refine wCall (op_any_call [((0, 0), (4, 0))] [] hst) trivial ?_
      refine wRUN trivial ?_
      exact wRetOf (ret_of [((8, 0), (8, 0))] []) Tryz.results24 hdk
set_option maxHeartbeats 8000000 in
theorem specFormat_ac (l : List EditD) (h : editsCode l = 0) : AC Tryz.prog 22 [editsA l] [] (.agg [.c (.int .i64 0), .c (.str (linesS l))]) [] := by
  obtain ⟨hl, hd⟩ := edits_none h
  have h1 := specEdits_ac l (by omega)
  rw [h] at h1
  have hln : (l.map EditD.cs).length = l.length := by simp
  have h0 : linesS (l.take 0) = ByteArray.empty := rfl
  have hne : ((0 : Int) != 0) = false := rfl
  refine wEnter Tryz.func22 Tryz.ntmps22 ?_
  refine wRUN trivial ?_
  refine w7 (op_data [] h1) trivial ?_
  refine wRUN hne ?_
  refine a_loop (κ := Nat) (fun k => ⟨mkS 0 28 [(0, editsA l), (2, .ptr (2, 0) 0), (4, .c (.str (linesS (l.take k)))), (5, .c (.int .i64 k))], [((2, 0), .box [.c (.int .i64 0), .c (.str ByteArray.empty)])]⟩)
    (fun k => k ≤ l.length) (fun k => l.length - k) 0 (Nat.zero_le _) ?_ ?_
  · exact wSays (Says.of [((2, 0), (2, 0))] []) h0
  · intro k hk
    have hz1 := linesS_size hd k hk
    by_cases hlt : k < l.length
    · have hdk : decide ((k : Int) < (l.length : Int)) = true := by simpa using hlt
      have hw := wrap_succ (k := k) (by omega)
      have hr : rowsAt (l.map EditD.cs) 3 k = true := by simp [rowsAt, hlt, EditD.cs]
      have hg : (l.map EditD.cs)[k]? = some [.int .i64 l[k].op, .sl (l[k].path.map CellD.cs), .sl (l[k].x.map CellD.cs)] := by simp [hlt, EditD.cs]
      have hc := hd _ (List.getElem_mem hlt)
      have hli := specLine_ac hc
      have hsz := lnS_size hc
      have hnx := linesS_next hlt
      unfold lnS at hnx hsz
      rw [ByteArray.size_append, one_size] at hsz
      have x1 : (linesS (l.take k)).size + (lineS l[k]).size ≤ 9223372036854775807 := by omega
      have x2 : (linesS (l.take k) ++ lineS l[k]).size + 1 ≤ 9223372036854775807 := by rw [ByteArray.size_append]; omega
      have hnx2 : linesS (l.take k) ++ lineS l[k] ++ bS 10 = linesS (l.take (k + 1)) := by rw [hnx, ByteArray.append_assoc]
      generalize l[k] = d at *
      generalize hv1 : linesS (l.take k) ++ lineS d = v1 at *
      refine wRUN (j4 hln hdk hr hg) ?_
      refine w7 (op_data [] hli) trivial ?_
      refine wRUN (j5 x1 hv1 x2 hnx2 hw) ?_
      refine ⟨k + 1, by omega, by omega, ?_⟩
      exact wSays (Says.of [((2, 0), (2, 0))] []) trivial
    · have hdk : decide ((k : Int) < (l.length : Int)) = false := by simpa using hlt
      obtain rfl : k = l.length := by omega
      have hall : l.take l.length = l := List.take_length
      refine wRUN (j3 hln hdk hall) ?_
      exact wRetOf (ret_of [] []) Tryz.results22 hall
end Go.Proofs.YtfmnoljflcpbgaaGreatDoor
