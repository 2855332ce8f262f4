/- TargetsOf on both sides, by the engine. -/
import Derived.Test.YtpaooephkpjkfaaKH11
import Derived.Test.YtpaooephkpjkfaaKG44
set_option linter.unusedSimpArgs false
set_option linter.unusedVariables false
set_option linter.unnecessarySimpa false
namespace Go.Proofs.Ytpaooephkpjkfaa
open Go.RowKit
set_option maxRecDepth 10000
set_option maxHeartbeats 4000000 in
theorem targets_ac (l : List InD) (hn : l.length ≤ 6000) (hj : jumpsOn l) : AC Try.prog 19 [insA l] [] (.own (0, 0)) [((0, 0), .row false 1 2 ((tgts l l.length).map intCs))] := by
  have hln : (l.map InD.cs).length = l.length := by simp
  have hjl := jargs_len l
  have hso := sortNums_ac (jargs l) (by omega)
  have hco := compactNums_ac (sortN (jargs l)) (by rw [sortN_len]; omega)
  rw [targets_eq hj] at hco
  have hz : (jargs (l.take 0)).map intCs = [] := rfl
  refine wEnter Try.func19 Try.ntmps19 ?_
  refine wRUN hln ?_
  refine a_loop (κ := Nat) (fun k => ⟨mkS 0 25 [(3, .own (99, 0)), (7, insA l), (8, .c (.int .i64 l.length)), (9, .c (.int .i64 k))], [((99, 0), .row false 1 2 ((jargs (l.take k)).map intCs))]⟩)
    (fun k => k ≤ l.length) (fun k => l.length - k) 0 (Nat.zero_le _) ?_ ?_
  · exact wSays (Says.of [((99, 0), (6, 0))] []) hz
  · intro k hk
    by_cases hlt : k < l.length
    · have hdk : decide ((k : Int) < (l.length : Int)) = true := by simpa using hlt
      have hw := wrap_succ (k := k) (by omega)
      obtain ⟨hr0, hg0⟩ := ins_row hlt
      have hp := hasPlace_ac l[k]
      have hjt := jargs_take hlt
      have hol : (jargs (l.take k)).length + 1 ≤ 1000000 := by have := jargs_len (l.take k); rw [List.length_take] at this; omega
      generalize l[k] = d at *
      cases hb : inPlace d.op with
      | true =>
        rw [hb] at hp hjt
        rw [if_pos rfl] at hjt
        have hrow : (jargs (l.take k)).map intCs ++ [[.int .i64 d.arg]] = (jargs (l.take (k + 1))).map intCs := by rw [hjt, List.map_append]; rfl
        refine wRUN (j3 hdk hr0 hg0) ?_
        refine w7 (op_data [] hp) trivial ?_
        refine wRUN (j2 hol hw) ?_
        refine ⟨k + 1, by omega, by omega, ?_⟩
        exact wSays (Says.of [((99, 0), (19, 0))] []) hrow
      | false =>
        rw [hb] at hp hjt
        rw [if_neg (by simp), List.append_nil] at hjt
        refine wRUN (j3 hdk hr0 hg0) ?_
        refine w7 (op_data [] hp) trivial ?_
        refine wRUN hw ?_
        refine ⟨k + 1, by omega, by omega, ?_⟩
        exact wSays (Says.of [((99, 0), (99, 0))] []) hjt
    · have hdk : decide ((k : Int) < (l.length : Int)) = false := by simpa using hlt
      have hke : l.take k = l := List.take_of_length_le (by omega)
      rw [hke]
      refine wRUN hdk ?_
      refine w9 (op_own (99, 0) hso) trivial ?_
      refine wRUN trivial ?_
      refine w10 (op_cons (99, 0) hco) trivial ?_
      refine wRUN trivial ?_
      exact wRetOf (ret_of [((0, 0), (24, 0))] []) Try.results19 hln
theorem isT_drop (l : List InD) (a : Int) {i : Nat} (h : i < l.length) : (l.drop i).any (fun d => inPlace d.op && d.arg == a) = ((inPlace l[i].op && l[i].arg == a) || (l.drop (i + 1)).any (fun d => inPlace d.op && d.arg == a)) := by
  rw [List.drop_eq_getElem_cons h]
  rfl
end Go.Proofs.Ytpaooephkpjkfaa
