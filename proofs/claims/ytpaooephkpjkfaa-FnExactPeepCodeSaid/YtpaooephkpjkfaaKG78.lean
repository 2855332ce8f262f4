/- The laws' own functions on CodeResult with instructions: eq, mark, held. -/
import Derived.Test.YtpaooephkpjkfaaKG42
set_option linter.unusedSimpArgs false
set_option linter.unusedVariables false
set_option linter.unnecessarySimpa false
namespace Go.Proofs.Ytpaooephkpjkfaa
open Go.RowKit
set_option maxRecDepth 10000
set_option maxHeartbeats 4000000 in
theorem heldInS_ac (l : List InD) (K : Nat) (hK : K + totI l ≤ 3000000000) (hl : l.length ≤ 1048576) : AC Try.prog 26 [insA (markI K l), .c (.int .i64 K)] [] (.c (.int .i64 ((K + totI l : Nat) : Int))) [] := by
  have hln : ((markI K l).map InD.cs).length = l.length := by rw [List.length_map, markI_len]
  have hml := markI_len l K
  have ht0 : ((K : Nat) : Int) = ((K + totI (l.take 0) : Nat) : Int) := by simp [totI]
  refine wEnter Try.func26 Try.ntmps26 ?_
  refine wRUN trivial ?_
  refine a_loop (κ := Nat) (fun k => ⟨mkS 0 40 [(0, insA (markI K l)), (1, .c (.int .i64 ((K + totI (l.take k) : Nat) : Int))), (5, .c (.int .i64 k))], []⟩)
    (fun k => k ≤ l.length) (fun k => l.length - k) 0 (Nat.zero_le _) ?_ ?_
  · exact wSays (Says.of [] []) ht0
  · intro k hk
    by_cases hlt : k < l.length
    · have hdk : decide ((k : Int) < (l.length : Int)) = true := by simpa using hlt
      have hw := wrap_succ (k := k) (by omega)
      have htk := totI_take l hlt
      have hte := totI_le l (k + 1)
      obtain ⟨M, hM⟩ : ∃ M, M = K + totI (l.take k) := ⟨_, rfl⟩
      have hM1 : K + totI (l.take (k + 1)) = M + 2 + 5 * l[k].val.length := by omega
      have hsp : markI K l = markI K (l.take k) ++ markI M (l[k] :: l.drop (k + 1)) := by
        have h1 := markI_append (l.take k) (l[k] :: l.drop (k + 1)) K
        rw [← List.drop_eq_getElem_cons hlt, List.take_append_drop, ← hM] at h1
        rw [h1, List.drop_eq_getElem_cons hlt]
      have hat : (markI K l)[k]'(by rw [hml]; exact hlt) = ⟨M, (M + 1 : Nat), marks (M + 2) l[k].val.length⟩ := by
        have hl2 : (markI K (l.take k)).length = k := by rw [markI_len, List.length_take]; omega
        have h3 : (markI K l)[k]? = some ⟨M, (M + 1 : Nat), marks (M + 2) l[k].val.length⟩ := by
          rw [hsp, List.getElem?_append_right (by omega), hl2, Nat.sub_self]
          rfl
        exact (List.getElem?_eq_some_iff.1 h3).2
      obtain ⟨hr0, hg0⟩ := ins_row (l := markI K l) (k := k) (by rw [hml]; exact hlt)
      rw [hat] at hg0
      dsimp only at hg0
      rw [← hM]
      have w1 : IntKind.i64.wrap ((M : Int) + 1) = ((M + 1 : Nat) : Int) := by rw [IntWalk.i64_in _ (by omega)]; omega
      have w2 : IntKind.i64.wrap (((M + 1 : Nat) : Int) + 1) = ((M + 2 : Nat) : Int) := by rw [IntWalk.i64_in _ (by omega)]; omega
      have hc1 := heldCellS_ac l[k].val.length (M + 2) (by omega)
      have hne : ((M : Int) != (M : Int)) = false := by simp
      have hne2 : (((M + 1 : Nat) : Int) != ((M + 1 : Nat) : Int)) = false := by simp
      have hn1 : decide (((M + 2 + 5 * l[k].val.length : Nat) : Int) < 0) = false := by simp; omega
      generalize l[k] = d at *
      refine wRUN (j8 hln hdk hr0 hg0 hne w1 hne2 w2) ?_
      refine w7 (op_data [] hc1) trivial ?_
      refine wRUN (j2 hn1 hw) ?_
      refine ⟨k + 1, by omega, by omega, ?_⟩
      exact wSays (Says.of [] []) hM1
    · have hdk : decide ((k : Int) < (l.length : Int)) = false := by simpa using hlt
      have hke : l.take k = l := List.take_of_length_le (by omega)
      rw [hke]
      refine wRUN (j2 hln hdk) ?_
      exact wRet (ret_data []) Try.results26
theorem eqCodeIns_ac (c at1 regs : Int) (l : List InD) (hl : l.length ≤ 1048576) (hx : ∀ d ∈ l, d.val.length ≤ 9223372036854775807) : AC Try.prog 8 [.agg [.c (.int .i64 c), .c (.int .i64 at1), .c (.sl (l.map InD.cs)), .c (.int .i64 regs)], .agg [.c (.int .i64 c), .c (.int .i64 at1), .c (.sl (l.map InD.cs)), .c (.int .i64 regs)]] [] (.c (.bool true)) [] := by
  have hne : (c != c) = false := by simp
  have hna : (at1 != at1) = false := by simp
  have hnr : (regs != regs) = false := by simp
  have he := eqInS_ac l hl hx
  refine wEnter Try.func8 Try.ntmps8 ?_
  refine wRUN (j2 hne hna) ?_
  refine w7 (op_data [] he) trivial ?_
  refine wRUN hnr ?_
  exact wRet (ret_data []) Try.results8
theorem heldCodeIns_ac (c at1 regs : Int) (l : List InD) (K : Nat) (hK : K + totI l ≤ 3000000000) (hl : l.length ≤ 1048576) : AC Try.prog 12 [.agg [.c (.int .i64 c), .c (.int .i64 at1), .c (.sl ((markI K l).map InD.cs)), .c (.int .i64 regs)], .c (.int .i64 K)] [] (.c (.int .i64 ((K + totI l : Nat) : Int))) [] := by
  have he := heldInS_ac l K hK hl
  have hn0 : decide (((K + totI l : Nat) : Int) < 0) = false := by simp; omega
  refine wEnter Try.func12 Try.ntmps12 ?_
  refine wRUN trivial ?_
  refine w7 (op_data [] he) trivial ?_
  refine wRUN hn0 ?_
  exact wRet (ret_data []) Try.results12
theorem markCodeIns_ac (c at1 regs : Int) (l : List InD) (K : Nat) (e : TypeId) (hK : K + totI l ≤ 3000000000) (hl : l.length ≤ 1048576) :
    AC Try.prog 11 [.agg [.c (.int .i64 c), .c (.int .i64 at1), .own (0, 0), .c (.int .i64 regs)], .c (.int .i64 K)] [((0, 0), .row true 3 e (l.map InD.os))] (.c (.int .i64 ((K + totI l : Nat) : Int))) [((0, 0), .row true 3 e ((markI K l).map InD.os))] := by
  have he := markInS_ac l K e hK hl
  refine wEnter Try.func11 Try.ntmps11 ?_
  refine wRUN trivial ?_
  refine w9 (op_own (0, 0) he) trivial ?_
  refine wRUN trivial ?_
  exact wRetOf (ret_of [((0, 0), (0, 0))] []) Try.results11 hl
end Go.Proofs.Ytpaooephkpjkfaa
