/- The laws' own functions on EditsResult, of edits some of which have no value: eq, mark, held. -/
import Derived.Test.YtioaieacogoemaaGreatKG55uGE
import Derived.Test.YtioaieacogoemaaGreatKG73
import Derived.Test.YtioaieacogoemaaGreatKE32
import Derived.Test.YtioaieacogoemaaGreatKG16uG48
set_option linter.unusedSimpArgs false
set_option linter.unusedVariables false
set_option linter.unnecessarySimpa false
namespace Go.Proofs.YtioaieacogoemaaGreat
open Go.RowKit
set_option maxRecDepth 10000
theorem ownC_pos {l : List CellD} (h : l ≠ []) : ownC l = .osl (l.map CellD.cs) := by
  cases l with
  | nil => exact absurd rfl h
  | cons x r => rfl
theorem ownC_closed (l : List CellD) : (ownC l).closed = true := by
  unfold ownC
  cases l with
  | nil => rfl
  | cons x r => simp only [C.closed, closed_cells]
theorem closed_ox (l : List EditD) : closedLL (l.map EditD.ox) = true := by
  induction l with
  | nil => rfl
  | cons d l ih => simp only [List.map_cons, closedLL, ih, EditD.ox, closedL, ownC_closed, C.closed, closed_cells, Bool.and_self]
attribute [go_sem] closed_ox
theorem marks_none (K : Nat) : marks K 0 = [] := rfl
theorem markCellS_none (K : Nat) : AC Tryz.prog 13 [.c (.sl []), .c (.int .i64 K)] [] (.c (.int .i64 K)) [] := by
  have hd : decide ((0 : Int) < ((0 : Nat) : Int)) = false := rfl
  refine wEnter Tryz.func13 Tryz.ntmps13 ?_
  refine wRUN trivial ?_
  refine a_loop (κ := Nat) (fun k => ⟨mkS 0 50 [(0, .c (.sl [])), (1, .c (.int .i64 K)), (5, .c (.int .i64 0))], []⟩)
    (fun _ => True) (fun k => k) 0 trivial ?_ ?_
  · exact wSays (Says.of [] []) hd
  · intro k hk
    refine wRUN hd ?_
    exact wRet (ret_data []) Tryz.results13
/-- The row when so many are marked. -/
def partX (K : Nat) (l : List EditD) (k : Nat) : List (List C) := (markE K (l.take k) ++ l.drop k).map EditD.ox
theorem partX_len (K : Nat) (l : List EditD) (k : Nat) : (partX K l k).length = l.length := by
  unfold partX
  rw [List.length_map, List.length_append, markE_len, List.length_take, List.length_drop]
  omega
theorem partX_at (K : Nat) (l : List EditD) {k : Nat} (h : k < l.length) : (partX K l k)[k]? = some [.int .i64 l[k].op, .osl (l[k].path.map CellD.cs), ownC l[k].x] := by
  unfold partX
  have hl : (markE K (l.take k)).length = k := by rw [markE_len, List.length_take]; omega
  rw [List.getElem?_map, List.getElem?_append_right (by omega), hl, Nat.sub_self, List.getElem?_drop, Nat.add_zero, List.getElem?_eq_getElem h]
  rfl
theorem partX_set (K : Nat) (l : List EditD) {k : Nat} (h : k < l.length) : (partX K l k).set k [.int .i64 ((K + totE (l.take k) : Nat) : Int), .osl ((marks (K + totE (l.take k) + 1) l[k].path.length).map CellD.cs), ownC (marks (K + totE (l.take k) + 1 + 5 * l[k].path.length) l[k].x.length)] = partX K l (k + 1) := by
  unfold partX
  have hl : (markE K (l.take k)).length = k := by rw [markE_len, List.length_take]; omega
  rw [List.map_append, List.set_append_right _ _ (by rw [List.length_map]; omega), List.length_map, hl, Nat.sub_self, List.drop_eq_getElem_cons h, List.map_cons, List.set_cons_zero,
    List.take_succ_eq_append_getElem h, markE_append, List.map_append, List.map_append, List.append_assoc]
  rfl
set_option maxHeartbeats 8000000 in
theorem markEditX_ac (l : List EditD) (K : Nat) (e : TypeId) (hK : K + totE l ≤ 3000000000) (hl9 : l.length ≤ 1048576) :
    AC Tryz.prog 22 [.own (0, 0), .c (.int .i64 K)] [((0, 0), .row true 3 e (l.map EditD.ox))] (.c (.int .i64 ((K + totE l : Nat) : Int))) [((0, 0), .row true 3 e ((markE K l).map EditD.ox))] := by
  have hs0 : l.map EditD.ox = partX K l 0 := by simp [partX, markE]
  have ht0 : ((K : Nat) : Int) = ((K + totE (l.take 0) : Nat) : Int) := by simp [totE]
  refine wEnter Tryz.func22 Tryz.ntmps22 ?_
  refine wRUN trivial ?_
  refine a_loop (κ := Nat) (fun k => ⟨mkS 0 34 [(0, .own (0, 0)), (1, .c (.int .i64 ((K + totE (l.take k) : Nat) : Int))), (5, .c (.int .i64 k))], [((0, 0), .row true 3 e (partX K l k))]⟩)
    (fun k => k ≤ l.length) (fun k => l.length - k) 0 (Nat.zero_le _) ?_ ?_
  · exact wSays (Says.of [((0, 0), (0, 0))] []) (j2 hs0 ht0)
  · intro k hk
    have hpl := partX_len K l k
    by_cases hlt : k < l.length
    · have hdk : decide ((k : Int) < (l.length : Int)) = true := by simpa using hlt
      have hw := wrap_succ (k := k) (by omega)
      have htk := totE_take l hlt
      have hte := totE_le l (k + 1)
      obtain ⟨M, hM⟩ : ∃ M, M = K + totE (l.take k) := ⟨_, rfl⟩
      have hM1 : K + totE (l.take (k + 1)) = M + 1 + 5 * l[k].path.length + 5 * l[k].x.length := by omega
      have hset := partX_set K l hlt
      have h0 := partX_at K l hlt
      rw [← hM] at hset
      rw [← hM]
      have hr0 : rowsAt (partX K l k) 3 k = true := by unfold rowsAt; rw [show ((k : Nat) : Int).toNat = k from rfl, h0]; simp
      have hkl : k < (partX K l k).length := by rw [hpl]; exact hlt
      have w1 : IntKind.i64.wrap ((M : Int) + 1) = ((M + 1 : Nat) : Int) := by rw [IntWalk.i64_in _ (by omega)]; omega
      have hmk := markCellS_ac l[k].path (M + 1)
      have hmk2 := markCellS_ac l[k].x (M + 1 + 5 * l[k].path.length)
      have hpn := plain_cells l[k].path
      have hpn2 := plain_cells l[k].x
      have h5 := five_cells l[k].path
      have h52 := five_cells l[k].x
      generalize hR3 : partX K l (k + 1) = R3 at *
      generalize partX K l k = R0 at *
      obtain ⟨R1, hR1⟩ : ∃ R1, R0.set k [.int .i64 (M : Int), .osl (l[k].path.map CellD.cs), ownC l[k].x] = R1 := ⟨_, rfl⟩
      have h1 : R1[k]? = some [.int .i64 (M : Int), .osl (l[k].path.map CellD.cs), ownC l[k].x] := by rw [← hR1, List.getElem?_set_self hkl]
      have hr1 : rowsAt R1 3 k = true := by unfold rowsAt; rw [show ((k : Nat) : Int).toNat = k from rfl, h1]; simp
      have hl1 : R1.length = R0.length := by rw [← hR1, List.length_set]
      obtain ⟨R2, hR2⟩ : ∃ R2, R1.set k [.int .i64 (M : Int), .osl ((marks (M + 1) l[k].path.length).map CellD.cs), ownC l[k].x] = R2 := ⟨_, rfl⟩
      have h2 : R2[k]? = some [.int .i64 (M : Int), .osl ((marks (M + 1) l[k].path.length).map CellD.cs), ownC l[k].x] := by rw [← hR2, List.getElem?_set_self (by omega)]
      have hr2 : rowsAt R2 3 k = true := by unfold rowsAt; rw [show ((k : Nat) : Int).toNat = k from rfl, h2]; simp
      have hset' : R2.set k [.int .i64 (M : Int), .osl ((marks (M + 1) l[k].path.length).map CellD.cs), ownC (marks (M + 1 + 5 * l[k].path.length) l[k].x.length)] = R3 := by rw [← hR2, ← hR1, List.set_set, List.set_set]; exact hset
      generalize hd : l[k] = d at *
      obtain ⟨op, path, x⟩ := d
      dsimp only at *
      cases x with
      | nil =>
        have hn0 := markCellS_none (M + 1 + 5 * path.length)
        have hM2 : M + 1 + 5 * path.length + 5 * 0 = M + 1 + 5 * path.length := rfl
        simp only [List.length_nil, marks_none, ownC, Nat.mul_zero, Nat.add_zero] at *
        rw [← hR2, List.set_set, hR2] at hset'
        subst hset'
        refine wRUN (j3 hpl hdk hr0) ?_
        ((with_reducible apply op_store); (iterate 11 (focus (first | (simp only [go_sem, Nat.reduceEqDiff, Nat.reduceAdd, Nat.reduceSub, Nat.reduceLeDiff, Nat.reduceMul, Nat.reduceBEq, Nat.reduceLT, Int.reduceToNat, reduceCtorEq, h0, C.plain, List.set_cons_zero, hR1]; first | done | exact rfl | (and_intros <;> rfl)) | exact rfl | decide))))
        refine wRUN (j2 w1 hr1) ?_
        ((with_reducible apply op_take); (iterate 11 (focus (first | (simp only [go_sem, Nat.reduceEqDiff, Nat.reduceAdd, Nat.reduceSub, Nat.reduceLeDiff, Nat.reduceMul, Nat.reduceBEq, Nat.reduceLT, Int.reduceToNat, reduceCtorEq, h1, hpn]; first | done | exact rfl | (and_intros <;> rfl)) | exact rfl | decide))))
        refine wRUN trivial ?_
        (apply (op_nest (0, 0) (23, 0) 5 (fun es' e' h => hmk es' e' (fun hx => h (by intro hh; exact hx (by simpa using hh))) (by omega))); (iterate 4 (focus (first | (simp only [go_sem, Nat.reduceEqDiff, Nat.reduceAdd, Nat.reduceSub, Nat.reduceLeDiff, Nat.reduceMul, Nat.reduceBEq, Nat.reduceLT, Int.reduceToNat, reduceCtorEq, h1, h5, hR2, List.set_cons_zero, List.set_cons_succ]; first | done | exact rfl | (and_intros <;> rfl)) | exact rfl | decide))); (focus (first | (intro _ _; exact rfl) | (intro _ _; simp only [go_sem, Nat.reduceEqDiff, Nat.reduceAdd, Nat.reduceSub, Nat.reduceLeDiff, Nat.reduceMul, Nat.reduceBEq, Nat.reduceLT, Int.reduceToNat, reduceCtorEq, h1, h5, hR2, List.set_cons_zero, List.set_cons_succ]; done))); (iterate 7 (focus (first | (simp only [go_sem, Nat.reduceEqDiff, Nat.reduceAdd, Nat.reduceSub, Nat.reduceLeDiff, Nat.reduceMul, Nat.reduceBEq, Nat.reduceLT, Int.reduceToNat, reduceCtorEq, h1, h5, hR2, List.set_cons_zero, List.set_cons_succ]; first | done | exact rfl | (and_intros <;> rfl)) | exact rfl | decide))))
        refine wRUN hr2 ?_
        ((with_reducible apply op_peek); (iterate 9 (focus (first | (simp only [go_sem, Nat.reduceEqDiff, Nat.reduceAdd, Nat.reduceSub, Nat.reduceLeDiff, Nat.reduceMul, Nat.reduceBEq, Nat.reduceLT, Int.reduceToNat, reduceCtorEq, h2]; first | done | exact rfl | (and_intros <;> rfl)) | exact rfl | decide))))
        refine wRUN trivial ?_
        refine w7 (op_data [] hn0) trivial ?_
        refine wRUN hw ?_
        refine ⟨k + 1, by omega, by omega, ?_⟩
        exact wSays (Says.of [((0, 0), (0, 0))] []) (j2 hM1 hR3)
      | cons y r =>
        have e1 : ownC (y :: r) = .osl ((y :: r).map CellD.cs) := rfl
        have e2 : ownC (marks (M + 1 + 5 * path.length) (y :: r).length) = .osl ((marks (M + 1 + 5 * path.length) (y :: r).length).map CellD.cs) := ownC_pos fun h => by have := congrArg List.length h; simp [marks] at this
        rw [e1] at h0 hR1 h1 hR2 h2
        rw [e2] at hset'
        generalize y :: r = x at *
        refine wRUN (j3 hpl hdk hr0) ?_
        ((with_reducible apply op_store); (iterate 11 (focus (first | (simp only [go_sem, Nat.reduceEqDiff, Nat.reduceAdd, Nat.reduceSub, Nat.reduceLeDiff, Nat.reduceMul, Nat.reduceBEq, Nat.reduceLT, Int.reduceToNat, reduceCtorEq, h0, C.plain, List.set_cons_zero, hR1]; first | done | exact rfl | (and_intros <;> rfl)) | exact rfl | decide))))
        refine wRUN (j2 w1 hr1) ?_
        ((with_reducible apply op_take); (iterate 11 (focus (first | (simp only [go_sem, Nat.reduceEqDiff, Nat.reduceAdd, Nat.reduceSub, Nat.reduceLeDiff, Nat.reduceMul, Nat.reduceBEq, Nat.reduceLT, Int.reduceToNat, reduceCtorEq, h1, hpn]; first | done | exact rfl | (and_intros <;> rfl)) | exact rfl | decide))))
        refine wRUN trivial ?_
        (apply (op_nest (0, 0) (23, 0) 5 (fun es' e' h => hmk es' e' (fun hx => h (by intro hh; exact hx (by simpa using hh))) (by omega))); (iterate 4 (focus (first | (simp only [go_sem, Nat.reduceEqDiff, Nat.reduceAdd, Nat.reduceSub, Nat.reduceLeDiff, Nat.reduceMul, Nat.reduceBEq, Nat.reduceLT, Int.reduceToNat, reduceCtorEq, h1, h5, hR2, List.set_cons_zero, List.set_cons_succ]; first | done | exact rfl | (and_intros <;> rfl)) | exact rfl | decide))); (focus (first | (intro _ _; exact rfl) | (intro _ _; simp only [go_sem, Nat.reduceEqDiff, Nat.reduceAdd, Nat.reduceSub, Nat.reduceLeDiff, Nat.reduceMul, Nat.reduceBEq, Nat.reduceLT, Int.reduceToNat, reduceCtorEq, h1, h5, hR2, List.set_cons_zero, List.set_cons_succ]; done))); (iterate 7 (focus (first | (simp only [go_sem, Nat.reduceEqDiff, Nat.reduceAdd, Nat.reduceSub, Nat.reduceLeDiff, Nat.reduceMul, Nat.reduceBEq, Nat.reduceLT, Int.reduceToNat, reduceCtorEq, h1, h5, hR2, List.set_cons_zero, List.set_cons_succ]; first | done | exact rfl | (and_intros <;> rfl)) | exact rfl | decide))))
        refine wRUN hr2 ?_
        ((with_reducible apply op_take); (iterate 11 (focus (first | (simp only [go_sem, Nat.reduceEqDiff, Nat.reduceAdd, Nat.reduceSub, Nat.reduceLeDiff, Nat.reduceMul, Nat.reduceBEq, Nat.reduceLT, Int.reduceToNat, reduceCtorEq, h2, hpn2]; first | done | exact rfl | (and_intros <;> rfl)) | exact rfl | decide))))
        refine wRUN trivial ?_
        (apply (op_nest (0, 0) (30, 0) 5 (fun es' e' h => hmk2 es' e' (fun hx => h (by intro hh; exact hx (by simpa using hh))) (by omega))); (iterate 4 (focus (first | (simp only [go_sem, Nat.reduceEqDiff, Nat.reduceAdd, Nat.reduceSub, Nat.reduceLeDiff, Nat.reduceMul, Nat.reduceBEq, Nat.reduceLT, Int.reduceToNat, reduceCtorEq, h2, h52, hset', List.set_cons_zero, List.set_cons_succ]; first | done | exact rfl | (and_intros <;> rfl)) | exact rfl | decide))); (focus (first | (intro _ _; exact rfl) | (intro _ _; simp only [go_sem, Nat.reduceEqDiff, Nat.reduceAdd, Nat.reduceSub, Nat.reduceLeDiff, Nat.reduceMul, Nat.reduceBEq, Nat.reduceLT, Int.reduceToNat, reduceCtorEq, h2, h52, hset', List.set_cons_zero, List.set_cons_succ]; done))); (iterate 7 (focus (first | (simp only [go_sem, Nat.reduceEqDiff, Nat.reduceAdd, Nat.reduceSub, Nat.reduceLeDiff, Nat.reduceMul, Nat.reduceBEq, Nat.reduceLT, Int.reduceToNat, reduceCtorEq, h2, h52, hset', List.set_cons_zero, List.set_cons_succ]; first | done | exact rfl | (and_intros <;> rfl)) | exact rfl | decide))))
        refine wRUN hw ?_
        refine ⟨k + 1, by omega, by omega, ?_⟩
        exact wSays (Says.of [((0, 0), (0, 0))] []) (j2 hM1 hR3)
    · have hdk : decide ((k : Int) < (l.length : Int)) = false := by simpa using hlt
      have hke : k = l.length := by omega
      subst hke
      have hfin : partX K l l.length = (markE K l).map EditD.ox := by simp [partX]
      have htk : l.take l.length = l := by simp
      rw [hfin, htk]
      rw [hfin] at hpl
      refine wRUN (j2 hpl hdk) ?_
      exact wRetOf (ret_of [((0, 0), (0, 0))] []) Tryz.results22 hdk
set_option maxHeartbeats 4000000 in
theorem heldEditS_ac (l : List EditD) (K : Nat) (hK : K + totE l ≤ 3000000000) (hl : l.length ≤ 1048576) : AC Tryz.prog 57 [editsA (markE K l), .c (.int .i64 K)] [] (.c (.int .i64 ((K + totE l : Nat) : Int))) [] := by
  have hln : ((markE K l).map EditD.cs).length = l.length := by rw [List.length_map, markE_len]
  have hml := markE_len l K
  have ht0 : ((K : Nat) : Int) = ((K + totE (l.take 0) : Nat) : Int) := by simp [totE]
  refine wEnter Tryz.func57 Tryz.ntmps57 ?_
  refine wRUN trivial ?_
  refine a_loop (κ := Nat) (fun k => ⟨mkS 0 40 [(0, editsA (markE K l)), (1, .c (.int .i64 ((K + totE (l.take k) : Nat) : Int))), (5, .c (.int .i64 k))], []⟩)
    (fun k => k ≤ l.length) (fun k => l.length - k) 0 (Nat.zero_le _) ?_ ?_
  · exact wSays (Says.of [] []) ht0
  · intro k hk
    by_cases hlt : k < l.length
    · have hdk : decide ((k : Int) < (l.length : Int)) = true := by simpa using hlt
      have hw := wrap_succ (k := k) (by omega)
      have htk := totE_take l hlt
      have hte := totE_le l (k + 1)
      obtain ⟨M, hM⟩ : ∃ M, M = K + totE (l.take k) := ⟨_, rfl⟩
      have hM1 : K + totE (l.take (k + 1)) = M + 1 + 5 * l[k].path.length + 5 * l[k].x.length := by omega
      have hat : (markE K l)[k]'(by rw [hml]; exact hlt) = ⟨M, marks (M + 1) l[k].path.length, marks (M + 1 + 5 * l[k].path.length) l[k].x.length⟩ := by
        have hsp : l = l.take k ++ l[k] :: l.drop (k + 1) := by rw [← List.drop_eq_getElem_cons hlt, List.take_append_drop]
        have hmm : markE K l = markE K (l.take k) ++ markE M (l[k] :: l.drop (k + 1)) := by conv => lhs; rw [hsp]
                                                                                            rw [markE_append, ← hM]
        have hl2 : (markE K (l.take k)).length = k := by rw [markE_len, List.length_take]; omega
        have h3 : (markE K l)[k]? = some ⟨M, marks (M + 1) l[k].path.length, marks (M + 1 + 5 * l[k].path.length) l[k].x.length⟩ := by
          rw [hmm, List.getElem?_append_right (by omega), hl2, Nat.sub_self]
          rfl
        exact (List.getElem?_eq_some_iff.1 h3).2
      obtain ⟨hr0, hg0⟩ := edit_row (markE K l) (k := k) (by rw [hml]; exact hlt)
      rw [hat] at hg0
      dsimp only at hg0
      rw [← hM]
      have w1 : IntKind.i64.wrap ((M : Int) + 1) = ((M + 1 : Nat) : Int) := by rw [IntWalk.i64_in _ (by omega)]; omega
      have hc1 := heldCellS_ac l[k].path.length (M + 1) (by omega)
      have hc2 := heldCellS_ac l[k].x.length (M + 1 + 5 * l[k].path.length) (by omega)
      have hne : ((M : Int) != (M : Int)) = false := by simp
      have hn1 : decide (((M + 1 + 5 * l[k].path.length : Nat) : Int) < 0) = false := by simp; omega
      have hn2 : decide (((M + 1 + 5 * l[k].path.length + 5 * l[k].x.length : Nat) : Int) < 0) = false := by simp; omega
      generalize l[k] = d at *
      refine wRUN (j6 hln hdk hr0 hg0 hne w1) ?_
      refine w7 (op_data [] hc1) trivial ?_
      refine wRUN (j3 hn1 hr0 hg0) ?_
      refine w7 (op_data [] hc2) trivial ?_
      refine wRUN (j2 hn2 hw) ?_
      refine ⟨k + 1, by omega, by omega, ?_⟩
      exact wSays (Says.of [] []) hM1
    · have hdk : decide ((k : Int) < (l.length : Int)) = false := by simpa using hlt
      have hke : l.take k = l := List.take_of_length_le (by omega)
      rw [hke]
      refine wRUN (j2 hln hdk) ?_
      exact wRet (ret_data []) Tryz.results57
theorem eqEditsResult_ac (c at1 : Int) (l : List EditD) (hl : l.length ≤ 1048576) (hx : ∀ d ∈ l, d.path.length ≤ 9223372036854775807 ∧ d.x.length ≤ 9223372036854775807) : AC Tryz.prog 27 [.agg [.c (.int .i64 c), .c (.int .i64 at1), .c (.sl (l.map EditD.cs))], .agg [.c (.int .i64 c), .c (.int .i64 at1), .c (.sl (l.map EditD.cs))]] [] (.c (.bool true)) [] := by
  have hne : (c != c) = false := by simp
  have hna : (at1 != at1) = false := by simp
  have he := eqEditS_ac l hl hx
  refine wEnter Tryz.func27 Tryz.ntmps27 ?_
  refine wRUN (j2 hne hna) ?_
  refine w7 (op_data [] he) trivial ?_
  refine wRUN trivial ?_
  exact wRet (ret_data []) Tryz.results27
theorem heldEditsResult_ac (c at1 : Int) (l : List EditD) (K : Nat) (hK : K + totE l ≤ 3000000000) (hl : l.length ≤ 1048576) : AC Tryz.prog 29 [.agg [.c (.int .i64 c), .c (.int .i64 at1), .c (.sl ((markE K l).map EditD.cs))], .c (.int .i64 K)] [] (.c (.int .i64 ((K + totE l : Nat) : Int))) [] := by
  have he := heldEditS_ac l K hK hl
  have hn0 : decide (((K + totE l : Nat) : Int) < 0) = false := by simp; omega
  refine wEnter Tryz.func29 Tryz.ntmps29 ?_
  refine wRUN trivial ?_
  refine w7 (op_data [] he) trivial ?_
  refine wRUN hn0 ?_
  exact wRet (ret_data []) Tryz.results29
theorem markEditsResult_ac (c at1 : Int) (l : List EditD) (K : Nat) (e : TypeId) (hK : K + totE l ≤ 3000000000) (hl : l.length ≤ 1048576) :
    AC Tryz.prog 28 [.agg [.c (.int .i64 c), .c (.int .i64 at1), .own (0, 0)], .c (.int .i64 K)] [((0, 0), .row true 3 e (l.map EditD.ox))] (.c (.int .i64 ((K + totE l : Nat) : Int))) [((0, 0), .row true 3 e ((markE K l).map EditD.ox))] := by
  have he := markEditX_ac l K e hK hl
  refine wEnter Tryz.func28 Tryz.ntmps28 ?_
  refine wRUN trivial ?_
  refine w9 (op_own (0, 0) he) trivial ?_
  refine wRUN trivial ?_
  exact wRetOf (ret_of [((0, 0), (0, 0))] []) Tryz.results28 hl
theorem heldEditsResult_nil (c at1 : Int) (K : Nat) (hK : K ≤ 3000000000) : AC Tryz.prog 29 [.agg [.c (.int .i64 c), .c (.int .i64 at1), .nils], .c (.int .i64 K)] [] (.c (.int .i64 K)) [] := by
  have he := heldEditS_ac [] K (by simp [totE]; omega) (by simp)
  rw [show ((K + totE [] : Nat) : Int) = (K : Int) from rfl] at he
  have hn0 : decide ((K : Int) < 0) = false := by simp
  refine wEnter Tryz.func29 Tryz.ntmps29 ?_
  refine wRUN trivial ?_
  (apply (op_data [] he); (iterate 7 (focus (first | (simp only [go_sem, Nat.reduceEqDiff, Nat.reduceAdd, Nat.reduceSub, Nat.reduceLeDiff, Nat.reduceMul, Nat.reduceBEq, Nat.reduceLT, Int.reduceToNat, reduceCtorEq, List.map_nil, markE]; first | done | exact rfl | (and_intros <;> rfl)) | exact rfl | decide))))
  refine wRUN hn0 ?_
  exact wRet (ret_data []) Tryz.results29
theorem markEditS_nil (K : Nat) : AC Tryz.prog 22 [.nils, .c (.int .i64 K)] [] (.c (.int .i64 K)) [] := by
  have hd : decide ((0 : Int) < 0) = false := rfl
  refine wEnter Tryz.func22 Tryz.ntmps22 ?_
  refine wRUN trivial ?_
  refine a_loop (κ := Nat) (fun k => ⟨mkS 0 34 [(0, .nils), (1, .c (.int .i64 K)), (5, .c (.int .i64 0))], []⟩)
    (fun _ => True) (fun k => k) 0 trivial ?_ ?_
  · exact wSays (Says.of [] []) hd
  · intro k hk
    refine wRUN hd ?_
    exact wRet (ret_data []) Tryz.results22
theorem markEditsResult_nil (c at1 : Int) (K : Nat) : AC Tryz.prog 28 [.agg [.c (.int .i64 c), .c (.int .i64 at1), .nils], .c (.int .i64 K)] [] (.c (.int .i64 K)) [] := by
  have he := markEditS_nil K
  refine wEnter Tryz.func28 Tryz.ntmps28 ?_
  refine wRUN trivial ?_
  refine w7 (op_data [] he) trivial ?_
  refine wRUN trivial ?_
  exact wRet (ret_data []) Tryz.results28
end Go.Proofs.YtioaieacogoemaaGreat
