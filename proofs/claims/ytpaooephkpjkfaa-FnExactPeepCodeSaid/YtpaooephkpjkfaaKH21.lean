/- spec.l10Target, spec.PeepCode, by the engine. -/
import Derived.Test.YtpaooephkpjkfaaKH20
set_option linter.unusedSimpArgs false
set_option linter.unusedVariables false
set_option linter.unnecessarySimpa false
namespace Go.Proofs.Ytpaooephkpjkfaa
open Go.RowKit
set_option maxRecDepth 10000
set_option maxHeartbeats 4000000 in
theorem l10Target_ac (l : List InD) (at1 : Int) (hl : l.length ≤ 6000) : AC Try.prog 15 [insA l, .c (.int .i64 at1)] [] (.c (.bool (isT l at1))) [] := by
  have hln : (l.map InD.cs).length = l.length := by simp
  obtain ⟨q, hq⟩ : ∃ q, isT l at1 = q := ⟨_, rfl⟩
  rw [hq]
  refine wEnter Try.func15 Try.ntmps15 ?_
  refine wRUN trivial ?_
  refine a_loop (κ := Nat) (fun i => ⟨mkS 0 27 [(0, insA l), (1, .c (.int .i64 at1)), (5, .c (.int .i64 i))], []⟩)
    (fun i => i ≤ l.length ∧ (l.drop i).any (fun d => inPlace d.op && d.arg == at1) = q) (fun i => l.length - i) 0 ⟨Nat.zero_le _, hq⟩ ?_ ?_
  · exact wSays (Says.of [] []) hl
  · rintro i ⟨hi, hany⟩
    by_cases hlt : i < l.length
    · have hdk : decide ((i : Int) < (l.length : Int)) = true := by simpa using hlt
      have hw := wrap_succ (k := i) (by omega)
      obtain ⟨hr0, hg0⟩ := ins_row hlt
      have hjp := l8Jumps_ac l[i].op
      rw [isT_drop l at1 hlt] at hany
      generalize l[i] = d at *
      cases h1 : inPlace d.op with
      | false =>
        rw [h1] at hjp hany
        simp only [Bool.false_and, Bool.false_or] at hany
        refine wRUN (j4 hln hdk hr0 hg0) ?_
        refine w7 (op_data [] hjp) trivial ?_
        refine wRUN (j3 hr0 hg0 hw) ?_
        refine ⟨i + 1, by omega, ⟨by omega, hany⟩, ?_⟩
        exact wSays (Says.of [] []) hw
      | true =>
        rw [h1] at hjp hany
        cases h2 : d.arg == at1 with
        | true =>
          rw [h2] at hany
          simp only [Bool.and_self, Bool.true_or] at hany
          rw [← hany]
          refine wRUN (j4 hln hdk hr0 hg0) ?_
          refine w7 (op_data [] hjp) trivial ?_
          refine wRUN (j3 hr0 hg0 h2) ?_
          exact wRet (ret_data []) Try.results15
        | false =>
          rw [h2] at hany
          simp only [Bool.and_false, Bool.false_or] at hany
          refine wRUN (j4 hln hdk hr0 hg0) ?_
          refine w7 (op_data [] hjp) trivial ?_
          refine wRUN (j4 hr0 hg0 h2 hw) ?_
          refine ⟨i + 1, by omega, ⟨by omega, hany⟩, ?_⟩
          exact wSays (Says.of [] []) hw
    · have hdk : decide ((i : Int) < (l.length : Int)) = false := by simpa using hlt
      rw [List.drop_eq_nil_of_le (by omega)] at hany
      have hany : false = q := hany
      rw [← hany]
      refine wRUN (j2 hln hdk) ?_
      exact wRet (ret_data []) Try.results15
theorem specPeep_bad (l : List InD) (regs : Int) (h : (codeFault l regs).1 ≠ 0) : AC Try.prog 5 [insA l, .c (.int .i64 regs)] [] (.agg [.c (.int .i64 (codeFault l regs).1), .c (.int .i64 (codeFault l regs).2), .c (.sl []), .c (.int .i64 0)]) [] := by
  have hc := specCodeFault_ac l regs
  have hb : ((codeFault l regs).1 != 0) = true := by simpa using h
  unfold codeR at hc
  generalize codeFault l regs = r at *
  refine wEnter Try.func5 Try.ntmps5 ?_
  refine wRUN trivial ?_
  refine w7 (op_data [] hc) trivial ?_
  refine wRUN hb ?_
  exact wRetOf (ret_of [] []) Try.results5 hb
/-- A list of places, and the ones that are still to be told. -/
def padP (ps : List Int) (n : Nat) : List (List C) := ps.map intCs ++ List.replicate (n - ps.length) [C.int .i64 0]
theorem padP_set {ps : List Int} {n : Nat} (h : ps.length < n) (x : Int) : (padP ps n).set ps.length [.int .i64 x] = padP (ps ++ [x]) n := by
  unfold padP
  have : n - ps.length = (n - (ps ++ [x]).length) + 1 := by simp; omega
  rw [this, List.replicate_succ, List.set_append_right _ _ (by simp), List.length_map, Nat.sub_self, List.set_cons_zero, List.map_append, List.append_assoc]
  rfl
theorem padP_at {ps : List Int} {n : Nat} (h : ps.length < n) : (padP ps n)[ps.length]? = some [C.int .i64 0] := by
  unfold padP
  rw [List.getElem?_append_right (by simp), List.length_map, Nat.sub_self, List.getElem?_replicate, if_pos (by omega)]
theorem padP_rows {ps : List Int} {n : Nat} (h : ps.length < n) : rowsAt (padP ps n) 1 ps.length = true := by
  unfold rowsAt
  rw [show ((ps.length : Nat) : Int).toNat = ps.length from rfl, padP_at h]
  simp
theorem padP_zero (n : Nat) : padP [] n = List.replicate n [C.int .i64 0] := rfl
theorem padP_full (ps : List Int) : padP ps ps.length = ps.map intCs := by simp [padP]
set_option maxHeartbeats 16000000 in
theorem specPeep_ac (l : List InD) (hv : ∀ d ∈ l, d.val.length ≤ 1000000) (regs : Int) (h : (codeFault l regs).1 = 0) :
    AC Try.prog 5 [insA l, .c (.int .i64 regs)] [] (.agg [.c (.int .i64 0), .c (.int .i64 0), .c (.sl ((peepV l).map InD.cs)), .c (.int .i64 regs)]) [] := by
  obtain ⟨hn, hj, hm, he⟩ := codeFault_ok h
  have hln : (l.map InD.cs).length = l.length := by simp
  have hc := specCodeFault_ac l regs
  have h00 : ((0 : Int) != 0) = false := rfl
  unfold codeR at hc
  rw [he] at hc
  dsimp only at hc
  have hz1 : ([] : List InD).map InD.os = [] := rfl
  have hz2 := padP_zero l.length
  have h2 : (0 : Int) ≤ (l.length : Int) := by omega
  have h3 : (l.length : Int) ≤ 2000000 := by omega
  refine wEnter Try.func5 Try.ntmps5 ?_
  refine wRUN trivial ?_
  refine w7 (op_data [] hc) trivial ?_
  refine wRUN (j4 h00 hln h2 h3) ?_
  refine a_loop (κ := Nat × List Int × List InD) (fun x => ⟨mkS 0 130 [(0, insA l), (1, .c (.int .i64 regs)), (4, .ptr (4, 0) 0), (6, .ptr (6, 0) 0), (7, .own (97, 0)), (8, .c (.int .i64 x.1))],
      [((4, 0), .box [.c (.int .i64 0), .c (.int .i64 0), .nils, .c (.int .i64 0)]), ((6, 0), .box [.c (.int .i64 0), .c (.int .i64 0), .own (98, 0), .c (.int .i64 regs)]), ((97, 0), .row false 1 2 (padP x.2.1 l.length)), ((98, 0), .row true 3 41 (x.2.2.map InD.os))]⟩)
    (fun x => x.1 ≤ l.length ∧ x.2.1.length = x.1 ∧ x.2.2.length ≤ x.1 ∧ (∀ d ∈ x.2.2, d ∈ l) ∧ peepGo l (l.length - x.1) x.1 x.2.1 x.2.2 = peepGo l l.length 0 [] []) (fun x => l.length - x.1) (0, [], []) ⟨Nat.zero_le _, rfl, Nat.zero_le _, by simp, rfl⟩ ?_ ?_
  · exact wSays (Says.of [((4, 0), (4, 0)), ((6, 0), (6, 0)), ((97, 0), (22, 0))] []) (j2 hz1 hz2)
  · rintro ⟨i, ps, out⟩ ⟨hi, hps, hout, hmem, hgo⟩
    dsimp only at hi hps hout hmem hgo ⊢
    by_cases hlt : i < l.length
    · have hdk : decide ((i : Int) < (l.length : Int)) = true := by simpa using hlt
      have hw := wrap_succ (k := i) (by omega)
      have hw2 : IntKind.i64.wrap ((i : Int) + 2) = ((i + 2 : Nat) : Int) := by rw [IntWalk.i64_in _ (by omega)]; simp
      obtain ⟨f, hf⟩ : ∃ f, l.length - i = f + 1 := ⟨l.length - i - 1, by omega⟩
      rw [hf] at hgo
      have hol : (out.map InD.os).length = out.length := by simp
      have hp1 : rowsAt (padP ps l.length) 1 i = true := by rw [← hps]; exact padP_rows (by omega)
      have hp2 : (padP ps l.length)[i]? = some [.int .i64 0] := by rw [← hps]; exact padP_at (by omega)
      have hp3 : (padP ps l.length).set i [.int .i64 out.length] = padP (ps ++ [(out.length : Int)]) l.length := by rw [← hps]; exact padP_set (by omega) _
      have hp6 : (ps ++ [(out.length : Int)]).length = i + 1 := by simp [hps]
      obtain ⟨hr0, hg0⟩ := ins_row hlt
      have hmi := List.getElem_mem hlt
      have hvl := hv _ hmi
      have hta := l10Target_ac l ((i + 1 : Nat) : Int) hn.2
      have hcls : ((l[i].op == 1) = true ∧ (l[i].op == 3) = false ∧ (l[i].op == 17) = false) ∨ ((l[i].op == 1) = false ∧ (l[i].op == 3) = true ∧ (l[i].op == 17) = false) ∨ ((l[i].op == 1) = false ∧ (l[i].op == 3) = false ∧ (l[i].op == 17) = true) ∨ ((l[i].op == 1) = false ∧ (l[i].op == 3) = false ∧ (l[i].op == 17) = false) := by
        simp only [beq_iff_eq, beq_eq_false_iff_ne]
        omega
      cases hb : leftOut l i with
      | true =>
        have hnx := leftOut_next hb
        rw [peepGo_left hlt hb] at hgo
        have hgo2 : peepGo l (l.length - (i + 2)) (i + 2) (ps ++ [(out.length : Int), (out.length : Int)]) out = peepGo l l.length 0 [] [] := by
          rw [← peepGo_more l _ _ _ _ (by omega), show l.length - (i + 2) + 1 = f by omega]
          exact hgo
        rw [leftOut_at hlt, dif_pos hnx] at hb
        simp only [Bool.and_eq_true, Bool.or_eq_true, Bool.not_eq_true'] at hb
        obtain ⟨⟨he2, ht⟩, hop⟩ := hb
        rw [ht] at hta
        have hdk2 : decide (((i + 1 : Nat) : Int) < (l.length : Int)) = true := decide_eq_true (by omega)
        obtain ⟨hr1, hg1⟩ := ins_row hnx
        have hp4 : rowsAt (padP (ps ++ [(out.length : Int)]) l.length) 1 (((i + 1 : Nat) : Int)) = true := by rw [← hp6]; exact padP_rows (by omega)
        have hp5 : (padP (ps ++ [(out.length : Int)]) l.length)[i + 1]? = some [.int .i64 0] := by rw [← hp6]; exact padP_at (by omega)
        have hp7 : (padP (ps ++ [(out.length : Int)]) l.length).set (i + 1) [.int .i64 out.length] = padP (ps ++ [(out.length : Int), (out.length : Int)]) l.length := by
          rw [← hp6, padP_set (by omega), List.append_assoc]; rfl
        generalize l[i + 1] = e at *
        generalize l[i] = d at *
        generalize hR2 : padP (ps ++ [(out.length : Int), (out.length : Int)]) l.length = R2 at *
        generalize padP (ps ++ [(out.length : Int)]) l.length = R1 at *
        generalize padP ps l.length = R0 at *
        rcases hcls with ⟨k1, k3, k4⟩ | ⟨k1, k3, k4⟩ | ⟨k1, k3, k4⟩ | ⟨k1, k3, k4⟩
        rotate_right 1
        · rw [k1, k3, k4] at hop; simp at hop
        all_goals
          (repeat (first | (with_reducible first | refine a_seq ?_ | refine a_region ?_ | refine a_block ?_ | refine a_scope ?_) | ((with_reducible apply op_any); (iterate 2 (focus (first | (simp only [go_sem, Nat.reduceEqDiff, Nat.reduceAdd, Nat.reduceSub, Nat.reduceLeDiff, Nat.reduceMul, Nat.reduceBEq, Nat.reduceLT, Int.reduceToNat, reduceCtorEq, hdk, hln, hol, hp1, hp2, hp3, putL_one_int, hr0, hg0, k1, k3, k4, hw, hdk2, hr1, hg1, he2]; first | done | exact rfl | (and_intros <;> rfl)) | exact rfl | decide)))) | ((with_reducible refine o_nil ?_); dsimp only; try ((with_reducible apply o_draw); (focus (simp only [go_sem]; exact rfl)); (focus decide))) | ((with_reducible first | refine a_ret ?_ | refine a_skip ?_ | refine a_label ?_); dsimp only) | ((with_reducible refine a_exit ?_); dsimp only; simp only [if_true, if_false, Nat.reduceEqDiff]) | ((with_reducible apply a_if); (focus (simp only [go_sem, Nat.reduceBEq, Nat.reduceLT, hdk, hln, hol, hp1, hp2, hp3, putL_one_int, hr0, hg0, k1, k3, k4, hw, hdk2, hr1, hg1, he2]; exact rfl)); dsimp only [cond_true, cond_false]) | ((with_reducible refine a_draw ?_ ?_); (focus exact rfl))))
          refine w7 (op_data [] hta) trivial ?_
          (repeat (first | (with_reducible first | refine a_seq ?_ | refine a_region ?_ | refine a_block ?_ | refine a_scope ?_) | ((with_reducible apply op_any); (iterate 2 (focus (first | (simp only [go_sem, Nat.reduceEqDiff, Nat.reduceAdd, Nat.reduceSub, Nat.reduceLeDiff, Nat.reduceMul, Nat.reduceBEq, Nat.reduceLT, Int.reduceToNat, reduceCtorEq, hw, hol, hp4, hp5, hp7, putL_one_int, hw2]; first | done | exact rfl | (and_intros <;> rfl)) | exact rfl | decide)))) | ((with_reducible refine o_nil ?_); dsimp only; try ((with_reducible apply o_draw); (focus (simp only [go_sem]; exact rfl)); (focus decide))) | ((with_reducible first | refine a_ret ?_ | refine a_skip ?_ | refine a_label ?_); dsimp only) | ((with_reducible refine a_exit ?_); dsimp only; simp only [if_true, if_false, Nat.reduceEqDiff]) | ((with_reducible apply a_if); (focus (simp only [go_sem, Nat.reduceBEq, Nat.reduceLT, hw, hol, hp4, hp5, hp7, putL_one_int, hw2]; exact rfl)); dsimp only [cond_true, cond_false]) | ((with_reducible refine a_draw ?_ ?_); (focus exact rfl))))
          refine ⟨(i + 2, ps ++ [(out.length : Int), (out.length : Int)], out), by dsimp only; omega, ⟨by dsimp only; omega, by simp [hps], by dsimp only; omega, hmem, hgo2⟩, ?_⟩
          exact wSays (Says.of [((4, 0), (4, 0)), ((6, 0), (6, 0)), ((97, 0), (97, 0)), ((98, 0), (98, 0))] []) hR2
      | false =>
        rw [peepGo_kept hlt hb] at hgo
        have hgo2 : peepGo l (l.length - (i + 1)) (i + 1) (ps ++ [(out.length : Int)]) (out ++ [l[i]]) = peepGo l l.length 0 [] [] := by
          rw [show l.length - (i + 1) = f by omega]
          exact hgo
        have hol3 : out.length + 1 ≤ 1000000 := by omega
        have hrow : out.map InD.os ++ [[.int .i64 l[i].op, .int .i64 l[i].arg, .osl (l[i].val.map CellD.cs)]] = (out ++ [l[i]]).map InD.os := by rw [List.map_append]; rfl
        have hvl2 : 0 + l[i].val.length ≤ 1000000 := by omega
        have fin : ((i + 1 : Nat) ≤ l.length ∧ (ps ++ [(out.length : Int)]).length = i + 1 ∧ (out ++ [l[i]]).length ≤ i + 1 ∧ (∀ d ∈ out ++ [l[i]], d ∈ l) ∧ peepGo l (l.length - (i + 1)) (i + 1) (ps ++ [(out.length : Int)]) (out ++ [l[i]]) = peepGo l l.length 0 [] []) := by
          refine ⟨hlt, hp6, by simp; omega, fun x hx => ?_, hgo2⟩
          rcases List.mem_append.1 hx with hx | hx
          · exact hmem x hx
          · rw [List.mem_singleton.1 hx]; exact hmi
        rw [leftOut_at hlt] at hb
        rcases hcls with hm3 | hm3 | hm3 | ⟨k1, k3, k4⟩
        rotate_right 1
        · generalize l[i] = d at *
          generalize hR1 : padP (ps ++ [(out.length : Int)]) l.length = R1 at *
          generalize padP ps l.length = R0 at *
          (repeat (first | (with_reducible first | refine a_seq ?_ | refine a_region ?_ | refine a_block ?_ | refine a_scope ?_) | ((with_reducible apply op_any); (iterate 2 (focus (first | (simp only [go_sem, Nat.reduceEqDiff, Nat.reduceAdd, Nat.reduceSub, Nat.reduceLeDiff, Nat.reduceMul, Nat.reduceBEq, Nat.reduceLT, Int.reduceToNat, reduceCtorEq, hdk, hln, hol, hp1, hp2, hp3, putL_one_int, hr0, hg0, k1, k3, k4, hw, hol3, hvl, hvl2]; first | done | exact rfl | (and_intros <;> rfl)) | exact rfl | decide)))) | ((with_reducible refine o_nil ?_); dsimp only; try ((with_reducible apply o_draw); (focus (simp only [go_sem]; exact rfl)); (focus decide))) | ((with_reducible first | refine a_ret ?_ | refine a_skip ?_ | refine a_label ?_); dsimp only) | ((with_reducible refine a_exit ?_); dsimp only; simp only [if_true, if_false, Nat.reduceEqDiff]) | ((with_reducible apply a_if); (focus (simp only [go_sem, Nat.reduceBEq, Nat.reduceLT, hdk, hln, hol, hp1, hp2, hp3, putL_one_int, hr0, hg0, k1, k3, k4, hw, hol3, hvl, hvl2]; exact rfl)); dsimp only [cond_true, cond_false]) | ((with_reducible refine a_draw ?_ ?_); (focus exact rfl))))
          refine ⟨(i + 1, ps ++ [(out.length : Int)], out ++ [d]), by dsimp only; omega, fin, ?_⟩
          dsimp only
          rw [← hrow]
          exact wSays (Says.of [((4, 0), (4, 0)), ((6, 0), (6, 0)), ((97, 0), (97, 0)), ((98, 0), (97, 1))] []) hR1
        all_goals
          obtain ⟨k1, k3, k4⟩ := hm3
          by_cases hnx : i + 1 < l.length
          · have hdk2 : decide (((i + 1 : Nat) : Int) < (l.length : Int)) = true := decide_eq_true (by omega)
            obtain ⟨hr1, hg1⟩ := ins_row hnx
            rw [dif_pos hnx, k1, k3, k4] at hb
            generalize l[i + 1] = e at *
            cases he2 : e.op == 2 with
            | false =>
              generalize l[i] = d at *
              generalize hR1 : padP (ps ++ [(out.length : Int)]) l.length = R1 at *
              generalize padP ps l.length = R0 at *
              (repeat (first | (with_reducible first | refine a_seq ?_ | refine a_region ?_ | refine a_block ?_ | refine a_scope ?_) | ((with_reducible apply op_any); (iterate 2 (focus (first | (simp only [go_sem, Nat.reduceEqDiff, Nat.reduceAdd, Nat.reduceSub, Nat.reduceLeDiff, Nat.reduceMul, Nat.reduceBEq, Nat.reduceLT, Int.reduceToNat, reduceCtorEq, hdk, hln, hol, hp1, hp2, hp3, putL_one_int, hr0, hg0, k1, k3, k4, hw, hdk2, hr1, hg1, he2, hol3, hvl, hvl2]; first | done | exact rfl | (and_intros <;> rfl)) | exact rfl | decide)))) | ((with_reducible refine o_nil ?_); dsimp only; try ((with_reducible apply o_draw); (focus (simp only [go_sem]; exact rfl)); (focus decide))) | ((with_reducible first | refine a_ret ?_ | refine a_skip ?_ | refine a_label ?_); dsimp only) | ((with_reducible refine a_exit ?_); dsimp only; simp only [if_true, if_false, Nat.reduceEqDiff]) | ((with_reducible apply a_if); (focus (simp only [go_sem, Nat.reduceBEq, Nat.reduceLT, hdk, hln, hol, hp1, hp2, hp3, putL_one_int, hr0, hg0, k1, k3, k4, hw, hdk2, hr1, hg1, he2, hol3, hvl, hvl2]; exact rfl)); dsimp only [cond_true, cond_false]) | ((with_reducible refine a_draw ?_ ?_); (focus exact rfl))))
              refine ⟨(i + 1, ps ++ [(out.length : Int)], out ++ [d]), by dsimp only; omega, fin, ?_⟩
              dsimp only
              rw [← hrow]
              exact wSays (Says.of [((4, 0), (4, 0)), ((6, 0), (6, 0)), ((97, 0), (97, 0)), ((98, 0), (97, 1))] []) hR1
            | true =>
              have ht : isT l ((i + 1 : Nat) : Int) = true := by
                rw [he2] at hb
                simpa using hb
              rw [ht] at hta
              generalize l[i] = d at *
              generalize hR1 : padP (ps ++ [(out.length : Int)]) l.length = R1 at *
              generalize padP ps l.length = R0 at *
              (repeat (first | (with_reducible first | refine a_seq ?_ | refine a_region ?_ | refine a_block ?_ | refine a_scope ?_) | ((with_reducible apply op_any); (iterate 2 (focus (first | (simp only [go_sem, Nat.reduceEqDiff, Nat.reduceAdd, Nat.reduceSub, Nat.reduceLeDiff, Nat.reduceMul, Nat.reduceBEq, Nat.reduceLT, Int.reduceToNat, reduceCtorEq, hdk, hln, hol, hp1, hp2, hp3, putL_one_int, hr0, hg0, k1, k3, k4, hw, hdk2, hr1, hg1, he2, hol3, hvl, hvl2]; first | done | exact rfl | (and_intros <;> rfl)) | exact rfl | decide)))) | ((with_reducible refine o_nil ?_); dsimp only; try ((with_reducible apply o_draw); (focus (simp only [go_sem]; exact rfl)); (focus decide))) | ((with_reducible first | refine a_ret ?_ | refine a_skip ?_ | refine a_label ?_); dsimp only) | ((with_reducible refine a_exit ?_); dsimp only; simp only [if_true, if_false, Nat.reduceEqDiff]) | ((with_reducible apply a_if); (focus (simp only [go_sem, Nat.reduceBEq, Nat.reduceLT, hdk, hln, hol, hp1, hp2, hp3, putL_one_int, hr0, hg0, k1, k3, k4, hw, hdk2, hr1, hg1, he2, hol3, hvl, hvl2]; exact rfl)); dsimp only [cond_true, cond_false]) | ((with_reducible refine a_draw ?_ ?_); (focus exact rfl))))
              refine w7 (op_data [] hta) trivial ?_
              refine wRUN (j6 hr0 hg0 hw hol3 hvl hvl2) ?_
              refine ⟨(i + 1, ps ++ [(out.length : Int)], out ++ [d]), by dsimp only; omega, fin, ?_⟩
              dsimp only
              rw [← hrow]
              exact wSays (Says.of [((4, 0), (4, 0)), ((6, 0), (6, 0)), ((97, 0), (97, 0)), ((98, 0), (97, 1))] []) hR1
          · have hdk2 : decide (((i + 1 : Nat) : Int) < (l.length : Int)) = false := decide_eq_false (by omega)
            generalize l[i] = d at *
            generalize hR1 : padP (ps ++ [(out.length : Int)]) l.length = R1 at *
            generalize padP ps l.length = R0 at *
            (repeat (first | (with_reducible first | refine a_seq ?_ | refine a_region ?_ | refine a_block ?_ | refine a_scope ?_) | ((with_reducible apply op_any); (iterate 2 (focus (first | (simp only [go_sem, Nat.reduceEqDiff, Nat.reduceAdd, Nat.reduceSub, Nat.reduceLeDiff, Nat.reduceMul, Nat.reduceBEq, Nat.reduceLT, Int.reduceToNat, reduceCtorEq, hdk, hln, hol, hp1, hp2, hp3, putL_one_int, hr0, hg0, k1, k3, k4, hw, hdk2, hol3, hvl, hvl2]; first | done | exact rfl | (and_intros <;> rfl)) | exact rfl | decide)))) | ((with_reducible refine o_nil ?_); dsimp only; try ((with_reducible apply o_draw); (focus (simp only [go_sem]; exact rfl)); (focus decide))) | ((with_reducible first | refine a_ret ?_ | refine a_skip ?_ | refine a_label ?_); dsimp only) | ((with_reducible refine a_exit ?_); dsimp only; simp only [if_true, if_false, Nat.reduceEqDiff]) | ((with_reducible apply a_if); (focus (simp only [go_sem, Nat.reduceBEq, Nat.reduceLT, hdk, hln, hol, hp1, hp2, hp3, putL_one_int, hr0, hg0, k1, k3, k4, hw, hdk2, hol3, hvl, hvl2]; exact rfl)); dsimp only [cond_true, cond_false]) | ((with_reducible refine a_draw ?_ ?_); (focus exact rfl))))
            refine ⟨(i + 1, ps ++ [(out.length : Int)], out ++ [d]), by dsimp only; omega, fin, ?_⟩
            dsimp only
            rw [← hrow]
            exact wSays (Says.of [((4, 0), (4, 0)), ((6, 0), (6, 0)), ((97, 0), (97, 0)), ((98, 0), (97, 1))] []) hR1
    · have hdk : decide ((i : Int) < (l.length : Int)) = false := by simpa using hlt
      have hie : i = l.length := by omega
      have hpl : ps.length = l.length := by omega
      rw [hie, Nat.sub_self] at hgo
      have hpv : peepV l = out.map (newArg ps) := by
        unfold peepV
        rw [← hgo]
        rfl
      rw [hpv]
      have hol : (out.map InD.os).length = out.length := by simp
      have hp0 : partP ps out 0 = out.map InD.os := rfl
      have hpf : padP ps l.length = ps.map intCs := by rw [← hpl]; exact padP_full ps
      refine wRUN (j2 hdk hln) ?_
      rw [hpf]
      refine a_loop (κ := Nat) (fun k => ⟨mkS 0 130 [(4, .ptr (4, 0) 0), (6, .ptr (6, 0) 0), (7, .own (97, 0)), (10, .c (.int .i64 k))],
          [((4, 0), .box [.c (.int .i64 0), .c (.int .i64 0), .nils, .c (.int .i64 0)]), ((6, 0), .box [.c (.int .i64 0), .c (.int .i64 0), .own (98, 0), .c (.int .i64 regs)]), ((97, 0), .row false 1 2 (ps.map intCs)), ((98, 0), .row true 3 41 (partP ps out k))]⟩)
        (fun k => k ≤ out.length) (fun k => out.length - k) 0 (Nat.zero_le _) ?_ ?_
      · exact wSays (Says.of [((4, 0), (4, 0)), ((6, 0), (6, 0)), ((97, 0), (97, 0)), ((98, 0), (98, 0))] []) hp0
      · intro k hk
        have hpo : (partP ps out k).length = out.length := by unfold partP; simp; omega
        by_cases hkl : k < out.length
        · have hdk2 : decide ((k : Int) < (out.length : Int)) = true := by simpa using hkl
          have hw := wrap_succ (k := k) (by omega)
          have h0 := partP_at ps out hkl
          have hnx := partP_next ps out hkl
          have hr0 : rowsAt (partP ps out k) 3 k = true := by unfold rowsAt; rw [show ((k : Nat) : Int).toNat = k from rfl, h0]; simp
          have hjp := l8Jumps_ac out[k].op
          cases hb : inPlace out[k].op with
          | false =>
            have hsm := partP_same (ps := ps) hkl hb
            rw [hb] at hjp
            generalize hR1 : partP ps out (k + 1) = R1 at *
            generalize partP ps out k = R0 at *
            generalize out[k] = d at *
            refine wRUN (j3 hdk2 hr0 hpo) ?_
            ((with_reducible apply op_peek1); (iterate 9 (focus (first | (simp only [go_sem, Nat.reduceEqDiff, Nat.reduceAdd, Nat.reduceSub, Nat.reduceLeDiff, Nat.reduceMul, Nat.reduceBEq, Nat.reduceLT, Int.reduceToNat, reduceCtorEq, h0]; first | done | exact rfl | (and_intros <;> rfl)) | exact rfl | decide))))
            refine wRUN trivial ?_
            refine w7 (op_data [] hjp) trivial ?_
            refine wRUN hw ?_
            refine ⟨k + 1, by omega, by omega, ?_⟩
            exact wSays (Says.of [((4, 0), (4, 0)), ((6, 0), (6, 0)), ((97, 0), (97, 0)), ((98, 0), (98, 0))] []) (j2 hR1 hsm)
          | true =>
            rw [hb] at hjp
            have hargs : ∃ a : Nat, out[k].arg = (a : Int) ∧ a < ps.length := by
              obtain ⟨j, hjl, hje⟩ := List.mem_iff_getElem.1 (hmem out[k] (List.getElem_mem hkl))
              obtain ⟨_, _, h3⟩ := hj j hjl
              rw [hje] at h3
              have := h3 hb
              exact ⟨out[k].arg.toNat, by omega, by omega⟩
            obtain ⟨a, ha, hal⟩ := hargs
            have hra : rowsAt (ps.map intCs) 1 a = true := by simp [rowsAt, hal, intCs]
            have hga : (ps.map intCs)[a]? = some [.int .i64 ps[a]] := by simp [hal, intCs]
            have hna : newArg ps out[k] = ⟨out[k].op, ps[a], out[k].val⟩ := by
              unfold newArg
              rw [hb, if_pos rfl, ha, Int.toNat_natCast, List.getD_eq_getElem?_getD, List.getElem?_eq_getElem hal, Option.getD_some]
            rw [hna] at hnx
            have hset : (partP ps out k).set k [.int .i64 out[k].op, .int .i64 ps[a], .osl (out[k].val.map CellD.cs)] = partP ps out (k + 1) := hnx
            rw [ha] at h0
            generalize hR1 : partP ps out (k + 1) = R1 at *
            generalize partP ps out k = R0 at *
            generalize ps[a] = y at *
            generalize out[k] = d at *
            refine wRUN (j3 hdk2 hr0 hpo) ?_
            ((with_reducible apply op_peek1); (iterate 9 (focus (first | (simp only [go_sem, Nat.reduceEqDiff, Nat.reduceAdd, Nat.reduceSub, Nat.reduceLeDiff, Nat.reduceMul, Nat.reduceBEq, Nat.reduceLT, Int.reduceToNat, reduceCtorEq, h0]; first | done | exact rfl | (and_intros <;> rfl)) | exact rfl | decide))))
            refine wRUN trivial ?_
            refine w7 (op_data [] hjp) trivial ?_
            refine wRUN hr0 ?_
            ((with_reducible apply op_peek1); (iterate 9 (focus (first | (simp only [go_sem, Nat.reduceEqDiff, Nat.reduceAdd, Nat.reduceSub, Nat.reduceLeDiff, Nat.reduceMul, Nat.reduceBEq, Nat.reduceLT, Int.reduceToNat, reduceCtorEq, h0]; first | done | exact rfl | (and_intros <;> rfl)) | exact rfl | decide))))
            refine wRUN (j3 hra hga hr0) ?_
            ((with_reducible apply op_store); (iterate 11 (focus (first | (simp only [go_sem, Nat.reduceEqDiff, Nat.reduceAdd, Nat.reduceSub, Nat.reduceLeDiff, Nat.reduceMul, Nat.reduceBEq, Nat.reduceLT, Int.reduceToNat, reduceCtorEq, h0, C.plain, List.set_cons_zero, List.set_cons_succ, hset]; first | done | exact rfl | (and_intros <;> rfl)) | exact rfl | decide))))
            refine wRUN hw ?_
            refine ⟨k + 1, by omega, by omega, ?_⟩
            exact wSays (Says.of [((4, 0), (4, 0)), ((6, 0), (6, 0)), ((97, 0), (97, 0)), ((98, 0), (98, 0))] []) hR1
        · have hdk2 : decide ((k : Int) < (out.length : Int)) = false := by simpa using hkl
          have hke : k = out.length := by omega
          have hfin : partP ps out out.length = (out.map (newArg ps)).map InD.os := by simp [partP]
          rw [hke] at hpo ⊢
          rw [hfin] at hpo ⊢
          rw [hke] at hdk2
          refine wRUN (j2 hdk2 hpo) ?_
          exact wRetOf (ret_of [] [(98, 0)]) Try.results5 hdk2
end Go.Proofs.Ytpaooephkpjkfaa
