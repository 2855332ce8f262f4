/- The draws' values: l1Value, by the engine. -/
import Derived.Test.YtfmnoljflcpbgaaGreatDoorKG80
set_option linter.unusedSimpArgs false
set_option linter.unusedVariables false
set_option linter.unnecessarySimpa false
namespace Go.Proofs.YtfmnoljflcpbgaaGreatDoor
open Go.RowKit
set_option maxRecDepth 10000
theorem l1NumberO_ac (n : Int) : AC Tryz.prog 173 [.c (.int .i64 n)] [] (.own (0, 0)) [((0, 0), .row false 5 69 ((numV n).enc.map CellD.cs))] := by
  have he : (numV n).enc.map CellD.cs = [[.int .i64 3, .int .i64 n, .str ByteArray.empty, .str ByteArray.empty, .int .i64 0]] := rfl
  refine wEnter Tryz.func173 Tryz.ntmps173 ?_
  refine wRUN trivial ?_
  exact wRetOf (ret_of [((0, 0), (5, 0))] []) Tryz.results173 he
theorem l1StringO_ac (s : ByteArray) : AC Tryz.prog 174 [.c (.str s)] [] (.own (0, 0)) [((0, 0), .row false 5 69 ((strV s).enc.map CellD.cs))] := by
  have he : (strV s).enc.map CellD.cs = [[.int .i64 4, .int .i64 0, .str s, .str ByteArray.empty, .int .i64 0]] := rfl
  refine wEnter Tryz.func174 Tryz.ntmps174 ?_
  refine wRUN trivial ?_
  exact wRetOf (ret_of [((0, 0), (5, 0))] []) Tryz.results174 he
/-- A value that was drawn: the source behind it, and its cells in a row of the call's own. -/
abbrev valM (bs : List Nat) (r : V × Nat) : Mem := [((0, 0), srcO bs r.2), ((0, 1), .row false 5 69 (r.1.enc.map CellD.cs))]
theorem mkV_enc (k : Int) : (V.mk k 0 ByteArray.empty [] []).enc.map CellD.cs = [[.int .i64 k, .int .i64 0, .str ByteArray.empty, .str ByteArray.empty, .int .i64 0]] := rfl
set_option maxHeartbeats 8000000 in
theorem l1Value_leaf (bs : List Nat) (hb : BytesOk bs) (a : Nat) (ha : a ≤ 900000) (dp : Int) (b : Bool) (hdp : decide (dp ≤ 1) = b) (k : Nat) (hk : k = if b = true ∧ nextN bs a 10 > 6 then nextN bs a 10 - 5 else nextN bs a 10) (h6 : k ≤ 6) :
    AC Tryz.prog 133 [.ptr (0, 0) 0, .c (.int .i64 dp)] (srcM bs a) (.own (0, 1)) (valM bs (leafD bs k (a + 1))) := by
  have hc := l1Next_ac bs hb a 10 (by omega) (by omega)
  have hlt := nextN_lt bs a (n := 10) (by omega)
  generalize nextN bs a 10 = r at *
  have n1 := l1Next_ac bs hb (a + 1) 9 (by omega) (by omega)
  have n2 := l1Next_ac bs hb (a + 2) 9 (by omega) (by omega)
  have n3 := l1Next_ac bs hb (a + 3) 40 (by omega) (by omega)
  have x3 := nextN_lt bs (a + 3) (n := 40) (by omega)
  have n4 := l1Pick_ac bs hb (a + 4) [(nextN bs (a + 1) 9 : Int), (nextN bs (a + 2) 9 : Int), -(nextN bs (a + 3) 40 : Int), 1000000000000000] (by simp) (by simp) (by omega)
  have n5 := l1NumberO_ac (pickN bs (a + 4) [(nextN bs (a + 1) 9 : Int), (nextN bs (a + 2) 9 : Int), -(nextN bs (a + 3) 40 : Int), 1000000000000000])
  have n6 := l1Word_ac bs hb (a + 1) (by omega)
  have n7 := l1StringO_ac (wordN bs (a + 1))
  have hneg : IntKind.i64.wrap (0 - (nextN bs (a + 3) 40 : Int)) = -(nextN bs (a + 3) 40 : Int) := by rw [IntWalk.i64_in _ (by omega)]; omega
  have hnum : ∀ k : Nat, 3 ≤ k → k ≤ 5 → leafD bs k (a + 1) = (numV (pickN bs (a + 4) [(nextN bs (a + 1) 9 : Int), (nextN bs (a + 2) 9 : Int), -(nextN bs (a + 3) 40 : Int), 1000000000000000]), a + 5) := fun k h1 h2 => by
    unfold leafD
    rw [if_neg (by omega), if_pos h2]
  have hstr : leafD bs 6 (a + 1) = (strV (wordN bs (a + 1)), a + 2) := rfl
  have hmk : ∀ k : Nat, k ≤ 2 → leafD bs k (a + 1) = (V.mk k 0 ByteArray.empty [] [], a + 1) := fun k h => by
    unfold leafD
    rw [if_pos h]
  simp only [List.map_cons, List.map_nil, intCs] at n4
  generalize nextN bs (a + 1) 9 = y1 at *
  generalize nextN bs (a + 2) 9 = y2 at *
  generalize nextN bs (a + 3) 40 = y3 at *
  generalize pickN bs (a + 4) _ = y4 at *
  generalize wordN bs (a + 1) = y5 at *
  have hs7 : IntKind.i64.wrap (7 - 5) = 2 := by decide
  have hs8 : IntKind.i64.wrap (8 - 5) = 3 := by decide
  have hs9 : IntKind.i64.wrap (9 - 5) = 4 := by decide
  have h10 : r = 0 ∨ r = 1 ∨ r = 2 ∨ r = 3 ∨ r = 4 ∨ r = 5 ∨ r = 6 ∨ r = 7 ∨ r = 8 ∨ r = 9 := by omega
  obtain ⟨z, hz⟩ : ∃ z : Int, (r : Int) = z := ⟨_, rfl⟩
  rw [hz] at hc
  by_cases hk2 : k ≤ 2
  · rw [hmk k hk2]
    obtain ⟨kz, hkz⟩ : ∃ kz : Int, (k : Int) = kz := ⟨_, rfl⟩
    rw [hkz]
    have hrr : (b = false ∧ z = kz) ∨ (b = true ∧ z = kz) ∨ (b = true ∧ z = 7 ∧ kz = 2) := by
      by_cases hr6 : r > 6 <;> cases b <;> simp [hr6] at hk ⊢ <;> omega
    have hkk : kz = 0 ∨ kz = 1 ∨ kz = 2 := by omega
    rcases hrr with ⟨rfl, rfl⟩ | ⟨rfl, rfl⟩ | ⟨rfl, rfl, rfl⟩
    · rcases hkk with rfl | rfl | rfl
      all_goals
        refine wEnter Tryz.func133 Tryz.ntmps133 ?_
        refine wRUN trivial ?_
        refine wCall (op_any_call [((0, 0), (0, 0))] [((0, 0), (0, 0))] hc) trivial ?_
        (repeat (first | (with_reducible first | refine a_seq ?_ | refine a_region ?_ | refine a_block ?_ | refine a_scope ?_) | ((with_reducible apply op_any); (iterate 2 (focus (first | (simp only [go_sem, Nat.reduceEqDiff, Nat.reduceAdd, Nat.reduceSub, Nat.reduceLeDiff, Nat.reduceMul, Nat.reduceBEq, Nat.reduceLT, Int.reduceToNat, reduceCtorEq, hdp, Int.reduceBEq, Int.reduceGT, Int.reduceLT, decide_true, decide_false]; first | done | exact rfl | (and_intros <;> rfl)) | exact rfl | decide)))) | ((with_reducible refine o_nil ?_); dsimp only; try ((with_reducible apply o_draw); (focus (simp only [go_sem]; exact rfl)); (focus decide))) | ((with_reducible first | refine a_ret ?_ | refine a_skip ?_ | refine a_label ?_); dsimp only) | ((with_reducible refine a_exit ?_); dsimp only; simp only [if_true, if_false, Nat.reduceEqDiff]) | ((with_reducible apply a_if); (focus (simp only [go_sem, Nat.reduceBEq, Nat.reduceLT, hdp, Int.reduceBEq, Int.reduceGT, Int.reduceLT, decide_true, decide_false]; exact rfl)); dsimp only [cond_true, cond_false]) | ((with_reducible refine a_draw ?_ ?_); (focus exact rfl))))
        (apply (ret_of [((0, 0), (0, 0)), ((0, 1), (28, 0))] []); (focus (simp only [Tryz.results133, go_sem, Nat.reduceBEq, Nat.reduceLT, mkV_enc]; exact rfl)); (focus (simp only [go_sem, Nat.reduceEqDiff, Nat.reduceAdd, Nat.reduceSub, Nat.reduceLeDiff, Nat.reduceMul, Nat.reduceBEq, Nat.reduceLT, Int.reduceToNat, reduceCtorEq, mkV_enc]; try (and_intros <;> rfl))); (focus exact rfl); (focus (simp only [go_sem, Nat.reduceEqDiff, Nat.reduceAdd, Nat.reduceSub, Nat.reduceLeDiff, Nat.reduceMul, Nat.reduceBEq, Nat.reduceLT, Int.reduceToNat, reduceCtorEq, mkV_enc]; try (and_intros <;> rfl))); (focus exact rfl); (iterate 4 (focus (simp [go_sem, mkV_enc]; done))))
    · rcases hkk with rfl | rfl | rfl
      all_goals
        refine wEnter Tryz.func133 Tryz.ntmps133 ?_
        refine wRUN trivial ?_
        refine wCall (op_any_call [((0, 0), (0, 0))] [((0, 0), (0, 0))] hc) trivial ?_
        (repeat (first | (with_reducible first | refine a_seq ?_ | refine a_region ?_ | refine a_block ?_ | refine a_scope ?_) | ((with_reducible apply op_any); (iterate 2 (focus (first | (simp only [go_sem, Nat.reduceEqDiff, Nat.reduceAdd, Nat.reduceSub, Nat.reduceLeDiff, Nat.reduceMul, Nat.reduceBEq, Nat.reduceLT, Int.reduceToNat, reduceCtorEq, hdp, Int.reduceBEq, Int.reduceGT, Int.reduceLT, decide_true, decide_false]; first | done | exact rfl | (and_intros <;> rfl)) | exact rfl | decide)))) | ((with_reducible refine o_nil ?_); dsimp only; try ((with_reducible apply o_draw); (focus (simp only [go_sem]; exact rfl)); (focus decide))) | ((with_reducible first | refine a_ret ?_ | refine a_skip ?_ | refine a_label ?_); dsimp only) | ((with_reducible refine a_exit ?_); dsimp only; simp only [if_true, if_false, Nat.reduceEqDiff]) | ((with_reducible apply a_if); (focus (simp only [go_sem, Nat.reduceBEq, Nat.reduceLT, hdp, Int.reduceBEq, Int.reduceGT, Int.reduceLT, decide_true, decide_false]; exact rfl)); dsimp only [cond_true, cond_false]) | ((with_reducible refine a_draw ?_ ?_); (focus exact rfl))))
        (apply (ret_of [((0, 0), (0, 0)), ((0, 1), (28, 0))] []); (focus (simp only [Tryz.results133, go_sem, Nat.reduceBEq, Nat.reduceLT, mkV_enc]; exact rfl)); (focus (simp only [go_sem, Nat.reduceEqDiff, Nat.reduceAdd, Nat.reduceSub, Nat.reduceLeDiff, Nat.reduceMul, Nat.reduceBEq, Nat.reduceLT, Int.reduceToNat, reduceCtorEq, mkV_enc]; try (and_intros <;> rfl))); (focus exact rfl); (focus (simp only [go_sem, Nat.reduceEqDiff, Nat.reduceAdd, Nat.reduceSub, Nat.reduceLeDiff, Nat.reduceMul, Nat.reduceBEq, Nat.reduceLT, Int.reduceToNat, reduceCtorEq, mkV_enc]; try (and_intros <;> rfl))); (focus exact rfl); (iterate 4 (focus (simp [go_sem, mkV_enc]; done))))
    · refine wEnter Tryz.func133 Tryz.ntmps133 ?_
      refine wRUN trivial ?_
      refine wCall (op_any_call [((0, 0), (0, 0))] [((0, 0), (0, 0))] hc) trivial ?_
      (repeat (first | (with_reducible first | refine a_seq ?_ | refine a_region ?_ | refine a_block ?_ | refine a_scope ?_) | ((with_reducible apply op_any); (iterate 2 (focus (first | (simp only [go_sem, Nat.reduceEqDiff, Nat.reduceAdd, Nat.reduceSub, Nat.reduceLeDiff, Nat.reduceMul, Nat.reduceBEq, Nat.reduceLT, Int.reduceToNat, reduceCtorEq, hdp, hs7, Int.reduceBEq, Int.reduceGT, Int.reduceLT, decide_true, decide_false]; first | done | exact rfl | (and_intros <;> rfl)) | exact rfl | decide)))) | ((with_reducible refine o_nil ?_); dsimp only; try ((with_reducible apply o_draw); (focus (simp only [go_sem]; exact rfl)); (focus decide))) | ((with_reducible first | refine a_ret ?_ | refine a_skip ?_ | refine a_label ?_); dsimp only) | ((with_reducible refine a_exit ?_); dsimp only; simp only [if_true, if_false, Nat.reduceEqDiff]) | ((with_reducible apply a_if); (focus (simp only [go_sem, Nat.reduceBEq, Nat.reduceLT, hdp, hs7, Int.reduceBEq, Int.reduceGT, Int.reduceLT, decide_true, decide_false]; exact rfl)); dsimp only [cond_true, cond_false]) | ((with_reducible refine a_draw ?_ ?_); (focus exact rfl))))
      (apply (ret_of [((0, 0), (0, 0)), ((0, 1), (28, 0))] []); (focus (simp only [Tryz.results133, go_sem, Nat.reduceBEq, Nat.reduceLT, mkV_enc]; exact rfl)); (focus (simp only [go_sem, Nat.reduceEqDiff, Nat.reduceAdd, Nat.reduceSub, Nat.reduceLeDiff, Nat.reduceMul, Nat.reduceBEq, Nat.reduceLT, Int.reduceToNat, reduceCtorEq, mkV_enc]; try (and_intros <;> rfl))); (focus exact rfl); (focus (simp only [go_sem, Nat.reduceEqDiff, Nat.reduceAdd, Nat.reduceSub, Nat.reduceLeDiff, Nat.reduceMul, Nat.reduceBEq, Nat.reduceLT, Int.reduceToNat, reduceCtorEq, mkV_enc]; try (and_intros <;> rfl))); (focus exact rfl); (iterate 4 (focus (simp [go_sem, mkV_enc]; done))))
  · by_cases hk5 : k ≤ 5
    · rw [hnum k (by omega) hk5]
      have hrr : (b = false ∧ (z = 3 ∨ z = 4 ∨ z = 5)) ∨ (b = true ∧ (z = 3 ∨ z = 4 ∨ z = 5 ∨ z = 8 ∨ z = 9)) := by
        by_cases hr6 : r > 6 <;> cases b <;> simp [hr6] at hk ⊢ <;> omega
      rcases hrr with ⟨rfl, hr⟩ | ⟨rfl, hr⟩
      · rcases hr with rfl | rfl | rfl
        all_goals
          refine wEnter Tryz.func133 Tryz.ntmps133 ?_
          refine wRUN trivial ?_
          refine wCall (op_any_call [((0, 0), (0, 0))] [((0, 0), (0, 0))] hc) trivial ?_
          (repeat (first | (with_reducible first | refine a_seq ?_ | refine a_region ?_ | refine a_block ?_ | refine a_scope ?_) | ((with_reducible apply op_any); (iterate 2 (focus (first | (simp only [go_sem, Nat.reduceEqDiff, Nat.reduceAdd, Nat.reduceSub, Nat.reduceLeDiff, Nat.reduceMul, Nat.reduceBEq, Nat.reduceLT, Int.reduceToNat, reduceCtorEq, hdp, Int.reduceBEq, Int.reduceGT, Int.reduceLT, decide_true, decide_false]; first | done | exact rfl | (and_intros <;> rfl)) | exact rfl | decide)))) | ((with_reducible refine o_nil ?_); dsimp only; try ((with_reducible apply o_draw); (focus (simp only [go_sem]; exact rfl)); (focus decide))) | ((with_reducible first | refine a_ret ?_ | refine a_skip ?_ | refine a_label ?_); dsimp only) | ((with_reducible refine a_exit ?_); dsimp only; simp only [if_true, if_false, Nat.reduceEqDiff]) | ((with_reducible apply a_if); (focus (simp only [go_sem, Nat.reduceBEq, Nat.reduceLT, hdp, Int.reduceBEq, Int.reduceGT, Int.reduceLT, decide_true, decide_false]; exact rfl)); dsimp only [cond_true, cond_false]) | ((with_reducible refine a_draw ?_ ?_); (focus exact rfl))))
          refine wCall (op_any_call [((0, 0), (0, 0))] [((0, 0), (0, 0))] n1) trivial ?_
          refine wRUN trivial ?_
          refine wCall (op_any_call [((0, 0), (0, 0))] [((0, 0), (0, 0))] n2) trivial ?_
          refine wRUN trivial ?_
          refine wCall (op_any_call [((0, 0), (0, 0))] [((0, 0), (0, 0))] n3) trivial ?_
          refine wRUN hneg ?_
          refine wCallB (op_callB [(41, 0)] [((0, 0), (0, 0))] [((0, 0), (0, 0))] n4) trivial ?_
          refine wRUN trivial ?_
          refine w12 (op_rowF [] n5) trivial ?_
          refine wRUN trivial ?_
          exact wRetOf (ret_of [((0, 0), (0, 0)), ((0, 1), (43, 0))] []) Tryz.results133 hdp
      · rcases hr with rfl | rfl | rfl | rfl | rfl
        all_goals
          refine wEnter Tryz.func133 Tryz.ntmps133 ?_
          refine wRUN trivial ?_
          refine wCall (op_any_call [((0, 0), (0, 0))] [((0, 0), (0, 0))] hc) trivial ?_
          (repeat (first | (with_reducible first | refine a_seq ?_ | refine a_region ?_ | refine a_block ?_ | refine a_scope ?_) | ((with_reducible apply op_any); (iterate 2 (focus (first | (simp only [go_sem, Nat.reduceEqDiff, Nat.reduceAdd, Nat.reduceSub, Nat.reduceLeDiff, Nat.reduceMul, Nat.reduceBEq, Nat.reduceLT, Int.reduceToNat, reduceCtorEq, hdp, hs8, hs9, Int.reduceBEq, Int.reduceGT, Int.reduceLT, decide_true, decide_false]; first | done | exact rfl | (and_intros <;> rfl)) | exact rfl | decide)))) | ((with_reducible refine o_nil ?_); dsimp only; try ((with_reducible apply o_draw); (focus (simp only [go_sem]; exact rfl)); (focus decide))) | ((with_reducible first | refine a_ret ?_ | refine a_skip ?_ | refine a_label ?_); dsimp only) | ((with_reducible refine a_exit ?_); dsimp only; simp only [if_true, if_false, Nat.reduceEqDiff]) | ((with_reducible apply a_if); (focus (simp only [go_sem, Nat.reduceBEq, Nat.reduceLT, hdp, hs8, hs9, Int.reduceBEq, Int.reduceGT, Int.reduceLT, decide_true, decide_false]; exact rfl)); dsimp only [cond_true, cond_false]) | ((with_reducible refine a_draw ?_ ?_); (focus exact rfl))))
          refine wCall (op_any_call [((0, 0), (0, 0))] [((0, 0), (0, 0))] n1) trivial ?_
          refine wRUN trivial ?_
          refine wCall (op_any_call [((0, 0), (0, 0))] [((0, 0), (0, 0))] n2) trivial ?_
          refine wRUN trivial ?_
          refine wCall (op_any_call [((0, 0), (0, 0))] [((0, 0), (0, 0))] n3) trivial ?_
          refine wRUN hneg ?_
          refine wCallB (op_callB [(41, 0)] [((0, 0), (0, 0))] [((0, 0), (0, 0))] n4) trivial ?_
          refine wRUN trivial ?_
          refine w12 (op_rowF [] n5) trivial ?_
          refine wRUN trivial ?_
          exact wRetOf (ret_of [((0, 0), (0, 0)), ((0, 1), (43, 0))] []) Tryz.results133 hdp
    · have hk6 : k = 6 := by omega
      rw [hk6, hstr]
      have hr : z = 6 := by by_cases hr6 : r > 6 <;> cases b <;> simp [hr6] at hk <;> omega
      subst hr
      cases b with
      | false =>
        refine wEnter Tryz.func133 Tryz.ntmps133 ?_
        refine wRUN trivial ?_
        refine wCall (op_any_call [((0, 0), (0, 0))] [((0, 0), (0, 0))] hc) trivial ?_
        (repeat (first | (with_reducible first | refine a_seq ?_ | refine a_region ?_ | refine a_block ?_ | refine a_scope ?_) | ((with_reducible apply op_any); (iterate 2 (focus (first | (simp only [go_sem, Nat.reduceEqDiff, Nat.reduceAdd, Nat.reduceSub, Nat.reduceLeDiff, Nat.reduceMul, Nat.reduceBEq, Nat.reduceLT, Int.reduceToNat, reduceCtorEq, hdp, Int.reduceBEq, Int.reduceGT, Int.reduceLT, decide_true, decide_false]; first | done | exact rfl | (and_intros <;> rfl)) | exact rfl | decide)))) | ((with_reducible refine o_nil ?_); dsimp only; try ((with_reducible apply o_draw); (focus (simp only [go_sem]; exact rfl)); (focus decide))) | ((with_reducible first | refine a_ret ?_ | refine a_skip ?_ | refine a_label ?_); dsimp only) | ((with_reducible refine a_exit ?_); dsimp only; simp only [if_true, if_false, Nat.reduceEqDiff]) | ((with_reducible apply a_if); (focus (simp only [go_sem, Nat.reduceBEq, Nat.reduceLT, hdp, Int.reduceBEq, Int.reduceGT, Int.reduceLT, decide_true, decide_false]; exact rfl)); dsimp only [cond_true, cond_false]) | ((with_reducible refine a_draw ?_ ?_); (focus exact rfl))))
        refine wCall (op_any_call [((0, 0), (0, 0))] [((0, 0), (0, 0))] n6) trivial ?_
        refine wRUN trivial ?_
        refine w12 (op_rowF [] n7) trivial ?_
        refine wRUN trivial ?_
        exact wRetOf (ret_of [((0, 0), (0, 0)), ((0, 1), (48, 0))] []) Tryz.results133 hdp
      | true =>
        refine wEnter Tryz.func133 Tryz.ntmps133 ?_
        refine wRUN trivial ?_
        refine wCall (op_any_call [((0, 0), (0, 0))] [((0, 0), (0, 0))] hc) trivial ?_
        (repeat (first | (with_reducible first | refine a_seq ?_ | refine a_region ?_ | refine a_block ?_ | refine a_scope ?_) | ((with_reducible apply op_any); (iterate 2 (focus (first | (simp only [go_sem, Nat.reduceEqDiff, Nat.reduceAdd, Nat.reduceSub, Nat.reduceLeDiff, Nat.reduceMul, Nat.reduceBEq, Nat.reduceLT, Int.reduceToNat, reduceCtorEq, hdp, Int.reduceBEq, Int.reduceGT, Int.reduceLT, decide_true, decide_false]; first | done | exact rfl | (and_intros <;> rfl)) | exact rfl | decide)))) | ((with_reducible refine o_nil ?_); dsimp only; try ((with_reducible apply o_draw); (focus (simp only [go_sem]; exact rfl)); (focus decide))) | ((with_reducible first | refine a_ret ?_ | refine a_skip ?_ | refine a_label ?_); dsimp only) | ((with_reducible refine a_exit ?_); dsimp only; simp only [if_true, if_false, Nat.reduceEqDiff]) | ((with_reducible apply a_if); (focus (simp only [go_sem, Nat.reduceBEq, Nat.reduceLT, hdp, Int.reduceBEq, Int.reduceGT, Int.reduceLT, decide_true, decide_false]; exact rfl)); dsimp only [cond_true, cond_false]) | ((with_reducible refine a_draw ?_ ?_); (focus exact rfl))))
        refine wCall (op_any_call [((0, 0), (0, 0))] [((0, 0), (0, 0))] n6) trivial ?_
        refine wRUN trivial ?_
        refine w12 (op_rowF [] n7) trivial ?_
        refine wRUN trivial ?_
        exact wRetOf (ret_of [((0, 0), (0, 0)), ((0, 1), (48, 0))] []) Tryz.results133 hdp
end Go.Proofs.YtfmnoljflcpbgaaGreatDoor
