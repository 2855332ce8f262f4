/- spec.l1Keys, l1Array, l13All, by the engine. -/
import Derived.Test.YtijadbifkehccaaKG06
set_option linter.unusedSimpArgs false
set_option linter.unusedVariables false
set_option linter.unnecessarySimpa false
namespace Go.Proofs.Ytijadbifkehccaa
open Go.RowKit
set_option maxRecDepth 10000
set_option maxHeartbeats 1000000 in
theorem l1Array_ac (ps : List V) (hc : (arrV ps).count ≤ 500000) : AC Try.prog 71 [.c (.sl ((ps.map V.enc).map encCs))] [] (.own (0, 0)) [((0, 0), .row false 5 76 ((arrV ps).enc.map CellD.cs))] := by
  have hcl := countL_len ps
  have hcc := arr_count ps
  obtain ⟨R, hR⟩ : ∃ R : Nat → List CellD, ∀ k, R k = (arrV ps).enc.take (kp (arrV ps).kids k) := ⟨_, fun _ => rfl⟩
  have h0 : (R 0).map CellD.cs = [[.int .i64 5, .int .i64 0, .str ByteArray.empty, .str ByteArray.empty, .int .i64 ps.length]] := by
    rw [hR, enc_take_one]; rfl
  refine AC.intro follows_mixed Try.func71 rfl ?_; simp only [Try.ntmps71, go_sem, List.replicate, Nat.reduceAdd, Nat.reduceSub]
  (repeat (first | (with_reducible refine a_seq ?_) | (with_reducible refine a_region ?_) | ((with_reducible apply op_any); (iterate 2 (focus (first | (simp only [go_sem, Nat.reduceEqDiff, Nat.reduceAdd, Nat.reduceSub, Nat.reduceLeDiff, Nat.reduceMul, Nat.reduceBEq, Nat.reduceLT, Int.reduceToNat, reduceCtorEq]; first | done | exact rfl | (and_intros <;> rfl)) | exact rfl | decide)))) | ((with_reducible refine o_nil ?_); dsimp only; try ((with_reducible apply o_draw); (focus (simp only [go_sem, Nat.reduceEqDiff, Nat.reduceAdd, Nat.reduceSub, Nat.reduceLeDiff, Nat.reduceMul, Nat.reduceBEq, Nat.reduceLT, Int.reduceToNat, reduceCtorEq]; exact rfl)); (focus decide))) | ((with_reducible refine a_ret ?_); dsimp only) | (with_reducible refine a_block ?_) | ((with_reducible refine a_exit ?_); dsimp only; simp only [if_true, if_false, Nat.reduceEqDiff]) | ((with_reducible apply a_if); (focus (first | (simp only [go_sem, Nat.reduceEqDiff, Nat.reduceAdd, Nat.reduceSub, Nat.reduceLeDiff, Nat.reduceMul, Nat.reduceBEq, Nat.reduceLT, Int.reduceToNat, reduceCtorEq]; first | done | exact rfl | (and_intros <;> rfl)) | exact rfl | decide)); dsimp only [cond_true, cond_false]) | ((with_reducible refine a_draw ?_ ?_); (focus exact rfl)) | ((with_reducible refine a_skip ?_); dsimp only) | ((with_reducible refine a_label ?_); dsimp only) | (with_reducible refine a_scope ?_)))
  refine a_loop (κ := Nat) (fun k => ⟨mkS 0 22 [(0, .c (.sl ((ps.map V.enc).map encCs))), (3, .own (3, 0)), (4, .c (.int .i64 k))],
      [((3, 0), .row false 5 76 ((R k).map CellD.cs))]⟩)
    (fun k => k ≤ ps.length) (fun k => ps.length - k) 0 (Nat.zero_le _) ?_ ?_
  · (apply (Says.of [((3, 0), (8, 0))] []); (iterate 2 ((focus (simp only [go_sem, Nat.reduceEqDiff, Nat.reduceAdd, Nat.reduceSub, Nat.reduceLeDiff, Nat.reduceMul, Nat.reduceBEq, Nat.reduceLT, Int.reduceToNat, reduceCtorEq, h0]; try (and_intros <;> rfl))); (focus exact rfl))); (iterate 4 (focus (simp [go_sem, h0]; done))))
  · intro k hk
    by_cases hlt : k < ps.length
    · have hd : decide ((k : Int) < (ps.length : Int)) = true := by simpa using hlt
      have hw1 := wrap_succ (k := k) (by omega)
      have hr1 : rowsAt ((ps.map V.enc).map encCs) 1 k = true := by simp [rowsAt, hlt, encCs]
      have hg1 : ((ps.map V.enc).map encCs)[k]? = some [.sl (ps[k].enc.map CellD.cs)] := by simp [hlt, encCs]
      have hts := enc_take_succ (arrV ps) (i := k) hlt
      have h56 : (arrV ps).kind ≠ 6 := show (5 : Int) ≠ 6 by decide
      rw [keyAt_none h56, ← hR, ← hR] at hts
      have htl := enc_take_len (arrV ps) k
      have hkl := kp_le (arrV ps) k
      have hm := countL_mem (List.getElem_mem hlt)
      have hel := enc_len ps[k]
      have h1 : (R k).length + ps[k].enc.length ≤ 1000000 := by rw [hR, htl, hel]; omega
      have hn : (R k).map CellD.cs ++ ps[k].enc.map CellD.cs = (R (k + 1)).map CellD.cs := by
        rw [hts, List.map_append]; rfl
      generalize ps[k] = u at *
      (repeat (first | (with_reducible refine a_seq ?_) | (with_reducible refine a_region ?_) | ((with_reducible apply op_any); (iterate 2 (focus (first | (simp only [go_sem, Nat.reduceEqDiff, Nat.reduceAdd, Nat.reduceSub, Nat.reduceLeDiff, Nat.reduceMul, Nat.reduceBEq, Nat.reduceLT, Int.reduceToNat, reduceCtorEq, hd, hr1, hg1, h1, hw1]; first | done | exact rfl | (and_intros <;> rfl)) | exact rfl | decide)))) | ((with_reducible refine o_nil ?_); dsimp only; try ((with_reducible apply o_draw); (focus (simp only [go_sem, Nat.reduceEqDiff, Nat.reduceAdd, Nat.reduceSub, Nat.reduceLeDiff, Nat.reduceMul, Nat.reduceBEq, Nat.reduceLT, Int.reduceToNat, reduceCtorEq, hd, hr1, hg1, h1, hw1]; exact rfl)); (focus decide))) | ((with_reducible refine a_ret ?_); dsimp only) | (with_reducible refine a_block ?_) | ((with_reducible refine a_exit ?_); dsimp only; simp only [if_true, if_false, Nat.reduceEqDiff]) | ((with_reducible apply a_if); (focus (first | (simp only [go_sem, Nat.reduceEqDiff, Nat.reduceAdd, Nat.reduceSub, Nat.reduceLeDiff, Nat.reduceMul, Nat.reduceBEq, Nat.reduceLT, Int.reduceToNat, reduceCtorEq, hd, hr1, hg1, h1, hw1]; first | done | exact rfl | (and_intros <;> rfl)) | exact rfl | decide)); dsimp only [cond_true, cond_false]) | ((with_reducible refine a_draw ?_ ?_); (focus exact rfl)) | ((with_reducible refine a_skip ?_); dsimp only) | ((with_reducible refine a_label ?_); dsimp only) | (with_reducible refine a_scope ?_)))
      refine ⟨k + 1, by omega, by omega, ?_⟩
      (apply (Says.of [((3, 0), (20, 0))] []); (iterate 2 ((focus (simp only [go_sem, Nat.reduceEqDiff, Nat.reduceAdd, Nat.reduceSub, Nat.reduceLeDiff, Nat.reduceMul, Nat.reduceBEq, Nat.reduceLT, Int.reduceToNat, reduceCtorEq, hn]; try (and_intros <;> rfl))); (focus exact rfl))); (iterate 4 (focus (simp [go_sem, hn]; done))))
    · have hd : decide ((k : Int) < (ps.length : Int)) = false := by simpa using hlt
      have hke : k = ps.length := by omega
      have hall : R k = (V.mk 5 0 ByteArray.empty [] ps).enc := by rw [hR, hke]; exact enc_take_all (arrV ps)
      (repeat (first | (with_reducible refine a_seq ?_) | (with_reducible refine a_region ?_) | ((with_reducible apply op_any); (iterate 2 (focus (first | (simp only [go_sem, Nat.reduceEqDiff, Nat.reduceAdd, Nat.reduceSub, Nat.reduceLeDiff, Nat.reduceMul, Nat.reduceBEq, Nat.reduceLT, Int.reduceToNat, reduceCtorEq, hd]; first | done | exact rfl | (and_intros <;> rfl)) | exact rfl | decide)))) | ((with_reducible refine o_nil ?_); dsimp only; try ((with_reducible apply o_draw); (focus (simp only [go_sem, Nat.reduceEqDiff, Nat.reduceAdd, Nat.reduceSub, Nat.reduceLeDiff, Nat.reduceMul, Nat.reduceBEq, Nat.reduceLT, Int.reduceToNat, reduceCtorEq, hd]; exact rfl)); (focus decide))) | ((with_reducible refine a_ret ?_); dsimp only) | (with_reducible refine a_block ?_) | ((with_reducible refine a_exit ?_); dsimp only; simp only [if_true, if_false, Nat.reduceEqDiff]) | ((with_reducible apply a_if); (focus (first | (simp only [go_sem, Nat.reduceEqDiff, Nat.reduceAdd, Nat.reduceSub, Nat.reduceLeDiff, Nat.reduceMul, Nat.reduceBEq, Nat.reduceLT, Int.reduceToNat, reduceCtorEq, hd]; first | done | exact rfl | (and_intros <;> rfl)) | exact rfl | decide)); dsimp only [cond_true, cond_false]) | ((with_reducible refine a_draw ?_ ?_); (focus exact rfl)) | ((with_reducible refine a_skip ?_); dsimp only) | ((with_reducible refine a_label ?_); dsimp only) | (with_reducible refine a_scope ?_)))
      (apply (ret_of [((0, 0), (3, 0))] []); (focus (simp only [Try.results71, go_sem, hall]; exact rfl)); (focus (simp only [go_sem, Nat.reduceEqDiff, Nat.reduceAdd, Nat.reduceSub, Nat.reduceLeDiff, Nat.reduceMul, Nat.reduceBEq, Nat.reduceLT, Int.reduceToNat, reduceCtorEq, hall]; try (and_intros <;> rfl))); (focus exact rfl); (focus (simp only [go_sem, Nat.reduceEqDiff, Nat.reduceAdd, Nat.reduceSub, Nat.reduceLeDiff, Nat.reduceMul, Nat.reduceBEq, Nat.reduceLT, Int.reduceToNat, reduceCtorEq, hall]; try (and_intros <;> rfl))); (focus exact rfl); (iterate 4 (focus (simp [go_sem, hall]; done))))
end Go.Proofs.Ytijadbifkehccaa
