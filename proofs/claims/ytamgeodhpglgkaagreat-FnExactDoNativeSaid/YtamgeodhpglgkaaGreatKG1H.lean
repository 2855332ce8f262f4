/- spec.l6Do, spec.DoNative, by the engine. -/
import Derived.Test.YtamgeodhpglgkaaGreatKG1F
import Derived.Test.YtamgeodhpglgkaaGreatKG1C
import Derived.Test.YtamgeodhpglgkaaGreatKG89uG90
set_option linter.unusedSimpArgs false
set_option maxHeartbeats 8000000
namespace Go.Proofs.YtamgeodhpglgkaaGreat
open Go.RowKit
set_option maxRecDepth 10000
theorem l3Sort_ac {t : V} (ht : t.right) : AC Tryz.prog 129 [cellsA t.enc] [] (vrA (sortOfV t)) [] := by
 unfold sortOfV
 by_cases h5 : t.kind = 5
 ·rw [if_pos h5]; exact l3Sort_ok ht h5
 ·rw [if_neg h5]; exact l3Sort_bad h5
theorem l6Do_ac (d : Int) {t : V} (ht : t.right) (h18 : 1 ≤ d ∧ d ≤ 8) : AC Tryz.prog 66 [.c (.int .i64 d), cellsA t.enc] [] (vrA (nativeV d t)) [] := by
 have c1 := l3Length_ac ht
 have c2 := l3Keys_ac ht
 have c3 := l3Type_ac ht
 have c4 := l3Sort_ac ht
 have c5 := l3Sum_ac ht
 have c6 := l3Range_ac t.num
 have c7 := l6Deep_ac ht
 have c8 := l3Bad_ac 1
 have c9 := l3Bad_ac 6
 have ra := enc_rows t
 have ga := enc_head t
 have hok := nativeV_ok d ht
 have hcase : d = 1 ∨ d = 2 ∨ d = 3 ∨ d = 4 ∨ d = 5 ∨ d = 6 ∨ d = 7 ∨ d = 8 := by omega
 rcases hcase with rfl | rfl | rfl | rfl | rfl | rfl | rfl | rfl
 ·rw [show nativeV 1 t = lengthV t from rfl] at *
  rcases okRes_ways hok with ⟨v, e, _⟩ | ⟨c, _, e⟩
  all_goals
   rw [e] at c1 ⊢
   simp only [vrA_some, vrA_none, vrA_ok] at c1 ⊢
   refine wEnter Tryz.func66 Tryz.ntmps66 ?_
   (repeat (first | (with_reducible first | refine a_seq ?_ | refine a_region ?_ | refine a_block ?_ | refine a_scope ?_) | ((with_reducible apply op_any); (iterate 2 (focus (first | (simp only [go_sem, Nat.reduceEqDiff, Nat.reduceAdd, Nat.reduceSub, Nat.reduceLeDiff, Nat.reduceMul, Nat.reduceBEq, Nat.reduceLT, Int.reduceToNat, reduceCtorEq, Int.reduceBEq]; first | done | exact rfl | (and_intros <;> rfl)) | exact rfl | decide)))) | ((with_reducible refine o_nil ?_); dsimp only; try ((with_reducible apply o_draw); (focus (simp only [go_sem]; exact rfl)); (focus decide))) | ((with_reducible first | refine a_ret ?_ | refine a_skip ?_ | refine a_label ?_); dsimp only) | ((with_reducible refine a_exit ?_); dsimp only; simp only [if_true, if_false, Nat.reduceEqDiff]) | ((with_reducible apply a_if); (focus (simp only [go_sem, Nat.reduceBEq, Nat.reduceLT, Int.reduceBEq]; exact rfl)); dsimp only [cond_true, cond_false]) | ((with_reducible refine a_draw ?_ ?_); (focus exact rfl))))
   refine w9 (op_shared [] c1) trivial ?_
   refine wRUN trivial ?_
   exact wRetOf (ret_of [] []) Tryz.results66 hok
 ·rw [show nativeV 2 t = keysV t from rfl] at *
  rcases okRes_ways hok with ⟨v, e, _⟩ | ⟨c, _, e⟩
  all_goals
   rw [e] at c2 ⊢
   simp only [vrA_some, vrA_none, vrA_ok] at c2 ⊢
   refine wEnter Tryz.func66 Tryz.ntmps66 ?_
   (repeat (first | (with_reducible first | refine a_seq ?_ | refine a_region ?_ | refine a_block ?_ | refine a_scope ?_) | ((with_reducible apply op_any); (iterate 2 (focus (first | (simp only [go_sem, Nat.reduceEqDiff, Nat.reduceAdd, Nat.reduceSub, Nat.reduceLeDiff, Nat.reduceMul, Nat.reduceBEq, Nat.reduceLT, Int.reduceToNat, reduceCtorEq, Int.reduceBEq]; first | done | exact rfl | (and_intros <;> rfl)) | exact rfl | decide)))) | ((with_reducible refine o_nil ?_); dsimp only; try ((with_reducible apply o_draw); (focus (simp only [go_sem]; exact rfl)); (focus decide))) | ((with_reducible first | refine a_ret ?_ | refine a_skip ?_ | refine a_label ?_); dsimp only) | ((with_reducible refine a_exit ?_); dsimp only; simp only [if_true, if_false, Nat.reduceEqDiff]) | ((with_reducible apply a_if); (focus (simp only [go_sem, Nat.reduceBEq, Nat.reduceLT, Int.reduceBEq]; exact rfl)); dsimp only [cond_true, cond_false]) | ((with_reducible refine a_draw ?_ ?_); (focus exact rfl))))
   refine w9 (op_shared [] c2) trivial ?_
   refine wRUN trivial ?_
   exact wRetOf (ret_of [] []) Tryz.results66 hok
 ·rw [show nativeV 3 t = typeV t from rfl] at *
  rcases okRes_ways hok with ⟨v, e, _⟩ | ⟨c, _, e⟩
  all_goals
   rw [e] at c3 ⊢
   simp only [vrA_some, vrA_none, vrA_ok] at c3 ⊢
   refine wEnter Tryz.func66 Tryz.ntmps66 ?_
   (repeat (first | (with_reducible first | refine a_seq ?_ | refine a_region ?_ | refine a_block ?_ | refine a_scope ?_) | ((with_reducible apply op_any); (iterate 2 (focus (first | (simp only [go_sem, Nat.reduceEqDiff, Nat.reduceAdd, Nat.reduceSub, Nat.reduceLeDiff, Nat.reduceMul, Nat.reduceBEq, Nat.reduceLT, Int.reduceToNat, reduceCtorEq, Int.reduceBEq]; first | done | exact rfl | (and_intros <;> rfl)) | exact rfl | decide)))) | ((with_reducible refine o_nil ?_); dsimp only; try ((with_reducible apply o_draw); (focus (simp only [go_sem]; exact rfl)); (focus decide))) | ((with_reducible first | refine a_ret ?_ | refine a_skip ?_ | refine a_label ?_); dsimp only) | ((with_reducible refine a_exit ?_); dsimp only; simp only [if_true, if_false, Nat.reduceEqDiff]) | ((with_reducible apply a_if); (focus (simp only [go_sem, Nat.reduceBEq, Nat.reduceLT, Int.reduceBEq]; exact rfl)); dsimp only [cond_true, cond_false]) | ((with_reducible refine a_draw ?_ ?_); (focus exact rfl))))
   refine w9 (op_shared [] c3) trivial ?_
   refine wRUN trivial ?_
   exact wRetOf (ret_of [] []) Tryz.results66 hok
 ·rw [show nativeV 4 t = sortOfV t from rfl] at *
  rcases okRes_ways hok with ⟨v, e, _⟩ | ⟨c, _, e⟩
  all_goals
   rw [e] at c4 ⊢
   simp only [vrA_some, vrA_none, vrA_ok] at c4 ⊢
   refine wEnter Tryz.func66 Tryz.ntmps66 ?_
   (repeat (first | (with_reducible first | refine a_seq ?_ | refine a_region ?_ | refine a_block ?_ | refine a_scope ?_) | ((with_reducible apply op_any); (iterate 2 (focus (first | (simp only [go_sem, Nat.reduceEqDiff, Nat.reduceAdd, Nat.reduceSub, Nat.reduceLeDiff, Nat.reduceMul, Nat.reduceBEq, Nat.reduceLT, Int.reduceToNat, reduceCtorEq, Int.reduceBEq]; first | done | exact rfl | (and_intros <;> rfl)) | exact rfl | decide)))) | ((with_reducible refine o_nil ?_); dsimp only; try ((with_reducible apply o_draw); (focus (simp only [go_sem]; exact rfl)); (focus decide))) | ((with_reducible first | refine a_ret ?_ | refine a_skip ?_ | refine a_label ?_); dsimp only) | ((with_reducible refine a_exit ?_); dsimp only; simp only [if_true, if_false, Nat.reduceEqDiff]) | ((with_reducible apply a_if); (focus (simp only [go_sem, Nat.reduceBEq, Nat.reduceLT, Int.reduceBEq]; exact rfl)); dsimp only [cond_true, cond_false]) | ((with_reducible refine a_draw ?_ ?_); (focus exact rfl))))
   refine w9 (op_shared [] c4) trivial ?_
   refine wRUN trivial ?_
   exact wRetOf (ret_of [] []) Tryz.results66 hok
 ·rw [show nativeV 5 t = sumV t from rfl] at *
  rcases okRes_ways hok with ⟨v, e, _⟩ | ⟨c, _, e⟩
  all_goals
   rw [e] at c5 ⊢
   simp only [vrA_some, vrA_none, vrA_ok] at c5 ⊢
   refine wEnter Tryz.func66 Tryz.ntmps66 ?_
   (repeat (first | (with_reducible first | refine a_seq ?_ | refine a_region ?_ | refine a_block ?_ | refine a_scope ?_) | ((with_reducible apply op_any); (iterate 2 (focus (first | (simp only [go_sem, Nat.reduceEqDiff, Nat.reduceAdd, Nat.reduceSub, Nat.reduceLeDiff, Nat.reduceMul, Nat.reduceBEq, Nat.reduceLT, Int.reduceToNat, reduceCtorEq, Int.reduceBEq]; first | done | exact rfl | (and_intros <;> rfl)) | exact rfl | decide)))) | ((with_reducible refine o_nil ?_); dsimp only; try ((with_reducible apply o_draw); (focus (simp only [go_sem]; exact rfl)); (focus decide))) | ((with_reducible first | refine a_ret ?_ | refine a_skip ?_ | refine a_label ?_); dsimp only) | ((with_reducible refine a_exit ?_); dsimp only; simp only [if_true, if_false, Nat.reduceEqDiff]) | ((with_reducible apply a_if); (focus (simp only [go_sem, Nat.reduceBEq, Nat.reduceLT, Int.reduceBEq]; exact rfl)); dsimp only [cond_true, cond_false]) | ((with_reducible refine a_draw ?_ ?_); (focus exact rfl))))
   refine w9 (op_shared [] c5) trivial ?_
   refine wRUN trivial ?_
   exact wRetOf (ret_of [] []) Tryz.results66 hok
 ·rw [show nativeV 6 t = numRangeV t from rfl] at *
  unfold numRangeV at *
  by_cases h3 : t.kind = 3
  ·rw [if_pos h3] at *
   have b3 : (t.kind != 3) = false := by simp [h3]
   rcases okRes_ways hok with ⟨v, e, _⟩ | ⟨c, _, e⟩
   all_goals
    rw [e] at c6 ⊢
    simp only [vrA_some, vrA_none, vrA_ok] at c6 ⊢
    refine wEnter Tryz.func66 Tryz.ntmps66 ?_
    (repeat (first | (with_reducible first | refine a_seq ?_ | refine a_region ?_ | refine a_block ?_ | refine a_scope ?_) | ((with_reducible apply op_any); (iterate 2 (focus (first | (simp only [go_sem, Nat.reduceEqDiff, Nat.reduceAdd, Nat.reduceSub, Nat.reduceLeDiff, Nat.reduceMul, Nat.reduceBEq, Nat.reduceLT, Int.reduceToNat, reduceCtorEq, Int.reduceBEq, ra, ga, b3]; first | done | exact rfl | (and_intros <;> rfl)) | exact rfl | decide)))) | ((with_reducible refine o_nil ?_); dsimp only; try ((with_reducible apply o_draw); (focus (simp only [go_sem]; exact rfl)); (focus decide))) | ((with_reducible first | refine a_ret ?_ | refine a_skip ?_ | refine a_label ?_); dsimp only) | ((with_reducible refine a_exit ?_); dsimp only; simp only [if_true, if_false, Nat.reduceEqDiff]) | ((with_reducible apply a_if); (focus (simp only [go_sem, Nat.reduceBEq, Nat.reduceLT, Int.reduceBEq, ra, ga, b3]; exact rfl)); dsimp only [cond_true, cond_false]) | ((with_reducible refine a_draw ?_ ?_); (focus exact rfl))))
    refine w9 (op_shared [] c6) trivial ?_
    refine wRUN trivial ?_
    exact wRetOf (ret_of [] []) Tryz.results66 hok
  ·rw [if_neg h3] at *
   have b3 : (t.kind != 3) = true := by simpa using h3
   rw [vrA_bad]
   refine wEnter Tryz.func66 Tryz.ntmps66 ?_
   (repeat (first | (with_reducible first | refine a_seq ?_ | refine a_region ?_ | refine a_block ?_ | refine a_scope ?_) | ((with_reducible apply op_any); (iterate 2 (focus (first | (simp only [go_sem, Nat.reduceEqDiff, Nat.reduceAdd, Nat.reduceSub, Nat.reduceLeDiff, Nat.reduceMul, Nat.reduceBEq, Nat.reduceLT, Int.reduceToNat, reduceCtorEq, Int.reduceBEq, ra, ga, b3]; first | done | exact rfl | (and_intros <;> rfl)) | exact rfl | decide)))) | ((with_reducible refine o_nil ?_); dsimp only; try ((with_reducible apply o_draw); (focus (simp only [go_sem]; exact rfl)); (focus decide))) | ((with_reducible first | refine a_ret ?_ | refine a_skip ?_ | refine a_label ?_); dsimp only) | ((with_reducible refine a_exit ?_); dsimp only; simp only [if_true, if_false, Nat.reduceEqDiff]) | ((with_reducible apply a_if); (focus (simp only [go_sem, Nat.reduceBEq, Nat.reduceLT, Int.reduceBEq, ra, ga, b3]; exact rfl)); dsimp only [cond_true, cond_false]) | ((with_reducible refine a_draw ?_ ?_); (focus exact rfl))))
   refine w9 (op_shared [] c9) noV_eq ?_
   refine wRUN noV_eq ?_
   exact wRetOf (ret_of [] []) Tryz.results66 b3
 ·rw [show nativeV 7 t = deepV t from rfl] at *
  rcases okRes_ways hok with ⟨v, e, _⟩ | ⟨c, _, e⟩
  all_goals
   rw [e] at c7 ⊢
   simp only [vrA_some, vrA_none, vrA_ok] at c7 ⊢
   refine wEnter Tryz.func66 Tryz.ntmps66 ?_
   (repeat (first | (with_reducible first | refine a_seq ?_ | refine a_region ?_ | refine a_block ?_ | refine a_scope ?_) | ((with_reducible apply op_any); (iterate 2 (focus (first | (simp only [go_sem, Nat.reduceEqDiff, Nat.reduceAdd, Nat.reduceSub, Nat.reduceLeDiff, Nat.reduceMul, Nat.reduceBEq, Nat.reduceLT, Int.reduceToNat, reduceCtorEq, Int.reduceBEq]; first | done | exact rfl | (and_intros <;> rfl)) | exact rfl | decide)))) | ((with_reducible refine o_nil ?_); dsimp only; try ((with_reducible apply o_draw); (focus (simp only [go_sem]; exact rfl)); (focus decide))) | ((with_reducible first | refine a_ret ?_ | refine a_skip ?_ | refine a_label ?_); dsimp only) | ((with_reducible refine a_exit ?_); dsimp only; simp only [if_true, if_false, Nat.reduceEqDiff]) | ((with_reducible apply a_if); (focus (simp only [go_sem, Nat.reduceBEq, Nat.reduceLT, Int.reduceBEq]; exact rfl)); dsimp only [cond_true, cond_false]) | ((with_reducible refine a_draw ?_ ?_); (focus exact rfl))))
   refine w9 (op_shared [] c7) trivial ?_
   refine wRUN trivial ?_
   exact wRetOf (ret_of [] []) Tryz.results66 hok
 ·rw [show nativeV 8 t = badR 1 from rfl, vrA_bad]
  refine wEnter Tryz.func66 Tryz.ntmps66 ?_
  (repeat (first | (with_reducible first | refine a_seq ?_ | refine a_region ?_ | refine a_block ?_ | refine a_scope ?_) | ((with_reducible apply op_any); (iterate 2 (focus (first | (simp only [go_sem, Nat.reduceEqDiff, Nat.reduceAdd, Nat.reduceSub, Nat.reduceLeDiff, Nat.reduceMul, Nat.reduceBEq, Nat.reduceLT, Int.reduceToNat, reduceCtorEq, Int.reduceBEq]; first | done | exact rfl | (and_intros <;> rfl)) | exact rfl | decide)))) | ((with_reducible refine o_nil ?_); dsimp only; try ((with_reducible apply o_draw); (focus (simp only [go_sem]; exact rfl)); (focus decide))) | ((with_reducible first | refine a_ret ?_ | refine a_skip ?_ | refine a_label ?_); dsimp only) | ((with_reducible refine a_exit ?_); dsimp only; simp only [if_true, if_false, Nat.reduceEqDiff]) | ((with_reducible apply a_if); (focus (simp only [go_sem, Nat.reduceBEq, Nat.reduceLT, Int.reduceBEq]; exact rfl)); dsimp only [cond_true, cond_false]) | ((with_reducible refine a_draw ?_ ?_); (focus exact rfl))))
  refine w9 (op_shared [] c8) noV_eq ?_
  refine wRUN noV_eq ?_
  exact wRetOf (ret_of [] []) Tryz.results66 hok
theorem specDoNative_ac (d : Int) (xs : List CellD) : AC Tryz.prog 12 [.c (.int .i64 d), cellsA xs] [] (vrA (oneR (nativeV d) xs)) [] := by
 have hf := fault_ac xs
 unfold oneR
 rcases dec_cases xs with ⟨t, hd⟩ | ⟨c, hc, hd⟩
 ·obtain ⟨hx, ht⟩ := right_of_dec hd
  subst hx
  rw [hd] at hf ⊢
  have h0 : ((0 : Int) != 0) = false := rfl
  have hin := l1In_ac d 1 8
  show AC _ _ _ _ (vrA (nativeV d t)) _
  by_cases h18 : 1 ≤ d ∧ d ≤ 8
  ·have hdo := l6Do_ac d ht h18
   have hok := nativeV_ok d ht
   have hb : (decide (d ≥ 1) && decide (d ≤ 8)) = true := by simp; omega
   rw [hb] at hin
   generalize nativeV d t = r at *
   rcases okRes_ways hok with ⟨v, rfl, _⟩ | ⟨c, _, rfl⟩
   all_goals
    simp only [vrA_some, vrA_none, vrA_ok] at hdo ⊢
    refine wEnter Tryz.func12 Tryz.ntmps12 ?_
    refine wRUN trivial ?_
    refine w7 (op_data [] hf) trivial ?_
    refine wRUN h0 ?_
    refine w7 (op_data [] hin) trivial ?_
    refine wRUN trivial ?_
    refine w9 (op_shared [] hdo) trivial ?_
    refine wRUN trivial ?_
    exact wRetOf (ret_of [] []) Tryz.results12 hok
  ·have hb : (decide (d ≥ 1) && decide (d ≤ 8)) = false := by
    cases hh : (decide (d ≥ 1) && decide (d ≤ 8)) with
    | false => rfl
    | true => exact absurd (by simpa using hh) h18
   rw [hb] at hin
   have h3 := l3Bad_ac 3
   have hn : nativeV d t = badR 3 := by
    unfold nativeV
    rw [if_neg (by omega), if_neg (by omega), if_neg (by omega), if_neg (by omega), if_neg (by omega), if_neg (by omega), if_neg (by omega), if_neg (by omega)]
   rw [hn, vrA_bad]
   refine wEnter Tryz.func12 Tryz.ntmps12 ?_
   refine wRUN trivial ?_
   refine w7 (op_data [] hf) trivial ?_
   refine wRUN h0 ?_
   refine w7 (op_data [] hin) trivial ?_
   refine wRUN trivial ?_
   refine w9 (op_shared [] h3) noV_eq ?_
   refine wRUN noV_eq ?_
   exact wRetOf (ret_of [] []) Tryz.results12 h0
 ·rw [hd] at hf ⊢
  have hc0 : (c != 0) = true := by simpa using hc
  have h3 := l3Bad_ac c
  show AC _ _ _ _ (vrA (badR c)) _
  rw [vrA_bad]
  refine wEnter Tryz.func12 Tryz.ntmps12 ?_
  refine wRUN trivial ?_
  refine w7 (op_data [] hf) trivial ?_
  refine wRUN hc0 ?_
  refine w9 (op_shared [] h3) noV_eq ?_
  refine wRUN noV_eq ?_
  exact wRetOf (ret_of [] []) Tryz.results12 hc0
end Go.Proofs.YtamgeodhpglgkaaGreat
