/- Contracts that laws over draws need: values whose memory is shared; lwAt. -/
import Derived.Test.YtpaooephkpjkfaaGreatKG83
import Derived.Test.YtpaooephkpjkfaaGreatKH18
import Derived.Test.YtpaooephkpjkfaaGreatKGEuG29
set_option linter.unusedSimpArgs false
set_option linter.unusedVariables false
set_option linter.unnecessarySimpa false
namespace Go.Proofs.YtpaooephkpjkfaaGreat
open Go.RowKit
set_option maxRecDepth 10000
theorem twoR_ok {op : Int} {x y : List CellD} : (∃ v, twoR (binV op) x y = (0, some v) ∧ v.right ∧ ∃ t u, dec x = (0, some t) ∧ dec y = (0, some u) ∧ t.right ∧ u.right ∧ x = t.enc ∧ y = u.enc ∧ binV op t u = (0, some v)) ∨ ∃ c, c ≠ 0 ∧ twoR (binV op) x y = (c, none) := by
  rcases two_ways (binV op) x y with ⟨h1, h2, h3, h4⟩ | ⟨t, hd, h1, h2, h3, h4⟩ | ⟨t, u, hd, hy, ht, hu, hx, hy', h3, h4⟩
  · exact .inr ⟨_, h2, h3⟩
  · exact .inr ⟨_, h2, h3⟩
  · have hok := bin_ok op ht hu
    rw [h3]
    cases hb : binV op t u with
    | mk c o =>
      rw [hb] at hok
      cases o with
      | none => exact .inr ⟨c, hok, rfl⟩
      | some v => 
        obtain ⟨h0, hv⟩ := hok
        have h0 : c = 0 := h0
        subst h0
        exact .inl ⟨v, rfl, hv, t, u, hd, hy, ht, hu, hx, hy', hb⟩
theorem implBinaryS_ac (op : Int) (x y : List CellD) (hz : Sized x) (hzy : Sized y) : AC Tryz.prog 17 [.c (.int .i64 op), cellsA x, cellsA y] [] (vrA (twoR (binV op) x y)) [] := by
  rcases twoR_ok (op := op) (x := x) (y := y) with ⟨v, h, hv, _⟩ | ⟨c, hc, h⟩
  · have hb := implBinary_ok op x y hz hzy h hv
    rw [h]
    unfold vrA
    (apply (AC.says [] [(0, 0)] hb); (focus (simp only [go_sem, Nat.reduceEqDiff, Nat.reduceAdd, Nat.reduceSub, Nat.reduceLeDiff, Nat.reduceMul, Nat.reduceBEq, Nat.reduceLT, Int.reduceToNat, reduceCtorEq]; try (and_intros <;> rfl))); (focus exact rfl); (focus (simp only [go_sem, Nat.reduceEqDiff, Nat.reduceAdd, Nat.reduceSub, Nat.reduceLeDiff, Nat.reduceMul, Nat.reduceBEq, Nat.reduceLT, Int.reduceToNat, reduceCtorEq]; try (and_intros <;> rfl))); (focus exact rfl); (iterate 4 (focus (simp [go_sem]; done))))
  · have hb := implBinary_bad op x y hz hzy hc h
    rw [h]
    unfold vrA
    (apply (AC.says [] [] hb); (focus (simp only [go_sem, Nat.reduceEqDiff, Nat.reduceAdd, Nat.reduceSub, Nat.reduceLeDiff, Nat.reduceMul, Nat.reduceBEq, Nat.reduceLT, Int.reduceToNat, reduceCtorEq]; try (and_intros <;> rfl))); (focus exact rfl); (focus (simp only [go_sem, Nat.reduceEqDiff, Nat.reduceAdd, Nat.reduceSub, Nat.reduceLeDiff, Nat.reduceMul, Nat.reduceBEq, Nat.reduceLT, Int.reduceToNat, reduceCtorEq]; try (and_intros <;> rfl))); (focus exact rfl); (iterate 4 (focus (simp [go_sem]; done))))
theorem numberValueS_ac (x : Int) (hx : -1000000000000000 ≤ x ∧ x ≤ 1000000000000000) : AC Tryz.prog 20 [.c (.int .i64 x)] [] (.agg [.c (.int .i64 0), cellsA (numV x).enc]) [] := by
  have hw := within_ac x (-1000000000000000) 1000000000000000
  have h1 : decide (x ≥ -1000000000000000) = true := decide_eq_true hx.1
  have h2 : decide (x ≤ 1000000000000000) = true := decide_eq_true hx.2
  rw [h1, h2] at hw
  have hn := number_ac x
  have hm := made_ac (numV_right hx)
  generalize numV x = v at *
  refine wEnter Tryz.func20 Tryz.ntmps20 ?_
  refine wRUN trivial ?_
  refine w7 (op_data [] hw) trivial ?_
  refine wRUN trivial ?_
  refine w9 (op_shared [] hn) trivial ?_
  refine wRUN trivial ?_
  refine w12 (op_rowF [] hm) trivial ?_
  refine wRUN trivial ?_
  exact wRetOf (ret_of [] [(9, 0)]) Tryz.results20 h1
/-- What CompareValues tells. -/
def cmpC (x y : List CellD) : Int := match (dec x).2, (dec y).2 with
  | some t, some u => t.cmp u
  | _, _ => 0
def sameC (x y : List CellD) : Bool := (dec x).1 == 0 && ((dec y).1 == 0 && cmpC x y == 0)
theorem implCompare_ac (x y : List CellD) (hz : Sized x) (hzy : Sized y) : AC Tryz.prog 50 [cellsA x, cellsA y] [] (.c (.int .i64 (cmpC x y))) [] := by
  rcases dec_way x with ⟨h1, h2⟩ | ⟨t, h1, h3, h4, h5, h6⟩
  · have hv := valOf_bad x hz h1
    have hb : ((dec x).1 != 0) = true := by simpa using h2
    have hc : cmpC x y = 0 := by unfold cmpC; rw [h1]
    rw [hc]
    rcases dec_way y with ⟨g1, g2⟩ | ⟨u, g1, g3, g4, g5, g6⟩
    · have hu := valOf_bad y hzy g1
      refine wEnter Tryz.func50 Tryz.ntmps50 ?_
      refine wRUN trivial ?_
      (apply (op_shared [] hv); (iterate 9 (focus (first | (simp only [go_sem, Nat.reduceEqDiff, Nat.reduceAdd, Nat.reduceSub, Nat.reduceLeDiff, Nat.reduceMul, Nat.reduceBEq, Nat.reduceLT, Int.reduceToNat, reduceCtorEq, noV]; first | done | exact rfl | (and_intros <;> rfl)) | exact rfl | decide))))
      (repeat (first | (with_reducible first | refine a_seq ?_ | refine a_region ?_ | refine a_block ?_ | refine a_scope ?_) | ((with_reducible apply op_any); (iterate 2 (focus (first | (simp only [go_sem, Nat.reduceEqDiff, Nat.reduceAdd, Nat.reduceSub, Nat.reduceLeDiff, Nat.reduceMul, Nat.reduceBEq, Nat.reduceLT, Int.reduceToNat, reduceCtorEq, noV]; first | done | exact rfl | (and_intros <;> rfl)) | exact rfl | decide)))) | ((with_reducible refine o_nil ?_); dsimp only; try ((with_reducible apply o_draw); (focus (simp only [go_sem]; exact rfl)); (focus decide))) | ((with_reducible first | refine a_ret ?_ | refine a_skip ?_ | refine a_label ?_); dsimp only) | ((with_reducible refine a_exit ?_); dsimp only; simp only [if_true, if_false, Nat.reduceEqDiff]) | ((with_reducible apply a_if); (focus (simp only [go_sem, Nat.reduceBEq, Nat.reduceLT, noV]; exact rfl)); dsimp only [cond_true, cond_false]) | ((with_reducible refine a_draw ?_ ?_); (focus exact rfl))))
      (apply (op_shared [] hu); (iterate 9 (focus (first | (simp only [go_sem, Nat.reduceEqDiff, Nat.reduceAdd, Nat.reduceSub, Nat.reduceLeDiff, Nat.reduceMul, Nat.reduceBEq, Nat.reduceLT, Int.reduceToNat, reduceCtorEq, noV]; first | done | exact rfl | (and_intros <;> rfl)) | exact rfl | decide))))
      (repeat (first | (with_reducible first | refine a_seq ?_ | refine a_region ?_ | refine a_block ?_ | refine a_scope ?_) | ((with_reducible apply op_any); (iterate 2 (focus (first | (simp only [go_sem, Nat.reduceEqDiff, Nat.reduceAdd, Nat.reduceSub, Nat.reduceLeDiff, Nat.reduceMul, Nat.reduceBEq, Nat.reduceLT, Int.reduceToNat, reduceCtorEq, noV, hb]; first | done | exact rfl | (and_intros <;> rfl)) | exact rfl | decide)))) | ((with_reducible refine o_nil ?_); dsimp only; try ((with_reducible apply o_draw); (focus (simp only [go_sem]; exact rfl)); (focus decide))) | ((with_reducible first | refine a_ret ?_ | refine a_skip ?_ | refine a_label ?_); dsimp only) | ((with_reducible refine a_exit ?_); dsimp only; simp only [if_true, if_false, Nat.reduceEqDiff]) | ((with_reducible apply a_if); (focus (simp only [go_sem, Nat.reduceBEq, Nat.reduceLT, noV, hb]; exact rfl)); dsimp only [cond_true, cond_false]) | ((with_reducible refine a_draw ?_ ?_); (focus exact rfl))))
      exact wRet (ret_data []) Tryz.results50
    · have hu := valOf_ac y hzy (t := u) (by rw [g1])
      refine wEnter Tryz.func50 Tryz.ntmps50 ?_
      refine wRUN trivial ?_
      (apply (op_shared [] hv); (iterate 9 (focus (first | (simp only [go_sem, Nat.reduceEqDiff, Nat.reduceAdd, Nat.reduceSub, Nat.reduceLeDiff, Nat.reduceMul, Nat.reduceBEq, Nat.reduceLT, Int.reduceToNat, reduceCtorEq, noV]; first | done | exact rfl | (and_intros <;> rfl)) | exact rfl | decide))))
      (repeat (first | (with_reducible first | refine a_seq ?_ | refine a_region ?_ | refine a_block ?_ | refine a_scope ?_) | ((with_reducible apply op_any); (iterate 2 (focus (first | (simp only [go_sem, Nat.reduceEqDiff, Nat.reduceAdd, Nat.reduceSub, Nat.reduceLeDiff, Nat.reduceMul, Nat.reduceBEq, Nat.reduceLT, Int.reduceToNat, reduceCtorEq, noV]; first | done | exact rfl | (and_intros <;> rfl)) | exact rfl | decide)))) | ((with_reducible refine o_nil ?_); dsimp only; try ((with_reducible apply o_draw); (focus (simp only [go_sem]; exact rfl)); (focus decide))) | ((with_reducible first | refine a_ret ?_ | refine a_skip ?_ | refine a_label ?_); dsimp only) | ((with_reducible refine a_exit ?_); dsimp only; simp only [if_true, if_false, Nat.reduceEqDiff]) | ((with_reducible apply a_if); (focus (simp only [go_sem, Nat.reduceBEq, Nat.reduceLT, noV]; exact rfl)); dsimp only [cond_true, cond_false]) | ((with_reducible refine a_draw ?_ ?_); (focus exact rfl))))
      refine w9 (op_shared [] hu) trivial ?_
      (repeat (first | (with_reducible first | refine a_seq ?_ | refine a_region ?_ | refine a_block ?_ | refine a_scope ?_) | ((with_reducible apply op_any); (iterate 2 (focus (first | (simp only [go_sem, Nat.reduceEqDiff, Nat.reduceAdd, Nat.reduceSub, Nat.reduceLeDiff, Nat.reduceMul, Nat.reduceBEq, Nat.reduceLT, Int.reduceToNat, reduceCtorEq, noV, hb]; first | done | exact rfl | (and_intros <;> rfl)) | exact rfl | decide)))) | ((with_reducible refine o_nil ?_); dsimp only; try ((with_reducible apply o_draw); (focus (simp only [go_sem]; exact rfl)); (focus decide))) | ((with_reducible first | refine a_ret ?_ | refine a_skip ?_ | refine a_label ?_); dsimp only) | ((with_reducible refine a_exit ?_); dsimp only; simp only [if_true, if_false, Nat.reduceEqDiff]) | ((with_reducible apply a_if); (focus (simp only [go_sem, Nat.reduceBEq, Nat.reduceLT, noV, hb]; exact rfl)); dsimp only [cond_true, cond_false]) | ((with_reducible refine a_draw ?_ ?_); (focus exact rfl))))
      exact wRet (ret_data []) Tryz.results50
  · have hv := valOf_ac x hz (t := t) (by rw [h1])
    have h00 : ((0 : Int) != 0) = false := rfl
    rcases dec_way y with ⟨g1, g2⟩ | ⟨u, g1, g3, g4, g5, g6⟩
    · have hu := valOf_bad y hzy g1
      have hb : ((dec y).1 != 0) = true := by simpa using g2
      have hc : cmpC x y = 0 := by unfold cmpC; rw [h1, g1]
      rw [hc]
      refine wEnter Tryz.func50 Tryz.ntmps50 ?_
      refine wRUN trivial ?_
      refine w9 (op_shared [] hv) trivial ?_
      (repeat (first | (with_reducible first | refine a_seq ?_ | refine a_region ?_ | refine a_block ?_ | refine a_scope ?_) | ((with_reducible apply op_any); (iterate 2 (focus (first | (simp only [go_sem, Nat.reduceEqDiff, Nat.reduceAdd, Nat.reduceSub, Nat.reduceLeDiff, Nat.reduceMul, Nat.reduceBEq, Nat.reduceLT, Int.reduceToNat, reduceCtorEq, noV]; first | done | exact rfl | (and_intros <;> rfl)) | exact rfl | decide)))) | ((with_reducible refine o_nil ?_); dsimp only; try ((with_reducible apply o_draw); (focus (simp only [go_sem]; exact rfl)); (focus decide))) | ((with_reducible first | refine a_ret ?_ | refine a_skip ?_ | refine a_label ?_); dsimp only) | ((with_reducible refine a_exit ?_); dsimp only; simp only [if_true, if_false, Nat.reduceEqDiff]) | ((with_reducible apply a_if); (focus (simp only [go_sem, Nat.reduceBEq, Nat.reduceLT, noV]; exact rfl)); dsimp only [cond_true, cond_false]) | ((with_reducible refine a_draw ?_ ?_); (focus exact rfl))))
      (apply (op_shared [] hu); (iterate 9 (focus (first | (simp only [go_sem, Nat.reduceEqDiff, Nat.reduceAdd, Nat.reduceSub, Nat.reduceLeDiff, Nat.reduceMul, Nat.reduceBEq, Nat.reduceLT, Int.reduceToNat, reduceCtorEq, noV]; first | done | exact rfl | (and_intros <;> rfl)) | exact rfl | decide))))
      (repeat (first | (with_reducible first | refine a_seq ?_ | refine a_region ?_ | refine a_block ?_ | refine a_scope ?_) | ((with_reducible apply op_any); (iterate 2 (focus (first | (simp only [go_sem, Nat.reduceEqDiff, Nat.reduceAdd, Nat.reduceSub, Nat.reduceLeDiff, Nat.reduceMul, Nat.reduceBEq, Nat.reduceLT, Int.reduceToNat, reduceCtorEq, noV, hb, h00]; first | done | exact rfl | (and_intros <;> rfl)) | exact rfl | decide)))) | ((with_reducible refine o_nil ?_); dsimp only; try ((with_reducible apply o_draw); (focus (simp only [go_sem]; exact rfl)); (focus decide))) | ((with_reducible first | refine a_ret ?_ | refine a_skip ?_ | refine a_label ?_); dsimp only) | ((with_reducible refine a_exit ?_); dsimp only; simp only [if_true, if_false, Nat.reduceEqDiff]) | ((with_reducible apply a_if); (focus (simp only [go_sem, Nat.reduceBEq, Nat.reduceLT, noV, hb, h00]; exact rfl)); dsimp only [cond_true, cond_false]) | ((with_reducible refine a_draw ?_ ?_); (focus exact rfl))))
      exact wRet (ret_data []) Tryz.results50
    · have hu := valOf_ac y hzy (t := u) (by rw [g1])
      have hc : cmpC x y = t.cmp u := by unfold cmpC; rw [h1, g1]
      have hcm := compareVals_ac t.count t u (Nat.le_refl _) ⟨h4, h5, h6⟩
      rw [hc]
      refine wEnter Tryz.func50 Tryz.ntmps50 ?_
      refine wRUN trivial ?_
      refine w9 (op_shared [] hv) trivial ?_
      refine wRUN trivial ?_
      refine w9 (op_shared [] hu) trivial ?_
      refine wRUN h00 ?_
      refine w7 (op_data [] hcm) trivial ?_
      refine wRUN trivial ?_
      exact wRet (ret_data []) Tryz.results50
theorem implSame_ac (x y : List CellD) (hz : Sized x) (hzy : Sized y) : AC Tryz.prog 13 [cellsA x, cellsA y] [] (.c (.bool (sameC x y))) [] := by
  have f1 := implFault_ac x hz
  have f2 := implFault_ac y hzy
  have f3 := implCompare_ac x y hz hzy
  unfold sameC
  generalize cmpC x y = q at *
  cases h1 : (dec x).1 == 0 with
  | false =>
    refine wEnter Tryz.func13 Tryz.ntmps13 ?_
    refine wRUN trivial ?_
    refine w7 (op_data [] f1) trivial ?_
    refine wRUN h1 ?_
    exact wRet (ret_data []) Tryz.results13
  | true =>
    cases h2 : (dec y).1 == 0 with
    | false =>
      refine wEnter Tryz.func13 Tryz.ntmps13 ?_
      refine wRUN trivial ?_
      refine w7 (op_data [] f1) trivial ?_
      refine wRUN h1 ?_
      refine w7 (op_data [] f2) trivial ?_
      refine wRUN h2 ?_
      exact wRet (ret_data []) Tryz.results13
    | true =>
      refine wEnter Tryz.func13 Tryz.ntmps13 ?_
      refine wRUN trivial ?_
      refine w7 (op_data [] f1) trivial ?_
      refine wRUN h1 ?_
      refine w7 (op_data [] f2) trivial ?_
      refine wRUN h2 ?_
      refine w7 (op_data [] f3) trivial ?_
      (repeat (first | (with_reducible first | refine a_seq ?_ | refine a_region ?_ | refine a_block ?_ | refine a_scope ?_) | ((with_reducible apply op_any); (iterate 2 (focus (first | (simp only [go_sem, Nat.reduceEqDiff, Nat.reduceAdd, Nat.reduceSub, Nat.reduceLeDiff, Nat.reduceMul, Nat.reduceBEq, Nat.reduceLT, Int.reduceToNat, reduceCtorEq, Bool.true_and]; first | done | exact rfl | (and_intros <;> rfl)) | exact rfl | decide)))) | ((with_reducible refine o_nil ?_); dsimp only; try ((with_reducible apply o_draw); (focus (simp only [go_sem]; exact rfl)); (focus decide))) | ((with_reducible first | refine a_ret ?_ | refine a_skip ?_ | refine a_label ?_); dsimp only) | ((with_reducible refine a_exit ?_); dsimp only; simp only [if_true, if_false, Nat.reduceEqDiff]) | ((with_reducible apply a_if); (focus (simp only [go_sem, Nat.reduceBEq, Nat.reduceLT, Bool.true_and]; exact rfl)); dsimp only [cond_true, cond_false]) | ((with_reducible refine a_draw ?_ ?_); (focus exact rfl))))
      exact wRet (ret_data []) Tryz.results13
theorem sameC_self {t : V} (h : t.right) : sameC t.enc t.enc = true := by
  unfold sameC cmpC
  rw [right_dec h]
  show ((0 : Int) == 0 && ((0 : Int) == 0 && t.cmp t == 0)) = true
  rw [cmp_null.2 rfl]
  rfl
end Go.Proofs.YtpaooephkpjkfaaGreat
