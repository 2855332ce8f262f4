/- Contracts that laws over draws need: values whose memory is shared; lwAt. -/
import Derived.Test.YtpaooephkpjkfaaGreatKG83
import Derived.Test.YtpaooephkpjkfaaGreatKE6
import Derived.Test.YtpaooephkpjkfaaGreatKG14
import Derived.Shelf.SortM.Plain
import Derived.Shelf.SortM.SortNone
import Derived.Test.YtpaooephkpjkfaaGreatKG04
import Derived.Test.YtpaooephkpjkfaaGreatKM2
import Derived.Test.YtpaooephkpjkfaaGreatKS02uG24
import Derived.Sort.OwnSorted
import Derived.Test.YtpaooephkpjkfaaGreatKG02
import Derived.Lib.AppendZerosOnto
import Derived.Shelf.RegionOpenPlain
import Derived.Test.YtpaooephkpjkfaaGreatKG43
import Derived.Test.YtpaooephkpjkfaaGreatKG5
import Derived.Test.YtpaooephkpjkfaaGreatKE5
import Derived.Test.YtpaooephkpjkfaaGreatKM23
import Derived.Test.YtpaooephkpjkfaaGreatKG86uG87
import Derived.Test.YtpaooephkpjkfaaGreatKG07uG08
import Derived.Test.YtpaooephkpjkfaaGreatKM3
import Derived.Deep.RegionLaw
import Derived.Laws.CopyRow
import Derived.Test.YtpaooephkpjkfaaGreatKGEuG29
set_option linter.unusedSimpArgs false
set_option linter.unusedVariables false
set_option linter.unnecessarySimpa false
namespace Go.Proofs.YtpaooephkpjkfaaGreat
open Go.RowKit
set_option maxRecDepth 10000
/-- What CompareValues tells. -/
def cmpC (x y : List CellD) : Int := match (dec x).2, (dec y).2 with
  | some t, some u => t.cmp u
  | _, _ => 0
def sameC (x y : List CellD) : Bool := (dec x).1 == 0 && ((dec y).1 == 0 && cmpC x y == 0)
theorem implCompare_ac (x y : List CellD) (hz : Sized x) (hzy : Sized y) : AC Tryz.prog 50 [cellsA x, cellsA y] [] (.c (.int .i64 (cmpC x y))) [] := by
  rcases dec_way x with ⟨h1, h2⟩ | ⟨t, h1, h3, h4, h5, h6⟩
  · have hv := valOf_bad x hz h1
    have hb : ((dec x).1 != 0) = true := by simpa using h2
    have hc : cmpC x y = 0 := by unfold cmpC; rw [h1]
    rw [hc]
    rcases dec_way y with ⟨g1, g2⟩ | ⟨u, g1, g3, g4, g5, g6⟩
    · have hu := valOf_bad y hzy g1
      refine wEnter Tryz.func50 Tryz.ntmps50 ?_
      refine wRUN trivial ?_
      (apply (op_shared [] hv); (iterate 9 (focus (first | (simp only [go_sem, Nat.reduceEqDiff, Nat.reduceAdd, Nat.reduceSub, Nat.reduceLeDiff, Nat.reduceMul, Nat.reduceBEq, Nat.reduceLT, Int.reduceToNat, reduceCtorEq, noV]; first | done | exact rfl | (and_intros <;> rfl)) | exact rfl | decide))))
      (repeat (first | (with_reducible first | refine a_seq ?_ | refine a_region ?_ | refine a_block ?_ | refine a_scope ?_) | ((with_reducible apply op_any); (iterate 2 (focus (first | (simp only [go_sem, Nat.reduceEqDiff, Nat.reduceAdd, Nat.reduceSub, Nat.reduceLeDiff, Nat.reduceMul, Nat.reduceBEq, Nat.reduceLT, Int.reduceToNat, reduceCtorEq, noV]; first | done | exact rfl | (and_intros <;> rfl)) | exact rfl | decide)))) | ((with_reducible refine o_nil ?_); dsimp only; try ((with_reducible apply o_draw); (focus (simp only [go_sem]; exact rfl)); (focus decide))) | ((with_reducible first | refine a_ret ?_ | refine a_skip ?_ | refine a_label ?_); dsimp only) | ((with_reducible refine a_exit ?_); dsimp only; simp only [if_true, if_false, Nat.reduceEqDiff]) | ((with_reducible apply a_if); (focus (simp only [go_sem, Nat.reduceBEq, Nat.reduceLT, noV]; exact rfl)); dsimp only [cond_true, cond_false]) | ((with_reducible refine a_draw ?_ ?_); (focus exact rfl))))
      (apply (op_shared [] hu); (iterate 9 (focus (first | (simp only [go_sem, Nat.reduceEqDiff, Nat.reduceAdd, Nat.reduceSub, Nat.reduceLeDiff, Nat.reduceMul, Nat.reduceBEq, Nat.reduceLT, Int.reduceToNat, reduceCtorEq, noV]; first | done | exact rfl | (and_intros <;> rfl)) | exact rfl | decide))))
      (repeat (first | (with_reducible first | refine a_seq ?_ | refine a_region ?_ | refine a_block ?_ | refine a_scope ?_) | ((with_reducible apply op_any); (iterate 2 (focus (first | (simp only [go_sem, Nat.reduceEqDiff, Nat.reduceAdd, Nat.reduceSub, Nat.reduceLeDiff, Nat.reduceMul, Nat.reduceBEq, Nat.reduceLT, Int.reduceToNat, reduceCtorEq, noV, hb]; first | done | exact rfl | (and_intros <;> rfl)) | exact rfl | decide)))) | ((with_reducible refine o_nil ?_); dsimp only; try ((with_reducible apply o_draw); (focus (simp only [go_sem]; exact rfl)); (focus decide))) | ((with_reducible first | refine a_ret ?_ | refine a_skip ?_ | refine a_label ?_); dsimp only) | ((with_reducible refine a_exit ?_); dsimp only; simp only [if_true, if_false, Nat.reduceEqDiff]) | ((with_reducible apply a_if); (focus (simp only [go_sem, Nat.reduceBEq, Nat.reduceLT, noV, hb]; exact rfl)); dsimp only [cond_true, cond_false]) | ((with_reducible refine a_draw ?_ ?_); (focus exact rfl))))
      exact wRet (ret_data []) Tryz.results50
    · have hu := valOf_ac y hzy (t := u) (by rw [g1])
      refine wEnter Tryz.func50 Tryz.ntmps50 ?_
      refine wRUN trivial ?_
      (apply (op_shared [] hv); (iterate 9 (focus (first | (simp only [go_sem, Nat.reduceEqDiff, Nat.reduceAdd, Nat.reduceSub, Nat.reduceLeDiff, Nat.reduceMul, Nat.reduceBEq, Nat.reduceLT, Int.reduceToNat, reduceCtorEq, noV]; first | done | exact rfl | (and_intros <;> rfl)) | exact rfl | decide))))
      (repeat (first | (with_reducible first | refine a_seq ?_ | refine a_region ?_ | refine a_block ?_ | refine a_scope ?_) | ((with_reducible apply op_any); (iterate 2 (focus (first | (simp only [go_sem, Nat.reduceEqDiff, Nat.reduceAdd, Nat.reduceSub, Nat.reduceLeDiff, Nat.reduceMul, Nat.reduceBEq, Nat.reduceLT, Int.reduceToNat, reduceCtorEq, noV]; first | done | exact rfl | (and_intros <;> rfl)) | exact rfl | decide)))) | ((with_reducible refine o_nil ?_); dsimp only; try ((with_reducible apply o_draw); (focus (simp only [go_sem]; exact rfl)); (focus decide))) | ((with_reducible first | refine a_ret ?_ | refine a_skip ?_ | refine a_label ?_); dsimp only) | ((with_reducible refine a_exit ?_); dsimp only; simp only [if_true, if_false, Nat.reduceEqDiff]) | ((with_reducible apply a_if); (focus (simp only [go_sem, Nat.reduceBEq, Nat.reduceLT, noV]; exact rfl)); dsimp only [cond_true, cond_false]) | ((with_reducible refine a_draw ?_ ?_); (focus exact rfl))))
      refine w9 (op_shared [] hu) trivial ?_
      (repeat (first | (with_reducible first | refine a_seq ?_ | refine a_region ?_ | refine a_block ?_ | refine a_scope ?_) | ((with_reducible apply op_any); (iterate 2 (focus (first | (simp only [go_sem, Nat.reduceEqDiff, Nat.reduceAdd, Nat.reduceSub, Nat.reduceLeDiff, Nat.reduceMul, Nat.reduceBEq, Nat.reduceLT, Int.reduceToNat, reduceCtorEq, noV, hb]; first | done | exact rfl | (and_intros <;> rfl)) | exact rfl | decide)))) | ((with_reducible refine o_nil ?_); dsimp only; try ((with_reducible apply o_draw); (focus (simp only [go_sem]; exact rfl)); (focus decide))) | ((with_reducible first | refine a_ret ?_ | refine a_skip ?_ | refine a_label ?_); dsimp only) | ((with_reducible refine a_exit ?_); dsimp only; simp only [if_true, if_false, Nat.reduceEqDiff]) | ((with_reducible apply a_if); (focus (simp only [go_sem, Nat.reduceBEq, Nat.reduceLT, noV, hb]; exact rfl)); dsimp only [cond_true, cond_false]) | ((with_reducible refine a_draw ?_ ?_); (focus exact rfl))))
      exact wRet (ret_data []) Tryz.results50
  · have hv := valOf_ac x hz (t := t) (by rw [h1])
    have h00 : ((0 : Int) != 0) = false := rfl
    rcases dec_way y with ⟨g1, g2⟩ | ⟨u, g1, g3, g4, g5, g6⟩
    · have hu := valOf_bad y hzy g1
      have hb : ((dec y).1 != 0) = true := by simpa using g2
      have hc : cmpC x y = 0 := by unfold cmpC; rw [h1, g1]
      rw [hc]
      refine wEnter Tryz.func50 Tryz.ntmps50 ?_
      refine wRUN trivial ?_
      refine w9 (op_shared [] hv) trivial ?_
      (repeat (first | (with_reducible first | refine a_seq ?_ | refine a_region ?_ | refine a_block ?_ | refine a_scope ?_) | ((with_reducible apply op_any); (iterate 2 (focus (first | (simp only [go_sem, Nat.reduceEqDiff, Nat.reduceAdd, Nat.reduceSub, Nat.reduceLeDiff, Nat.reduceMul, Nat.reduceBEq, Nat.reduceLT, Int.reduceToNat, reduceCtorEq, noV]; first | done | exact rfl | (and_intros <;> rfl)) | exact rfl | decide)))) | ((with_reducible refine o_nil ?_); dsimp only; try ((with_reducible apply o_draw); (focus (simp only [go_sem]; exact rfl)); (focus decide))) | ((with_reducible first | refine a_ret ?_ | refine a_skip ?_ | refine a_label ?_); dsimp only) | ((with_reducible refine a_exit ?_); dsimp only; simp only [if_true, if_false, Nat.reduceEqDiff]) | ((with_reducible apply a_if); (focus (simp only [go_sem, Nat.reduceBEq, Nat.reduceLT, noV]; exact rfl)); dsimp only [cond_true, cond_false]) | ((with_reducible refine a_draw ?_ ?_); (focus exact rfl))))
      (apply (op_shared [] hu); (iterate 9 (focus (first | (simp only [go_sem, Nat.reduceEqDiff, Nat.reduceAdd, Nat.reduceSub, Nat.reduceLeDiff, Nat.reduceMul, Nat.reduceBEq, Nat.reduceLT, Int.reduceToNat, reduceCtorEq, noV]; first | done | exact rfl | (and_intros <;> rfl)) | exact rfl | decide))))
      (repeat (first | (with_reducible first | refine a_seq ?_ | refine a_region ?_ | refine a_block ?_ | refine a_scope ?_) | ((with_reducible apply op_any); (iterate 2 (focus (first | (simp only [go_sem, Nat.reduceEqDiff, Nat.reduceAdd, Nat.reduceSub, Nat.reduceLeDiff, Nat.reduceMul, Nat.reduceBEq, Nat.reduceLT, Int.reduceToNat, reduceCtorEq, noV, hb, h00]; first | done | exact rfl | (and_intros <;> rfl)) | exact rfl | decide)))) | ((with_reducible refine o_nil ?_); dsimp only; try ((with_reducible apply o_draw); (focus (simp only [go_sem]; exact rfl)); (focus decide))) | ((with_reducible first | refine a_ret ?_ | refine a_skip ?_ | refine a_label ?_); dsimp only) | ((with_reducible refine a_exit ?_); dsimp only; simp only [if_true, if_false, Nat.reduceEqDiff]) | ((with_reducible apply a_if); (focus (simp only [go_sem, Nat.reduceBEq, Nat.reduceLT, noV, hb, h00]; exact rfl)); dsimp only [cond_true, cond_false]) | ((with_reducible refine a_draw ?_ ?_); (focus exact rfl))))
      exact wRet (ret_data []) Tryz.results50
    · have hu := valOf_ac y hzy (t := u) (by rw [g1])
      have hc : cmpC x y = t.cmp u := by unfold cmpC; rw [h1, g1]
      have hcm := compareVals_ac t.count t u (Nat.le_refl _) ⟨h4, h5, h6⟩
      rw [hc]
      refine wEnter Tryz.func50 Tryz.ntmps50 ?_
      refine wRUN trivial ?_
      refine w9 (op_shared [] hv) trivial ?_
      refine wRUN trivial ?_
      refine w9 (op_shared [] hu) trivial ?_
      refine wRUN h00 ?_
      refine w7 (op_data [] hcm) trivial ?_
      refine wRUN trivial ?_
      exact wRet (ret_data []) Tryz.results50
theorem implSame_ac (x y : List CellD) (hz : Sized x) (hzy : Sized y) : AC Tryz.prog 13 [cellsA x, cellsA y] [] (.c (.bool (sameC x y))) [] := by
  have f1 := implFault_ac x hz
  have f2 := implFault_ac y hzy
  have f3 := implCompare_ac x y hz hzy
  unfold sameC
  generalize cmpC x y = q at *
  cases h1 : (dec x).1 == 0 with
  | false =>
    refine wEnter Tryz.func13 Tryz.ntmps13 ?_
    refine wRUN trivial ?_
    refine w7 (op_data [] f1) trivial ?_
    refine wRUN h1 ?_
    exact wRet (ret_data []) Tryz.results13
  | true =>
    cases h2 : (dec y).1 == 0 with
    | false =>
      refine wEnter Tryz.func13 Tryz.ntmps13 ?_
      refine wRUN trivial ?_
      refine w7 (op_data [] f1) trivial ?_
      refine wRUN h1 ?_
      refine w7 (op_data [] f2) trivial ?_
      refine wRUN h2 ?_
      exact wRet (ret_data []) Tryz.results13
    | true =>
      refine wEnter Tryz.func13 Tryz.ntmps13 ?_
      refine wRUN trivial ?_
      refine w7 (op_data [] f1) trivial ?_
      refine wRUN h1 ?_
      refine w7 (op_data [] f2) trivial ?_
      refine wRUN h2 ?_
      refine w7 (op_data [] f3) trivial ?_
      (repeat (first | (with_reducible first | refine a_seq ?_ | refine a_region ?_ | refine a_block ?_ | refine a_scope ?_) | ((with_reducible apply op_any); (iterate 2 (focus (first | (simp only [go_sem, Nat.reduceEqDiff, Nat.reduceAdd, Nat.reduceSub, Nat.reduceLeDiff, Nat.reduceMul, Nat.reduceBEq, Nat.reduceLT, Int.reduceToNat, reduceCtorEq, Bool.true_and]; first | done | exact rfl | (and_intros <;> rfl)) | exact rfl | decide)))) | ((with_reducible refine o_nil ?_); dsimp only; try ((with_reducible apply o_draw); (focus (simp only [go_sem]; exact rfl)); (focus decide))) | ((with_reducible first | refine a_ret ?_ | refine a_skip ?_ | refine a_label ?_); dsimp only) | ((with_reducible refine a_exit ?_); dsimp only; simp only [if_true, if_false, Nat.reduceEqDiff]) | ((with_reducible apply a_if); (focus (simp only [go_sem, Nat.reduceBEq, Nat.reduceLT, Bool.true_and]; exact rfl)); dsimp only [cond_true, cond_false]) | ((with_reducible refine a_draw ?_ ?_); (focus exact rfl))))
      exact wRet (ret_data []) Tryz.results13
theorem sameC_self {t : V} (h : t.right) : sameC t.enc t.enc = true := by
  unfold sameC cmpC
  rw [right_dec h]
  show ((0 : Int) == 0 && ((0 : Int) == 0 && t.cmp t == 0)) = true
  rw [cmp_null.2 rfl]
  rfl
end Go.Proofs.YtpaooephkpjkfaaGreat
