/- Texts of this proof: G49 G50 G51 G52. -/
import Derived.Test.YtlciedpfjhkkdaaGreatDoorKE6
import Derived.Test.YtlciedpfjhkkdaaGreatDoorKG8
import Derived.Test.YtlciedpfjhkkdaaGreatDoorKG22uG27
import Derived.Test.YtlciedpfjhkkdaaGreatDoorKM2
set_option linter.unusedSimpArgs false
set_option linter.unusedVariables false
set_option linter.unnecessarySimpa false
set_option maxHeartbeats 8000000
namespace Go.Proofs.YtlciedpfjhkkdaaGreatDoor
open Go.RowKit
set_option maxRecDepth 10000
theorem cloneStrs_ac (l : List ByteArray) (hl : l.length ≤ 1000000) : AC Tryz.prog 157 [.c (.sl (l.map strCs))] [] (.own (0, 0)) [((0, 0), .row false 1 9 (l.map strCs))] := by
 have ha := all_strs l
 have hl0 : 0 + l.length ≤ 1000000 := by omega
 refine wEnter Tryz.func157 Tryz.ntmps157 ?_
 refine wRUN1 trivial ?_
 refine a_region ?_
 refine wRUN1 trivial ?_
 refine a_regionN ?_
 (repeat ((with_reducible apply n_eff); (iterate 2 (focus (first | (simp only [go_sem, Nat.reduceEqDiff, Nat.reduceAdd, Nat.reduceSub, Nat.reduceLeDiff, Nat.reduceMul, Nat.reduceBEq, Nat.reduceLT, Int.reduceToNat, reduceCtorEq]; first | done | exact rfl | (and_intros <;> rfl)) | exact rfl | decide)))))
 (apply n_isnil; (focus (first | (simp only [go_sem, Nat.reduceEqDiff, Nat.reduceAdd, Nat.reduceSub, Nat.reduceLeDiff, Nat.reduceMul, Nat.reduceBEq, Nat.reduceLT, Int.reduceToNat, reduceCtorEq]; first | done | exact rfl | (and_intros <;> rfl)) | exact rfl | decide)); (focus (first | (simp only [go_sem, Nat.reduceEqDiff, Nat.reduceAdd, Nat.reduceSub, Nat.reduceLeDiff, Nat.reduceMul, Nat.reduceBEq, Nat.reduceLT, Int.reduceToNat, reduceCtorEq]; first | done | exact rfl | (and_intros <;> rfl)) | exact rfl | decide)); (focus (first | (simp only [go_sem, Nat.reduceEqDiff, Nat.reduceAdd, Nat.reduceSub, Nat.reduceLeDiff, Nat.reduceMul, Nat.reduceBEq, Nat.reduceLT, Int.reduceToNat, reduceCtorEq]; first | done | exact rfl | (and_intros <;> rfl)) | exact rfl | decide)); (focus (first | (simp only [go_sem, Nat.reduceEqDiff, Nat.reduceAdd, Nat.reduceSub, Nat.reduceLeDiff, Nat.reduceMul, Nat.reduceBEq, Nat.reduceLT, Int.reduceToNat, reduceCtorEq]; first | done | exact rfl | (and_intros <;> rfl)) | exact rfl | decide)); (focus (first | (simp only [go_sem, Nat.reduceEqDiff, Nat.reduceAdd, Nat.reduceSub, Nat.reduceLeDiff, Nat.reduceMul, Nat.reduceBEq, Nat.reduceLT, Int.reduceToNat, reduceCtorEq]; first | done | exact rfl | (and_intros <;> rfl)) | exact rfl | decide)))
 ·intro hnil
  have hnil2 : l = [] := List.map_eq_nil_iff.1 hnil
  subst hnil2
  refine n_nil ?_
  dsimp only
  refine wRUN trivial ?_
  exact wRetOf (ret_of [] []) Tryz.results157 @List.map_nil.{0,0}
 ·refine n_nil ?_
  dsimp only
  refine wRUN (j3 hl ha hl0) ?_
  exact wRetOf (ret_of [((0, 0), (7, 0))] []) Tryz.results157 hl
theorem cloneVals_ac (l : List V) (hl : l.length ≤ 1000000) : AC Tryz.prog 56 [.c (.sl (l.map V.cs))] [] (.own (0, 0)) [((0, 0), .row false 5 62 (l.map V.cs))] := by
 have ha := all_trees l
 have hl0 : 0 + l.length ≤ 1000000 := by omega
 refine wEnter Tryz.func56 Tryz.ntmps56 ?_
 refine wRUN1 trivial ?_
 refine a_region ?_
 refine wRUN1 trivial ?_
 refine a_regionN ?_
 (repeat ((with_reducible apply n_eff); (iterate 2 (focus (first | (simp only [go_sem, Nat.reduceEqDiff, Nat.reduceAdd, Nat.reduceSub, Nat.reduceLeDiff, Nat.reduceMul, Nat.reduceBEq, Nat.reduceLT, Int.reduceToNat, reduceCtorEq]; first | done | exact rfl | (and_intros <;> rfl)) | exact rfl | decide)))))
 (apply n_isnil; (focus (first | (simp only [go_sem, Nat.reduceEqDiff, Nat.reduceAdd, Nat.reduceSub, Nat.reduceLeDiff, Nat.reduceMul, Nat.reduceBEq, Nat.reduceLT, Int.reduceToNat, reduceCtorEq]; first | done | exact rfl | (and_intros <;> rfl)) | exact rfl | decide)); (focus (first | (simp only [go_sem, Nat.reduceEqDiff, Nat.reduceAdd, Nat.reduceSub, Nat.reduceLeDiff, Nat.reduceMul, Nat.reduceBEq, Nat.reduceLT, Int.reduceToNat, reduceCtorEq]; first | done | exact rfl | (and_intros <;> rfl)) | exact rfl | decide)); (focus (first | (simp only [go_sem, Nat.reduceEqDiff, Nat.reduceAdd, Nat.reduceSub, Nat.reduceLeDiff, Nat.reduceMul, Nat.reduceBEq, Nat.reduceLT, Int.reduceToNat, reduceCtorEq]; first | done | exact rfl | (and_intros <;> rfl)) | exact rfl | decide)); (focus (first | (simp only [go_sem, Nat.reduceEqDiff, Nat.reduceAdd, Nat.reduceSub, Nat.reduceLeDiff, Nat.reduceMul, Nat.reduceBEq, Nat.reduceLT, Int.reduceToNat, reduceCtorEq]; first | done | exact rfl | (and_intros <;> rfl)) | exact rfl | decide)); (focus (first | (simp only [go_sem, Nat.reduceEqDiff, Nat.reduceAdd, Nat.reduceSub, Nat.reduceLeDiff, Nat.reduceMul, Nat.reduceBEq, Nat.reduceLT, Int.reduceToNat, reduceCtorEq]; first | done | exact rfl | (and_intros <;> rfl)) | exact rfl | decide)))
 ·intro hnil
  have hnil2 : l = [] := List.map_eq_nil_iff.1 hnil
  subst hnil2
  refine n_nil ?_
  dsimp only
  refine wRUN trivial ?_
  exact wRetOf (ret_of [] []) Tryz.results56 @List.map_nil.{0,0}
 ·refine n_nil ?_
  dsimp only
  refine wRUN (j3 hl ha hl0) ?_
  exact wRetOf (ret_of [((0, 0), (7, 0))] []) Tryz.results56 hl
set_option maxRecDepth 10000
theorem vfault_any {t : V} (h : t.fit) (hc : t.count ≤ 500000) : AC Tryz.prog 151 [t.av] [] (.c (.int .i64 (dec t.enc).1)) [] := by
 have h1 := count_ac t.count t (Nat.le_refl _) (by omega)
 have h2 := cells_ac t.count t (Nat.le_refl _) (by omega) (fit_neat t h)
 by_cases hb : t.count ≤ 200
 ·have hd : decide ((t.count : Int) > 200) = false := by simp; omega
  rcases dec_cases t.enc with ⟨u, hu⟩ | ⟨c, hc0, hu⟩
  ·have h3 := valOf_ac t.enc (fit_sized h) (t := u) (by rw [hu])
   rw [hu]
   refine wEnter Tryz.func151 Tryz.ntmps151 ?_
   refine wRUN trivial ?_
   refine w7 (op_data [] h1) trivial ?_
   refine wRUN hd ?_
   refine w12 (op_rowF [] h2) trivial ?_
   refine w9 (op_shared [(10, 0)] h3) trivial ?_
   refine wRUN trivial ?_
   exact wRet (ret_data []) Tryz.results151
  ·have h3 := valOf_bad t.enc (fit_sized h) (by rw [hu])
   refine wEnter Tryz.func151 Tryz.ntmps151 ?_
   refine wRUN trivial ?_
   refine w7 (op_data [] h1) trivial ?_
   refine wRUN hd ?_
   refine w12 (op_rowF [] h2) trivial ?_
   refine w9 (op_shared [(10, 0)] h3) noV_eq ?_
   refine wRUN noV_eq ?_
   exact wRet (ret_data []) Tryz.results151
 ·have hd : decide ((t.count : Int) > 200) = true := by simp; omega
  have hr : (dec t.enc).1 = 2 := by
   unfold dec
   rw [if_pos (by rw [enc_len]; omega)]
  rw [hr]
  refine wEnter Tryz.func151 Tryz.ntmps151 ?_
  refine wRUN trivial ?_
  refine w7 (op_data [] h1) trivial ?_
  refine wRUN hd ?_
  exact wRet (ret_data []) Tryz.results151
theorem gives_any {t : V} (h : t.fit) (hc : t.count ≤ 500000) : AC Tryz.prog 104 [t.av] [] (resA (giveR t)) [] := by
 have h1 := vfault_any h hc
 unfold giveR
 by_cases h0 : (dec t.enc).1 = 0
 ·rw [if_pos h0]
  have hb : ((0 : Int) != 0) = false := rfl
  rw [h0] at h1
  show AC _ _ _ _ (outA 0 t) _
  refine wEnter Tryz.func104 Tryz.ntmps104 ?_
  refine wRUN trivial ?_
  refine w7 (op_data [] h1) trivial ?_
  refine wRUN hb ?_
  exact wRet (ret_data []) Tryz.results104
 ·rw [if_neg h0]
  have hb : ((dec t.enc).1 != 0) = true := by simpa using h0
  show AC _ _ _ _ (outA (dec t.enc).1 nullV) _
  rw [outA_null]
  refine wEnter Tryz.func104 Tryz.ntmps104 ?_
  refine wRUN trivial ?_
  refine w7 (op_data [] h1) trivial ?_
  refine wRUN hb ?_
  exact wRet (ret_data []) Tryz.results104
set_option maxRecDepth 10000
theorem right_kl {t : V} (h : t.right) : t.keys.length ≤ 200 ∧ t.kids.length ≤ 200 := by
 have h1 := kids_len_le h.2.1
 refine ⟨?_, h1⟩
 by_cases h6 : t.kind = 6
 ·have := (right_asc h h6).2.2
  omega
 ·have := (right_shape h.1).2.2.2.2.1 h6
  rw [this]
  exact Nat.zero_le _
end Go.Proofs.YtlciedpfjhkkdaaGreatDoor
