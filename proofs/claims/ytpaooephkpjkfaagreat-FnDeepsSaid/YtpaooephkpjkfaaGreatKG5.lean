/- Texts of this proof: G50 G51. -/
import Derived.Test.YtpaooephkpjkfaaGreatKE6
import Derived.Test.YtpaooephkpjkfaaGreatKG14
import Derived.Shelf.SortM.Plain
import Derived.Shelf.SortM.SortNone
import Derived.Test.YtpaooephkpjkfaaGreatKG04
import Derived.Test.YtpaooephkpjkfaaGreatKM2
import Derived.Test.YtpaooephkpjkfaaGreatKS02uG24
import Derived.Sort.OwnSorted
import Derived.Test.YtpaooephkpjkfaaGreatKG02
set_option linter.unusedSimpArgs false
set_option linter.unusedVariables false
set_option linter.unnecessarySimpa false
namespace Go.Proofs.YtpaooephkpjkfaaGreat
open Go.RowKit
set_option maxRecDepth 10000
set_option maxHeartbeats 1000000 in
theorem vfault_any {t : V} (h : t.fit) (hc : t.count ≤ 500000) : AC Tryz.prog 131 [t.av] [] (.c (.int .i64 (dec t.enc).1)) [] := by
  have h1 := count_ac t.count t (Nat.le_refl _) (by omega)
  have h2 := cells_ac t.count t (Nat.le_refl _) (by omega) (fit_neat t h)
  by_cases hb : t.count ≤ 200
  · have hd : decide ((t.count : Int) > 200) = false := by simp; omega
    rcases dec_cases t.enc with ⟨u, hu⟩ | ⟨c, hc0, hu⟩
    · have h3 := valOf_ac t.enc (fit_sized h) (t := u) (by rw [hu])
      rw [hu]
      refine wEnter Tryz.func131 Tryz.ntmps131 ?_
      refine wRUN trivial ?_
      refine w7 (op_data [] h1) trivial ?_
      refine wRUN hd ?_
      refine w12 (op_rowF [] h2) trivial ?_
      refine w9 (op_shared [(10, 0)] h3) trivial ?_
      refine wRUN trivial ?_
      exact wRet (ret_data []) Tryz.results131
    · have h3 := valOf_bad t.enc (fit_sized h) (by rw [hu])
      refine wEnter Tryz.func131 Tryz.ntmps131 ?_
      refine wRUN trivial ?_
      refine w7 (op_data [] h1) trivial ?_
      refine wRUN hd ?_
      refine w12 (op_rowF [] h2) trivial ?_
      (apply (op_shared [(10, 0)] h3); (iterate 9 (focus (first | (simp only [go_sem, Nat.reduceEqDiff, Nat.reduceAdd, Nat.reduceSub, Nat.reduceLeDiff, Nat.reduceMul, Nat.reduceBEq, Nat.reduceLT, Int.reduceToNat, reduceCtorEq, noV]; first | done | exact rfl | (and_intros <;> rfl)) | exact rfl | decide))))
      (repeat (first | (with_reducible first | refine a_seq ?_ | refine a_region ?_ | refine a_block ?_ | refine a_scope ?_) | ((with_reducible apply op_any); (iterate 2 (focus (first | (simp only [go_sem, Nat.reduceEqDiff, Nat.reduceAdd, Nat.reduceSub, Nat.reduceLeDiff, Nat.reduceMul, Nat.reduceBEq, Nat.reduceLT, Int.reduceToNat, reduceCtorEq, noV]; first | done | exact rfl | (and_intros <;> rfl)) | exact rfl | decide)))) | ((with_reducible refine o_nil ?_); dsimp only; try ((with_reducible apply o_draw); (focus (simp only [go_sem]; exact rfl)); (focus decide))) | ((with_reducible first | refine a_ret ?_ | refine a_skip ?_ | refine a_label ?_); dsimp only) | ((with_reducible refine a_exit ?_); dsimp only; simp only [if_true, if_false, Nat.reduceEqDiff]) | ((with_reducible apply a_if); (focus (simp only [go_sem, Nat.reduceBEq, Nat.reduceLT, noV]; exact rfl)); dsimp only [cond_true, cond_false]) | ((with_reducible refine a_draw ?_ ?_); (focus exact rfl))))
      exact wRet (ret_data []) Tryz.results131
  · have hd : decide ((t.count : Int) > 200) = true := by simp; omega
    have hr : (dec t.enc).1 = 2 := by
      unfold dec
      rw [if_pos (by rw [enc_len]; omega)]
    rw [hr]
    refine wEnter Tryz.func131 Tryz.ntmps131 ?_
    refine wRUN trivial ?_
    refine w7 (op_data [] h1) trivial ?_
    refine wRUN hd ?_
    exact wRet (ret_data []) Tryz.results131
theorem gives_any {t : V} (h : t.fit) (hc : t.count ≤ 500000) : AC Tryz.prog 72 [t.av] [] (resA (giveR t)) [] := by
  have h1 := vfault_any h hc
  unfold giveR
  by_cases h0 : (dec t.enc).1 = 0
  · rw [if_pos h0]
    have hb : ((0 : Int) != 0) = false := rfl
    rw [h0] at h1
    show AC _ _ _ _ (outA 0 t) _
    refine wEnter Tryz.func72 Tryz.ntmps72 ?_
    refine wRUN trivial ?_
    refine w7 (op_data [] h1) trivial ?_
    refine wRUN hb ?_
    exact wRet (ret_data []) Tryz.results72
  · rw [if_neg h0]
    have hb : ((dec t.enc).1 != 0) = true := by simpa using h0
    show AC _ _ _ _ (outA (dec t.enc).1 nullV) _
    rw [outA_null]
    refine wEnter Tryz.func72 Tryz.ntmps72 ?_
    refine wRUN trivial ?_
    refine w7 (op_data [] h1) trivial ?_
    refine wRUN hb ?_
    exact wRet (ret_data []) Tryz.results72
/-! ### impl.ofTwo -/
end Go.Proofs.YtpaooephkpjkfaaGreat


