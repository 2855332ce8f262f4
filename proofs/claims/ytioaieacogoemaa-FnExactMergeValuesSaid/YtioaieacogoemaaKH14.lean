/- impl.MergeValues and spec.MergeValues, by the engine. -/
import Derived.Test.YtioaieacogoemaaKG55
import Derived.Test.YtioaieacogoemaaKG52
import Derived.Test.YtioaieacogoemaaKG06
import Derived.Test.YtioaieacogoemaaKM2
import Derived.Lib.Bytealg
import Derived.Test.YtioaieacogoemaaKG45
import Derived.Test.YtioaieacogoemaaKG04
import Derived.Test.YtioaieacogoemaaKE5
import Derived.Test.YtioaieacogoemaaKG22
import Derived.Test.YtioaieacogoemaaKG25
import Derived.Test.YtioaieacogoemaaKG08
set_option linter.unusedSimpArgs false
set_option linter.unusedVariables false
set_option linter.unnecessarySimpa false
namespace Go.Proofs.Ytioaieacogoemaa
open Go.RowKit
set_option maxRecDepth 10000
/-- What two slices of cells come to. -/
def mergeR (x y : List CellD) : Int × Option V := match (dec x).2, (dec y).2 with
  | some t, some u => giveR (mergeV t u)
  | _, _ => (bothCode x y, none)
theorem merge_ways (x y : List CellD) : ((dec x).2 = none ∧ (dec x).1 ≠ 0 ∧ mergeR x y = ((dec x).1, none) ∧ bothCode x y = (dec x).1) ∨ (∃ t, dec x = (0, some t) ∧ (dec y).2 = none ∧ (dec y).1 ≠ 0 ∧ mergeR x y = ((dec y).1, none) ∧ bothCode x y = (dec y).1)
    ∨ ∃ t u, dec x = (0, some t) ∧ dec y = (0, some u) ∧ t.right ∧ u.right ∧ x = t.enc ∧ y = u.enc ∧ mergeR x y = giveR (mergeV t u) ∧ bothCode x y = 0 := by
  unfold mergeR bothCode
  rcases dec_cases x with ⟨t, h1⟩ | ⟨c, hc, h1⟩
  · rcases dec_cases y with ⟨u, h2⟩ | ⟨c, hc, h2⟩
    · obtain ⟨e1, a1, a2, a3⟩ := dec_ok h1
      obtain ⟨e2, b1, b2, b3⟩ := dec_ok h2
      refine .inr (.inr ⟨t, u, h1, h2, ⟨a1, a2, a3⟩, ⟨b1, b2, b3⟩, e1, e2, ?_, ?_⟩)
      · rw [h1, h2]
      · rw [h1, h2]; rfl
    · refine .inr (.inl ⟨t, h1, by rw [h2], by rw [h2]; exact hc, ?_, ?_⟩)
      · rw [h1, h2]; rfl
      · rw [h1, h2]; rfl
  · refine .inl ⟨by rw [h1], by rw [h1]; exact hc, ?_, ?_⟩
    · rw [h1]; dsimp only; rw [if_neg hc]
    · rw [h1]; dsimp only; rw [if_neg hc]
theorem specMergeValues_ac (x y : List CellD) : AC Try.prog 15 [cellsA x, cellsA y] [] (vrA (mergeR x y)) [] := by
  have hv := l3Both_ac x y
  have bad : ∀ c, c ≠ 0 → bothCode x y = c → mergeR x y = (c, none) → AC Try.prog 15 [cellsA x, cellsA y] [] (vrA (mergeR x y)) [] := by
    intro c hc h1 h2
    rw [h1] at hv
    rw [h2, vrA_none]
    have hb : (c != 0) = true := by simpa using hc
    refine AC.intro_sp follows_mixed Try.func15 rfl Try.ntmps15 (Nat.le_of_ble_eq_true rfl) ?_; simp only [go_sem, Nat.reduceAdd]
    (repeat (first | (with_reducible first | refine a_seq ?_ | refine a_region ?_ | refine a_block ?_ | refine a_scope ?_) | ((with_reducible apply op_any); (iterate 2 (focus (first | (simp only [go_sem, Nat.reduceEqDiff, Nat.reduceAdd, Nat.reduceSub, Nat.reduceLeDiff, Nat.reduceMul, Nat.reduceBEq, Nat.reduceLT, Int.reduceToNat, reduceCtorEq]; first | done | exact rfl | (and_intros <;> rfl)) | exact rfl | decide)))) | ((with_reducible refine o_nil ?_); dsimp only; try ((with_reducible apply o_draw); (focus (simp only [go_sem]; exact rfl)); (focus decide))) | ((with_reducible first | refine a_ret ?_ | refine a_skip ?_ | refine a_label ?_); dsimp only) | ((with_reducible refine a_exit ?_); dsimp only; simp only [if_true, if_false, Nat.reduceEqDiff]) | ((with_reducible apply a_if); (focus (simp only [go_sem, Nat.reduceBEq, Nat.reduceLT]; exact rfl)); dsimp only [cond_true, cond_false]) | ((with_reducible refine a_draw ?_ ?_); (focus exact rfl))))
    (apply (op_data [] hv); (iterate 7 (focus (first | (simp only [go_sem, Nat.reduceEqDiff, Nat.reduceAdd, Nat.reduceSub, Nat.reduceLeDiff, Nat.reduceMul, Nat.reduceBEq, Nat.reduceLT, Int.reduceToNat, reduceCtorEq]; first | done | exact rfl | (and_intros <;> rfl)) | exact rfl | decide))))
    (repeat (first | (with_reducible first | refine a_seq ?_ | refine a_region ?_ | refine a_block ?_ | refine a_scope ?_) | ((with_reducible apply op_any); (iterate 2 (focus (first | (simp only [go_sem, Nat.reduceEqDiff, Nat.reduceAdd, Nat.reduceSub, Nat.reduceLeDiff, Nat.reduceMul, Nat.reduceBEq, Nat.reduceLT, Int.reduceToNat, reduceCtorEq, hb]; first | done | exact rfl | (and_intros <;> rfl)) | exact rfl | decide)))) | ((with_reducible refine o_nil ?_); dsimp only; try ((with_reducible apply o_draw); (focus (simp only [go_sem]; exact rfl)); (focus decide))) | ((with_reducible first | refine a_ret ?_ | refine a_skip ?_ | refine a_label ?_); dsimp only) | ((with_reducible refine a_exit ?_); dsimp only; simp only [if_true, if_false, Nat.reduceEqDiff]) | ((with_reducible apply a_if); (focus (simp only [go_sem, Nat.reduceBEq, Nat.reduceLT, hb]; exact rfl)); dsimp only [cond_true, cond_false]) | ((with_reducible refine a_draw ?_ ?_); (focus exact rfl))))
    (apply (op_data [] (l3Bad_ac c)); (iterate 7 (focus (first | (simp only [go_sem, Nat.reduceEqDiff, Nat.reduceAdd, Nat.reduceSub, Nat.reduceLeDiff, Nat.reduceMul, Nat.reduceBEq, Nat.reduceLT, Int.reduceToNat, reduceCtorEq]; first | done | exact rfl | (and_intros <;> rfl)) | exact rfl | decide))))
    (repeat (first | (with_reducible first | refine a_seq ?_ | refine a_region ?_ | refine a_block ?_ | refine a_scope ?_) | ((with_reducible apply op_any); (iterate 2 (focus (first | (simp only [go_sem, Nat.reduceEqDiff, Nat.reduceAdd, Nat.reduceSub, Nat.reduceLeDiff, Nat.reduceMul, Nat.reduceBEq, Nat.reduceLT, Int.reduceToNat, reduceCtorEq]; first | done | exact rfl | (and_intros <;> rfl)) | exact rfl | decide)))) | ((with_reducible refine o_nil ?_); dsimp only; try ((with_reducible apply o_draw); (focus (simp only [go_sem]; exact rfl)); (focus decide))) | ((with_reducible first | refine a_ret ?_ | refine a_skip ?_ | refine a_label ?_); dsimp only) | ((with_reducible refine a_exit ?_); dsimp only; simp only [if_true, if_false, Nat.reduceEqDiff]) | ((with_reducible apply a_if); (focus (simp only [go_sem, Nat.reduceBEq, Nat.reduceLT]; exact rfl)); dsimp only [cond_true, cond_false]) | ((with_reducible refine a_draw ?_ ?_); (focus exact rfl))))
    exact ret_data [] (by simp only [Try.results15, go_sem, Nat.reduceBEq, Nat.reduceLT]; exact rfl) (by simp only [go_sem, Nat.reduceEqDiff, Nat.reduceAdd, Nat.reduceSub, Nat.reduceLeDiff, Nat.reduceMul, Nat.reduceBEq, Nat.reduceLT, Int.reduceToNat, reduceCtorEq]) rfl
  rcases merge_ways x y with ⟨_, h2, h3, h4⟩ | ⟨t, _, _, h2, h3, h4⟩ | ⟨t, u, hd, hy, ht, hu, hx, hy', h3, h4⟩
  · exact bad _ h2 h4 h3
  · exact bad _ h2 h4 h3
  · rw [h4] at hv
    rw [h3]
    subst hx
    subst hy'
    have h00 : ((0 : Int) != 0) = false := rfl
    have hm := l14Merge_ac u.count t u (Nat.le_refl _) ht hu
    have hl := l1Told_ac (mergeV t u)
    generalize mergeV t u = m at *
    generalize giveR m = r at *
    rcases r with ⟨c, _ | v⟩
    all_goals
      simp only [vrA_some, vrA_none] at hl ⊢
      refine AC.intro_sp follows_mixed Try.func15 rfl Try.ntmps15 (Nat.le_of_ble_eq_true rfl) ?_; simp only [go_sem, Nat.reduceAdd]
      (repeat (first | (with_reducible first | refine a_seq ?_ | refine a_region ?_ | refine a_block ?_ | refine a_scope ?_) | ((with_reducible apply op_any); (iterate 2 (focus (first | (simp only [go_sem, Nat.reduceEqDiff, Nat.reduceAdd, Nat.reduceSub, Nat.reduceLeDiff, Nat.reduceMul, Nat.reduceBEq, Nat.reduceLT, Int.reduceToNat, reduceCtorEq]; first | done | exact rfl | (and_intros <;> rfl)) | exact rfl | decide)))) | ((with_reducible refine o_nil ?_); dsimp only; try ((with_reducible apply o_draw); (focus (simp only [go_sem]; exact rfl)); (focus decide))) | ((with_reducible first | refine a_ret ?_ | refine a_skip ?_ | refine a_label ?_); dsimp only) | ((with_reducible refine a_exit ?_); dsimp only; simp only [if_true, if_false, Nat.reduceEqDiff]) | ((with_reducible apply a_if); (focus (simp only [go_sem, Nat.reduceBEq, Nat.reduceLT]; exact rfl)); dsimp only [cond_true, cond_false]) | ((with_reducible refine a_draw ?_ ?_); (focus exact rfl))))
      (apply (op_data [] hv); (iterate 7 (focus (first | (simp only [go_sem, Nat.reduceEqDiff, Nat.reduceAdd, Nat.reduceSub, Nat.reduceLeDiff, Nat.reduceMul, Nat.reduceBEq, Nat.reduceLT, Int.reduceToNat, reduceCtorEq]; first | done | exact rfl | (and_intros <;> rfl)) | exact rfl | decide))))
      (repeat (first | (with_reducible first | refine a_seq ?_ | refine a_region ?_ | refine a_block ?_ | refine a_scope ?_) | ((with_reducible apply op_any); (iterate 2 (focus (first | (simp only [go_sem, Nat.reduceEqDiff, Nat.reduceAdd, Nat.reduceSub, Nat.reduceLeDiff, Nat.reduceMul, Nat.reduceBEq, Nat.reduceLT, Int.reduceToNat, reduceCtorEq, h00]; first | done | exact rfl | (and_intros <;> rfl)) | exact rfl | decide)))) | ((with_reducible refine o_nil ?_); dsimp only; try ((with_reducible apply o_draw); (focus (simp only [go_sem]; exact rfl)); (focus decide))) | ((with_reducible first | refine a_ret ?_ | refine a_skip ?_ | refine a_label ?_); dsimp only) | ((with_reducible refine a_exit ?_); dsimp only; simp only [if_true, if_false, Nat.reduceEqDiff]) | ((with_reducible apply a_if); (focus (simp only [go_sem, Nat.reduceBEq, Nat.reduceLT, h00]; exact rfl)); dsimp only [cond_true, cond_false]) | ((with_reducible refine a_draw ?_ ?_); (focus exact rfl))))
      (apply (op_rowT [] hm); (iterate 12 (focus (first | (simp only [go_sem, Nat.reduceEqDiff, Nat.reduceAdd, Nat.reduceSub, Nat.reduceLeDiff, Nat.reduceMul, Nat.reduceBEq, Nat.reduceLT, Int.reduceToNat, reduceCtorEq]; first | done | exact rfl | (and_intros <;> rfl)) | exact rfl | decide))))
      (apply (op_shared [(15, 0)] hl); (iterate 9 (focus (first | (simp only [go_sem, Nat.reduceEqDiff, Nat.reduceAdd, Nat.reduceSub, Nat.reduceLeDiff, Nat.reduceMul, Nat.reduceBEq, Nat.reduceLT, Int.reduceToNat, reduceCtorEq]; first | done | exact rfl | (and_intros <;> rfl)) | exact rfl | decide))))
      (repeat (first | (with_reducible first | refine a_seq ?_ | refine a_region ?_ | refine a_block ?_ | refine a_scope ?_) | ((with_reducible apply op_any); (iterate 2 (focus (first | (simp only [go_sem, Nat.reduceEqDiff, Nat.reduceAdd, Nat.reduceSub, Nat.reduceLeDiff, Nat.reduceMul, Nat.reduceBEq, Nat.reduceLT, Int.reduceToNat, reduceCtorEq]; first | done | exact rfl | (and_intros <;> rfl)) | exact rfl | decide)))) | ((with_reducible refine o_nil ?_); dsimp only; try ((with_reducible apply o_draw); (focus (simp only [go_sem]; exact rfl)); (focus decide))) | ((with_reducible first | refine a_ret ?_ | refine a_skip ?_ | refine a_label ?_); dsimp only) | ((with_reducible refine a_exit ?_); dsimp only; simp only [if_true, if_false, Nat.reduceEqDiff]) | ((with_reducible apply a_if); (focus (simp only [go_sem, Nat.reduceBEq, Nat.reduceLT]; exact rfl)); dsimp only [cond_true, cond_false]) | ((with_reducible refine a_draw ?_ ?_); (focus exact rfl))))
      exact ret_data [] (by simp only [Try.results15, go_sem, Nat.reduceBEq, Nat.reduceLT]; exact rfl) (by simp only [go_sem, Nat.reduceEqDiff, Nat.reduceAdd, Nat.reduceSub, Nat.reduceLeDiff, Nat.reduceMul, Nat.reduceBEq, Nat.reduceLT, Int.reduceToNat, reduceCtorEq]) rfl
theorem mergeGives_ac {t u : V} (ht : t.right) (hu : u.right) : AC Try.prog 54 [t.av, u.av] [] (resA (giveR (mergeV t u))) [] := by
  have hm := merge_ac u.count t u (Nat.le_refl _) ht hu
  have hg := gives_any (merge_fit t u (fit_right ht) (fit_right hu)) (by have := merge_small ht hu; omega)
  generalize mergeV t u = m at *
  generalize giveR m = r at *
  rcases r with ⟨c, _ | v⟩
  all_goals
    simp only [resA_some, resA_none] at hg ⊢
    refine AC.intro_sp follows_mixed Try.func54 rfl Try.ntmps54 (Nat.le_of_ble_eq_true rfl) ?_; simp only [go_sem, Nat.reduceAdd]
    (repeat (first | (with_reducible first | refine a_seq ?_ | refine a_region ?_ | refine a_block ?_ | refine a_scope ?_) | ((with_reducible apply op_any); (iterate 2 (focus (first | (simp only [go_sem, Nat.reduceEqDiff, Nat.reduceAdd, Nat.reduceSub, Nat.reduceLeDiff, Nat.reduceMul, Nat.reduceBEq, Nat.reduceLT, Int.reduceToNat, reduceCtorEq]; first | done | exact rfl | (and_intros <;> rfl)) | exact rfl | decide)))) | ((with_reducible refine o_nil ?_); dsimp only; try ((with_reducible apply o_draw); (focus (simp only [go_sem]; exact rfl)); (focus decide))) | ((with_reducible first | refine a_ret ?_ | refine a_skip ?_ | refine a_label ?_); dsimp only) | ((with_reducible refine a_exit ?_); dsimp only; simp only [if_true, if_false, Nat.reduceEqDiff]) | ((with_reducible apply a_if); (focus (simp only [go_sem, Nat.reduceBEq, Nat.reduceLT]; exact rfl)); dsimp only [cond_true, cond_false]) | ((with_reducible refine a_draw ?_ ?_); (focus exact rfl))))
    (apply (op_shared [] hm); (iterate 9 (focus (first | (simp only [go_sem, Nat.reduceEqDiff, Nat.reduceAdd, Nat.reduceSub, Nat.reduceLeDiff, Nat.reduceMul, Nat.reduceBEq, Nat.reduceLT, Int.reduceToNat, reduceCtorEq]; first | done | exact rfl | (and_intros <;> rfl)) | exact rfl | decide))))
    (apply (op_shared [] hg); (iterate 9 (focus (first | (simp only [go_sem, Nat.reduceEqDiff, Nat.reduceAdd, Nat.reduceSub, Nat.reduceLeDiff, Nat.reduceMul, Nat.reduceBEq, Nat.reduceLT, Int.reduceToNat, reduceCtorEq]; first | done | exact rfl | (and_intros <;> rfl)) | exact rfl | decide))))
    (repeat (first | (with_reducible first | refine a_seq ?_ | refine a_region ?_ | refine a_block ?_ | refine a_scope ?_) | ((with_reducible apply op_any); (iterate 2 (focus (first | (simp only [go_sem, Nat.reduceEqDiff, Nat.reduceAdd, Nat.reduceSub, Nat.reduceLeDiff, Nat.reduceMul, Nat.reduceBEq, Nat.reduceLT, Int.reduceToNat, reduceCtorEq]; first | done | exact rfl | (and_intros <;> rfl)) | exact rfl | decide)))) | ((with_reducible refine o_nil ?_); dsimp only; try ((with_reducible apply o_draw); (focus (simp only [go_sem]; exact rfl)); (focus decide))) | ((with_reducible first | refine a_ret ?_ | refine a_skip ?_ | refine a_label ?_); dsimp only) | ((with_reducible refine a_exit ?_); dsimp only; simp only [if_true, if_false, Nat.reduceEqDiff]) | ((with_reducible apply a_if); (focus (simp only [go_sem, Nat.reduceBEq, Nat.reduceLT]; exact rfl)); dsimp only [cond_true, cond_false]) | ((with_reducible refine a_draw ?_ ?_); (focus exact rfl))))
    exact ret_data [] (by simp only [Try.results54, go_sem, Nat.reduceBEq, Nat.reduceLT]; exact rfl) (by simp only [go_sem, Nat.reduceEqDiff, Nat.reduceAdd, Nat.reduceSub, Nat.reduceLeDiff, Nat.reduceMul, Nat.reduceBEq, Nat.reduceLT, Int.reduceToNat, reduceCtorEq]) rfl
theorem mergeR_ok (x y : List CellD) : okRes (mergeR x y) := by
  rcases merge_ways x y with ⟨_, h2, h3, h4⟩ | ⟨t, _, _, h2, h3, h4⟩ | ⟨t, u, hd, hy, ht, hu, hx, hy', h3, h4⟩
  · rw [h3]; exact h2
  · rw [h3]; exact h2
  · rw [h3]; exact give_ok (merge_fit t u (fit_right ht) (fit_right hu))
theorem implMergeValues_ok (x y : List CellD) (hz : Sized x) (hzy : Sized y) {v : V} (h : mergeR x y = (0, some v)) (hv : v.right) :
    AC Try.prog 16 [cellsA x, cellsA y] [] (.agg [.c (.int .i64 0), .own (0, 0)]) [((0, 0), .row false 5 66 (v.enc.map CellD.cs))] := by
  rcases merge_ways x y with ⟨_, h2, h3, h4⟩ | ⟨t, _, _, h2, h3, h4⟩ | ⟨t, u, hd, hy, ht, hu, hx, hy', h3, h4⟩
  · rw [h3] at h; simp at h
  · rw [h3] at h; simp at h
  · rw [h3] at h
    have hg := mergeGives_ac ht hu
    rw [h, resA_some] at hg
    have hw := ofTwo_ac 54 (by simp only [go_sem]) x y hz hzy hd hy hv hg
    refine AC.intro_sp follows_mixed Try.func16 rfl Try.ntmps16 (Nat.le_of_ble_eq_true rfl) ?_; simp only [go_sem, Nat.reduceAdd]
    (repeat (first | (with_reducible first | refine a_seq ?_ | refine a_region ?_ | refine a_block ?_ | refine a_scope ?_) | ((with_reducible apply op_any); (iterate 2 (focus (first | (simp only [go_sem, Nat.reduceEqDiff, Nat.reduceAdd, Nat.reduceSub, Nat.reduceLeDiff, Nat.reduceMul, Nat.reduceBEq, Nat.reduceLT, Int.reduceToNat, reduceCtorEq]; first | done | exact rfl | (and_intros <;> rfl)) | exact rfl | decide)))) | ((with_reducible refine o_nil ?_); dsimp only; try ((with_reducible apply o_draw); (focus (simp only [go_sem]; exact rfl)); (focus decide))) | ((with_reducible first | refine a_ret ?_ | refine a_skip ?_ | refine a_label ?_); dsimp only) | ((with_reducible refine a_exit ?_); dsimp only; simp only [if_true, if_false, Nat.reduceEqDiff]) | ((with_reducible apply a_if); (focus (simp only [go_sem, Nat.reduceBEq, Nat.reduceLT]; exact rfl)); dsimp only [cond_true, cond_false]) | ((with_reducible refine a_draw ?_ ?_); (focus exact rfl))))
    (apply (op_rowT [] hw); (iterate 12 (focus (first | (simp only [go_sem, Nat.reduceEqDiff, Nat.reduceAdd, Nat.reduceSub, Nat.reduceLeDiff, Nat.reduceMul, Nat.reduceBEq, Nat.reduceLT, Int.reduceToNat, reduceCtorEq]; first | done | exact rfl | (and_intros <;> rfl)) | exact rfl | decide))))
    (repeat (first | (with_reducible first | refine a_seq ?_ | refine a_region ?_ | refine a_block ?_ | refine a_scope ?_) | ((with_reducible apply op_any); (iterate 2 (focus (first | (simp only [go_sem, Nat.reduceEqDiff, Nat.reduceAdd, Nat.reduceSub, Nat.reduceLeDiff, Nat.reduceMul, Nat.reduceBEq, Nat.reduceLT, Int.reduceToNat, reduceCtorEq]; first | done | exact rfl | (and_intros <;> rfl)) | exact rfl | decide)))) | ((with_reducible refine o_nil ?_); dsimp only; try ((with_reducible apply o_draw); (focus (simp only [go_sem]; exact rfl)); (focus decide))) | ((with_reducible first | refine a_ret ?_ | refine a_skip ?_ | refine a_label ?_); dsimp only) | ((with_reducible refine a_exit ?_); dsimp only; simp only [if_true, if_false, Nat.reduceEqDiff]) | ((with_reducible apply a_if); (focus (simp only [go_sem, Nat.reduceBEq, Nat.reduceLT]; exact rfl)); dsimp only [cond_true, cond_false]) | ((with_reducible refine a_draw ?_ ?_); (focus exact rfl))))
    (apply (ret_of [((0, 0), (7, 0))] []); (focus (simp only [Try.results16, go_sem, Nat.reduceBEq, Nat.reduceLT, hd]; exact rfl)); (focus (simp only [go_sem, Nat.reduceEqDiff, Nat.reduceAdd, Nat.reduceSub, Nat.reduceLeDiff, Nat.reduceMul, Nat.reduceBEq, Nat.reduceLT, Int.reduceToNat, reduceCtorEq, hd]; try (and_intros <;> rfl))); (focus exact rfl); (focus (simp only [go_sem, Nat.reduceEqDiff, Nat.reduceAdd, Nat.reduceSub, Nat.reduceLeDiff, Nat.reduceMul, Nat.reduceBEq, Nat.reduceLT, Int.reduceToNat, reduceCtorEq, hd]; try (and_intros <;> rfl))); (focus exact rfl); (iterate 4 (focus (simp [go_sem, hd]; done))))
theorem implMergeValues_bad (x y : List CellD) (hz : Sized x) (hzy : Sized y) {c : Int} (hc : c ≠ 0) (h : mergeR x y = (c, none)) :
    AC Try.prog 16 [cellsA x, cellsA y] [] (.agg [.c (.int .i64 c), .nils]) [] := by
  have key : AC Try.prog 53 [cellsA x, cellsA y, .clo 54 []] [] (.agg [.c (.int .i64 c), .nils]) [] := by
    rcases merge_ways x y with ⟨h1, h2, h3, h4⟩ | ⟨t, hd, h1, h2, h3, h4⟩ | ⟨t, u, hd, hy, ht, hu, hx, hy', h3, h4⟩
    · rw [h3] at h
      simp only [Prod.mk.injEq, and_true] at h
      subst h
      exact ofTwo_none 54 x y hz h1 h2
    · rw [h3] at h
      simp only [Prod.mk.injEq, and_true] at h
      subst h
      exact ofTwo_none2 54 x y hz hzy hd h1 h2
    · rw [h3] at h
      have hg := mergeGives_ac ht hu
      rw [h, resA_none] at hg
      exact ofTwo_no 54 (by simp only [go_sem]) x y hz hzy hd hy hc hg
  refine AC.intro_sp follows_mixed Try.func16 rfl Try.ntmps16 (Nat.le_of_ble_eq_true rfl) ?_; simp only [go_sem, Nat.reduceAdd]
  (repeat (first | (with_reducible first | refine a_seq ?_ | refine a_region ?_ | refine a_block ?_ | refine a_scope ?_) | ((with_reducible apply op_any); (iterate 2 (focus (first | (simp only [go_sem, Nat.reduceEqDiff, Nat.reduceAdd, Nat.reduceSub, Nat.reduceLeDiff, Nat.reduceMul, Nat.reduceBEq, Nat.reduceLT, Int.reduceToNat, reduceCtorEq]; first | done | exact rfl | (and_intros <;> rfl)) | exact rfl | decide)))) | ((with_reducible refine o_nil ?_); dsimp only; try ((with_reducible apply o_draw); (focus (simp only [go_sem]; exact rfl)); (focus decide))) | ((with_reducible first | refine a_ret ?_ | refine a_skip ?_ | refine a_label ?_); dsimp only) | ((with_reducible refine a_exit ?_); dsimp only; simp only [if_true, if_false, Nat.reduceEqDiff]) | ((with_reducible apply a_if); (focus (simp only [go_sem, Nat.reduceBEq, Nat.reduceLT]; exact rfl)); dsimp only [cond_true, cond_false]) | ((with_reducible refine a_draw ?_ ?_); (focus exact rfl))))
  (apply (op_data [] key); (iterate 7 (focus (first | (simp only [go_sem, Nat.reduceEqDiff, Nat.reduceAdd, Nat.reduceSub, Nat.reduceLeDiff, Nat.reduceMul, Nat.reduceBEq, Nat.reduceLT, Int.reduceToNat, reduceCtorEq]; first | done | exact rfl | (and_intros <;> rfl)) | exact rfl | decide))))
  (repeat (first | (with_reducible first | refine a_seq ?_ | refine a_region ?_ | refine a_block ?_ | refine a_scope ?_) | ((with_reducible apply op_any); (iterate 2 (focus (first | (simp only [go_sem, Nat.reduceEqDiff, Nat.reduceAdd, Nat.reduceSub, Nat.reduceLeDiff, Nat.reduceMul, Nat.reduceBEq, Nat.reduceLT, Int.reduceToNat, reduceCtorEq]; first | done | exact rfl | (and_intros <;> rfl)) | exact rfl | decide)))) | ((with_reducible refine o_nil ?_); dsimp only; try ((with_reducible apply o_draw); (focus (simp only [go_sem]; exact rfl)); (focus decide))) | ((with_reducible first | refine a_ret ?_ | refine a_skip ?_ | refine a_label ?_); dsimp only) | ((with_reducible refine a_exit ?_); dsimp only; simp only [if_true, if_false, Nat.reduceEqDiff]) | ((with_reducible apply a_if); (focus (simp only [go_sem, Nat.reduceBEq, Nat.reduceLT]; exact rfl)); dsimp only [cond_true, cond_false]) | ((with_reducible refine a_draw ?_ ?_); (focus exact rfl))))
  exact ret_data [] (by simp only [Try.results16, go_sem, Nat.reduceBEq, Nat.reduceLT]; exact rfl) (by simp only [go_sem, Nat.reduceEqDiff, Nat.reduceAdd, Nat.reduceSub, Nat.reduceLeDiff, Nat.reduceMul, Nat.reduceBEq, Nat.reduceLT, Int.reduceToNat, reduceCtorEq]) rfl
end Go.Proofs.Ytioaieacogoemaa
