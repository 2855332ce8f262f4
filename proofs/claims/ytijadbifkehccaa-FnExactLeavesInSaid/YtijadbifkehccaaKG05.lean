/- impl.pathsResult, impl.PathsIn, by the engine. -/
import Derived.Test.YtijadbifkehccaaKG04
set_option linter.unusedSimpArgs false
set_option linter.unusedVariables false
set_option linter.unnecessarySimpa false
namespace Go.Proofs.Ytijadbifkehccaa
open Go.RowKit

/-- A path as a cell of the result: a slice that no one else reaches. -/
def pathCs (p : List V × V) : List C := [.osl ((arrV p.1).enc.map CellD.cs)]
theorem all_paths (l : List (List V × V)) : ((l.map pathCs).all fun r => r.length == 1) = true := by simp [pathCs]
attribute [go_sem] all_paths
theorem vcs_arr (p : List V) : (arrV p).av = .agg [.c (.int .i64 5), .c (.int .i64 0), .c (.str ByteArray.empty), .c (.sl []), .c (.sl (p.map V.cs))] := arrV_av p
set_option maxRecDepth 10000
set_option maxHeartbeats 4000000 in
theorem pathsResult_ac (l : List (List V × V)) (hl : l.length ≤ 200) (hp : ∀ p ∈ l, (arrV p.1).count ≤ 500000 ∧ (arrV p.1).neat) :
    AC Try.prog 52 [.c (.sl (l.map placedCs))] [] (.agg [.c (.int .i64 0), .own (0, 0)]) [((0, 0), .row true 1 28 (l.map pathCs))] := by
  have hb : decide ((l.length : Int) > 200) = false := by simp; omega
  refine AC.intro follows_mixed Try.func52 rfl ?_; simp only [Try.ntmps52, go_sem, List.replicate, Nat.reduceAdd, Nat.reduceSub]
  (repeat (first | (with_reducible refine a_seq ?_) | (with_reducible refine a_region ?_) | ((with_reducible apply op_any); (iterate 2 (focus (first | (simp only [go_sem, Nat.reduceEqDiff, Nat.reduceAdd, Nat.reduceSub, Nat.reduceLeDiff, Nat.reduceMul, Nat.reduceBEq, Nat.reduceLT, Int.reduceToNat, reduceCtorEq, hb]; first | done | exact rfl | (and_intros <;> rfl)) | exact rfl | decide)))) | ((with_reducible refine o_nil ?_); dsimp only; try ((with_reducible apply o_draw); (focus (simp only [go_sem, Nat.reduceEqDiff, Nat.reduceAdd, Nat.reduceSub, Nat.reduceLeDiff, Nat.reduceMul, Nat.reduceBEq, Nat.reduceLT, Int.reduceToNat, reduceCtorEq, hb]; exact rfl)); (focus decide))) | ((with_reducible refine a_ret ?_); dsimp only) | (with_reducible refine a_block ?_) | ((with_reducible refine a_exit ?_); dsimp only; simp only [if_true, if_false, Nat.reduceEqDiff]) | ((with_reducible apply a_if); (focus (first | (simp only [go_sem, Nat.reduceEqDiff, Nat.reduceAdd, Nat.reduceSub, Nat.reduceLeDiff, Nat.reduceMul, Nat.reduceBEq, Nat.reduceLT, Int.reduceToNat, reduceCtorEq, hb]; first | done | exact rfl | (and_intros <;> rfl)) | exact rfl | decide)); dsimp only [cond_true, cond_false]) | ((with_reducible refine a_draw ?_ ?_); (focus exact rfl)) | ((with_reducible refine a_skip ?_); dsimp only) | ((with_reducible refine a_label ?_); dsimp only) | (with_reducible refine a_scope ?_)))
  refine a_loop (κ := Nat) (fun k => ⟨mkS 0 28 [(2, .ptr (2, 0) 0), (3, .ptr (3, 0) 0), (11, .c (.sl (l.map placedCs))), (12, .c (.int .i64 l.length)), (13, .c (.int .i64 k))],
      [((2, 0), .box [.c (.int .i64 0), .nils]), ((3, 0), .box [.c (.int .i64 0), .own (99, 0)]), ((99, 0), .row true 1 28 ((l.take k).map pathCs))]⟩)
    (fun k => k ≤ l.length) (fun k => l.length - k) 0 (Nat.zero_le _) ?_ ?_
  · (apply (Says.of [((2, 0), (2, 0)), ((3, 0), (3, 0))] []); (iterate 2 ((focus (simp only [go_sem, Nat.reduceEqDiff, Nat.reduceAdd, Nat.reduceSub, Nat.reduceLeDiff, Nat.reduceMul, Nat.reduceBEq, Nat.reduceLT, Int.reduceToNat, reduceCtorEq, hb]; try (and_intros <;> rfl))); (focus exact rfl))); (iterate 4 (focus (simp [go_sem, hb]; done))))
  · intro k hk
    by_cases hlt : k < l.length
    · have hd : decide ((k : Int) < (l.length : Int)) = true := by simpa using hlt
      have hr : rowsAt (l.map placedCs) 6 k = true := by simp [rowsAt, hlt, placedCs]
      have hg : (l.map placedCs)[k]? = some (placedCs l[k]) := by simp [hlt]
      obtain ⟨hc, hn⟩ := hp _ (List.getElem_mem hlt)
      have hts : l.take (k + 1) = l.take k ++ [l[k]] := List.take_succ_eq_append_getElem hlt
      generalize l[k] = p at *
      have hw := wrap_succ (k := k) (by omega)
      have h1 : (l.take k).length + 1 ≤ 1000000 := by rw [List.length_take]; omega
      have ha := cells_ac _ (arrV p.1) (Nat.le_refl _) hc hn
      have hq := array_ac p.1
      have hrow : (l.take k).map pathCs ++ [[.osl ((V.mk 5 0 ByteArray.empty [] p.1).enc.map CellD.cs)]] = (l.take (k + 1)).map pathCs := by rw [hts, List.map_append]; rfl
      (repeat (first | (with_reducible refine a_seq ?_) | (with_reducible refine a_region ?_) | ((with_reducible apply op_any); (iterate 2 (focus (first | (simp only [go_sem, Nat.reduceEqDiff, Nat.reduceAdd, Nat.reduceSub, Nat.reduceLeDiff, Nat.reduceMul, Nat.reduceBEq, Nat.reduceLT, Int.reduceToNat, reduceCtorEq, hd, hr, hg, placedCs]; first | done | exact rfl | (and_intros <;> rfl)) | exact rfl | decide)))) | ((with_reducible refine o_nil ?_); dsimp only; try ((with_reducible apply o_draw); (focus (simp only [go_sem, Nat.reduceEqDiff, Nat.reduceAdd, Nat.reduceSub, Nat.reduceLeDiff, Nat.reduceMul, Nat.reduceBEq, Nat.reduceLT, Int.reduceToNat, reduceCtorEq, hd, hr, hg, placedCs]; exact rfl)); (focus decide))) | ((with_reducible refine a_ret ?_); dsimp only) | (with_reducible refine a_block ?_) | ((with_reducible refine a_exit ?_); dsimp only; simp only [if_true, if_false, Nat.reduceEqDiff]) | ((with_reducible apply a_if); (focus (first | (simp only [go_sem, Nat.reduceEqDiff, Nat.reduceAdd, Nat.reduceSub, Nat.reduceLeDiff, Nat.reduceMul, Nat.reduceBEq, Nat.reduceLT, Int.reduceToNat, reduceCtorEq, hd, hr, hg, placedCs]; first | done | exact rfl | (and_intros <;> rfl)) | exact rfl | decide)); dsimp only [cond_true, cond_false]) | ((with_reducible refine a_draw ?_ ?_); (focus exact rfl)) | ((with_reducible refine a_skip ?_); dsimp only) | ((with_reducible refine a_label ?_); dsimp only) | (with_reducible refine a_scope ?_)))
      (apply (op_shared [] hq); (iterate 9 (focus (first | (simp only [go_sem, Nat.reduceEqDiff, Nat.reduceAdd, Nat.reduceSub, Nat.reduceLeDiff, Nat.reduceMul, Nat.reduceBEq, Nat.reduceLT, Int.reduceToNat, reduceCtorEq]; first | done | exact rfl | (and_intros <;> rfl)) | exact rfl | decide))))
      (repeat (first | (with_reducible refine a_seq ?_) | (with_reducible refine a_region ?_) | ((with_reducible apply op_any); (iterate 2 (focus (first | (simp only [go_sem, Nat.reduceEqDiff, Nat.reduceAdd, Nat.reduceSub, Nat.reduceLeDiff, Nat.reduceMul, Nat.reduceBEq, Nat.reduceLT, Int.reduceToNat, reduceCtorEq]; first | done | exact rfl | (and_intros <;> rfl)) | exact rfl | decide)))) | ((with_reducible refine o_nil ?_); dsimp only; try ((with_reducible apply o_draw); (focus (simp only [go_sem, Nat.reduceEqDiff, Nat.reduceAdd, Nat.reduceSub, Nat.reduceLeDiff, Nat.reduceMul, Nat.reduceBEq, Nat.reduceLT, Int.reduceToNat, reduceCtorEq]; exact rfl)); (focus decide))) | ((with_reducible refine a_ret ?_); dsimp only) | (with_reducible refine a_block ?_) | ((with_reducible refine a_exit ?_); dsimp only; simp only [if_true, if_false, Nat.reduceEqDiff]) | ((with_reducible apply a_if); (focus (first | (simp only [go_sem, Nat.reduceEqDiff, Nat.reduceAdd, Nat.reduceSub, Nat.reduceLeDiff, Nat.reduceMul, Nat.reduceBEq, Nat.reduceLT, Int.reduceToNat, reduceCtorEq]; first | done | exact rfl | (and_intros <;> rfl)) | exact rfl | decide)); dsimp only [cond_true, cond_false]) | ((with_reducible refine a_draw ?_ ?_); (focus exact rfl)) | ((with_reducible refine a_skip ?_); dsimp only) | ((with_reducible refine a_label ?_); dsimp only) | (with_reducible refine a_scope ?_)))
      (apply (op_row false [] ha); (iterate 8 (focus (first | (simp only [go_sem, Nat.reduceEqDiff, Nat.reduceAdd, Nat.reduceSub, Nat.reduceLeDiff, Nat.reduceMul, Nat.reduceBEq, Nat.reduceLT, Int.reduceToNat, reduceCtorEq]; first | done | exact rfl | (and_intros <;> rfl)) | exact rfl | decide))); (focus (intro _; exact rfl)); (iterate 1 (focus (first | (simp only [go_sem, Nat.reduceEqDiff, Nat.reduceAdd, Nat.reduceSub, Nat.reduceLeDiff, Nat.reduceMul, Nat.reduceBEq, Nat.reduceLT, Int.reduceToNat, reduceCtorEq]; first | done | exact rfl | (and_intros <;> rfl)) | exact rfl | decide))); (focus (intro h; cases h; done)); (iterate 2 (focus (first | (simp only [go_sem, Nat.reduceEqDiff, Nat.reduceAdd, Nat.reduceSub, Nat.reduceLeDiff, Nat.reduceMul, Nat.reduceBEq, Nat.reduceLT, Int.reduceToNat, reduceCtorEq]; first | done | exact rfl | (and_intros <;> rfl)) | exact rfl | decide))))
      (repeat (first | (with_reducible refine a_seq ?_) | (with_reducible refine a_region ?_) | ((with_reducible apply op_any); (iterate 2 (focus (first | (simp only [go_sem, Nat.reduceEqDiff, Nat.reduceAdd, Nat.reduceSub, Nat.reduceLeDiff, Nat.reduceMul, Nat.reduceBEq, Nat.reduceLT, Int.reduceToNat, reduceCtorEq, h1, hw]; first | done | exact rfl | (and_intros <;> rfl)) | exact rfl | decide)))) | ((with_reducible refine o_nil ?_); dsimp only; try ((with_reducible apply o_draw); (focus (simp only [go_sem, Nat.reduceEqDiff, Nat.reduceAdd, Nat.reduceSub, Nat.reduceLeDiff, Nat.reduceMul, Nat.reduceBEq, Nat.reduceLT, Int.reduceToNat, reduceCtorEq, h1, hw]; exact rfl)); (focus decide))) | ((with_reducible refine a_ret ?_); dsimp only) | (with_reducible refine a_block ?_) | ((with_reducible refine a_exit ?_); dsimp only; simp only [if_true, if_false, Nat.reduceEqDiff]) | ((with_reducible apply a_if); (focus (first | (simp only [go_sem, Nat.reduceEqDiff, Nat.reduceAdd, Nat.reduceSub, Nat.reduceLeDiff, Nat.reduceMul, Nat.reduceBEq, Nat.reduceLT, Int.reduceToNat, reduceCtorEq, h1, hw]; first | done | exact rfl | (and_intros <;> rfl)) | exact rfl | decide)); dsimp only [cond_true, cond_false]) | ((with_reducible refine a_draw ?_ ?_); (focus exact rfl)) | ((with_reducible refine a_skip ?_); dsimp only) | ((with_reducible refine a_label ?_); dsimp only) | (with_reducible refine a_scope ?_)))
      refine ⟨k + 1, by omega, by omega, ?_⟩
      (apply (Says.of [((2, 0), (2, 0)), ((3, 0), (3, 0)), ((99, 0), (24, 0))] []); (iterate 2 ((focus (simp only [go_sem, Nat.reduceEqDiff, Nat.reduceAdd, Nat.reduceSub, Nat.reduceLeDiff, Nat.reduceMul, Nat.reduceBEq, Nat.reduceLT, Int.reduceToNat, reduceCtorEq, hrow]; try (and_intros <;> rfl))); (focus exact rfl))); (iterate 4 (focus (simp [go_sem, hrow]; done))))
    · have hd : decide ((k : Int) < (l.length : Int)) = false := by simpa using hlt
      have hke : l.take k = l := List.take_of_length_le (by omega)
      (repeat (first | (with_reducible refine a_seq ?_) | (with_reducible refine a_region ?_) | ((with_reducible apply op_any); (iterate 2 (focus (first | (simp only [go_sem, Nat.reduceEqDiff, Nat.reduceAdd, Nat.reduceSub, Nat.reduceLeDiff, Nat.reduceMul, Nat.reduceBEq, Nat.reduceLT, Int.reduceToNat, reduceCtorEq, hd]; first | done | exact rfl | (and_intros <;> rfl)) | exact rfl | decide)))) | ((with_reducible refine o_nil ?_); dsimp only; try ((with_reducible apply o_draw); (focus (simp only [go_sem, Nat.reduceEqDiff, Nat.reduceAdd, Nat.reduceSub, Nat.reduceLeDiff, Nat.reduceMul, Nat.reduceBEq, Nat.reduceLT, Int.reduceToNat, reduceCtorEq, hd]; exact rfl)); (focus decide))) | ((with_reducible refine a_ret ?_); dsimp only) | (with_reducible refine a_block ?_) | ((with_reducible refine a_exit ?_); dsimp only; simp only [if_true, if_false, Nat.reduceEqDiff]) | ((with_reducible apply a_if); (focus (first | (simp only [go_sem, Nat.reduceEqDiff, Nat.reduceAdd, Nat.reduceSub, Nat.reduceLeDiff, Nat.reduceMul, Nat.reduceBEq, Nat.reduceLT, Int.reduceToNat, reduceCtorEq, hd]; first | done | exact rfl | (and_intros <;> rfl)) | exact rfl | decide)); dsimp only [cond_true, cond_false]) | ((with_reducible refine a_draw ?_ ?_); (focus exact rfl)) | ((with_reducible refine a_skip ?_); dsimp only) | ((with_reducible refine a_label ?_); dsimp only) | (with_reducible refine a_scope ?_)))
      (apply (ret_of [((0, 0), (99, 0))] []); (focus (simp only [Try.results52, go_sem, hke]; exact rfl)); (focus (simp only [go_sem, Nat.reduceEqDiff, Nat.reduceAdd, Nat.reduceSub, Nat.reduceLeDiff, Nat.reduceMul, Nat.reduceBEq, Nat.reduceLT, Int.reduceToNat, reduceCtorEq, hke]; try (and_intros <;> rfl))); (focus exact rfl); (focus (simp only [go_sem, Nat.reduceEqDiff, Nat.reduceAdd, Nat.reduceSub, Nat.reduceLeDiff, Nat.reduceMul, Nat.reduceBEq, Nat.reduceLT, Int.reduceToNat, reduceCtorEq, hke]; try (and_intros <;> rfl))); (focus exact rfl); (iterate 4 (focus (simp [go_sem, hke]; done))))
theorem neatL_snoc {l : List V} {q : V} (h : neatL l) (hq : q.neat) : neatL (l ++ [q]) := by
  induction l with
  | nil => exact ⟨hq, trivial⟩
  | cons x l ih => exact ⟨h.1, ih h.2⟩
mutual
theorem paths_ok : ∀ (t : V) (ahead : List V), neatL ahead → ∀ p ∈ t.paths ahead, neatL p.1 ∧ countL p.1 + 1 ≤ countL ahead + t.count
  | .mk kind num text keys kids, ahead, ha => by
    intro p hp
    simp only [V.paths, List.mem_cons] at hp
    rcases hp with rfl | hp
    · exact ⟨ha, by simp only [V.count]; omega⟩
    · have := pathsL_ok (V.mk kind num text keys kids).keyV (fun i => by unfold V.keyV; split <;> simp [strV, numV, V.neat, neatL, V.count, countL]) 0 kids ahead ha p hp
      exact ⟨this.1, by simp only [V.count]; omega⟩
theorem pathsL_ok : ∀ (key : Nat → V), (∀ i, (key i).neat ∧ (key i).count = 1) → ∀ (i : Nat) (ks ahead : List V), neatL ahead → ∀ p ∈ pathsL key i ks ahead, neatL p.1 ∧ countL p.1 + 1 ≤ countL ahead + 1 + countL ks
  | _, _, _, [], _, _ => by simp [pathsL]
  | key, hk, i, k :: ks, ahead, ha => by
    intro p hp
    simp only [pathsL, List.mem_append] at hp
    rcases hp with hp | hp
    · have := paths_ok k (ahead ++ [key i]) (neatL_snoc ha (hk i).1) p hp
      rw [countL_snoc, (hk i).2] at this
      exact ⟨this.1, by simp only [countL]; omega⟩
    · have := pathsL_ok key hk (i + 1) ks ahead ha p hp
      exact ⟨this.1, by simp only [countL]; omega⟩
end
theorem arr_neat {l : List V} (h : neatL l) : (arrV l).neat := ⟨fun h5 => (by simp [holds] at h5), fun h6 => (by omega), h⟩
theorem arr_count (l : List V) : (arrV l).count = countL l + 1 := rfl
end Go.Proofs.Ytijadbifkehccaa
