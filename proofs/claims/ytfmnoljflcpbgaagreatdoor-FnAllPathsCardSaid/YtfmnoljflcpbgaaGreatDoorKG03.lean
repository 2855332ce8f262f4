/- slices.Clone of trees, (impl.val).paths, by the engine. -/
import Derived.Test.YtfmnoljflcpbgaaGreatDoorKG01uG02
set_option linter.unusedSimpArgs false
set_option linter.unusedVariables false
set_option linter.unnecessarySimpa false
namespace Go.Proofs.YtfmnoljflcpbgaaGreatDoor
open Go.RowKit
/-- A value with its path, as cells. -/
def placedCs (p : List V × V) : List C := [.sl (p.1.map V.cs), .int .i64 p.2.kind, .int .i64 p.2.num, .str p.2.text, .sl (p.2.keys.map strCs), .sl (p.2.kids.map V.cs)]
theorem all_placed (l : List (List V × V)) : ((l.map placedCs).all fun r => r.length == 6) = true := by simp [placedCs]
theorem fl_placed (p : List V × V) : forgetL (placedCs p) = placedCs p := rfl
theorem forget_placed (l : List (List V × V)) : forgetLL (l.map placedCs) = l.map placedCs := forget_map _ fl_placed l
attribute [go_sem] all_placed forget_placed

set_option maxRecDepth 10000
theorem clone_nil : AC Tryz.prog 139 [.nils] [] .nils [] := by
  refine wEnter Tryz.func139 Tryz.ntmps139 ?_
  refine wRUN trivial ?_
  exact wRet (ret_data []) Tryz.results139
set_option maxHeartbeats 1000000 in
theorem clone_ac (l : List V) (h0 : l ≠ []) (hl : l.length ≤ 1000000) : AC Tryz.prog 139 [valsA l] [] (.own (0, 0)) [((0, 0), .row false 5 80 (l.map V.cs))] := by
  have he : (l.map V.cs).isEmpty = false := by cases l <;> simp at h0 ⊢
  have hn : 0 + l.length ≤ 1000000 := by omega
  refine wEnter Tryz.func139 Tryz.ntmps139 ?_
  refine wRUN (j2 he hn) ?_
  exact wRetOf (ret_of [((0, 0), (7, 0))] []) Tryz.results139 he
theorem forget_more (ahead : List V) (q : V) : forgetLL (ahead.map V.cs ++ [[.int .i64 q.kind, .int .i64 q.num, .str q.text, .sl (q.keys.map strCs), .sl (q.kids.map V.cs)]]) = (ahead ++ [q]).map V.cs := by
  rw [← V.cs_eq, ← forget_trees (ahead ++ [q]), List.map_append]
  rfl
set_option maxHeartbeats 4000000 in
theorem paths_ac : ∀ (m : Nat) (t : V) (ahead : List V), t.count ≤ m → t.count ≤ 500000 → t.neat → ahead ≠ [] → ahead.length + t.count ≤ 900000 →
    AC Tryz.prog 86 [t.av, valsA ahead] [] (.own (0, 0)) [((0, 0), .row false 6 154 ((t.paths ahead).map placedCs))] := by
  intro m
  induction m with
  | zero => intro t _ hm; have := count_pos t; omega
  | succ m ih =>
    intro t ahead hm hM hn h0 hl
    have hkc := count_kids t
    have hkl := countL_len t.kids
    have hpl := paths_len t ahead
    refine wEnter Tryz.func86 Tryz.ntmps86 ?_
    refine wRUN trivial ?_
    refine a_loop (κ := Nat × List (List V × V)) (fun x => ⟨mkS 0 33 [(1, valsA ahead), (2, .ptr (2, 0) 0), (5, .own (5, 0)), (13, .c (.sl (t.kids.map V.cs))), (14, .c (.int .i64 t.kids.length)), (15, .c (.int .i64 x.1))],
        [((2, 0), .box [.c (.int .i64 t.kind), .c (.int .i64 t.num), .c (.str t.text), .c (.sl (t.keys.map strCs)), .c (.sl (t.kids.map V.cs))]), ((5, 0), .row false 6 154 (x.2.map placedCs))]⟩)
      (fun x => x.1 ≤ t.kids.length ∧ x.2 ++ pathsL t.keyV x.1 (t.kids.drop x.1) ahead = t.paths ahead) (fun x => t.kids.length - x.1) (0, [(ahead, t)]) ⟨Nat.zero_le _, (paths_eq t ahead).symm⟩ ?_ ?_
    · (apply (Says.of [((2, 0), (2, 0)), ((5, 0), (11, 0))] []); (iterate 2 ((focus (simp only [go_sem, Nat.reduceEqDiff, Nat.reduceAdd, Nat.reduceSub, Nat.reduceLeDiff, Nat.reduceMul, Nat.reduceBEq, Nat.reduceLT, Int.reduceToNat, reduceCtorEq, placedCs]; try (and_intros <;> rfl))); (focus exact rfl))); (iterate 4 (focus (simp [go_sem, placedCs]; done))))
    · rintro ⟨k, done⟩ ⟨hk, hd0⟩
      dsimp only at hk hd0 ⊢
      by_cases hlt : k < t.kids.length
      · have hd : decide ((k : Int) < (t.kids.length : Int)) = true := by simpa using hlt
        have hr : rowsAt (t.kids.map V.cs) 5 k = true := by simp [rowsAt, hlt, V.cs_eq]
        have hg : (t.kids.map V.cs)[k]? = some t.kids[k].cs := by simp [hlt]
        have hmem := countL_mem (List.getElem_mem hlt)
        have hnk := neatL_mem (neat_kids hn) _ (List.getElem_mem hlt)
        rw [pathsL_drop t.keyV ahead t.kids hlt] at hd0
        have hkey := keyAt_ac t hn k hlt
        generalize t.kids[k] = u at *
        generalize t.keyV k = q at *
        have hpu := paths_len u (ahead ++ [q])
        have hdl : done.length + (u.paths (ahead ++ [q])).length ≤ t.count := by
          have := congrArg List.length hd0
          simp only [List.length_append] at this
          omega
        have hw := wrap_succ (k := k) (by omega)
        have h1 : ahead.length + 1 ≤ 1000000 := by omega
        have h2 : done.length + (u.paths (ahead ++ [q])).length ≤ 1000000 := by omega
        have hf := forget_more ahead q
        refine wRUN (j3 hd hr hg) ?_
        refine w12 (op_rowF [] (clone_ac ahead h0 (by omega))) trivial ?_
        refine wRUN (j3 hd hr hg) ?_
        refine w9 (op_shared [] hkey) trivial ?_
        refine wRUN h1 ?_
        refine w12 (op_rowF [(28, 0)] (ih u (ahead ++ [q]) (by omega) (by omega) hnk (by simp) (by simp only [List.length_append, List.length_singleton]; omega))) hf ?_
        refine wRUN (j2 h2 hw) ?_
        refine ⟨(k + 1, done ++ u.paths (ahead ++ [q])), by dsimp only; omega, ⟨by dsimp only; omega, by simpa using hd0⟩, ?_⟩
        (apply (Says.of [((2, 0), (2, 0)), ((5, 0), (30, 0))] []); (iterate 2 ((focus (simp only [go_sem, Nat.reduceEqDiff, Nat.reduceAdd, Nat.reduceSub, Nat.reduceLeDiff, Nat.reduceMul, Nat.reduceBEq, Nat.reduceLT, Int.reduceToNat, reduceCtorEq, List.map_append]; try (and_intros <;> rfl))); (focus exact rfl))); (iterate 4 (focus (simp [go_sem, List.map_append]; done))))
      · have hd : decide ((k : Int) < (t.kids.length : Int)) = false := by simpa using hlt
        rw [pathsL_end _ _ _ _ (by omega), List.append_nil] at hd0
        refine wRUN hd ?_
        exact wRetOf (ret_of [((0, 0), (5, 0))] []) Tryz.results86 hd0
set_option maxHeartbeats 4000000 in
theorem paths_nil (t : V) (hM : t.count ≤ 500000) (hn : t.neat) :
    AC Tryz.prog 86 [t.av, .nils] [] (.own (0, 0)) [((0, 0), .row false 6 154 ((t.paths []).map placedCs))] := by
  have hkc := count_kids t
  have hkl := countL_len t.kids
  have hpl := paths_len t []
  refine wEnter Tryz.func86 Tryz.ntmps86 ?_
  refine wRUN trivial ?_
  refine a_loop (κ := Nat × List (List V × V)) (fun x => ⟨mkS 0 33 [(1, .nils), (2, .ptr (2, 0) 0), (5, .own (5, 0)), (13, .c (.sl (t.kids.map V.cs))), (14, .c (.int .i64 t.kids.length)), (15, .c (.int .i64 x.1))],
      [((2, 0), .box [.c (.int .i64 t.kind), .c (.int .i64 t.num), .c (.str t.text), .c (.sl (t.keys.map strCs)), .c (.sl (t.kids.map V.cs))]), ((5, 0), .row false 6 154 (x.2.map placedCs))]⟩)
    (fun x => x.1 ≤ t.kids.length ∧ x.2 ++ pathsL t.keyV x.1 (t.kids.drop x.1) [] = t.paths []) (fun x => t.kids.length - x.1) (0, [([], t)]) ⟨Nat.zero_le _, (paths_eq t []).symm⟩ ?_ ?_
  · (apply (Says.of [((2, 0), (2, 0)), ((5, 0), (11, 0))] []); (iterate 2 ((focus (simp only [go_sem, Nat.reduceEqDiff, Nat.reduceAdd, Nat.reduceSub, Nat.reduceLeDiff, Nat.reduceMul, Nat.reduceBEq, Nat.reduceLT, Int.reduceToNat, reduceCtorEq, placedCs]; try (and_intros <;> rfl))); (focus exact rfl))); (iterate 4 (focus (simp [go_sem, placedCs]; done))))
  · rintro ⟨k, done⟩ ⟨hk, hd0⟩
    dsimp only at hk hd0 ⊢
    by_cases hlt : k < t.kids.length
    · have hd : decide ((k : Int) < (t.kids.length : Int)) = true := by simpa using hlt
      have hr : rowsAt (t.kids.map V.cs) 5 k = true := by simp [rowsAt, hlt, V.cs_eq]
      have hg : (t.kids.map V.cs)[k]? = some t.kids[k].cs := by simp [hlt]
      have hmem := countL_mem (List.getElem_mem hlt)
      have hnk := neatL_mem (neat_kids hn) _ (List.getElem_mem hlt)
      rw [pathsL_drop t.keyV [] t.kids hlt, List.nil_append] at hd0
      have hkey := keyAt_ac t hn k hlt
      generalize t.kids[k] = u at *
      generalize t.keyV k = q at *
      have hpu := paths_len u [q]
      have hdl : done.length + (u.paths [q]).length ≤ t.count := by
        have := congrArg List.length hd0
        simp only [List.length_append] at this
        omega
      have hw := wrap_succ (k := k) (by omega)
      have h2 : done.length + (u.paths [q]).length ≤ 1000000 := by omega
      have hf := forget_more [] q
      simp only [List.map_nil, List.nil_append] at hf
      refine wRUN (j3 hd hr hg) ?_
      refine w7 (op_data [] clone_nil) trivial ?_
      refine wRUN (j3 hd hr hg) ?_
      refine w9 (op_shared [] hkey) trivial ?_
      refine wRUN trivial ?_
      refine w12 (op_rowF [(28, 0)] (paths_ac u.count u [q] (Nat.le_refl _) (by omega) hnk (by simp) (by simp only [List.length_singleton]; omega))) hf ?_
      refine wRUN (j2 h2 hw) ?_
      refine ⟨(k + 1, done ++ u.paths [q]), by dsimp only; omega, ⟨by dsimp only; omega, by simpa using hd0⟩, ?_⟩
      (apply (Says.of [((2, 0), (2, 0)), ((5, 0), (30, 0))] []); (iterate 2 ((focus (simp only [go_sem, Nat.reduceEqDiff, Nat.reduceAdd, Nat.reduceSub, Nat.reduceLeDiff, Nat.reduceMul, Nat.reduceBEq, Nat.reduceLT, Int.reduceToNat, reduceCtorEq, List.map_append]; try (and_intros <;> rfl))); (focus exact rfl))); (iterate 4 (focus (simp [go_sem, List.map_append]; done))))
    · have hd : decide ((k : Int) < (t.kids.length : Int)) = false := by simpa using hlt
      rw [pathsL_end _ _ _ _ (by omega), List.append_nil] at hd0
      refine wRUN hd ?_
      exact wRetOf (ret_of [((0, 0), (5, 0))] []) Tryz.results86 hd0
end Go.Proofs.YtfmnoljflcpbgaaGreatDoor
