/- laws.FnExactDiffValues: the walk of the law itself, by the engine. -/
import Derived.Test.YtioaieacogoemaaGreatKH19
import Derived.Test.YtioaieacogoemaaGreatKG77
import Derived.Test.YtioaieacogoemaaGreatKG16uG48
set_option linter.unusedSimpArgs false
set_option linter.unusedVariables false
set_option linter.unnecessarySimpa false
namespace Go.Proofs.YtioaieacogoemaaGreat
open Go.RowKit
set_option maxRecDepth 10000
set_option maxHeartbeats 8000000 in
theorem lawDiffValues_small1 (x0 : List CellD) (x1 : List CellD) (hz0 : Sized63 x0) (hz1 : Sized63 x1) (hl0 : x0.length ≤ 9223372036854775807) (hl1 : x1.length ≤ 9223372036854775807) (hb0' : (szR x0 1048576) < 0) : AC Tryz.prog 5 [cellsA x0, cellsA x1] [] (.c (.bool true)) [] := by
  have hq0 := szR_le x0 1048576 (by omega)
  have hs0 := szCellS_ac x0 hz0 (by omega) 1048576 (by omega) (by omega)
  have hb0 : decide ((szR x0 1048576) < 0) = true := by simpa using hb0'
  refine wEnter Tryz.func5 Tryz.ntmps5 ?_
  refine wRUN trivial ?_
  refine w7 (op_data [] hs0) trivial ?_
  refine wRUN hb0 ?_
  exact wRet (ret_data []) Tryz.results5
set_option maxHeartbeats 8000000 in
theorem lawDiffValues_small2 (x0 : List CellD) (x1 : List CellD) (hz0 : Sized63 x0) (hz1 : Sized63 x1) (hl0 : x0.length ≤ 9223372036854775807) (hl1 : x1.length ≤ 9223372036854775807) (hb0' : ¬ (szR x0 1048576) < 0) (hb1' : (szR x1 (szR x0 1048576)) < 0) : AC Tryz.prog 5 [cellsA x0, cellsA x1] [] (.c (.bool true)) [] := by
  have hq0 := szR_le x0 1048576 (by omega)
  have hq1 := szR_le x1 (szR x0 1048576) (by omega)
  have hs0 := szCellS_ac x0 hz0 (by omega) 1048576 (by omega) (by omega)
  have hs1 := szCellS_ac x1 hz1 (by omega) (szR x0 1048576) (by omega) (by omega)
  have hb0 : decide ((szR x0 1048576) < 0) = false := by simpa using hb0'
  have hb1 : decide ((szR x1 (szR x0 1048576)) < 0) = true := by simpa using hb1'
  refine wEnter Tryz.func5 Tryz.ntmps5 ?_
  refine wRUN trivial ?_
  refine w7 (op_data [] hs0) trivial ?_
  refine wRUN hb0 ?_
  refine w7 (op_data [] hs1) trivial ?_
  refine wRUN hb1 ?_
  exact wRet (ret_data []) Tryz.results5
set_option maxHeartbeats 8000000 in
theorem lawDiffValues_one (x0 : List CellD) (x1 : List CellD) (hz0 : Sized63 x0) (hz1 : Sized63 x1) (hl0 : x0.length ≤ 1048576) (hl1 : x1.length ≤ 1048576) (hb0' : ¬ (szR x0 1048576) < 0) (hb1' : ¬ (szR x1 (szR x0 1048576)) < 0) (c at1 : Int) (ys : List EditD) (hy : ys.length ≤ 1000000) (ht : 1 + totE ys ≤ 3000000000) (hx : ∀ d ∈ ys, d.path.length ≤ 9223372036854775807 ∧ d.x.length ≤ 9223372036854775807) (hk9 : 1 + 5 * x0.length + 5 * x1.length ≤ 3000000000) (hspec : AC Tryz.prog 25 [cellsA x0, cellsA x1] [] (.agg [.c (.int .i64 c), .c (.int .i64 at1), .c (.sl (ys.map EditD.cs))]) []) (himpl : AC Tryz.prog 26 [cellsA x0, cellsA x1] [] (.agg [.c (.int .i64 c), .c (.int .i64 at1), .own (0, 0)]) [((0, 0), .row true 3 73 (ys.map EditD.ox))]) : AC Tryz.prog 5 [cellsA x0, cellsA x1] [] (.c (.bool true)) [] := by
  have hq0 := szR_le x0 1048576 (by omega)
  have hq1 := szR_le x1 (szR x0 1048576) (by omega)
  have hs0 := szCellS_ac x0 hz0 (by omega) 1048576 (by omega) (by omega)
  have hs1 := szCellS_ac x1 hz1 (by omega) (szR x0 1048576) (by omega) (by omega)
  have hb0 : decide ((szR x0 1048576) < 0) = false := by simpa using hb0'
  have hb1 : decide ((szR x1 (szR x0 1048576)) < 0) = false := by simpa using hb1'
  have hto0 := toCellS_ac x0 hl0
  have heq0 := eqCellS_ac x0 (by omega)
  have hmk0 := markCellS_ac x0 (1) 5 61 (fun _ => rfl) (by omega)
  have hto1 := toCellS_ac x1 hl1
  have heq1 := eqCellS_ac x1 (by omega)
  have hmk1 := markCellS_ac x1 (1 + 5 * x0.length) 5 61 (fun _ => rfl) (by omega)
  have he := eqEditsResult_ac c at1 ys (by omega) hx
  have hm := markEditsResult_ac c at1 ys 1 73 ht (by omega)
  have hh := heldEditsResult_ac c at1 ys 1 ht (by omega)
  have hm0 : decide (((1 + totE ys : Nat) : Int) < 0) = false := by simp; omega
  have hmm : (((1 + totE ys : Nat) : Int) != ((1 + totE ys : Nat) : Int)) = false := by simp
  have hk0 : decide (((1 + 5 * x0.length + 5 * x1.length : Nat) : Int) < 0) = false := by simp; omega
  refine wEnter Tryz.func5 Tryz.ntmps5 ?_
  refine wRUN trivial ?_
  refine w7 (op_data [] hs0) trivial ?_
  refine wRUN hb0 ?_
  refine w7 (op_data [] hs1) trivial ?_
  refine wRUN hb1 ?_
  refine w12 (op_rowT [] hto0) trivial ?_
  refine wRUN hb1 ?_
  refine w12 (op_rowT [] hto1) trivial ?_
  refine wRUN hb1 ?_
  refine w9 (op_shared [(25, 0), (27, 0)] hspec) trivial ?_
  refine wRUN hb1 ?_
  refine w12 (op_rowT [] hto0) trivial ?_
  refine wRUN hb1 ?_
  refine w12 (op_rowT [] hto1) trivial ?_
  refine wRUN hb1 ?_
  refine w12 (op_rowT [(30, 0), (32, 0)] himpl) trivial ?_
  refine wRUN hb1 ?_
  refine w7 (op_data [(35, 0)] he) trivial ?_
  refine wRUN (j2 hb1 hk0) ?_
  refine w12 (op_rowT [] hto0) trivial ?_
  refine wRUN (j2 hb1 hk0) ?_
  refine w7 (op_data [(30, 0), (42, 0)] heq0) trivial ?_
  refine wRUN (j2 hb1 hk0) ?_
  refine w12 (op_rowT [] hto1) trivial ?_
  refine wRUN (j2 hb1 hk0) ?_
  refine w7 (op_data [(32, 0), (47, 0)] heq1) trivial ?_
  refine wRUN (j2 hb1 hk0) ?_
  refine w9 (op_own (30, 0) hmk0) trivial ?_
  refine wRUN hk0 ?_
  refine w9 (op_own (32, 0) hmk1) trivial ?_
  refine wRUN hk0 ?_
  refine w7 (op_data [(35, 0)] he) trivial ?_
  refine wRUN hk0 ?_
  refine w9 (op_own (35, 0) hm) trivial ?_
  refine wRUN (j2 hm0 hmm) ?_
  refine w7 (op_data [(35, 0)] hh) trivial ?_
  refine wRUN (j2 hm0 hmm) ?_
  refine w12 (op_rowT [] hto0) trivial ?_
  refine wRUN (j2 hm0 hmm) ?_
  refine w12 (op_rowT [] hto1) trivial ?_
  refine wRUN (j2 hm0 hmm) ?_
  refine w12 (op_rowT [(76, 0), (78, 0)] himpl) trivial ?_
  refine wRUN (j2 hm0 hmm) ?_
  refine w7 (op_data [(79, 0)] he) trivial ?_
  refine wRUN (j2 hm0 hk0) ?_
  refine w7 (op_data [(35, 0)] hh) trivial ?_
  refine wRUN (j2 hm0 hmm) ?_
  exact wRet (ret_data []) Tryz.results5
set_option maxHeartbeats 8000000 in
theorem lawDiffValues_none (x0 : List CellD) (x1 : List CellD) (hz0 : Sized63 x0) (hz1 : Sized63 x1) (hl0 : x0.length ≤ 1048576) (hl1 : x1.length ≤ 1048576) (hb0' : ¬ (szR x0 1048576) < 0) (hb1' : ¬ (szR x1 (szR x0 1048576)) < 0) (c at1 : Int) (hk9 : 1 + 5 * x0.length + 5 * x1.length ≤ 3000000000) (hspec : AC Tryz.prog 25 [cellsA x0, cellsA x1] [] (.agg [.c (.int .i64 c), .c (.int .i64 at1), .c (.sl [])]) []) (himpl : AC Tryz.prog 26 [cellsA x0, cellsA x1] [] (.agg [.c (.int .i64 c), .c (.int .i64 at1), .nils]) []) : AC Tryz.prog 5 [cellsA x0, cellsA x1] [] (.c (.bool true)) [] := by
  have hq0 := szR_le x0 1048576 (by omega)
  have hq1 := szR_le x1 (szR x0 1048576) (by omega)
  have hs0 := szCellS_ac x0 hz0 (by omega) 1048576 (by omega) (by omega)
  have hs1 := szCellS_ac x1 hz1 (by omega) (szR x0 1048576) (by omega) (by omega)
  have hb0 : decide ((szR x0 1048576) < 0) = false := by simpa using hb0'
  have hb1 : decide ((szR x1 (szR x0 1048576)) < 0) = false := by simpa using hb1'
  have hto0 := toCellS_ac x0 hl0
  have heq0 := eqCellS_ac x0 (by omega)
  have hmk0 := markCellS_ac x0 (1) 5 61 (fun _ => rfl) (by omega)
  have hto1 := toCellS_ac x1 hl1
  have heq1 := eqCellS_ac x1 (by omega)
  have hmk1 := markCellS_ac x1 (1 + 5 * x0.length) 5 61 (fun _ => rfl) (by omega)
  have he := eqEditsResult_ac c at1 [] (by simp) (by simp)
  have hm := markEditsResult_nil c at1 1
  have hh := heldEditsResult_nil c at1 1 (by omega)
  have hm0 : decide (((1 : Nat) : Int) < 0) = false := rfl
  have hmm : (((1 : Nat) : Int) != ((1 : Nat) : Int)) = false := by simp
  have hk0 : decide (((1 + 5 * x0.length + 5 * x1.length : Nat) : Int) < 0) = false := by simp; omega
  refine wEnter Tryz.func5 Tryz.ntmps5 ?_
  refine wRUN trivial ?_
  refine w7 (op_data [] hs0) trivial ?_
  refine wRUN hb0 ?_
  refine w7 (op_data [] hs1) trivial ?_
  refine wRUN hb1 ?_
  refine w12 (op_rowT [] hto0) trivial ?_
  refine wRUN hb1 ?_
  refine w12 (op_rowT [] hto1) trivial ?_
  refine wRUN hb1 ?_
  refine w9 (op_shared [(25, 0), (27, 0)] hspec) trivial ?_
  refine wRUN hb1 ?_
  refine w12 (op_rowT [] hto0) trivial ?_
  refine wRUN hb1 ?_
  refine w12 (op_rowT [] hto1) trivial ?_
  refine wRUN hb1 ?_
  refine w7 (op_data [(30, 0), (32, 0)] himpl) trivial ?_
  refine wRUN hb1 ?_
  (apply (op_data [] he); (iterate 7 (focus (first | (simp only [go_sem, Nat.reduceEqDiff, Nat.reduceAdd, Nat.reduceSub, Nat.reduceLeDiff, Nat.reduceMul, Nat.reduceBEq, Nat.reduceLT, Int.reduceToNat, reduceCtorEq, List.map_nil]; first | done | exact rfl | (and_intros <;> rfl)) | exact rfl | decide))))
  refine wRUN (j2 hb1 hk0) ?_
  refine w12 (op_rowT [] hto0) trivial ?_
  refine wRUN (j2 hb1 hk0) ?_
  refine w7 (op_data [(30, 0), (42, 0)] heq0) trivial ?_
  refine wRUN (j2 hb1 hk0) ?_
  refine w12 (op_rowT [] hto1) trivial ?_
  refine wRUN (j2 hb1 hk0) ?_
  refine w7 (op_data [(32, 0), (47, 0)] heq1) trivial ?_
  refine wRUN (j2 hb1 hk0) ?_
  refine w9 (op_own (30, 0) hmk0) trivial ?_
  refine wRUN hk0 ?_
  refine w9 (op_own (32, 0) hmk1) trivial ?_
  refine wRUN hk0 ?_
  (apply (op_data [] he); (iterate 7 (focus (first | (simp only [go_sem, Nat.reduceEqDiff, Nat.reduceAdd, Nat.reduceSub, Nat.reduceLeDiff, Nat.reduceMul, Nat.reduceBEq, Nat.reduceLT, Int.reduceToNat, reduceCtorEq, List.map_nil]; first | done | exact rfl | (and_intros <;> rfl)) | exact rfl | decide))))
  refine wRUN hk0 ?_
  refine w7 (op_data [] hm) trivial ?_
  refine wRUN (j2 hm0 hmm) ?_
  refine w7 (op_data [] hh) trivial ?_
  refine wRUN (j2 hm0 hmm) ?_
  refine w12 (op_rowT [] hto0) trivial ?_
  refine wRUN (j2 hm0 hmm) ?_
  refine w12 (op_rowT [] hto1) trivial ?_
  refine wRUN (j2 hm0 hmm) ?_
  refine w7 (op_data [(76, 0), (78, 0)] himpl) trivial ?_
  refine wRUN (j2 hm0 hmm) ?_
  (apply (op_data [] he); (iterate 7 (focus (first | (simp only [go_sem, Nat.reduceEqDiff, Nat.reduceAdd, Nat.reduceSub, Nat.reduceLeDiff, Nat.reduceMul, Nat.reduceBEq, Nat.reduceLT, Int.reduceToNat, reduceCtorEq, List.map_nil]; first | done | exact rfl | (and_intros <;> rfl)) | exact rfl | decide))))
  refine wRUN (j2 hm0 hk0) ?_
  refine w7 (op_data [] hh) trivial ?_
  refine wRUN (j2 hm0 hmm) ?_
  exact wRet (ret_data []) Tryz.results5
theorem setE_len {p : List V} {x : V} (hp : leafy p) : (setE p x).path.length = p.length + 1 ∧ (setE p x).x.length = x.count := ⟨by unfold setE; dsimp only; rw [enc_len, leafy_arr hp], by unfold setE; dsimp only; rw [enc_len]⟩
theorem dropE_len {p : List V} (hp : leafy p) : (dropE p).path.length = p.length + 1 ∧ (dropE p).x.length = 0 := ⟨by unfold dropE; dsimp only; rw [enc_len, leafy_arr hp], rfl⟩
/-- An edit that was told is small. -/
theorem diff_small : ∀ (n : Nat) (a b : V) (p : List V), a.right → b.right → leafy p → ∀ d ∈ diffV n a b p, d.path.length ≤ p.length + n + 1 ∧ d.x.length ≤ 200
  | 0, a, b, p, _, _, _, d, hd => by simp [diffV] at hd
  | n + 1, a, b, p, ha, hb, hp, d, hd => by
    have hbc := hb.2.1
    unfold diffV at hd
    split at hd
    · cases hd
    · split at hd
      · rename_i h6
        obtain ⟨k, hk, hd⟩ := List.mem_flatMap.1 hd
        have hpl : (p ++ [strV k]).length = p.length + 1 := by simp
        have hlf := leafy_str hp k
        unfold objAt at hd
        split at hd
        · rw [List.mem_singleton.1 hd]
          obtain ⟨e1, e2⟩ := dropE_len hlf
          rw [e1, e2]
          omega
        · split at hd
          · rw [List.mem_singleton.1 hd]
            obtain ⟨e1, e2⟩ := setE_len (x := b.member k) hlf
            have := (right_member hb h6.2 k).2.1
            rw [e1, e2]
            omega
          · have := diff_small n _ _ _ (right_member ha h6.1 k) (right_member hb h6.2 k) hlf d hd
            omega
      · split at hd
        · have hget : ∀ i, (b.kids.getD i nullV).count ≤ 200 := fun i => by
            by_cases hi : i < b.kids.length
            · rw [List.getD_eq_getElem?_getD, List.getElem?_eq_getElem hi, Option.getD_some]
              exact (right_mem hb (List.getElem_mem hi)).2.1
            · rw [List.getD_eq_getElem?_getD, List.getElem?_eq_none (by omega)]
              decide
          unfold arrD at hd
          rcases List.mem_append.1 hd with hd | hd
          · rcases List.mem_append.1 hd with hd | hd
            · obtain ⟨i, hi, hd⟩ := List.mem_flatMap.1 hd
              have hpl : (p ++ [numV i]).length = p.length + 1 := by simp
              have hi' := List.mem_range.1 hi
              unfold bothAt at hd
              rw [List.getD_eq_getElem?_getD, List.getElem?_eq_getElem (show i < a.kids.length by omega), Option.getD_some, List.getD_eq_getElem?_getD, List.getElem?_eq_getElem (show i < b.kids.length by omega), Option.getD_some] at hd
              have := diff_small n _ _ _ (right_mem ha (List.getElem_mem _)) (right_mem hb (List.getElem_mem _)) (leafy_num hp i) d hd
              omega
            · obtain ⟨j, _, rfl⟩ := List.mem_map.1 hd
              unfold dropsAt
              have hpl : (p ++ [numV ((a.kids.length - 1 - j : Nat) : Int)]).length = p.length + 1 := by simp
              obtain ⟨e1, e2⟩ := dropE_len (leafy_num hp ((a.kids.length - 1 - j : Nat) : Int))
              rw [e1, e2]
              omega
          · obtain ⟨j, _, rfl⟩ := List.mem_map.1 hd
            unfold setsAt
            have hpl : (p ++ [numV ((min a.kids.length b.kids.length + j : Nat) : Int)]).length = p.length + 1 := by simp
            have := hget (min a.kids.length b.kids.length + j)
            obtain ⟨e1, e2⟩ := setE_len (x := b.kids.getD (min a.kids.length b.kids.length + j) nullV) (leafy_num hp ((min a.kids.length b.kids.length + j : Nat) : Int))
            rw [e1, e2]
            omega
        · rw [List.mem_singleton.1 hd]
          obtain ⟨e1, e2⟩ := setE_len (x := b) hp
          rw [e1, e2]
          omega
theorem totE_small : ∀ (l : List EditD) (n : Nat), (∀ d ∈ l, 1 + 5 * d.path.length + 5 * d.x.length ≤ n) → totE l ≤ l.length * n
  | [], n, _ => by simp [totE]
  | d :: l, n, h => by
    have h1 := totE_small l n fun x hx => h x (List.mem_cons_of_mem _ hx)
    have h2 := h d (by simp)
    have e : totE (d :: l) = (1 + 5 * d.path.length + 5 * d.x.length) + totE l := by simp only [totE, List.map_cons, List.sum_cons]
    rw [e, List.length_cons, Nat.add_mul]
    omega
theorem lawDiffValues_ac (x0 x1 : List CellD) (hz0 : Sized63 x0) (hz1 : Sized63 x1) (hl0 : x0.length ≤ 9223372036854775807) (hl1 : x1.length ≤ 9223372036854775807) : AC Tryz.prog 5 [cellsA x0, cellsA x1] [] (.c (.bool true)) [] := by
  by_cases hs0 : szR x0 1048576 < 0
  · exact lawDiffValues_small1 x0 x1 hz0 hz1 hl0 hl1 hs0
  · have hq0 := szR_le x0 1048576 (by omega)
    by_cases hs1 : szR x1 (szR x0 1048576) < 0
    · exact lawDiffValues_small2 x0 x1 hz0 hz1 hl0 hl1 hs0 hs1
    · have hm0 := szR_len (xs := x0) (left := 1048576) (by omega) (by omega)
      have hm1 := szR_len (xs := x1) (left := szR x0 1048576) (by omega) (by omega)
      rcases both_ways x0 x1 with hc | ⟨t, u, h1, h2, h0⟩
      · exact lawDiffValues_none x0 x1 hz0 hz1 hm0 hm1 hs0 hs1 _ 0 (by omega) (specDiff_bad x0 x1 hc rfl) (implDiff_bad x0 x1 hz0 hz1 hc rfl)
      · obtain ⟨e1, a1, a2, a3⟩ := dec_ok h1
        obtain ⟨e2, b1, b2, b3⟩ := dec_ok h2
        have ht : t.right := ⟨a1, a2, a3⟩
        have hu : u.right := ⟨b1, b2, b3⟩
        subst e1
        subst e2
        have hsp := specDiff_ac ht hu h0 _ rfl
        by_cases h : (diffV t.count t u []).length > 100
        · rw [if_pos h] at hsp
          exact lawDiffValues_none _ _ hz0 hz1 hm0 hm1 hs0 hs1 2 0 (by omega) hsp (implDiff_many ht hu hz0 hz1 h1 h2 h)
        · rw [if_neg h] at hsp
          have him := implDiff_ok ht hu hz0 hz1 h1 h2 h
          have hsm := diff_small t.count t u [] ht hu leafy_nil
          generalize diffV t.count t u [] = R at *
          have hto := totE_small R 5000 fun d hd => by have := hsm d hd; simp at this; omega
          exact lawDiffValues_one _ _ hz0 hz1 hm0 hm1 hs0 hs1 0 0 R (by omega) (by omega) (fun d hd => by have := hsm d hd; simp at this; omega) (by omega) hsp him
end Go.Proofs.YtioaieacogoemaaGreat
