/- laws.FnExactApplyEdits: the walk of the law itself, by the engine. -/
import Derived.Test.YtioaieacogoemaaGreatKH17
import Derived.Test.YtioaieacogoemaaGreatKGE
import Derived.Test.YtioaieacogoemaaGreatKG19
import Derived.Test.YtioaieacogoemaaGreatKG16uG33
set_option linter.unusedSimpArgs false
set_option linter.unusedVariables false
set_option linter.unnecessarySimpa false
namespace Go.Proofs.YtioaieacogoemaaGreat
open Go.RowKit
set_option maxRecDepth 10000
set_option maxHeartbeats 8000000 in
theorem lawApplyEdits_small1 (x0 : List CellD) (x1 : List EditD) (hz0 : Sized63 x0) (hz1 : ∀ d ∈ x1, EditOk d) (hl0 : x0.length ≤ 9223372036854775807) (hl1 : x1.length ≤ 9223372036854775807) (hm1 : ∀ d ∈ x1, d.path.length ≤ 9223372036854775807 ∧ d.x.length ≤ 9223372036854775807) (hb0' : (szR x0 1048576) < 0) : AC Tryz.prog 4 [cellsA x0, editsA x1] [] (.c (.bool true)) [] := by
  have hq0 := szR_le x0 1048576 (by omega)
  have hs0 := szCellS_ac x0 hz0 (by omega) 1048576 (by omega) (by omega)
  have hb0 : decide ((szR x0 1048576) < 0) = true := by simpa using hb0'
  refine wEnter Tryz.func4 Tryz.ntmps4 ?_
  refine wRUN trivial ?_
  refine w7 (op_data [] hs0) trivial ?_
  refine wRUN hb0 ?_
  exact wRet (ret_data []) Tryz.results4
set_option maxHeartbeats 8000000 in
theorem lawApplyEdits_small2 (x0 : List CellD) (x1 : List EditD) (hz0 : Sized63 x0) (hz1 : ∀ d ∈ x1, EditOk d) (hl0 : x0.length ≤ 9223372036854775807) (hl1 : x1.length ≤ 9223372036854775807) (hm1 : ∀ d ∈ x1, d.path.length ≤ 9223372036854775807 ∧ d.x.length ≤ 9223372036854775807) (hb0' : ¬ (szR x0 1048576) < 0) (hb1' : (szER x1 (szR x0 1048576)) < 0) : AC Tryz.prog 4 [cellsA x0, editsA x1] [] (.c (.bool true)) [] := by
  have hq0 := szR_le x0 1048576 (by omega)
  have hq1 := szER_le x1 (szR x0 1048576) (by omega)
  have hs0 := szCellS_ac x0 hz0 (by omega) 1048576 (by omega) (by omega)
  have hs1 := szEditS_ac x1 hz1 (by omega) (szR x0 1048576) (by omega) (by omega)
  have hb0 : decide ((szR x0 1048576) < 0) = false := by simpa using hb0'
  have hb1 : decide ((szER x1 (szR x0 1048576)) < 0) = true := by simpa using hb1'
  refine wEnter Tryz.func4 Tryz.ntmps4 ?_
  refine wRUN trivial ?_
  refine w7 (op_data [] hs0) trivial ?_
  refine wRUN hb0 ?_
  refine w7 (op_data [] hs1) trivial ?_
  refine wRUN hb1 ?_
  exact wRet (ret_data []) Tryz.results4
set_option maxHeartbeats 8000000 in
theorem lawApplyEdits_one (x0 : List CellD) (x1 : List EditD) (hz0 : Sized63 x0) (hz1 : ∀ d ∈ x1, EditOk d) (hl0 : x0.length ≤ 1048576) (hl1 : x1.length ≤ 1048576) (hm1 : ∀ d ∈ x1, d.path.length ≤ 1048576 ∧ d.x.length ≤ 1048576) (hb0' : ¬ (szR x0 1048576) < 0) (hb1' : ¬ (szER x1 (szR x0 1048576)) < 0) (c at1 : Int) (ys : List CellD) (hy : ys.length ≤ 1000000) (hk9 : 1 + 5 * x0.length + totE x1 ≤ 3000000000) (hspec : AC Tryz.prog 17 [cellsA x0, editsA x1] [] (.agg [.c (.int .i64 c), .c (.int .i64 at1), cellsA ys]) []) (himpl : AC Tryz.prog 19 [cellsA x0, editsA x1] [] (.agg [.c (.int .i64 c), .c (.int .i64 at1), .own (0, 0)]) [((0, 0), .row false 5 61 (ys.map CellD.cs))]) : AC Tryz.prog 4 [cellsA x0, editsA x1] [] (.c (.bool true)) [] := by
  have hq0 := szR_le x0 1048576 (by omega)
  have hq1 := szER_le x1 (szR x0 1048576) (by omega)
  have hs0 := szCellS_ac x0 hz0 (by omega) 1048576 (by omega) (by omega)
  have hs1 := szEditS_ac x1 hz1 (by omega) (szR x0 1048576) (by omega) (by omega)
  have hb0 : decide ((szR x0 1048576) < 0) = false := by simpa using hb0'
  have hb1 : decide ((szER x1 (szR x0 1048576)) < 0) = false := by simpa using hb1'
  have hto0 := toCellS_ac x0 hl0
  have heq0 := eqCellS_ac x0 (by omega)
  have hmk0 := markCellS_ac x0 (1) 5 61 (fun _ => rfl) (by omega)
  have hto1 := toEditS_ac x1 hl1 hm1
  have heq1 := eqEditS_ac x1 hl1 (fun d h => by have := hm1 d h; omega)
  have hmk1 := markEditS_ac x1 (1 + 5 * x0.length) 73 (by omega) (by omega)
  have hto1 := toEditS_ac x1 hl1 hm1
  have heq1 := eqEditS_ac x1 (by omega) (fun x h => by have := hm1 x h; omega)
  have hmk1 := markEditS_ac x1 (1 + 5 * x0.length) 73 (by omega) (by omega)
  have he := eqReadResult_ac c at1 ys (by omega)
  have hm := markReadResult_ac c at1 ys 1 5 61 (fun _ => rfl) (by omega)
  have hh := heldReadResult_ac c at1 ys.length 1 (by omega)
  have hm0 : decide (((1 + 5 * ys.length : Nat) : Int) < 0) = false := by simp; omega
  have hmm : (((1 + 5 * ys.length : Nat) : Int) != ((1 + 5 * ys.length : Nat) : Int)) = false := by simp
  have hk0 : decide (((1 + 5 * x0.length + totE x1 : Nat) : Int) < 0) = false := by simp; omega
  refine wEnter Tryz.func4 Tryz.ntmps4 ?_
  refine wRUN trivial ?_
  refine w7 (op_data [] hs0) trivial ?_
  refine wRUN hb0 ?_
  refine w7 (op_data [] hs1) trivial ?_
  refine wRUN hb1 ?_
  refine w12 (op_rowT [] hto0) trivial ?_
  refine wRUN hb1 ?_
  refine w12 (op_rowT [] hto1) trivial ?_
  refine wRUN hb1 ?_
  refine w9 (op_shared [(25, 0), (27, 0)] hspec) trivial ?_
  refine wRUN hb1 ?_
  refine w12 (op_rowT [] hto0) trivial ?_
  refine wRUN hb1 ?_
  refine w12 (op_rowT [] hto1) trivial ?_
  refine wRUN hb1 ?_
  refine w12 (op_rowT [(30, 0), (32, 0)] himpl) trivial ?_
  refine wRUN hb1 ?_
  refine w7 (op_data [(35, 0)] he) trivial ?_
  refine wRUN (j2 hb1 hk0) ?_
  refine w12 (op_rowT [] hto0) trivial ?_
  refine wRUN (j2 hb1 hk0) ?_
  refine w7 (op_data [(30, 0), (42, 0)] heq0) trivial ?_
  refine wRUN (j2 hb1 hk0) ?_
  refine w12 (op_rowT [] hto1) trivial ?_
  refine wRUN (j2 hb1 hk0) ?_
  refine w7 (op_data [(32, 0), (47, 0)] heq1) trivial ?_
  refine wRUN (j2 hb1 hk0) ?_
  refine w9 (op_own (30, 0) hmk0) trivial ?_
  refine wRUN hk0 ?_
  refine w9 (op_own (32, 0) hmk1) trivial ?_
  refine wRUN hk0 ?_
  refine w7 (op_data [(35, 0)] he) trivial ?_
  refine wRUN hk0 ?_
  refine w9 (op_own (35, 0) hm) trivial ?_
  refine wRUN (j2 hm0 hmm) ?_
  refine w7 (op_data [(35, 0)] hh) trivial ?_
  refine wRUN (j2 hm0 hmm) ?_
  refine w12 (op_rowT [] hto0) trivial ?_
  refine wRUN (j2 hm0 hmm) ?_
  refine w12 (op_rowT [] hto1) trivial ?_
  refine wRUN (j2 hm0 hmm) ?_
  refine w12 (op_rowT [(76, 0), (78, 0)] himpl) trivial ?_
  refine wRUN (j2 hm0 hmm) ?_
  refine w7 (op_data [(79, 0)] he) trivial ?_
  refine wRUN (j2 hm0 hk0) ?_
  refine w7 (op_data [(35, 0)] hh) trivial ?_
  refine wRUN (j2 hm0 hmm) ?_
  exact wRet (ret_data []) Tryz.results4
set_option maxHeartbeats 8000000 in
theorem lawApplyEdits_none (x0 : List CellD) (x1 : List EditD) (hz0 : Sized63 x0) (hz1 : ∀ d ∈ x1, EditOk d) (hl0 : x0.length ≤ 1048576) (hl1 : x1.length ≤ 1048576) (hm1 : ∀ d ∈ x1, d.path.length ≤ 1048576 ∧ d.x.length ≤ 1048576) (hb0' : ¬ (szR x0 1048576) < 0) (hb1' : ¬ (szER x1 (szR x0 1048576)) < 0) (c at1 : Int) (hk9 : 1 + 5 * x0.length + totE x1 ≤ 3000000000) (hspec : AC Tryz.prog 17 [cellsA x0, editsA x1] [] (.agg [.c (.int .i64 c), .c (.int .i64 at1), .c (.sl [])]) []) (himpl : AC Tryz.prog 19 [cellsA x0, editsA x1] [] (.agg [.c (.int .i64 c), .c (.int .i64 at1), .nils]) []) : AC Tryz.prog 4 [cellsA x0, editsA x1] [] (.c (.bool true)) [] := by
  have hq0 := szR_le x0 1048576 (by omega)
  have hq1 := szER_le x1 (szR x0 1048576) (by omega)
  have hs0 := szCellS_ac x0 hz0 (by omega) 1048576 (by omega) (by omega)
  have hs1 := szEditS_ac x1 hz1 (by omega) (szR x0 1048576) (by omega) (by omega)
  have hb0 : decide ((szR x0 1048576) < 0) = false := by simpa using hb0'
  have hb1 : decide ((szER x1 (szR x0 1048576)) < 0) = false := by simpa using hb1'
  have hto0 := toCellS_ac x0 hl0
  have heq0 := eqCellS_ac x0 (by omega)
  have hmk0 := markCellS_ac x0 (1) 5 61 (fun _ => rfl) (by omega)
  have hto1 := toEditS_ac x1 hl1 hm1
  have heq1 := eqEditS_ac x1 hl1 (fun d h => by have := hm1 d h; omega)
  have hmk1 := markEditS_ac x1 (1 + 5 * x0.length) 73 (by omega) (by omega)
  have hto1 := toEditS_ac x1 hl1 hm1
  have heq1 := eqEditS_ac x1 (by omega) (fun x h => by have := hm1 x h; omega)
  have hmk1 := markEditS_ac x1 (1 + 5 * x0.length) 73 (by omega) (by omega)
  have he := eqReadResult_ac c at1 [] (by simp)
  have hm := markReadResult_nil c at1 1
  have hh := heldReadResult_nil c at1 1 (by omega)
  have hm0 : decide (((1 : Nat) : Int) < 0) = false := rfl
  have hmm : (((1 : Nat) : Int) != ((1 : Nat) : Int)) = false := by simp
  have hk0 : decide (((1 + 5 * x0.length + totE x1 : Nat) : Int) < 0) = false := by simp; omega
  refine wEnter Tryz.func4 Tryz.ntmps4 ?_
  refine wRUN trivial ?_
  refine w7 (op_data [] hs0) trivial ?_
  refine wRUN hb0 ?_
  refine w7 (op_data [] hs1) trivial ?_
  refine wRUN hb1 ?_
  refine w12 (op_rowT [] hto0) trivial ?_
  refine wRUN hb1 ?_
  refine w12 (op_rowT [] hto1) trivial ?_
  refine wRUN hb1 ?_
  refine w9 (op_shared [(25, 0), (27, 0)] hspec) trivial ?_
  refine wRUN hb1 ?_
  refine w12 (op_rowT [] hto0) trivial ?_
  refine wRUN hb1 ?_
  refine w12 (op_rowT [] hto1) trivial ?_
  refine wRUN hb1 ?_
  refine w7 (op_data [(30, 0), (32, 0)] himpl) trivial ?_
  refine wRUN hb1 ?_
  (apply (op_data [] he); (iterate 7 (focus (first | (simp only [go_sem, Nat.reduceEqDiff, Nat.reduceAdd, Nat.reduceSub, Nat.reduceLeDiff, Nat.reduceMul, Nat.reduceBEq, Nat.reduceLT, Int.reduceToNat, reduceCtorEq, List.map_nil]; first | done | exact rfl | (and_intros <;> rfl)) | exact rfl | decide))))
  refine wRUN (j2 hb1 hk0) ?_
  refine w12 (op_rowT [] hto0) trivial ?_
  refine wRUN (j2 hb1 hk0) ?_
  refine w7 (op_data [(30, 0), (42, 0)] heq0) trivial ?_
  refine wRUN (j2 hb1 hk0) ?_
  refine w12 (op_rowT [] hto1) trivial ?_
  refine wRUN (j2 hb1 hk0) ?_
  refine w7 (op_data [(32, 0), (47, 0)] heq1) trivial ?_
  refine wRUN (j2 hb1 hk0) ?_
  refine w9 (op_own (30, 0) hmk0) trivial ?_
  refine wRUN hk0 ?_
  refine w9 (op_own (32, 0) hmk1) trivial ?_
  refine wRUN hk0 ?_
  (apply (op_data [] he); (iterate 7 (focus (first | (simp only [go_sem, Nat.reduceEqDiff, Nat.reduceAdd, Nat.reduceSub, Nat.reduceLeDiff, Nat.reduceMul, Nat.reduceBEq, Nat.reduceLT, Int.reduceToNat, reduceCtorEq, List.map_nil]; first | done | exact rfl | (and_intros <;> rfl)) | exact rfl | decide))))
  refine wRUN hk0 ?_
  refine w7 (op_data [] hm) trivial ?_
  refine wRUN (j2 hm0 hmm) ?_
  refine w7 (op_data [] hh) trivial ?_
  refine wRUN (j2 hm0 hmm) ?_
  refine w12 (op_rowT [] hto0) trivial ?_
  refine wRUN (j2 hm0 hmm) ?_
  refine w12 (op_rowT [] hto1) trivial ?_
  refine wRUN (j2 hm0 hmm) ?_
  refine w7 (op_data [(76, 0), (78, 0)] himpl) trivial ?_
  refine wRUN (j2 hm0 hmm) ?_
  (apply (op_data [] he); (iterate 7 (focus (first | (simp only [go_sem, Nat.reduceEqDiff, Nat.reduceAdd, Nat.reduceSub, Nat.reduceLeDiff, Nat.reduceMul, Nat.reduceBEq, Nat.reduceLT, Int.reduceToNat, reduceCtorEq, List.map_nil]; first | done | exact rfl | (and_intros <;> rfl)) | exact rfl | decide))))
  refine wRUN (j2 hm0 hk0) ?_
  refine w7 (op_data [] hh) trivial ?_
  refine wRUN (j2 hm0 hmm) ?_
  exact wRet (ret_data []) Tryz.results4
theorem lawApplyEdits_ac (x0 : List CellD) (x1 : List EditD) (hz0 : Sized63 x0) (hz1 : ∀ d ∈ x1, EditOk d) (hl0 : x0.length ≤ 9223372036854775807) (hl1 : x1.length ≤ 9223372036854775807) : AC Tryz.prog 4 [cellsA x0, editsA x1] [] (.c (.bool true)) [] := by
  have hn : ∀ d ∈ x1, d.path.length ≤ 9223372036854775807 ∧ d.x.length ≤ 9223372036854775807 := fun d hd => (hz1 d hd).2.2
  by_cases hs0 : szR x0 1048576 < 0
  · exact lawApplyEdits_small1 x0 x1 hz0 hz1 hl0 hl1 hn hs0
  · have hq0 := szR_le x0 1048576 (by omega)
    by_cases hs1 : szER x1 (szR x0 1048576) < 0
    · exact lawApplyEdits_small2 x0 x1 hz0 hz1 hl0 hl1 hn hs0 hs1
    · have hm0 := szR_len (xs := x0) (left := 1048576) (by omega) (by omega)
      obtain ⟨h1, h2, h3⟩ := szER_tot hs1 (by omega)
      have hsp := specApply_ac x0 x1 h1
      have hok := applyAll_ok x0 x1
      rcases hr : applyAll x0 x1 with ⟨⟨c, a⟩, _ | u⟩
      · rw [hr] at hsp
        exact lawApplyEdits_none x0 x1 hz0 hz1 hm0 h1 h3 hs0 hs1 c a (by omega) hsp (implApply_bad x0 x1 hz0 hz1 h1 hr)
      · rw [hr] at hsp hok
        obtain ⟨rfl, rfl, hu⟩ := hok
        have hel := enc_len u
        have hcu := hu.2.1
        exact lawApplyEdits_one x0 x1 hz0 hz1 hm0 h1 h3 hs0 hs1 0 0 u.enc (by omega) (by omega) hsp (implApply_ok x0 x1 hz0 hz1 h1 hr)
end Go.Proofs.YtioaieacogoemaaGreat
