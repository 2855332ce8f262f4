/- laws.FnExactDropPath: the walk of the law itself, by the engine. -/
import Derived.Test.YtioaieacogoemaaGreatKH16
import Derived.Test.YtioaieacogoemaaGreatKG18
import Derived.Test.YtioaieacogoemaaGreatKH99
set_option linter.unusedSimpArgs false
set_option linter.unusedVariables false
set_option linter.unnecessarySimpa false
namespace Go.Proofs.YtioaieacogoemaaGreat
open Go.RowKit
set_option maxRecDepth 10000
set_option maxHeartbeats 8000000 in
theorem lawDropPath_small1 (x0 : List CellD) (x1 : List CellD) (hz0 : Sized63 x0) (hz1 : Sized63 x1) (hl0 : x0.length ≤ 9223372036854775807) (hl1 : x1.length ≤ 9223372036854775807) (hb0' : (szR x0 1048576) < 0) : AC Tryz.prog 3 [cellsA x0, cellsA x1] [] (.c (.bool true)) [] := by
  have hq0 := szR_le x0 1048576 (by omega)
  have hs0 := szCellS_ac x0 hz0 (by omega) 1048576 (by omega) (by omega)
  have hb0 : decide ((szR x0 1048576) < 0) = true := by simpa using hb0'
  refine wEnter Tryz.func3 Tryz.ntmps3 ?_
  refine wRUN trivial ?_
  refine w7 (op_data [] hs0) trivial ?_
  refine wRUN hb0 ?_
  exact wRet (ret_data []) Tryz.results3
set_option maxHeartbeats 8000000 in
theorem lawDropPath_small2 (x0 : List CellD) (x1 : List CellD) (hz0 : Sized63 x0) (hz1 : Sized63 x1) (hl0 : x0.length ≤ 9223372036854775807) (hl1 : x1.length ≤ 9223372036854775807) (hb0' : ¬ (szR x0 1048576) < 0) (hb1' : (szR x1 (szR x0 1048576)) < 0) : AC Tryz.prog 3 [cellsA x0, cellsA x1] [] (.c (.bool true)) [] := by
  have hq0 := szR_le x0 1048576 (by omega)
  have hq1 := szR_le x1 (szR x0 1048576) (by omega)
  have hs0 := szCellS_ac x0 hz0 (by omega) 1048576 (by omega) (by omega)
  have hs1 := szCellS_ac x1 hz1 (by omega) (szR x0 1048576) (by omega) (by omega)
  have hb0 : decide ((szR x0 1048576) < 0) = false := by simpa using hb0'
  have hb1 : decide ((szR x1 (szR x0 1048576)) < 0) = true := by simpa using hb1'
  refine wEnter Tryz.func3 Tryz.ntmps3 ?_
  refine wRUN trivial ?_
  refine w7 (op_data [] hs0) trivial ?_
  refine wRUN hb0 ?_
  refine w7 (op_data [] hs1) trivial ?_
  refine wRUN hb1 ?_
  exact wRet (ret_data []) Tryz.results3
set_option maxHeartbeats 8000000 in
theorem lawDropPath_one (x0 : List CellD) (x1 : List CellD) (hz0 : Sized63 x0) (hz1 : Sized63 x1) (hl0 : x0.length ≤ 1048576) (hl1 : x1.length ≤ 1048576) (hb0' : ¬ (szR x0 1048576) < 0) (hb1' : ¬ (szR x1 (szR x0 1048576)) < 0) (c : Int) (ys : List CellD) (hy : ys.length ≤ 1000000) (hk9 : 1 + 5 * x0.length + 5 * x1.length ≤ 3000000000) (hspec : AC Tryz.prog 8 [cellsA x0, cellsA x1] [] (.agg [.c (.int .i64 c), cellsA ys]) []) (himpl : AC Tryz.prog 10 [cellsA x0, cellsA x1] [] (.agg [.c (.int .i64 c), .own (0, 0)]) [((0, 0), .row false 5 61 (ys.map CellD.cs))]) : AC Tryz.prog 3 [cellsA x0, cellsA x1] [] (.c (.bool true)) [] := by
  have hq0 := szR_le x0 1048576 (by omega)
  have hq1 := szR_le x1 (szR x0 1048576) (by omega)
  have hs0 := szCellS_ac x0 hz0 (by omega) 1048576 (by omega) (by omega)
  have hs1 := szCellS_ac x1 hz1 (by omega) (szR x0 1048576) (by omega) (by omega)
  have hb0 : decide ((szR x0 1048576) < 0) = false := by simpa using hb0'
  have hb1 : decide ((szR x1 (szR x0 1048576)) < 0) = false := by simpa using hb1'
  have hto0 := toCellS_ac x0 hl0
  have heq0 := eqCellS_ac x0 (by omega)
  have hmk0 := markCellS_ac x0 (1) 5 61 (fun _ => rfl) (by omega)
  have hto1 := toCellS_ac x1 hl1
  have heq1 := eqCellS_ac x1 (by omega)
  have hmk1 := markCellS_ac x1 (1 + 5 * x0.length) 5 61 (fun _ => rfl) (by omega)
  have he := eqValueResult_ac c ys (by omega)
  have hm := markValueResult_ac c ys 1 5 61 (fun _ => rfl) (by omega)
  have hh := heldValueResult_ac c ys.length 1 (by omega)
  have hm0 : decide (((1 + 5 * ys.length : Nat) : Int) < 0) = false := by simp; omega
  have hmm : (((1 + 5 * ys.length : Nat) : Int) != ((1 + 5 * ys.length : Nat) : Int)) = false := by simp
  have hk0 : decide (((1 + 5 * x0.length + 5 * x1.length : Nat) : Int) < 0) = false := by simp; omega
  refine wEnter Tryz.func3 Tryz.ntmps3 ?_
  refine wRUN trivial ?_
  refine w7 (op_data [] hs0) trivial ?_
  refine wRUN hb0 ?_
  refine w7 (op_data [] hs1) trivial ?_
  refine wRUN hb1 ?_
  refine w12 (op_rowT [] hto0) trivial ?_
  refine wRUN hb1 ?_
  refine w12 (op_rowT [] hto1) trivial ?_
  refine wRUN hb1 ?_
  refine w9 (op_shared [(25, 0), (27, 0)] hspec) trivial ?_
  refine wRUN hb1 ?_
  refine w12 (op_rowT [] hto0) trivial ?_
  refine wRUN hb1 ?_
  refine w12 (op_rowT [] hto1) trivial ?_
  refine wRUN hb1 ?_
  refine w12 (op_rowT [(30, 0), (32, 0)] himpl) trivial ?_
  refine wRUN hb1 ?_
  refine w7 (op_data [(35, 0)] he) trivial ?_
  refine wRUN (j2 hb1 hk0) ?_
  refine w12 (op_rowT [] hto0) trivial ?_
  refine wRUN (j2 hb1 hk0) ?_
  refine w7 (op_data [(30, 0), (42, 0)] heq0) trivial ?_
  refine wRUN (j2 hb1 hk0) ?_
  refine w12 (op_rowT [] hto1) trivial ?_
  refine wRUN (j2 hb1 hk0) ?_
  refine w7 (op_data [(32, 0), (47, 0)] heq1) trivial ?_
  refine wRUN (j2 hb1 hk0) ?_
  refine w9 (op_own (30, 0) hmk0) trivial ?_
  refine wRUN hk0 ?_
  refine w9 (op_own (32, 0) hmk1) trivial ?_
  refine wRUN hk0 ?_
  refine w7 (op_data [(35, 0)] he) trivial ?_
  refine wRUN hk0 ?_
  refine w9 (op_own (35, 0) hm) trivial ?_
  refine wRUN (j2 hm0 hmm) ?_
  refine w7 (op_data [(35, 0)] hh) trivial ?_
  refine wRUN (j2 hm0 hmm) ?_
  refine w12 (op_rowT [] hto0) trivial ?_
  refine wRUN (j2 hm0 hmm) ?_
  refine w12 (op_rowT [] hto1) trivial ?_
  refine wRUN (j2 hm0 hmm) ?_
  refine w12 (op_rowT [(76, 0), (78, 0)] himpl) trivial ?_
  refine wRUN (j2 hm0 hmm) ?_
  refine w7 (op_data [(79, 0)] he) trivial ?_
  refine wRUN (j2 hm0 hk0) ?_
  refine w7 (op_data [(35, 0)] hh) trivial ?_
  refine wRUN (j2 hm0 hmm) ?_
  exact wRet (ret_data []) Tryz.results3
set_option maxHeartbeats 8000000 in
theorem lawDropPath_none (x0 : List CellD) (x1 : List CellD) (hz0 : Sized63 x0) (hz1 : Sized63 x1) (hl0 : x0.length ≤ 1048576) (hl1 : x1.length ≤ 1048576) (hb0' : ¬ (szR x0 1048576) < 0) (hb1' : ¬ (szR x1 (szR x0 1048576)) < 0) (c : Int) (hk9 : 1 + 5 * x0.length + 5 * x1.length ≤ 3000000000) (hspec : AC Tryz.prog 8 [cellsA x0, cellsA x1] [] (.agg [.c (.int .i64 c), .c (.sl [])]) []) (himpl : AC Tryz.prog 10 [cellsA x0, cellsA x1] [] (.agg [.c (.int .i64 c), .nils]) []) : AC Tryz.prog 3 [cellsA x0, cellsA x1] [] (.c (.bool true)) [] := by
  have hq0 := szR_le x0 1048576 (by omega)
  have hq1 := szR_le x1 (szR x0 1048576) (by omega)
  have hs0 := szCellS_ac x0 hz0 (by omega) 1048576 (by omega) (by omega)
  have hs1 := szCellS_ac x1 hz1 (by omega) (szR x0 1048576) (by omega) (by omega)
  have hb0 : decide ((szR x0 1048576) < 0) = false := by simpa using hb0'
  have hb1 : decide ((szR x1 (szR x0 1048576)) < 0) = false := by simpa using hb1'
  have hto0 := toCellS_ac x0 hl0
  have heq0 := eqCellS_ac x0 (by omega)
  have hmk0 := markCellS_ac x0 (1) 5 61 (fun _ => rfl) (by omega)
  have hto1 := toCellS_ac x1 hl1
  have heq1 := eqCellS_ac x1 (by omega)
  have hmk1 := markCellS_ac x1 (1 + 5 * x0.length) 5 61 (fun _ => rfl) (by omega)
  have he := eqValueResult_ac c [] (by simp)
  have hm := markValueResult_nil c 1
  have hh := heldValueResult_nil c 1 (by omega)
  have hm0 : decide (((1 : Nat) : Int) < 0) = false := rfl
  have hmm : (((1 : Nat) : Int) != ((1 : Nat) : Int)) = false := by simp
  have hk0 : decide (((1 + 5 * x0.length + 5 * x1.length : Nat) : Int) < 0) = false := by simp; omega
  refine wEnter Tryz.func3 Tryz.ntmps3 ?_
  refine wRUN trivial ?_
  refine w7 (op_data [] hs0) trivial ?_
  refine wRUN hb0 ?_
  refine w7 (op_data [] hs1) trivial ?_
  refine wRUN hb1 ?_
  refine w12 (op_rowT [] hto0) trivial ?_
  refine wRUN hb1 ?_
  refine w12 (op_rowT [] hto1) trivial ?_
  refine wRUN hb1 ?_
  refine w9 (op_shared [(25, 0), (27, 0)] hspec) trivial ?_
  refine wRUN hb1 ?_
  refine w12 (op_rowT [] hto0) trivial ?_
  refine wRUN hb1 ?_
  refine w12 (op_rowT [] hto1) trivial ?_
  refine wRUN hb1 ?_
  refine w7 (op_data [(30, 0), (32, 0)] himpl) trivial ?_
  refine wRUN hb1 ?_
  (apply (op_data [] he); (iterate 7 (focus (first | (simp only [go_sem, Nat.reduceEqDiff, Nat.reduceAdd, Nat.reduceSub, Nat.reduceLeDiff, Nat.reduceMul, Nat.reduceBEq, Nat.reduceLT, Int.reduceToNat, reduceCtorEq, List.map_nil]; first | done | exact rfl | (and_intros <;> rfl)) | exact rfl | decide))))
  refine wRUN (j2 hb1 hk0) ?_
  refine w12 (op_rowT [] hto0) trivial ?_
  refine wRUN (j2 hb1 hk0) ?_
  refine w7 (op_data [(30, 0), (42, 0)] heq0) trivial ?_
  refine wRUN (j2 hb1 hk0) ?_
  refine w12 (op_rowT [] hto1) trivial ?_
  refine wRUN (j2 hb1 hk0) ?_
  refine w7 (op_data [(32, 0), (47, 0)] heq1) trivial ?_
  refine wRUN (j2 hb1 hk0) ?_
  refine w9 (op_own (30, 0) hmk0) trivial ?_
  refine wRUN hk0 ?_
  refine w9 (op_own (32, 0) hmk1) trivial ?_
  refine wRUN hk0 ?_
  (apply (op_data [] he); (iterate 7 (focus (first | (simp only [go_sem, Nat.reduceEqDiff, Nat.reduceAdd, Nat.reduceSub, Nat.reduceLeDiff, Nat.reduceMul, Nat.reduceBEq, Nat.reduceLT, Int.reduceToNat, reduceCtorEq, List.map_nil]; first | done | exact rfl | (and_intros <;> rfl)) | exact rfl | decide))))
  refine wRUN hk0 ?_
  refine w7 (op_data [] hm) trivial ?_
  refine wRUN (j2 hm0 hmm) ?_
  refine w7 (op_data [] hh) trivial ?_
  refine wRUN (j2 hm0 hmm) ?_
  refine w12 (op_rowT [] hto0) trivial ?_
  refine wRUN (j2 hm0 hmm) ?_
  refine w12 (op_rowT [] hto1) trivial ?_
  refine wRUN (j2 hm0 hmm) ?_
  refine w7 (op_data [(76, 0), (78, 0)] himpl) trivial ?_
  refine wRUN (j2 hm0 hmm) ?_
  (apply (op_data [] he); (iterate 7 (focus (first | (simp only [go_sem, Nat.reduceEqDiff, Nat.reduceAdd, Nat.reduceSub, Nat.reduceLeDiff, Nat.reduceMul, Nat.reduceBEq, Nat.reduceLT, Int.reduceToNat, reduceCtorEq, List.map_nil]; first | done | exact rfl | (and_intros <;> rfl)) | exact rfl | decide))))
  refine wRUN (j2 hm0 hk0) ?_
  refine w7 (op_data [] hh) trivial ?_
  refine wRUN (j2 hm0 hmm) ?_
  exact wRet (ret_data []) Tryz.results3
theorem lawDropPath_ac (x0 x1 : List CellD) (hz0 : Sized63 x0) (hz1 : Sized63 x1) (hl0 : x0.length ≤ 9223372036854775807) (hl1 : x1.length ≤ 9223372036854775807) : AC Tryz.prog 3 [cellsA x0, cellsA x1] [] (.c (.bool true)) [] := by
  by_cases hs0 : szR x0 1048576 < 0
  · exact lawDropPath_small1 x0 x1 hz0 hz1 hl0 hl1 hs0
  · have hq0 := szR_le x0 1048576 (by omega)
    by_cases hs1 : szR x1 (szR x0 1048576) < 0
    · exact lawDropPath_small2 x0 x1 hz0 hz1 hl0 hl1 hs0 hs1
    · have hm0 := szR_len (xs := x0) (left := 1048576) (by omega) (by omega)
      have hm1 := szR_len (xs := x1) (left := szR x0 1048576) (by omega) (by omega)
      have hsp := specDropPath_ac x0 x1
      have hok := dropR_ok x0 x1
      rcases hr : askPath x0 x1 outV with ⟨c, _ | u⟩
      · rw [hr] at hsp hok
        have hc0 : c ≠ 0 := hok
        exact lawDropPath_none x0 x1 hz0 hz1 hm0 hm1 hs0 hs1 c (by omega) hsp (implDropPath_bad x0 x1 hz0 hz1 hc0 hr)
      · rw [hr] at hsp hok
        obtain ⟨hc0, hu⟩ := hok
        have hc0 : c = 0 := hc0
        subst hc0
        have hel := enc_len u
        have hcu := hu.2.1
        exact lawDropPath_one x0 x1 hz0 hz1 hm0 hm1 hs0 hs1 0 u.enc (by omega) (by omega) hsp (implDropPath_ok x0 x1 hz0 hz1 hr hu)
end Go.Proofs.YtioaieacogoemaaGreat
