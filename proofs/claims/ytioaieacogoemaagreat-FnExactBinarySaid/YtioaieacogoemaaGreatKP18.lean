/- laws.FnExactBinary: the walk of the law itself, by the engine. -/
import Derived.Test.YtioaieacogoemaaGreatKH18
import Derived.Test.YtioaieacogoemaaGreatKG16uH99
set_option linter.unusedSimpArgs false
set_option linter.unusedVariables false
set_option linter.unnecessarySimpa false
namespace Go.Proofs.YtioaieacogoemaaGreat
open Go.RowKit
set_option maxRecDepth 10000
set_option maxHeartbeats 8000000 in
theorem lawBinary_small1 (x0 : Int) (x1 : List CellD) (x2 : List CellD)  (hz1 : Sized63 x1) (hz2 : Sized63 x2)  (hl1 : x1.length ≤ 9223372036854775807) (hl2 : x2.length ≤ 9223372036854775807) (hb1' : (szR x1 1048576) < 0) : AC Tryz.prog 6 [.c (.int .i64 x0), cellsA x1, cellsA x2] [] (.c (.bool true)) [] := by
  have hq1 := szR_le x1 1048576 (by omega)
  have hs1 := szCellS_ac x1 hz1 (by omega) 1048576 (by omega) (by omega)
  have hb1 : decide ((szR x1 1048576) < 0) = true := by simpa using hb1'
  refine wEnter Tryz.func6 Tryz.ntmps6 ?_
  refine wRUN trivial ?_
  refine w7 (op_data [] hs1) trivial ?_
  refine wRUN hb1 ?_
  exact wRet (ret_data []) Tryz.results6
set_option maxHeartbeats 8000000 in
theorem lawBinary_small2 (x0 : Int) (x1 : List CellD) (x2 : List CellD)  (hz1 : Sized63 x1) (hz2 : Sized63 x2)  (hl1 : x1.length ≤ 9223372036854775807) (hl2 : x2.length ≤ 9223372036854775807) (hb1' : ¬ (szR x1 1048576) < 0) (hb2' : (szR x2 (szR x1 1048576)) < 0) : AC Tryz.prog 6 [.c (.int .i64 x0), cellsA x1, cellsA x2] [] (.c (.bool true)) [] := by
  have hq1 := szR_le x1 1048576 (by omega)
  have hq2 := szR_le x2 (szR x1 1048576) (by omega)
  have hs1 := szCellS_ac x1 hz1 (by omega) 1048576 (by omega) (by omega)
  have hs2 := szCellS_ac x2 hz2 (by omega) (szR x1 1048576) (by omega) (by omega)
  have hb1 : decide ((szR x1 1048576) < 0) = false := by simpa using hb1'
  have hb2 : decide ((szR x2 (szR x1 1048576)) < 0) = true := by simpa using hb2'
  refine wEnter Tryz.func6 Tryz.ntmps6 ?_
  refine wRUN trivial ?_
  refine w7 (op_data [] hs1) trivial ?_
  refine wRUN hb1 ?_
  refine w7 (op_data [] hs2) trivial ?_
  refine wRUN hb2 ?_
  exact wRet (ret_data []) Tryz.results6
set_option maxHeartbeats 8000000 in
theorem lawBinary_one (x0 : Int) (x1 : List CellD) (x2 : List CellD) (hz1 : Sized63 x1) (hz2 : Sized63 x2) (hl1 : x1.length ≤ 1048576) (hl2 : x2.length ≤ 1048576) (hb1' : ¬ (szR x1 1048576) < 0) (hb2' : ¬ (szR x2 (szR x1 1048576)) < 0) (c : Int) (ys : List CellD) (hy : ys.length ≤ 1000000) (hk9 : 1 + 5 * x1.length + 5 * x2.length ≤ 3000000000) (hspec : AC Tryz.prog 30 [.c (.int .i64 x0), cellsA x1, cellsA x2] [] (.agg [.c (.int .i64 c), cellsA ys]) []) (himpl : AC Tryz.prog 31 [.c (.int .i64 x0), cellsA x1, cellsA x2] [] (.agg [.c (.int .i64 c), .own (0, 0)]) [((0, 0), .row false 5 61 (ys.map CellD.cs))]) : AC Tryz.prog 6 [.c (.int .i64 x0), cellsA x1, cellsA x2] [] (.c (.bool true)) [] := by
  have hq1 := szR_le x1 1048576 (by omega)
  have hq2 := szR_le x2 (szR x1 1048576) (by omega)
  have hs1 := szCellS_ac x1 hz1 (by omega) 1048576 (by omega) (by omega)
  have hs2 := szCellS_ac x2 hz2 (by omega) (szR x1 1048576) (by omega) (by omega)
  have hb1 : decide ((szR x1 1048576) < 0) = false := by simpa using hb1'
  have hb2 : decide ((szR x2 (szR x1 1048576)) < 0) = false := by simpa using hb2'
  have hto1 := toCellS_ac x1 hl1
  have heq1 := eqCellS_ac x1 (by omega)
  have hmk1 := markCellS_ac x1 (1) 5 61 (fun _ => rfl) (by omega)
  have hto2 := toCellS_ac x2 hl2
  have heq2 := eqCellS_ac x2 (by omega)
  have hmk2 := markCellS_ac x2 (1 + 5 * x1.length) 5 61 (fun _ => rfl) (by omega)
  have he := eqValueResult_ac c ys (by omega)
  have hm := markValueResult_ac c ys 1 5 61 (fun _ => rfl) (by omega)
  have hh := heldValueResult_ac c ys.length 1 (by omega)
  have hm0 : decide (((1 + 5 * ys.length : Nat) : Int) < 0) = false := by simp; omega
  have hmm : (((1 + 5 * ys.length : Nat) : Int) != ((1 + 5 * ys.length : Nat) : Int)) = false := by simp
  have hk0 : decide (((1 + 5 * x1.length + 5 * x2.length : Nat) : Int) < 0) = false := by simp; omega
  refine wEnter Tryz.func6 Tryz.ntmps6 ?_
  refine wRUN trivial ?_
  refine w7 (op_data [] hs1) trivial ?_
  refine wRUN hb1 ?_
  refine w7 (op_data [] hs2) trivial ?_
  refine wRUN hb2 ?_
  refine w12 (op_rowT [] hto1) trivial ?_
  refine wRUN hb2 ?_
  refine w12 (op_rowT [] hto2) trivial ?_
  refine wRUN hb2 ?_
  refine w9 (op_shared [(28, 0), (30, 0)] hspec) trivial ?_
  refine wRUN hb2 ?_
  refine w12 (op_rowT [] hto1) trivial ?_
  refine wRUN hb2 ?_
  refine w12 (op_rowT [] hto2) trivial ?_
  refine wRUN hb2 ?_
  refine w12 (op_rowT [(33, 0), (35, 0)] himpl) trivial ?_
  refine wRUN hb2 ?_
  refine w7 (op_data [(39, 0)] he) trivial ?_
  refine wRUN (j2 hb2 hk0) ?_
  refine w12 (op_rowT [] hto1) trivial ?_
  refine wRUN (j2 hb2 hk0) ?_
  refine w7 (op_data [(33, 0), (46, 0)] heq1) trivial ?_
  refine wRUN (j2 hb2 hk0) ?_
  refine w12 (op_rowT [] hto2) trivial ?_
  refine wRUN (j2 hb2 hk0) ?_
  refine w7 (op_data [(35, 0), (51, 0)] heq2) trivial ?_
  refine wRUN (j2 hb2 hk0) ?_
  refine w9 (op_own (33, 0) hmk1) trivial ?_
  refine wRUN hk0 ?_
  refine w9 (op_own (35, 0) hmk2) trivial ?_
  refine wRUN hk0 ?_
  refine w7 (op_data [(39, 0)] he) trivial ?_
  refine wRUN hk0 ?_
  refine w9 (op_own (39, 0) hm) trivial ?_
  refine wRUN (j2 hm0 hmm) ?_
  refine w7 (op_data [(39, 0)] hh) trivial ?_
  refine wRUN (j2 hm0 hmm) ?_
  refine w12 (op_rowT [] hto1) trivial ?_
  refine wRUN (j2 hm0 hmm) ?_
  refine w12 (op_rowT [] hto2) trivial ?_
  refine wRUN (j2 hm0 hmm) ?_
  refine w12 (op_rowT [(81, 0), (83, 0)] himpl) trivial ?_
  refine wRUN (j2 hm0 hmm) ?_
  refine w7 (op_data [(84, 0)] he) trivial ?_
  refine wRUN (j2 hm0 hk0) ?_
  refine w7 (op_data [(39, 0)] hh) trivial ?_
  refine wRUN (j2 hm0 hmm) ?_
  exact wRet (ret_data []) Tryz.results6
set_option maxHeartbeats 8000000 in
theorem lawBinary_none (x0 : Int) (x1 : List CellD) (x2 : List CellD) (hz1 : Sized63 x1) (hz2 : Sized63 x2) (hl1 : x1.length ≤ 1048576) (hl2 : x2.length ≤ 1048576) (hb1' : ¬ (szR x1 1048576) < 0) (hb2' : ¬ (szR x2 (szR x1 1048576)) < 0) (c : Int) (hk9 : 1 + 5 * x1.length + 5 * x2.length ≤ 3000000000) (hspec : AC Tryz.prog 30 [.c (.int .i64 x0), cellsA x1, cellsA x2] [] (.agg [.c (.int .i64 c), .c (.sl [])]) []) (himpl : AC Tryz.prog 31 [.c (.int .i64 x0), cellsA x1, cellsA x2] [] (.agg [.c (.int .i64 c), .nils]) []) : AC Tryz.prog 6 [.c (.int .i64 x0), cellsA x1, cellsA x2] [] (.c (.bool true)) [] := by
  have hq1 := szR_le x1 1048576 (by omega)
  have hq2 := szR_le x2 (szR x1 1048576) (by omega)
  have hs1 := szCellS_ac x1 hz1 (by omega) 1048576 (by omega) (by omega)
  have hs2 := szCellS_ac x2 hz2 (by omega) (szR x1 1048576) (by omega) (by omega)
  have hb1 : decide ((szR x1 1048576) < 0) = false := by simpa using hb1'
  have hb2 : decide ((szR x2 (szR x1 1048576)) < 0) = false := by simpa using hb2'
  have hto1 := toCellS_ac x1 hl1
  have heq1 := eqCellS_ac x1 (by omega)
  have hmk1 := markCellS_ac x1 (1) 5 61 (fun _ => rfl) (by omega)
  have hto2 := toCellS_ac x2 hl2
  have heq2 := eqCellS_ac x2 (by omega)
  have hmk2 := markCellS_ac x2 (1 + 5 * x1.length) 5 61 (fun _ => rfl) (by omega)
  have he := eqValueResult_ac c [] (by simp)
  have hm := markValueResult_nil c 1
  have hh := heldValueResult_nil c 1 (by omega)
  have hm0 : decide (((1 : Nat) : Int) < 0) = false := rfl
  have hmm : (((1 : Nat) : Int) != ((1 : Nat) : Int)) = false := by simp
  have hk0 : decide (((1 + 5 * x1.length + 5 * x2.length : Nat) : Int) < 0) = false := by simp; omega
  refine wEnter Tryz.func6 Tryz.ntmps6 ?_
  refine wRUN trivial ?_
  refine w7 (op_data [] hs1) trivial ?_
  refine wRUN hb1 ?_
  refine w7 (op_data [] hs2) trivial ?_
  refine wRUN hb2 ?_
  refine w12 (op_rowT [] hto1) trivial ?_
  refine wRUN hb2 ?_
  refine w12 (op_rowT [] hto2) trivial ?_
  refine wRUN hb2 ?_
  refine w9 (op_shared [(28, 0), (30, 0)] hspec) trivial ?_
  refine wRUN hb2 ?_
  refine w12 (op_rowT [] hto1) trivial ?_
  refine wRUN hb2 ?_
  refine w12 (op_rowT [] hto2) trivial ?_
  refine wRUN hb2 ?_
  refine w7 (op_data [(33, 0), (35, 0)] himpl) trivial ?_
  refine wRUN hb2 ?_
  (apply (op_data [] he); (iterate 7 (focus (first | (simp only [go_sem, Nat.reduceEqDiff, Nat.reduceAdd, Nat.reduceSub, Nat.reduceLeDiff, Nat.reduceMul, Nat.reduceBEq, Nat.reduceLT, Int.reduceToNat, reduceCtorEq, List.map_nil]; first | done | exact rfl | (and_intros <;> rfl)) | exact rfl | decide))))
  refine wRUN (j2 hb2 hk0) ?_
  refine w12 (op_rowT [] hto1) trivial ?_
  refine wRUN (j2 hb2 hk0) ?_
  refine w7 (op_data [(33, 0), (46, 0)] heq1) trivial ?_
  refine wRUN (j2 hb2 hk0) ?_
  refine w12 (op_rowT [] hto2) trivial ?_
  refine wRUN (j2 hb2 hk0) ?_
  refine w7 (op_data [(35, 0), (51, 0)] heq2) trivial ?_
  refine wRUN (j2 hb2 hk0) ?_
  refine w9 (op_own (33, 0) hmk1) trivial ?_
  refine wRUN hk0 ?_
  refine w9 (op_own (35, 0) hmk2) trivial ?_
  refine wRUN hk0 ?_
  (apply (op_data [] he); (iterate 7 (focus (first | (simp only [go_sem, Nat.reduceEqDiff, Nat.reduceAdd, Nat.reduceSub, Nat.reduceLeDiff, Nat.reduceMul, Nat.reduceBEq, Nat.reduceLT, Int.reduceToNat, reduceCtorEq, List.map_nil]; first | done | exact rfl | (and_intros <;> rfl)) | exact rfl | decide))))
  refine wRUN hk0 ?_
  refine w7 (op_data [] hm) trivial ?_
  refine wRUN (j2 hm0 hmm) ?_
  refine w7 (op_data [] hh) trivial ?_
  refine wRUN (j2 hm0 hmm) ?_
  refine w12 (op_rowT [] hto1) trivial ?_
  refine wRUN (j2 hm0 hmm) ?_
  refine w12 (op_rowT [] hto2) trivial ?_
  refine wRUN (j2 hm0 hmm) ?_
  refine w7 (op_data [(81, 0), (83, 0)] himpl) trivial ?_
  refine wRUN (j2 hm0 hmm) ?_
  (apply (op_data [] he); (iterate 7 (focus (first | (simp only [go_sem, Nat.reduceEqDiff, Nat.reduceAdd, Nat.reduceSub, Nat.reduceLeDiff, Nat.reduceMul, Nat.reduceBEq, Nat.reduceLT, Int.reduceToNat, reduceCtorEq, List.map_nil]; first | done | exact rfl | (and_intros <;> rfl)) | exact rfl | decide))))
  refine wRUN (j2 hm0 hk0) ?_
  refine w7 (op_data [] hh) trivial ?_
  refine wRUN (j2 hm0 hmm) ?_
  exact wRet (ret_data []) Tryz.results6
theorem lawBinary_ac (x0 : Int) (x1 x2 : List CellD) (hz1 : Sized63 x1) (hz2 : Sized63 x2) (hl1 : x1.length ≤ 9223372036854775807) (hl2 : x2.length ≤ 9223372036854775807) : AC Tryz.prog 6 [.c (.int .i64 x0), cellsA x1, cellsA x2] [] (.c (.bool true)) [] := by
  by_cases hs1 : szR x1 1048576 < 0
  · exact lawBinary_small1 x0 x1 x2 hz1 hz2 hl1 hl2 hs1
  · have hq1 := szR_le x1 1048576 (by omega)
    by_cases hs2 : szR x2 (szR x1 1048576) < 0
    · exact lawBinary_small2 x0 x1 x2 hz1 hz2 hl1 hl2 hs1 hs2
    · have hm1 := szR_len (xs := x1) (left := 1048576) (by omega) (by omega)
      have hm2 := szR_len (xs := x2) (left := szR x1 1048576) (by omega) (by omega)
      have hsp := specBinary_ac x0 x1 x2
      have hok := binR_ok x0 x1 x2
      rcases hr : twoR (binV x0) x1 x2 with ⟨c, _ | u⟩
      · rw [hr] at hsp hok
        have hc0 : c ≠ 0 := hok
        exact lawBinary_none x0 x1 x2 hz1 hz2 hm1 hm2 hs1 hs2 c (by omega) hsp (implBinary_bad x0 x1 x2 hz1 hz2 hc0 hr)
      · rw [hr] at hsp hok
        obtain ⟨hc0, hu⟩ := hok
        have hc0 : c = 0 := hc0
        subst hc0
        have hel := enc_len u
        have hcu := hu.2.1
        exact lawBinary_one x0 x1 x2 hz1 hz2 hm1 hm2 hs1 hs2 0 u.enc (by omega) (by omega) hsp (implBinary_ok x0 x1 x2 hz1 hz2 hr hu)
end Go.Proofs.YtioaieacogoemaaGreat
