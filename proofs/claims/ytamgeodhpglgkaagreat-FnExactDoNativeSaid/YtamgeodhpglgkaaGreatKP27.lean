/- laws.FnExactDoNative: the walk of the law itself, by the engine. -/
import Derived.Test.YtamgeodhpglgkaaGreatKH27uG18
import Derived.Test.YtamgeodhpglgkaaGreatKM28uG69
set_option linter.unusedSimpArgs false
set_option maxHeartbeats 8000000
namespace Go.Proofs.YtamgeodhpglgkaaGreat
open Go.RowKit
set_option maxRecDepth 10000
theorem lawDoNative_small1 (x0 : Int) (x1 : List CellD)  (hz1 : Sized63 x1)  (hl1 : x1.length ≤ 9223372036854775807) (hb1' : (szR x1 1048576) < 0) : AC Tryz.prog 3 [.c (.int .i64 x0), cellsA x1] [] (.c (.bool true)) [] := by
 have hq1 := szR_le x1 1048576 (by omega)
 have hs1 := szCellS_ac x1 hz1 (by omega) 1048576 (by omega) (by omega)
 have hb1 : decide ((szR x1 1048576) < 0) = true := by simpa using hb1'
 refine wEnter Tryz.func3 Tryz.ntmps3 ?_
 refine wRUN trivial ?_
 refine w7 (op_data [] hs1) trivial ?_
 refine wRUN hb1 ?_
 exact wRet (ret_data []) Tryz.results3
theorem lawDoNative_one (x0 : Int) (x1 : List CellD) (hz1 : Sized63 x1) (hl1 : x1.length ≤ 1048576) (hb1' : ¬ (szR x1 1048576) < 0) (c : Int) (ys : List CellD) (hy : ys.length ≤ 1000000) (hk9 : 1 + 5 * x1.length ≤ 3000000000) (hspec : AC Tryz.prog 12 [.c (.int .i64 x0), cellsA x1] [] (.agg [.c (.int .i64 c), cellsA ys]) []) (himpl : AC Tryz.prog 14 [.c (.int .i64 x0), cellsA x1] [] (.agg [.c (.int .i64 c), .own (0, 0)]) [((0, 0), .row false 5 95 (ys.map CellD.cs))]) : AC Tryz.prog 3 [.c (.int .i64 x0), cellsA x1] [] (.c (.bool true)) [] := by
 have hq1 := szR_le x1 1048576 (by omega)
 have hs1 := szCellS_ac x1 hz1 (by omega) 1048576 (by omega) (by omega)
 have hb1 : decide ((szR x1 1048576) < 0) = false := by simpa using hb1'
 have hto1 := toCellS_ac x1 hl1
 have heq1 := eqCellS_ac x1 (by omega)
 have hmk1 := markCellS_ac x1 (1) 5 95 (fun _ => rfl) (by omega)
 have he := eqValueResult_ac c ys (by omega)
 have hm := markValueResult_ac c ys 1 5 95 (fun _ => rfl) (by omega)
 have hh := heldValueResult_ac c ys.length 1 (by omega)
 have hm0 : decide (((1 + 5 * ys.length : Nat) : Int) < 0) = false := by simp; omega
 have hmm : (((1 + 5 * ys.length : Nat) : Int) != ((1 + 5 * ys.length : Nat) : Int)) = false := by simp
 have hk0 : decide (((1 + 5 * x1.length : Nat) : Int) < 0) = false := by simp; omega
 refine wEnter Tryz.func3 Tryz.ntmps3 ?_
 refine wRUN trivial ?_
 refine w7 (op_data [] hs1) trivial ?_
 refine wRUN hb1 ?_
 refine w12 (op_rowT [] hto1) trivial ?_
 refine wRUN hb1 ?_
 refine w9 (op_shared [(20, 0)] hspec) trivial ?_
 refine wRUN hb1 ?_
 refine w12 (op_rowT [] hto1) trivial ?_
 refine wRUN hb1 ?_
 refine w12 (op_rowT [(23, 0)] himpl) trivial ?_
 refine wRUN hb1 ?_
 refine w7 (op_data [(26, 0)] he) trivial ?_
 refine wRUN (j2 hb1 hk0) ?_
 refine w12 (op_rowT [] hto1) trivial ?_
 refine wRUN (j2 hb1 hk0) ?_
 refine w7 (op_data [(23, 0), (33, 0)] heq1) trivial ?_
 refine wRUN (j2 hb1 hk0) ?_
 refine w9 (op_own (23, 0) hmk1) trivial ?_
 refine wRUN hk0 ?_
 refine w7 (op_data [(26, 0)] he) trivial ?_
 refine wRUN hk0 ?_
 refine w9 (op_own (26, 0) hm) trivial ?_
 refine wRUN (j2 hm0 hmm) ?_
 refine w7 (op_data [(26, 0)] hh) trivial ?_
 refine wRUN (j2 hm0 hmm) ?_
 refine w12 (op_rowT [] hto1) trivial ?_
 refine wRUN (j2 hm0 hmm) ?_
 refine w12 (op_rowT [(60, 0)] himpl) trivial ?_
 refine wRUN (j2 hm0 hmm) ?_
 refine w7 (op_data [(61, 0)] he) trivial ?_
 refine wRUN (j2 hm0 hk0) ?_
 refine w7 (op_data [(26, 0)] hh) trivial ?_
 refine wRUN (j2 hm0 hmm) ?_
 exact wRet (ret_data []) Tryz.results3
theorem lawDoNative_none (x0 : Int) (x1 : List CellD) (hz1 : Sized63 x1) (hl1 : x1.length ≤ 1048576) (hb1' : ¬ (szR x1 1048576) < 0) (c : Int) (hk9 : 1 + 5 * x1.length ≤ 3000000000) (hspec : AC Tryz.prog 12 [.c (.int .i64 x0), cellsA x1] [] (.agg [.c (.int .i64 c), .c (.sl [])]) []) (himpl : AC Tryz.prog 14 [.c (.int .i64 x0), cellsA x1] [] (.agg [.c (.int .i64 c), .nils]) []) : AC Tryz.prog 3 [.c (.int .i64 x0), cellsA x1] [] (.c (.bool true)) [] := by
 have hq1 := szR_le x1 1048576 (by omega)
 have hs1 := szCellS_ac x1 hz1 (by omega) 1048576 (by omega) (by omega)
 have hb1 : decide ((szR x1 1048576) < 0) = false := by simpa using hb1'
 have hto1 := toCellS_ac x1 hl1
 have heq1 := eqCellS_ac x1 (by omega)
 have hmk1 := markCellS_ac x1 (1) 5 95 (fun _ => rfl) (by omega)
 have he := eqValueResult_ac c [] (by simp)
 have hm := markValueResult_nil c 1
 have hh := heldValueResult_nil c 1 (by omega)
 have hm0 : decide (((1 : Nat) : Int) < 0) = false := rfl
 have hmm : (((1 : Nat) : Int) != ((1 : Nat) : Int)) = false := by simp
 have hk0 : decide (((1 + 5 * x1.length : Nat) : Int) < 0) = false := by simp; omega
 refine wEnter Tryz.func3 Tryz.ntmps3 ?_
 refine wRUN trivial ?_
 refine w7 (op_data [] hs1) trivial ?_
 refine wRUN hb1 ?_
 refine w12 (op_rowT [] hto1) trivial ?_
 refine wRUN hb1 ?_
 refine w9 (op_shared [(20, 0)] hspec) trivial ?_
 refine wRUN hb1 ?_
 refine w12 (op_rowT [] hto1) trivial ?_
 refine wRUN hb1 ?_
 refine w7 (op_data [(23, 0)] himpl) trivial ?_
 refine wRUN hb1 ?_
 refine w7 (op_data [] he) @List.map_nil.{0,0} ?_
 refine wRUN (j2 hb1 hk0) ?_
 refine w12 (op_rowT [] hto1) trivial ?_
 refine wRUN (j2 hb1 hk0) ?_
 refine w7 (op_data [(23, 0), (33, 0)] heq1) trivial ?_
 refine wRUN (j2 hb1 hk0) ?_
 refine w9 (op_own (23, 0) hmk1) trivial ?_
 refine wRUN hk0 ?_
 refine w7 (op_data [] he) @List.map_nil.{0,0} ?_
 refine wRUN hk0 ?_
 refine w7 (op_data [] hm) trivial ?_
 refine wRUN (j2 hm0 hmm) ?_
 refine w7 (op_data [] hh) trivial ?_
 refine wRUN (j2 hm0 hmm) ?_
 refine w12 (op_rowT [] hto1) trivial ?_
 refine wRUN (j2 hm0 hmm) ?_
 refine w7 (op_data [(60, 0)] himpl) trivial ?_
 refine wRUN (j2 hm0 hmm) ?_
 refine w7 (op_data [] he) @List.map_nil.{0,0} ?_
 refine wRUN (j2 hm0 hk0) ?_
 refine w7 (op_data [] hh) trivial ?_
 refine wRUN (j2 hm0 hmm) ?_
 exact wRet (ret_data []) Tryz.results3
theorem lawDoNative_ac (x0 : Int) (x1 : List CellD) (hz1 : Sized63 x1) (hl1 : x1.length ≤ 9223372036854775807) : AC Tryz.prog 3 [.c (.int .i64 x0), cellsA x1] [] (.c (.bool true)) [] := by
 by_cases hs1 : szR x1 1048576 < 0
 ·exact lawDoNative_small1 x0 x1 hz1 hl1 hs1
 ·have hm1 := szR_len (xs := x1) (left := 1048576) (by omega) (by omega)
  have hsp := specDoNative_ac x0 x1
  have hok := oneR_ok x0 x1
  rcases hr : oneR (nativeV x0) x1 with ⟨c, _ | u⟩
  ·rw [hr] at hsp hok
   have hc0 : c ≠ 0 := hok
   exact lawDoNative_none x0 x1 hz1 hm1 hs1 c (by omega) hsp (implDoNative_bad x0 x1 hz1 hc0 hr)
  ·rw [hr] at hsp hok
   obtain ⟨hc0, hu⟩ := hok
   have hc0 : c = 0 := hc0
   subst hc0
   have hel := enc_len u
   have hcu := hu.2.1
   exact lawDoNative_one x0 x1 hz1 hm1 hs1 0 u.enc (by omega) (by omega) hsp (implDoNative_ok x0 x1 hz1 hu hr)
end Go.Proofs.YtamgeodhpglgkaaGreat
