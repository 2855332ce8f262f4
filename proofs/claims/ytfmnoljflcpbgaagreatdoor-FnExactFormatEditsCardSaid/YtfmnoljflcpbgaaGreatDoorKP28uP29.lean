/- Texts of this proof: P28 P29. -/
import Derived.Test.YtfmnoljflcpbgaaGreatDoorKR17uR13
import Derived.Test.YtfmnoljflcpbgaaGreatDoorKG16uG33
import Derived.Test.YtfmnoljflcpbgaaGreatDoorKG14
import Derived.Test.YtfmnoljflcpbgaaGreatDoorKE34
import Derived.Test.YtfmnoljflcpbgaaGreatDoorKR20
import Derived.Test.YtfmnoljflcpbgaaGreatDoorKGE
set_option linter.unusedSimpArgs false
set_option linter.unusedVariables false
set_option linter.unnecessarySimpa false
namespace Go.Proofs.YtfmnoljflcpbgaaGreatDoor
open Go.RowKit
set_option maxRecDepth 10000
variable {o : Obj}
theorem eqTextResult_ac (c : Int) (s : ByteArray) : AC Tryz.prog 14 [.agg [.c (.int .i64 c), .c (.str s)], .agg [.c (.int .i64 c), .c (.str s)]] [] (.c (.bool true)) [] := by
  have h1 : (c != c) = false := by simp
  have h2 : (s.toList == s.toList) = true := by simp
  have h3 : (!true) = false := rfl
  refine wEnter Tryz.func14 Tryz.ntmps14 ?_
  refine wRUN (j3 h1 h2 h3) ?_
  exact wRetOf (ret_of [] []) Tryz.results14 h1
set_option maxHeartbeats 8000000 in
theorem lawPathText_small1 (x0 : List CellD) (hz0 : Sized63 x0) (hl0 : x0.length ≤ 9223372036854775807) (hb0' : (szR x0 1048576) < 0) : AC Tryz.prog 3 [cellsA x0] (tabM o) (.c (.bool true)) (tabM o) := by
  have hq0 := szR_le x0 1048576 (by omega)
  have hs0 := szCellS_ac x0 hz0 (by omega) 1048576 (by omega) (by omega)
  have hb0 : decide ((szR x0 1048576) < 0) = true := by simpa using hb0'
  refine wEnter Tryz.func3 Tryz.ntmps3 ?_
  refine wRUN trivial ?_
  refine w7 (op_data [] hs0) trivial ?_
  refine wRUN hb0 ?_
  exact wRetOf (ret_of [((8, 0), (8, 0))] []) Tryz.results3 hb0
set_option maxHeartbeats 8000000 in
theorem lawPathText_one (x0 : List CellD) (hz0 : Sized63 x0) (hl0 : x0.length ≤ 1048576) (hb0' : ¬ (szR x0 1048576) < 0) (c : Int) (s : ByteArray) (hspec : AC Tryz.prog 11 [cellsA x0] [] (.agg [.c (.int .i64 c), .c (.str s)]) []) (himpl : AC Tryz.prog 13 [cellsA x0] (tabM o) (.agg [.c (.int .i64 c), .c (.str s)]) (tabM o)) : AC Tryz.prog 3 [cellsA x0] (tabM o) (.c (.bool true)) (tabM o) := by
  have hq0 := szR_le x0 1048576 (by omega)
  have hs0 := szCellS_ac x0 hz0 (by omega) 1048576 (by omega) (by omega)
  have hb0 : decide ((szR x0 1048576) < 0) = false := by simpa using hb0'
  have hto0 := toCellS_ac x0 hl0
  have heq0 := eqCellS_ac x0 (by omega)
  have he := eqTextResult_ac c s
  refine wEnter Tryz.func3 Tryz.ntmps3 ?_
  refine wRUN trivial ?_
  refine w7 (op_data [] hs0) trivial ?_
  refine wRUN hb0 ?_
  refine w12 (op_rowT [] hto0) trivial ?_
  refine wRUN hb0 ?_
  refine w7 (op_data [(13, 0)] hspec) trivial ?_
  refine wRUN hb0 ?_
  refine w12 (op_rowT [] hto0) trivial ?_
  refine wRUN hb0 ?_
  refine wCallB (op_callB [(16, 0)] [((8, 0), (8, 0))] [((8, 0), (8, 0))] himpl) trivial ?_
  refine wRUN hb0 ?_
  refine w7 (op_data [] he) trivial ?_
  refine wRUN hb0 ?_
  refine w12 (op_rowT [] hto0) trivial ?_
  refine wRUN hb0 ?_
  refine w7 (op_data [(16, 0), (25, 0)] heq0) trivial ?_
  refine wRUN hb0 ?_
  exact wRetOf (ret_of [((8, 0), (8, 0))] []) Tryz.results3 hb0
theorem lawPathText_ac (xs : List CellD) (hz : Sized63 xs) (hl9 : xs.length ≤ 9223372036854775807) : AC Tryz.prog 3 [cellsA xs] (tabM o) (.c (.bool true)) (tabM o) := by
  by_cases hsz : szR xs 1048576 < 0
  · exact lawPathText_small1 xs hz hl9 hsz
  · have hl := szR_len (xs := xs) (left := 1048576) (by omega) (by omega)
    rcases pathDec_cases xs with ⟨t, ht, hw, hc, hdp, hk5, hkb, hpd⟩ | ⟨c, hc0, hpd⟩
    · have hr : t.right := ⟨hw, hc, hdp⟩
      have hkl : t.kids.length ≤ 200 := by have := count_kids t; have := countL_len t.kids; omega
      have hp2 := hpd
      rw [ht] at hp2
      have hs := specPathText_ac hr hp2 hkb
      rw [← ht] at hs
      exact lawPathText_one xs hz hl hsz 0 _ hs (implPathText_ac xs hz hpd (fun v hv => right_mem hr hv) hkl)
    · exact lawPathText_one xs hz hl hsz c _ (specPathText_bad xs hc0 hpd) (implPathText_bad xs hz hc0 hpd)
end Go.Proofs.YtfmnoljflcpbgaaGreatDoor

/- laws.FnExactFormatEdits: the walk of the law itself, by the engine. -/
namespace Go.Proofs.YtfmnoljflcpbgaaGreatDoor
open Go.RowKit
set_option maxRecDepth 10000
variable {o : Obj}
set_option maxHeartbeats 8000000 in
theorem lawFormatEdits_small1 (x0 : List EditD) (hz0 : ∀ d ∈ x0, EditOk d) (hl0 : x0.length ≤ 9223372036854775807) (hm0 : ∀ d ∈ x0, d.path.length ≤ 9223372036854775807 ∧ d.x.length ≤ 9223372036854775807) (hb0' : (szER x0 1048576) < 0) : AC Tryz.prog 6 [editsA x0] (tabM o) (.c (.bool true)) (tabM o) := by
  have hq0 := szER_le x0 1048576 (by omega)
  have hs0 := szEditS_ac x0 hz0 (by omega) 1048576 (by omega) (by omega)
  have hb0 : decide ((szER x0 1048576) < 0) = true := by simpa using hb0'
  refine wEnter Tryz.func6 Tryz.ntmps6 ?_
  refine wRUN trivial ?_
  refine w7 (op_data [] hs0) trivial ?_
  refine wRUN hb0 ?_
  exact wRetOf (ret_of [((8, 0), (8, 0))] []) Tryz.results6 hb0
set_option maxHeartbeats 8000000 in
theorem lawFormatEdits_one (x0 : List EditD) (hz0 : ∀ d ∈ x0, EditOk d) (hl0 : x0.length ≤ 1048576) (hm0 : ∀ d ∈ x0, d.path.length ≤ 1048576 ∧ d.x.length ≤ 1048576) (hb0' : ¬ (szER x0 1048576) < 0) (c : Int) (s : ByteArray) (hspec : AC Tryz.prog 22 [editsA x0] [] (.agg [.c (.int .i64 c), .c (.str s)]) []) (himpl : AC Tryz.prog 24 [editsA x0] (tabM o) (.agg [.c (.int .i64 c), .c (.str s)]) (tabM o)) : AC Tryz.prog 6 [editsA x0] (tabM o) (.c (.bool true)) (tabM o) := by
  have hq0 := szER_le x0 1048576 (by omega)
  have hs0 := szEditS_ac x0 hz0 (by omega) 1048576 (by omega) (by omega)
  have hb0 : decide ((szER x0 1048576) < 0) = false := by simpa using hb0'
  have hto0 := toEditS_ac x0 hl0 hm0
  have heq0 := eqEditS_ac x0 hl0 (fun d h => by have := hm0 d h; omega)
  have he := eqTextResult_ac c s
  refine wEnter Tryz.func6 Tryz.ntmps6 ?_
  refine wRUN trivial ?_
  refine w7 (op_data [] hs0) trivial ?_
  refine wRUN hb0 ?_
  refine w12 (op_rowT [] hto0) trivial ?_
  refine wRUN hb0 ?_
  refine w7 (op_data [(13, 0)] hspec) trivial ?_
  refine wRUN hb0 ?_
  refine w12 (op_rowT [] hto0) trivial ?_
  refine wRUN hb0 ?_
  refine wCallB (op_callB [(16, 0)] [((8, 0), (8, 0))] [((8, 0), (8, 0))] himpl) trivial ?_
  refine wRUN hb0 ?_
  refine w7 (op_data [] he) trivial ?_
  refine wRUN hb0 ?_
  refine w12 (op_rowT [] hto0) trivial ?_
  refine wRUN hb0 ?_
  refine w7 (op_data [(16, 0), (25, 0)] heq0) trivial ?_
  refine wRUN hb0 ?_
  exact wRetOf (ret_of [((8, 0), (8, 0))] []) Tryz.results6 hb0
theorem lawFormatEdits_ac (x0 : List EditD) (hz0 : ∀ d ∈ x0, EditOk d) (hl9 : x0.length ≤ 9223372036854775807) : AC Tryz.prog 6 [editsA x0] (tabM o) (.c (.bool true)) (tabM o) := by
  have hn : ∀ d ∈ x0, d.path.length ≤ 9223372036854775807 ∧ d.x.length ≤ 9223372036854775807 := fun d hd => (hz0 d hd).2.2
  by_cases hsz : szER x0 1048576 < 0
  · exact lawFormatEdits_small1 x0 hz0 hl9 hn hsz
  · obtain ⟨h1, h2, h3⟩ := szER_tot hsz (by omega)
    by_cases hc : editsCode x0 = 0
    · exact lawFormatEdits_one x0 hz0 h1 h3 hsz 0 _ (specFormat_ac x0 hc) (implFormat_ac x0 hz0 hc)
    · exact lawFormatEdits_one x0 hz0 h1 h3 hsz _ _ (specFormat_bad x0 hl9 hc) (implFormat_bad x0 hz0 hl9 hc)
end Go.Proofs.YtfmnoljflcpbgaaGreatDoor
