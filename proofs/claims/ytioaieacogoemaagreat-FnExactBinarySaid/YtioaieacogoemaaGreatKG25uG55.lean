/- Texts of this proof: G25 G55. -/
import Derived.Test.YtioaieacogoemaaGreatKG08
import Derived.Test.YtioaieacogoemaaGreatKG14
import Derived.Test.YtioaieacogoemaaGreatKE5
import Derived.Test.YtioaieacogoemaaGreatKM2
import Derived.Test.YtioaieacogoemaaGreatKG21uG5
import Derived.Test.YtioaieacogoemaaGreatKG9
import Derived.Test.YtioaieacogoemaaGreatKM3
import Derived.Test.YtioaieacogoemaaGreatKG45
set_option linter.unusedSimpArgs false
set_option linter.unusedVariables false
set_option linter.unnecessarySimpa false
namespace Go.Proofs.YtioaieacogoemaaGreat
open Go.RowKit
set_option maxRecDepth 10000
theorem l3Bad_ac (c : Int) : AC Tryz.prog 34 [.c (.int .i64 c)] [] (.agg [.c (.int .i64 c), .nils]) [] := by
  refine wEnter Tryz.func34 Tryz.ntmps34 ?_
  refine wRUN trivial ?_
  exact wRet (ret_data []) Tryz.results34
/-- A result of a reading. -/
def vrA (r : Int × Option V) : AV := match r.2 with
  | some t => .agg [.c (.int .i64 0), .c (.sl (t.enc.map CellD.cs))]
  | none => .agg [.c (.int .i64 r.1), .c (.sl [])]
theorem vrA_some (c : Int) (t : V) : vrA (c, some t) = .agg [.c (.int .i64 0), .c (.sl (t.enc.map CellD.cs))] := rfl
theorem vrA_none (c : Int) : vrA (c, none) = .agg [.c (.int .i64 c), .c (.sl [])] := rfl
theorem vrA_ok (t : V) : vrA (okR t) = .agg [.c (.int .i64 0), .c (.sl (t.enc.map CellD.cs))] := rfl
theorem vrA_bad (c : Int) : vrA (badR c) = .agg [.c (.int .i64 c), .c (.sl [])] := rfl
end Go.Proofs.YtioaieacogoemaaGreat

/- spec.l1Told, l14Merge, MergeValues; impl.MergeValues, by the engine. -/
namespace Go.Proofs.YtioaieacogoemaaGreat
open Go.RowKit
set_option maxRecDepth 10000
theorem l1Told_ok (xs : List CellD) (h : (dec xs).1 = 0) : AC Tryz.prog 133 [cellsA xs] [] (.agg [.c (.int .i64 0), cellsA xs]) [] := by
  have hf := fault_ac xs
  rw [h] at hf
  have h00 : ((0 : Int) != 0) = false := rfl
  refine wEnter Tryz.func133 Tryz.ntmps133 ?_
  refine wRUN trivial ?_
  refine w7 (op_data [] hf) trivial ?_
  refine wRUN h00 ?_
  exact wRet (ret_data []) Tryz.results133
theorem l1Told_bad (xs : List CellD) (h : (dec xs).1 ≠ 0) : AC Tryz.prog 133 [cellsA xs] [] (.agg [.c (.int .i64 (dec xs).1), .c (.sl [])]) [] := by
  have hf := fault_ac xs
  have hb : ((dec xs).1 != 0) = true := by simpa using h
  refine wEnter Tryz.func133 Tryz.ntmps133 ?_
  refine wRUN trivial ?_
  refine w7 (op_data [] hf) trivial ?_
  refine wRUN hb ?_
  exact wRet (ret_data []) Tryz.results133
theorem l1Told_ac (t : V) : AC Tryz.prog 133 [cellsA t.enc] [] (vrA (giveR t)) [] := by
  unfold giveR
  split
  · rename_i h
    exact l1Told_ok t.enc h
  · rename_i h
    exact l1Told_bad t.enc h
theorem enc_rows (t : V) : rowsAt (t.enc.map CellD.cs) 5 0 = true := by unfold rowsAt; rw [show (0 : Int).toNat = 0 from rfl, enc_head]; rfl
end Go.Proofs.YtioaieacogoemaaGreat
