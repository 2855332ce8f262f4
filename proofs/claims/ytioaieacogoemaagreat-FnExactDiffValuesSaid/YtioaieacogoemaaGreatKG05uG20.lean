/- Texts of this proof: G05 G20. -/
import Derived.Test.YtioaieacogoemaaGreatKG04
import Derived.Test.YtioaieacogoemaaGreatKE5
import Derived.Test.YtioaieacogoemaaGreatKM2
import Derived.Test.YtioaieacogoemaaGreatKB3
set_option linter.unusedSimpArgs false
set_option linter.unusedVariables false
set_option linter.unnecessarySimpa false
namespace Go.Proofs.YtioaieacogoemaaGreat
open Go.RowKit

/-- A path as a cell of the result: a slice that no one else reaches. -/
def pathCs (p : List V × V) : List C := [.osl ((arrV p.1).enc.map CellD.cs)]
theorem all_paths (l : List (List V × V)) : ((l.map pathCs).all fun r => r.length == 1) = true := by simp [pathCs]
attribute [go_sem] all_paths
set_option maxRecDepth 10000
theorem arr_count (l : List V) : (arrV l).count = countL l + 1 := rfl
end Go.Proofs.YtioaieacogoemaaGreat

/- impl's outcomes, and reading parts of trees, by the engine: null, refuses, count, fault, gives, result. -/
namespace Go.Proofs.YtioaieacogoemaaGreat
open Go.RowKit
/-- An outcome as a value. -/
def outA (c : Int) (t : V) : AV := .agg [.c (.int .i64 c), .c (.int .i64 t.kind), .c (.int .i64 t.num), .c (.str t.text), .c (.sl (t.keys.map strCs)), .c (.sl (t.kids.map V.cs))]
theorem outA_eq (c : Int) (t : V) : outA c t = .agg [.c (.int .i64 c), .c (.int .i64 t.kind), .c (.int .i64 t.num), .c (.str t.text), .c (.sl (t.keys.map strCs)), .c (.sl (t.kids.map V.cs))] := rfl
theorem nullV_av : nullV.av = .agg [.c (.int .i64 0), .c (.int .i64 0), .c (.str ByteArray.empty), .c (.sl []), .c (.sl [])] := rfl
attribute [go_sem] outA_eq
set_option maxRecDepth 10000
theorem null_ac : AC Tryz.prog 75 [] [] nullV.av [] := by
  rw [nullV_av]
  refine wEnter Tryz.func75 Tryz.ntmps75 ?_
  refine wRUN trivial ?_
  exact wRet (ret_data []) Tryz.results75
end Go.Proofs.YtioaieacogoemaaGreat
