/- impl.pathsResult, impl.PathsIn, by the engine. -/
import Derived.Test.YtioaieacogoemaaGreatKG04
set_option linter.unusedSimpArgs false
set_option linter.unusedVariables false
set_option linter.unnecessarySimpa false
namespace Go.Proofs.YtioaieacogoemaaGreat
open Go.RowKit

/-- A path as a cell of the result: a slice that no one else reaches. -/
def pathCs (p : List V × V) : List C := [.osl ((arrV p.1).enc.map CellD.cs)]
theorem all_paths (l : List (List V × V)) : ((l.map pathCs).all fun r => r.length == 1) = true := by simp [pathCs]
attribute [go_sem] all_paths
set_option maxRecDepth 10000
theorem arr_count (l : List V) : (arrV l).count = countL l + 1 := rfl
end Go.Proofs.YtioaieacogoemaaGreat
