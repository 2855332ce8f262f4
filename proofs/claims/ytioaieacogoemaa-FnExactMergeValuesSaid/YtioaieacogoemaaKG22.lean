/- impl.getKey, getIndex, getAt, getPath, by the engine. -/
import Derived.Test.YtioaieacogoemaaKG21
set_option linter.unusedSimpArgs false
set_option linter.unusedVariables false
set_option linter.unnecessarySimpa false
namespace Go.Proofs.Ytioaieacogoemaa
open Go.RowKit
set_option maxRecDepth 10000
theorem resA_some (c : Int) (t : V) : resA (c, some t) = outA 0 t := rfl
theorem resA_none (c : Int) : resA (c, none) = outA c nullV := rfl
end Go.Proofs.Ytioaieacogoemaa
