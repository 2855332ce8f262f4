/- (impl.event).value, impl.made, impl.eventsResult, by the engine. -/
import Derived.Test.YtijadbifkehccaaKG28
import Derived.Test.YtijadbifkehccaaKG11
set_option linter.unusedSimpArgs false
set_option linter.unusedVariables false
set_option linter.unnecessarySimpa false
namespace Go.Proofs.Ytijadbifkehccaa
open Go.RowKit
set_option maxRecDepth 10000
theorem all_osl (l : List (List CellD)) : ((l.map oslCs).all fun r => r.length == 1) = true := by simp [oslCs]
attribute [go_sem] all_osl
end Go.Proofs.Ytijadbifkehccaa
