/- impl.withPath, by the engine. -/
import Derived.Test.YtioaieacogoemaaKG22
set_option linter.unusedSimpArgs false
set_option linter.unusedVariables false
set_option linter.unnecessarySimpa false
namespace Go.Proofs.Ytioaieacogoemaa
open Go.RowKit
set_option maxRecDepth 10000
theorem right_of_dec {xs : List CellD} {t : V} (h : dec xs = (0, some t)) : xs = t.enc ∧ t.right := by
  obtain ⟨h1, h2, h3, h4⟩ := dec_ok h
  exact ⟨h1, h2, h3, h4⟩
end Go.Proofs.Ytioaieacogoemaa
