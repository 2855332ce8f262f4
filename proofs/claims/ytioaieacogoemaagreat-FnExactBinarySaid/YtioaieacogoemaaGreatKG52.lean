/- impl.merge, by the engine. -/
import Derived.Test.YtioaieacogoemaaGreatKG21uG5
set_option linter.unusedSimpArgs false
set_option linter.unusedVariables false
set_option linter.unnecessarySimpa false
namespace Go.Proofs.YtioaieacogoemaaGreat
open Go.RowKit
set_option maxRecDepth 10000
theorem right_kl {t : V} (h : t.right) : t.keys.length ≤ 200 ∧ t.kids.length ≤ 200 := by
  have h1 := kids_len_le h.2.1
  refine ⟨?_, h1⟩
  by_cases h6 : t.kind = 6
  · have := (right_asc h h6).2.2
    omega
  · have := (right_shape h.1).2.2.2.2.1 h6
    rw [this]
    exact Nat.zero_le _
end Go.Proofs.YtioaieacogoemaaGreat
