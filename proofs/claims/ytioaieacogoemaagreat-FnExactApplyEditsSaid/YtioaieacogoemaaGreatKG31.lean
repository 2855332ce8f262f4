/- impl.eventOf, by the engine. -/
import Derived.Test.YtioaieacogoemaaGreatKG20
import Derived.Test.YtioaieacogoemaaGreatKG05uG06
import Derived.Test.YtioaieacogoemaaGreatKE5
import Derived.Test.YtioaieacogoemaaGreatKM2
import Derived.Test.YtioaieacogoemaaGreatKG23uG24
import Derived.Test.YtioaieacogoemaaGreatKA1
set_option linter.unusedSimpArgs false
set_option linter.unusedVariables false
set_option linter.unnecessarySimpa false
namespace Go.Proofs.YtioaieacogoemaaGreat
open Go.RowKit
set_option maxRecDepth 10000
theorem count_right {q : V} (h : q.right) : AC Tryz.prog 51 [q.av] [] (.own (0, 0)) [((0, 0), .row false 5 61 (q.enc.map CellD.cs))] :=
  cells_ac q.count q (Nat.le_refl _) (by have := h.2.1; omega) (right_neat h)
end Go.Proofs.YtioaieacogoemaaGreat
