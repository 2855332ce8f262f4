/- impl.truth, are, add, sub, reckon, binary, by the engine. -/
import Derived.Test.YtamgeodhpglgkaaGreatKG67
import Derived.Test.YtamgeodhpglgkaaGreatKG43
import Derived.Test.YtamgeodhpglgkaaGreatKG49uG52
import Derived.Test.YtamgeodhpglgkaaGreatKE5
import Derived.Test.YtamgeodhpglgkaaGreatKM23uM28
import Derived.Test.YtamgeodhpglgkaaGreatKG8
import Derived.Test.YtamgeodhpglgkaaGreatKGX
set_option linter.unusedSimpArgs false
namespace Go.Proofs.YtamgeodhpglgkaaGreat
open Go.RowKit
set_option maxRecDepth 10000
theorem are_ac (a b : V) (k : Int) : AC Tryz.prog 148 [a.av, b.av, .c (.int .i64 k)] [] (.c (.bool (a.kind == k && b.kind == k))) [] := by
 cases h1 : a.kind == k <;> cases h2 : b.kind == k
 all_goals
  refine wEnter Tryz.func148 Tryz.ntmps148 ?_
  refine wRUN (j2 h1 h2) ?_
  exact wRet (ret_data []) Tryz.results148
end Go.Proofs.YtamgeodhpglgkaaGreat
