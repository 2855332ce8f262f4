/- Texts of this proof: G34 G69. -/
import Derived.Test.YtioaieacogoemaaGreatKG07uG08
import Derived.Test.YtioaieacogoemaaGreatKE5
import Derived.Test.YtioaieacogoemaaGreatKG67
import Derived.Test.YtioaieacogoemaaGreatKG43
import Derived.Test.YtioaieacogoemaaGreatKG21
import Derived.Test.YtioaieacogoemaaGreatKG49uG52
import Derived.Test.YtioaieacogoemaaGreatKM2
import Derived.Test.YtioaieacogoemaaGreatKM3
import Derived.Test.YtioaieacogoemaaGreatKG8
import Derived.Test.YtioaieacogoemaaGreatKG02
import Derived.Test.YtioaieacogoemaaGreatKG55uGE
import Derived.Test.YtioaieacogoemaaGreatKG14
set_option linter.unusedSimpArgs false
set_option linter.unusedVariables false
set_option linter.unnecessarySimpa false
namespace Go.Proofs.YtioaieacogoemaaGreat
open Go.RowKit
set_option maxRecDepth 10000
theorem l1ArrayS_ac (ps : List V) (hc : (arrV ps).count ≤ 500000) : AC Tryz.prog 113 [.c (.sl ((ps.map V.enc).map encCs))] [] (.c (.sl ((arrV ps).enc.map CellD.cs))) [] := by
  have h := l1Array_ac ps hc
  (apply (AC.says [] [(0, 0)] h); (focus (simp only [go_sem, Nat.reduceEqDiff, Nat.reduceAdd, Nat.reduceSub, Nat.reduceLeDiff, Nat.reduceMul, Nat.reduceBEq, Nat.reduceLT, Int.reduceToNat, reduceCtorEq]; try (and_intros <;> rfl))); (focus exact rfl); (focus (simp only [go_sem, Nat.reduceEqDiff, Nat.reduceAdd, Nat.reduceSub, Nat.reduceLeDiff, Nat.reduceMul, Nat.reduceBEq, Nat.reduceLT, Int.reduceToNat, reduceCtorEq]; try (and_intros <;> rfl))); (focus exact rfl); (iterate 4 (focus (simp [go_sem]; done))))
end Go.Proofs.YtioaieacogoemaaGreat

/- impl.truth, are, add, sub, reckon, binary, by the engine. -/
namespace Go.Proofs.YtioaieacogoemaaGreat
open Go.RowKit
set_option maxRecDepth 10000
theorem are_ac (a b : V) (k : Int) : AC Tryz.prog 98 [a.av, b.av, .c (.int .i64 k)] [] (.c (.bool (a.kind == k && b.kind == k))) [] := by
  cases h1 : a.kind == k <;> cases h2 : b.kind == k
  all_goals
    refine wEnter Tryz.func98 Tryz.ntmps98 ?_
    refine wRUN (j2 h1 h2) ?_
    exact wRet (ret_data []) Tryz.results98
end Go.Proofs.YtioaieacogoemaaGreat
