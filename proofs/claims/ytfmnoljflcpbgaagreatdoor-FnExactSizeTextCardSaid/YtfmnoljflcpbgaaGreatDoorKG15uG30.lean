/- Texts of this proof: G15 G29 G30. -/
import Derived.Test.YtfmnoljflcpbgaaGreatDoorKG04
import Derived.Test.YtfmnoljflcpbgaaGreatDoorKE5
import Derived.Test.YtfmnoljflcpbgaaGreatDoorKM2uG55
import Derived.Test.YtfmnoljflcpbgaaGreatDoorKG10uG11
import Derived.Test.YtfmnoljflcpbgaaGreatDoorKG07uG08
import Derived.Test.YtfmnoljflcpbgaaGreatDoorKG14
import Derived.Test.YtfmnoljflcpbgaaGreatDoorKG16uGE
set_option linter.unusedSimpArgs false
set_option linter.unusedVariables false
set_option linter.unnecessarySimpa false
namespace Go.Proofs.YtfmnoljflcpbgaaGreatDoor
open Go.RowKit
set_option maxRecDepth 10000
theorem isLeaf_ac (t : V) : AC Tryz.prog 113 [t.av] [] (.c (.bool t.kids.isEmpty)) [] := by
  have h0 : (((t.kids.length : Int)) == 0) = t.kids.isEmpty := by cases t.kids <;> simp; omega
  refine wEnter Tryz.func113 Tryz.ntmps113 ?_
  refine wRUN trivial ?_
  exact ret_data [] (by simp only [Tryz.results113, go_sem, Nat.reduceBEq, Nat.reduceLT]; exact rfl) (by simp only [go_sem, Nat.reduceEqDiff, Nat.reduceAdd, Nat.reduceSub, Nat.reduceLeDiff, Nat.reduceMul, Nat.reduceBEq, Nat.reduceLT, Int.reduceToNat, reduceCtorEq, h0]) rfl
end Go.Proofs.YtfmnoljflcpbgaaGreatDoor

/- (impl.event).value, impl.made, impl.eventsResult, by the engine. -/
namespace Go.Proofs.YtfmnoljflcpbgaaGreatDoor
open Go.RowKit
set_option maxRecDepth 10000
theorem all_osl (l : List (List CellD)) : ((l.map oslCs).all fun r => r.length == 1) = true := by simp [oslCs]
attribute [go_sem] all_osl
end Go.Proofs.YtfmnoljflcpbgaaGreatDoor

/- spec.l14Behind, l15All, by the engine. -/
namespace Go.Proofs.YtfmnoljflcpbgaaGreatDoor
open Go.RowKit
set_option maxRecDepth 10000
theorem l15Leaf_ac (t : V) : AC Tryz.prog 107 [cellsA t.enc] [] (.c (.bool t.kids.isEmpty)) [] := by
  have hr0 : rowsAt (t.enc.map CellD.cs) 5 0 = true := by unfold rowsAt; rw [show (0 : Int).toNat = 0 from rfl, enc_head]; rfl
  have hg0 := enc_head t
  have h0 : (((t.kids.length : Int)) == 0) = t.kids.isEmpty := by cases t.kids <;> simp; omega
  refine wEnter Tryz.func107 Tryz.ntmps107 ?_
  refine wRUN (j2 hr0 hg0) ?_
  exact ret_data [] (by simp only [Tryz.results107, go_sem, Nat.reduceBEq, Nat.reduceLT]; exact rfl) (by simp only [go_sem, Nat.reduceEqDiff, Nat.reduceAdd, Nat.reduceSub, Nat.reduceLeDiff, Nat.reduceMul, Nat.reduceBEq, Nat.reduceLT, Int.reduceToNat, reduceCtorEq, h0]) rfl
def evAhead (ahead : List V) (e : Ev) : Ev := (ahead ++ e.1, e.2)
/-- The values of events, as cells no one else reaches. -/
def evsO (ahead : List V) (l : List Ev) : List (List C) := ((l.map (evAhead ahead)).map fun e => (evV e).enc).map oslCs
theorem evsO_length (ahead : List V) (l : List Ev) : (evsO ahead l).length = l.length := by simp [evsO]
theorem evsO_closed (ahead : List V) (l : List Ev) : closedLL (evsO ahead l) = true := closed_osl _
theorem evsO_all (ahead : List V) (l : List Ev) : ((evsO ahead l).all fun r => r.length == 1) = true := all_osl _
attribute [go_sem] evsO_length evsO_closed evsO_all
end Go.Proofs.YtfmnoljflcpbgaaGreatDoor
