/- (impl.val).stream, by the engine. -/
import Derived.Test.YtijadbifkehccaaKG20
import Derived.Test.YtijadbifkehccaaKG15
import Derived.Test.YtijadbifkehccaaKM10
set_option linter.unusedSimpArgs false
set_option linter.unusedVariables false
set_option linter.unnecessarySimpa false
namespace Go.Proofs.Ytijadbifkehccaa
open Go.RowKit
set_option maxRecDepth 10000
def leafC : Option V → C
  | none => .raw (.pointer none)
  | some t => .ref t.cs
/-- An event as cells; as cells whose path no one else reaches. -/
def evCs (e : Ev) : List C := [.sl (e.1.map V.cs), leafC e.2]
def evO (e : Ev) : List C := [.osl (e.1.map V.cs), leafC e.2]
theorem leafC_forget (o : Option V) : (leafC o).forget = leafC o := by cases o <;> rfl
theorem forget_evO (l : List Ev) : forgetLL (l.map evO) = l.map evCs := by
  induction l with
  | nil => rfl
  | cons e l ih => simp only [List.map_cons, forgetLL, ih, evO, evCs, forgetL, C.forget, forget_trees, leafC_forget]
theorem forget_evCs (l : List Ev) : forgetLL (l.map evCs) = l.map evCs := by
  induction l with
  | nil => rfl
  | cons e l ih => simp only [List.map_cons, forgetLL, ih, evCs, forgetL, C.forget, leafC_forget]
theorem all_evCs (l : List Ev) : ((l.map evCs).all fun r => r.length == 2) = true := by simp [evCs]
attribute [go_sem] forget_evO forget_evCs all_evCs leafC_forget
end Go.Proofs.Ytijadbifkehccaa
