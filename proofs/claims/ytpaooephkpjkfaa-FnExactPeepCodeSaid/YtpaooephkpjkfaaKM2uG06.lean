/- Texts of this proof: M08 M09 M10 M15 M16 M18 M19 G22 G06. -/
import Derived.Test.YtpaooephkpjkfaaKM1
import Derived.Test.YtpaooephkpjkfaaKG04
import Derived.Test.YtpaooephkpjkfaaKE5
import Derived.Test.YtpaooephkpjkfaaKB3
import Derived.Test.YtpaooephkpjkfaaKA1
set_option linter.unusedSimpArgs false
set_option linter.unusedVariables false
set_option linter.unnecessarySimpa false
namespace Go.Proofs.Ytpaooephkpjkfaa
open Go.RowKit

/-- A value without a fault. -/
def V.right (t : V) : Prop := t.wf ∧ t.count ≤ 200 ∧ t.depth ≤ 20
end Go.Proofs.Ytpaooephkpjkfaa



/- impl.getKey, getIndex, getAt, getPath, by the engine. -/
namespace Go.Proofs.Ytpaooephkpjkfaa
open Go.RowKit
set_option maxRecDepth 10000
theorem within_ac (n lo hi : Int) : AC Try.prog 32 [.c (.int .i64 n), .c (.int .i64 lo), .c (.int .i64 hi)] [] (.c (.bool (decide (n ≥ lo) && decide (n ≤ hi)))) [] := by
  cases h1 : decide (n ≥ lo) <;> cases h2 : decide (n ≤ hi)
  all_goals
    refine wEnter Try.func32 Try.ntmps32 ?_
    refine wRUN (j2 h1 h2) ?_
    exact wRet (ret_data []) Try.results32
end Go.Proofs.Ytpaooephkpjkfaa

/- Specification functions as the engine's contracts: fault, l1End, l1Children, l1Parts, l1Keys, l1Number, l1String, l1Array. -/
namespace Go.Proofs.Ytpaooephkpjkfaa
open Go.RowKit
def intCs (n : Int) : List C := [.int .i64 n]
def encCs (xs : List CellD) : List C := [.sl (xs.map CellD.cs)]
theorem all_ints (l : List Int) : ((l.map intCs).all fun r => r.length == 1) = true := by simp [intCs]
theorem all_encs (l : List (List CellD)) : ((l.map encCs).all fun r => r.length == 1) = true := by simp [encCs]
theorem fl_int (n : Int) : forgetL (intCs n) = intCs n := rfl
theorem fl_enc (xs : List CellD) : forgetL (encCs xs) = encCs xs := rfl
theorem forget_ints (l : List Int) : forgetLL (l.map intCs) = l.map intCs := forget_map _ fl_int l
theorem forget_encs (l : List (List CellD)) : forgetLL (l.map encCs) = l.map encCs := forget_map _ fl_enc l
attribute [go_sem] all_ints all_encs forget_ints forget_encs intCs encCs

theorem fault_ac (xs : List CellD) : AC Try.prog 44 [cellsA xs] [] (.c (.int .i64 (dec xs).1)) [] := by
  refine AC.of_calls fun S w κ vs hv => ?_
  obtain ⟨v, vs', rfl, h1, rfl⟩ := hv
  obtain ⟨A, cap, rfl, _, hc⟩ := cr_cells.1 h1
  refine (specFault_any xs A cap S w hc).mono ?_
  rintro e w' ⟨rfl, hb⟩
  exact ⟨hb, _, rfl, fun T _ _ => ⟨rfl, rfl⟩⟩
set_option maxRecDepth 10000
end Go.Proofs.Ytpaooephkpjkfaa
