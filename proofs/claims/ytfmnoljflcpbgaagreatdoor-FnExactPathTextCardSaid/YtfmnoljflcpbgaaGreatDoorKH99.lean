/- Facts that the laws' walks share: a value has a fault or is a tree; rows of slices. -/
import Derived.Test.YtfmnoljflcpbgaaGreatDoorKG14
set_option linter.unusedSimpArgs false
set_option linter.unusedVariables false
set_option linter.unnecessarySimpa false
namespace Go.Proofs.YtfmnoljflcpbgaaGreatDoor
open Go.RowKit
theorem closed_osl (l : List (List CellD)) : closedLL (l.map oslCs) = true := by
  induction l with
  | nil => rfl
  | cons c l ih => simp only [List.map_cons, closedLL, ih, Bool.and_true, oslCs, closedL, C.closed, closed_cells]
theorem forget_osl (l : List (List CellD)) : forgetLL (l.map oslCs) = l.map encCs := by
  induction l with
  | nil => rfl
  | cons c l ih => simp only [List.map_cons, forgetLL, ih, oslCs, forgetL, C.forget, forget_cells, encCs]
attribute [go_sem] closed_osl forget_osl
/-- Cells in memory as a value that no one writes. -/
theorem ar_cellsA {w : World} {S : Nat → Prop} {m : Mem} {κ : Id → Value} {xs : List CellD} {A : Option Addr} {cap : Nat} (hcap : xs.length ≤ cap) (h : Cells w S A xs) : AR w S m κ (cellsA xs) (.slice A xs.length cap) :=
  cr_cells.2 ⟨A, cap, rfl, hcap, h⟩
end Go.Proofs.YtfmnoljflcpbgaaGreatDoor
