/- Facts that the laws' walks share: a value has a fault or is a tree; rows of slices. -/
import Derived.Test.YtpaooephkpjkfaaGreatKG14
set_option linter.unusedSimpArgs false
set_option linter.unusedVariables false
set_option linter.unnecessarySimpa false
namespace Go.Proofs.YtpaooephkpjkfaaGreat
open Go.RowKit
theorem closed_osl (l : List (List CellD)) : closedLL (l.map oslCs) = true := by
  induction l with
  | nil => rfl
  | cons c l ih => simp only [List.map_cons, closedLL, ih, Bool.and_true, oslCs, closedL, C.closed, closed_cells]
theorem forget_osl (l : List (List CellD)) : forgetLL (l.map oslCs) = l.map encCs := by
  induction l with
  | nil => rfl
  | cons c l ih => simp only [List.map_cons, forgetLL, ih, oslCs, forgetL, C.forget, forget_cells, encCs]
attribute [go_sem] closed_osl forget_osl
theorem dec_way (xs : List CellD) : ((dec xs).2 = none ∧ (dec xs).1 ≠ 0) ∨ ∃ t, dec xs = (0, some t) ∧ xs = t.enc ∧ t.wf ∧ t.count ≤ 200 ∧ t.depth ≤ 20 := by
  rcases dec_cases xs with ⟨t, ht⟩ | ⟨c, hc, hd⟩
  · exact .inr ⟨t, ht, dec_ok ht⟩
  · exact .inl ⟨by rw [hd], by rw [hd]; exact hc⟩
end Go.Proofs.YtpaooephkpjkfaaGreat
