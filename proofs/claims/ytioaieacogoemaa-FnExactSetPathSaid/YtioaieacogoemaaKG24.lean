/- impl.withPath, by the engine. -/
import Derived.Test.YtioaieacogoemaaKG23
set_option linter.unusedSimpArgs false
set_option linter.unusedVariables false
set_option linter.unnecessarySimpa false
namespace Go.Proofs.Ytioaieacogoemaa
open Go.RowKit
set_option maxRecDepth 10000
/-- What two values' reading comes to: a value at a path is asked for. -/
def askPath (xs ps : List CellD) (F : V → List V → Int × Option V) : Int × Option V := match dec xs with
  | (c, none) => (c, none)
  | (_, some t) => match pathDec ps with
    | (c, none) => (c, none)
    | (_, some path) => F t path
theorem right_of_dec {xs : List CellD} {t : V} (h : dec xs = (0, some t)) : xs = t.enc ∧ t.right := by
  obtain ⟨h1, h2, h3, h4⟩ := dec_ok h
  exact ⟨h1, h2, h3, h4⟩
theorem ask_way (xs ps : List CellD) (F : V → List V → Int × Option V) : ((dec xs).2 = none ∧ (dec xs).1 ≠ 0 ∧ askPath xs ps F = ((dec xs).1, none)) ∨ ∃ t : V, dec xs = (0, some t) ∧ xs = t.enc ∧ t.right ∧ ((∃ c : Int, c ≠ 0 ∧ pathDec ps = (c, none) ∧ askPath xs ps F = (c, none)) ∨
    ∃ s : V, s.right ∧ ps = s.enc ∧ s.kind = 5 ∧ s.kids.any badKid = false ∧ pathDec ps = (0, some s.kids) ∧ askPath xs ps F = F t s.kids) := by
  rcases dec_cases xs with ⟨t, ht⟩ | ⟨c, hc, hd⟩
  · obtain ⟨h1, h2⟩ := right_of_dec ht
    refine .inr ⟨t, ht, h1, h2, ?_⟩
    rcases pathDec_cases ps with ⟨s, h3, h4, h5, h6, h7, h8, h9⟩ | ⟨c, hc, hp⟩
    · exact .inr ⟨s, ⟨h4, h5, h6⟩, h3, h7, h8, h9, by unfold askPath; rw [ht, h9]⟩
    · exact .inl ⟨c, hc, hp, by unfold askPath; rw [ht, hp]⟩
  · exact .inl ⟨by rw [hd], by rw [hd]; exact hc, by unfold askPath; rw [hd]⟩
end Go.Proofs.Ytioaieacogoemaa
