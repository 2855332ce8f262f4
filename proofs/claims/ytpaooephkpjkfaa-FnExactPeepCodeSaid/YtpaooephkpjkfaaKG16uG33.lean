/- Texts of this proof: G16 G33. -/
import Derived.Test.YtpaooephkpjkfaaKG14uG26
import Derived.Test.YtpaooephkpjkfaaKE5
set_option linter.unusedSimpArgs false
set_option linter.unusedVariables false
set_option linter.unnecessarySimpa false
namespace Go.Proofs.Ytpaooephkpjkfaa
open Go.RowKit
set_option maxRecDepth 10000
theorem szR_le (xs : List CellD) (left : Int) (h : 0 ≤ left) : szR xs left ≤ left := by
  unfold szR
  split
  · omega
  · have : (0 : Int) ≤ (xs.length : Int) := by omega
    have : (0 : Int) ≤ (bulk xs : Int) := by omega
    omega
end Go.Proofs.Ytpaooephkpjkfaa

/- The laws' own functions on an argument [][]Cell: szCellSS, toCellSS. -/
namespace Go.Proofs.Ytpaooephkpjkfaa
open Go.RowKit
set_option maxRecDepth 10000
def szGo : List (List CellD) → Int → Int
  | [], left => left
  | x :: r, left => if szR x left < 0 then -1 else szGo r (szR x left)
def szLR (l : List (List CellD)) (left : Int) : Int := if left - l.length < 0 then -1 else szGo l (left - l.length)
theorem szGo_le : ∀ (l : List (List CellD)) (left : Int), 0 ≤ left → szGo l left ≤ left
  | [], _, _ => Int.le_refl _
  | x :: r, left, h => by
    unfold szGo
    have := szR_le x left h
    split
    · omega
    · have := szGo_le r (szR x left) (by omega)
      omega
theorem szLR_le (l : List (List CellD)) (left : Int) (h : 0 ≤ left) : szLR l left ≤ left := by
  unfold szLR
  split
  · omega
  · have := szGo_le l (left - l.length) (by omega)
    omega
theorem szR_sub {x : List CellD} {left : Int} (h : ¬ szR x left < 0) : szR x left ≤ left - x.length := by
  unfold szR at h ⊢
  split
  · omega
  · have : (0 : Int) ≤ (bulk x : Int) := by omega
    omega
theorem szGo_tot : ∀ (l : List (List CellD)) (left : Int), 0 ≤ left → ¬ szGo l left < 0 → (tot l : Int) ≤ left ∧ ∀ x ∈ l, (x.length : Int) ≤ left
  | [], left, h, _ => by simp [tot]; exact h
  | x :: r, left, h, hn => by
    unfold szGo at hn
    by_cases hs : szR x left < 0
    · rw [if_pos hs] at hn; exact absurd (by decide) hn
    · rw [if_neg hs] at hn
      have h1 := szR_sub hs
      obtain ⟨h2, h3⟩ := szGo_tot r (szR x left) (by omega) hn
      have h4 : tot (x :: r) = x.length + tot r := by simp [tot]
      refine ⟨by rw [h4]; omega, fun y hy => ?_⟩
      rcases List.mem_cons.1 hy with rfl | hy
      · omega
      · have := h3 y hy; omega
theorem szLR_tot {l : List (List CellD)} {left : Int} (h : ¬ szLR l left < 0) (hl : left ≤ 1048576) : l.length ≤ 1048576 ∧ tot l ≤ 1048576 ∧ ∀ x ∈ l, x.length ≤ 1048576 := by
  unfold szLR at h
  by_cases hs : left - l.length < 0
  · rw [if_pos hs] at h; exact absurd (by decide) h
  · rw [if_neg hs] at h
    obtain ⟨h1, h2⟩ := szGo_tot l _ (by omega) h
    exact ⟨by omega, by omega, fun x hx => by have := h2 x hx; omega⟩
theorem szGo_drop (l : List (List CellD)) {k : Nat} (h : k < l.length) (left : Int) : szGo (l.drop k) left = if szR l[k] left < 0 then -1 else szGo (l.drop (k + 1)) (szR l[k] left) := by
  rw [List.drop_eq_getElem_cons h]
  rfl
end Go.Proofs.Ytpaooephkpjkfaa
