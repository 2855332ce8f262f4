/- Texts of this proof: G16 G33. -/
import Derived.Test.YtfmnoljflcpbgaaGreatDoorKG14
import Derived.Test.YtfmnoljflcpbgaaGreatDoorKE5
set_option linter.unusedSimpArgs false
set_option linter.unusedVariables false
set_option linter.unnecessarySimpa false
namespace Go.Proofs.YtfmnoljflcpbgaaGreatDoor
open Go.RowKit
set_option maxRecDepth 10000
theorem szR_le (xs : List CellD) (left : Int) (h : 0 ≤ left) : szR xs left ≤ left := by
  unfold szR
  split
  · omega
  · have : (0 : Int) ≤ (xs.length : Int) := by omega
    have : (0 : Int) ≤ (bulk xs : Int) := by omega
    omega
end Go.Proofs.YtfmnoljflcpbgaaGreatDoor

/- The laws' own functions on an argument [][]Cell: szCellSS, toCellSS. -/
namespace Go.Proofs.YtfmnoljflcpbgaaGreatDoor
open Go.RowKit
set_option maxRecDepth 10000
def szGo : List (List CellD) → Int → Int
  | [], left => left
  | x :: r, left => if szR x left < 0 then -1 else szGo r (szR x left)
theorem szGo_le : ∀ (l : List (List CellD)) (left : Int), 0 ≤ left → szGo l left ≤ left
  | [], _, _ => Int.le_refl _
  | x :: r, left, h => by
    unfold szGo
    have := szR_le x left h
    split
    · omega
    · have := szGo_le r (szR x left) (by omega)
      omega
theorem szR_sub {x : List CellD} {left : Int} (h : ¬ szR x left < 0) : szR x left ≤ left - x.length := by
  unfold szR at h ⊢
  split
  · omega
  · have : (0 : Int) ≤ (bulk x : Int) := by omega
    omega
theorem szGo_tot : ∀ (l : List (List CellD)) (left : Int), 0 ≤ left → ¬ szGo l left < 0 → (tot l : Int) ≤ left ∧ ∀ x ∈ l, (x.length : Int) ≤ left
  | [], left, h, _ => by simp [tot]; exact h
  | x :: r, left, h, hn => by
    unfold szGo at hn
    by_cases hs : szR x left < 0
    · rw [if_pos hs] at hn; exact absurd (by decide) hn
    · rw [if_neg hs] at hn
      have h1 := szR_sub hs
      obtain ⟨h2, h3⟩ := szGo_tot r (szR x left) (by omega) hn
      have h4 : tot (x :: r) = x.length + tot r := by simp [tot]
      refine ⟨by rw [h4]; omega, fun y hy => ?_⟩
      rcases List.mem_cons.1 hy with rfl | hy
      · omega
      · have := h3 y hy; omega
end Go.Proofs.YtfmnoljflcpbgaaGreatDoor
