/- The plain mathematics of a value and all that is in it. -/
import Derived.Test.YtpaooephkpjkfaaGreatKM3
set_option linter.unusedSimpArgs false
set_option linter.unusedVariables false
set_option linter.unnecessarySimpa false
namespace Go.Proofs.YtpaooephkpjkfaaGreat
open Go.RowKit
mutual
/-- A value and all values in it, each ahead of those in it. -/
def V.deep : V → List V
  | .mk kind num text keys kids => .mk kind num text keys kids :: deepL kids
def deepL : List V → List V
  | [] => []
  | k :: ks => k.deep ++ deepL ks
end
theorem deep_eq (t : V) : t.deep = t :: deepL t.kids := by cases t; simp [V.deep, V.kids]
mutual
theorem deep_len : ∀ (t : V), t.deep.length = t.count
  | .mk kind num text keys kids => by simp only [V.deep, V.count, List.length_cons, deepL_len kids]
theorem deepL_len : ∀ (ks : List V), (deepL ks).length = countL ks
  | [] => rfl
  | k :: ks => by simp only [deepL, countL, List.length_append, deep_len k, deepL_len ks]
end
theorem deepL_app : ∀ (a b : List V), deepL (a ++ b) = deepL a ++ deepL b
  | [], b => rfl
  | x :: a, b => by simp only [List.cons_append, deepL, deepL_app a b, List.append_assoc]
mutual
theorem deep_right : ∀ (t : V), t.right → ∀ s ∈ t.deep, s.right ∧ s.count ≤ t.count ∧ s.depth ≤ t.depth
  | .mk kind num text keys kids, h => fun s hs => by
    simp only [V.deep, List.mem_cons] at hs
    rcases hs with rfl | hs
    · exact ⟨h, Nat.le_refl _, Nat.le_refl _⟩
    · have := deepL_right kids (fun k hk => right_mem h hk) s hs
      exact ⟨this.1, by simp only [V.count]; omega, by simp only [V.depth]; omega⟩
theorem deepL_right : ∀ (ks : List V), (∀ k ∈ ks, k.right) → ∀ s ∈ deepL ks, s.right ∧ s.count ≤ countL ks ∧ s.depth ≤ depthL ks
  | [], _ => fun s hs => by simp [deepL] at hs
  | k :: ks, h => fun s hs => by
    simp only [deepL, List.mem_append] at hs
    rcases hs with hs | hs
    · have := deep_right k (h k (by simp)) s hs
      exact ⟨this.1, by simp only [countL]; omega, by simp only [depthL]; omega⟩
    · have := deepL_right ks (fun x hx => h x (by simp [hx])) s hs
      exact ⟨this.1, by simp only [countL]; omega, by simp only [depthL]; omega⟩
end
mutual
/-- The cells from a place on begin with those of what stands there. -/
theorem deep_drop : ∀ (t : V) (key : ByteArray) (i : Nat) (h : i < t.deep.length), ∃ key' rest, (t.cells key).drop i = (t.deep[i]).cells key' ++ rest
  | .mk kind num text keys kids, key, 0, h => ⟨key, [], by simp [V.deep]⟩
  | .mk kind num text keys kids, key, i + 1, h => by
    have hl : i < (deepL kids).length := by simpa [V.deep] using h
    obtain ⟨k', rest, e⟩ := deepL_drop kind keys kids i hl
    refine ⟨k', rest, ?_⟩
    simp only [V.cells, V.deep, List.drop_succ_cons, List.getElem_cons_succ]
    exact e
theorem deepL_drop : ∀ (kind : Int) (keys : List ByteArray) (ks : List V) (i : Nat) (h : i < (deepL ks).length), ∃ key' rest, (cellsL kind keys ks).drop i = ((deepL ks)[i]).cells key' ++ rest
  | _, _, [], i, h => absurd h (by simp [deepL])
  | kind, keys, k :: ks, i, h => by
    simp only [cellsL, deepL]
    have hkl : (k.cells (if kind = 6 then keys.headD ByteArray.empty else ByteArray.empty)).length = k.count := cells_len _ _
    have hdl := deep_len k
    by_cases hi : i < k.deep.length
    · obtain ⟨k', rest, e⟩ := deep_drop k (if kind = 6 then keys.headD ByteArray.empty else ByteArray.empty) i hi
      refine ⟨k', rest ++ cellsL kind keys.tail ks, ?_⟩
      rw [List.getElem_append_left hi, List.drop_append_of_le_length (by omega), e, List.append_assoc]
    · have hl2 : i - k.deep.length < (deepL ks).length := by
        have : i < k.deep.length + (deepL ks).length := by simpa [deepL] using h
        omega
      obtain ⟨k', rest, e⟩ := deepL_drop kind keys.tail ks (i - k.deep.length) hl2
      refine ⟨k', rest, ?_⟩
      rw [List.getElem_append_right (by omega), List.drop_append, List.drop_eq_nil_of_le (by omega), List.nil_append, hkl, ← hdl]
      exact e
end
end Go.Proofs.YtpaooephkpjkfaaGreat
