/- Texts of this proof: M20 M21 M22. -/
import Derived.Test.YtioaieacogoemaaGreatKM2
import Derived.Test.YtioaieacogoemaaGreatKG21
set_option linter.unusedSimpArgs false
set_option linter.unusedVariables false
set_option linter.unnecessarySimpa false
namespace Go.Proofs.YtioaieacogoemaaGreat
open Go.RowKit
def mergeU : List ByteArray → List ByteArray → List ByteArray
  | [], b => b
  | x :: a, [] => x :: a
  | x :: a, y :: b => if lessB x y then x :: mergeU a (y :: b) else if x.toList == y.toList then y :: mergeU a b else y :: mergeU (x :: a) b
termination_by a b => a.length + b.length
theorem mergeU_nil (a : List ByteArray) : mergeU a [] = a := by cases a <;> simp [mergeU]
theorem mergeU_left (b : List ByteArray) : mergeU [] b = b := by simp [mergeU]
theorem mergeU_mem : ∀ (n : Nat) (a b : List ByteArray), a.length + b.length ≤ n → ∀ x, x ∈ mergeU a b ↔ x ∈ a ∨ x ∈ b
  | _, [], b, _, x => by simp [mergeU]
  | _, y :: a, [], _, x => by simp [mergeU]
  | 0, y :: a, z :: b, h, x => by simp at h
  | n + 1, y :: a, z :: b, h, x => by
    simp only [List.length_cons] at h
    unfold mergeU
    split
    · rw [List.mem_cons, mergeU_mem n a (z :: b) (by simp only [List.length_cons]; omega) x]
      simp only [List.mem_cons]
      exact or_assoc.symm
    · split
      · rename_i he
        have hyz : y = z := ByteArray_toList_inj (by simpa using he)
        subst hyz
        rw [List.mem_cons, mergeU_mem n a b (by omega) x]
        simp only [List.mem_cons]
        constructor
        · rintro (h | h | h)
          · exact .inl (.inl h)
          · exact .inl (.inr h)
          · exact .inr (.inr h)
        · rintro ((h | h) | (h | h))
          · exact .inl h
          · exact .inr (.inl h)
          · exact .inl h
          · exact .inr (.inr h)
      · rw [List.mem_cons, mergeU_mem n (y :: a) b (by simp only [List.length_cons]; omega) x]
        simp only [List.mem_cons]
        constructor
        · rintro (h | h | h)
          · exact .inr (.inl h)
          · exact .inl h
          · exact .inr (.inr h)
        · rintro (h | (h | h))
          · exact .inr (.inl h)
          · exact .inl h
          · exact .inr (.inr h)
theorem mergeU_up : ∀ (n : Nat) (a b : List ByteArray), a.length + b.length ≤ n → Up a → Up b → Up (mergeU a b)
  | _, [], b, _, _, hb => by rw [mergeU_left]; exact hb
  | _, y :: a, [], _, ha, _ => by rw [mergeU_nil]; exact ha
  | 0, y :: a, z :: b, h, _, _ => by simp at h
  | n + 1, y :: a, z :: b, h, ha, hb => by
    simp only [List.length_cons] at h
    have ha' := List.pairwise_cons.1 (show List.Pairwise _ (y :: a) from ha)
    have hb' := List.pairwise_cons.1 (show List.Pairwise _ (z :: b) from hb)
    unfold mergeU
    split
    · rename_i hl
      refine List.pairwise_cons.2 ⟨fun x hx => ?_, mergeU_up n a (z :: b) (by simp only [List.length_cons]; omega) ha'.2 hb⟩
      rcases (mergeU_mem n a (z :: b) (by simp only [List.length_cons]; omega) x).1 hx with h | h
      · exact ha'.1 x h
      · rcases List.mem_cons.1 h with rfl | h
        · exact hl
        · exact lessB_trans hl (hb'.1 x h)
    · rename_i hl
      split
      · rename_i he
        have hyz : y = z := ByteArray_toList_inj (by simpa using he)
        subst hyz
        refine List.pairwise_cons.2 ⟨fun x hx => ?_, mergeU_up n a b (by omega) ha'.2 hb'.2⟩
        rcases (mergeU_mem n a b (by omega) x).1 hx with h | h
        · exact ha'.1 x h
        · exact hb'.1 x h
      · rename_i he
        have hzy : lessB z y = true := by
          rcases lessB_tri y z with g | g | g
          · exact absurd g hl
          · subst g; exact absurd (by simp) he
          · exact g
        refine List.pairwise_cons.2 ⟨fun x hx => ?_, mergeU_up n (y :: a) b (by simp only [List.length_cons]; omega) ha hb'.2⟩
        rcases (mergeU_mem n (y :: a) b (by simp only [List.length_cons]; omega) x).1 hx with h | h
        · rcases List.mem_cons.1 h with rfl | h
          · exact hzy
          · exact lessB_trans hzy (ha'.1 x h)
        · exact hb'.1 x h
theorem mergeU_keys {a b : List ByteArray} (ha : Up a) (hb : Up b) : mergeU a b = objKeys (a ++ b) :=
  up_eq (mergeU_up _ a b (Nat.le_refl _) ha hb) (objKeys_up _) fun x => by rw [mergeU_mem _ a b (Nat.le_refl _), objKeys_mem, List.mem_append]
end Go.Proofs.YtioaieacogoemaaGreat

/- The plain mathematics of merging, round by round; what stands at a path when a value is put there. -/
namespace Go.Proofs.YtioaieacogoemaaGreat
open Go.RowKit
theorem member_at {a : V} {s : ByteArray} {j : Nat} {v : V} (h : findKey a.keys s = some j) (hv : a.kids[j]? = some v) : a.member s = v := by
  unfold V.member
  rw [h]
  simp only
  rw [List.getD_eq_getElem?_getD, hv]
  rfl
end Go.Proofs.YtioaieacogoemaaGreat


