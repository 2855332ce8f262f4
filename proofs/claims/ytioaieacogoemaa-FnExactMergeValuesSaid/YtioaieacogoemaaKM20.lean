/- The plain mathematics of keys in order: two lists of keys joined; a key put where it belongs. -/
import Derived.Test.YtioaieacogoemaaKM2
import Derived.Test.YtioaieacogoemaaKG21
set_option linter.unusedSimpArgs false
set_option linter.unusedVariables false
set_option linter.unnecessarySimpa false
namespace Go.Proofs.Ytioaieacogoemaa
open Go.RowKit
def mergeU : List ByteArray → List ByteArray → List ByteArray
  | [], b => b
  | x :: a, [] => x :: a
  | x :: a, y :: b => if lessB x y then x :: mergeU a (y :: b) else if x.toList == y.toList then y :: mergeU a b else y :: mergeU (x :: a) b
termination_by a b => a.length + b.length
theorem mergeU_nil (a : List ByteArray) : mergeU a [] = a := by cases a <;> simp [mergeU]
theorem mergeU_left (b : List ByteArray) : mergeU [] b = b := by simp [mergeU]
theorem mergeU_mem : ∀ (n : Nat) (a b : List ByteArray), a.length + b.length ≤ n → ∀ x, x ∈ mergeU a b ↔ x ∈ a ∨ x ∈ b
  | _, [], b, _, x => by simp [mergeU]
  | _, y :: a, [], _, x => by simp [mergeU]
  | 0, y :: a, z :: b, h, x => by simp at h
  | n + 1, y :: a, z :: b, h, x => by
    simp only [List.length_cons] at h
    unfold mergeU
    split
    · rw [List.mem_cons, mergeU_mem n a (z :: b) (by simp only [List.length_cons]; omega) x]
      simp only [List.mem_cons]
      exact or_assoc.symm
    · split
      · rename_i he
        have hyz : y = z := ByteArray_toList_inj (by simpa using he)
        subst hyz
        rw [List.mem_cons, mergeU_mem n a b (by omega) x]
        simp only [List.mem_cons]
        constructor
        · rintro (h | h | h)
          · exact .inl (.inl h)
          · exact .inl (.inr h)
          · exact .inr (.inr h)
        · rintro ((h | h) | (h | h))
          · exact .inl h
          · exact .inr (.inl h)
          · exact .inl h
          · exact .inr (.inr h)
      · rw [List.mem_cons, mergeU_mem n (y :: a) b (by simp only [List.length_cons]; omega) x]
        simp only [List.mem_cons]
        constructor
        · rintro (h | h | h)
          · exact .inr (.inl h)
          · exact .inl h
          · exact .inr (.inr h)
        · rintro (h | (h | h))
          · exact .inr (.inl h)
          · exact .inl h
          · exact .inr (.inr h)
theorem mergeU_up : ∀ (n : Nat) (a b : List ByteArray), a.length + b.length ≤ n → Up a → Up b → Up (mergeU a b)
  | _, [], b, _, _, hb => by rw [mergeU_left]; exact hb
  | _, y :: a, [], _, ha, _ => by rw [mergeU_nil]; exact ha
  | 0, y :: a, z :: b, h, _, _ => by simp at h
  | n + 1, y :: a, z :: b, h, ha, hb => by
    simp only [List.length_cons] at h
    have ha' := List.pairwise_cons.1 (show List.Pairwise _ (y :: a) from ha)
    have hb' := List.pairwise_cons.1 (show List.Pairwise _ (z :: b) from hb)
    unfold mergeU
    split
    · rename_i hl
      refine List.pairwise_cons.2 ⟨fun x hx => ?_, mergeU_up n a (z :: b) (by simp only [List.length_cons]; omega) ha'.2 hb⟩
      rcases (mergeU_mem n a (z :: b) (by simp only [List.length_cons]; omega) x).1 hx with h | h
      · exact ha'.1 x h
      · rcases List.mem_cons.1 h with rfl | h
        · exact hl
        · exact lessB_trans hl (hb'.1 x h)
    · rename_i hl
      split
      · rename_i he
        have hyz : y = z := ByteArray_toList_inj (by simpa using he)
        subst hyz
        refine List.pairwise_cons.2 ⟨fun x hx => ?_, mergeU_up n a b (by omega) ha'.2 hb'.2⟩
        rcases (mergeU_mem n a b (by omega) x).1 hx with h | h
        · exact ha'.1 x h
        · exact hb'.1 x h
      · rename_i he
        have hzy : lessB z y = true := by
          rcases lessB_tri y z with g | g | g
          · exact absurd g hl
          · subst g; exact absurd (by simp) he
          · exact g
        refine List.pairwise_cons.2 ⟨fun x hx => ?_, mergeU_up n (y :: a) b (by simp only [List.length_cons]; omega) ha hb'.2⟩
        rcases (mergeU_mem n (y :: a) b (by simp only [List.length_cons]; omega) x).1 hx with h | h
        · rcases List.mem_cons.1 h with rfl | h
          · exact hzy
          · exact lessB_trans hzy (ha'.1 x h)
        · exact hb'.1 x h
theorem mergeU_keys {a b : List ByteArray} (ha : Up a) (hb : Up b) : mergeU a b = objKeys (a ++ b) :=
  up_eq (mergeU_up _ a b (Nat.le_refl _) ha hb) (objKeys_up _) fun x => by rw [mergeU_mem _ a b (Nat.le_refl _), objKeys_mem, List.mem_append]
theorem lessB_asym {a b : ByteArray} (h : lessB a b = true) : lessB b a = false := by
  cases h2 : lessB b a with
  | false => rfl
  | true =>
    have := lessB_trans h h2
    rw [lessB_irrefl] at this
    cases this
theorem bsPos_cons (x : ByteArray) (r : List ByteArray) (k : ByteArray) : bsPos (x :: r) k = if lessB x k then bsPos r k + 1 else 0 := by
  unfold bsPos
  rw [List.findIdx_cons]
  cases lessB x k <;> rfl
theorem bsFound_iff {l : List ByteArray} {k : ByteArray} : bsFound l k = true ↔ l[bsPos l k]? = some k := by
  unfold bsFound
  split
  · rename_i h
    rw [List.getElem?_eq_getElem h, beq_iff_eq, Option.some.injEq]
    exact ⟨ByteArray_toList_inj, fun e => by rw [e]⟩
  · rename_i h
    rw [List.getElem?_eq_none (by omega)]
    simp
theorem bsPos_at {l : List ByteArray} {k : ByteArray} (h : bsPos l k < l.length) : lessB l[bsPos l k] k = false := by
  have h2 : (fun x => !lessB x k) (l[bsPos l k]) = true := List.findIdx_getElem (w := h)
  simpa using h2
theorem insKey_pos : ∀ {l : List ByteArray} {k : ByteArray}, Up l → insKey k l = if bsFound l k then l else l.take (bsPos l k) ++ [k] ++ l.drop (bsPos l k)
  | [], k, _ => by simp [insKey, bsFound, bsPos]
  | x :: r, k, h => by
    have h' := List.pairwise_cons.1 (show List.Pairwise _ (x :: r) from h)
    unfold insKey
    split
    · rename_i hl
      have hx := lessB_asym hl
      have hp : bsPos (x :: r) k = 0 := by rw [bsPos_cons, hx]; rfl
      have hf : bsFound (x :: r) k = false := by
        cases hf : bsFound (x :: r) k with
        | false => rfl
        | true =>
          have := bsFound_iff.1 hf
          rw [hp] at this
          have e : x = k := by simpa using this
          subst e
          rw [lessB_irrefl] at hl
          cases hl
      rw [hf, hp]
      simp
    · rename_i hl
      split
      · rename_i he
        have e : k = x := ByteArray_toList_inj (by simpa using he)
        subst e
        have hp : bsPos (k :: r) k = 0 := by rw [bsPos_cons, lessB_irrefl]; rfl
        have hf : bsFound (k :: r) k = true := bsFound_iff.2 (by rw [hp]; rfl)
        rw [hf]
        rfl
      · rename_i he
        have hxk : lessB x k = true := by
          rcases lessB_tri x k with g | g | g
          · exact g
          · subst g; exact absurd (by simp) he
          · exact absurd g hl
        have hp : bsPos (x :: r) k = bsPos r k + 1 := by rw [bsPos_cons, hxk]; rfl
        have hf : bsFound (x :: r) k = bsFound r k := by
          have : bsFound (x :: r) k = true ↔ bsFound r k = true := by
            rw [bsFound_iff, bsFound_iff, hp, List.getElem?_cons_succ]
          cases h1 : bsFound (x :: r) k <;> cases h2 : bsFound r k <;> simp_all
        rw [hf, hp, insKey_pos h'.2]
        split
        · rfl
        · simp
theorem setMap {l : List ByteArray} (h : Up l) {p : Nat} {k : ByteArray} (hp : l[p]? = some k) (g g' : ByteArray → V) (v : V) (hk : g' k = v) (hg : ∀ x ∈ l, x ≠ k → g' x = g x) : l.map g' = (l.map g).set p v := by
  refine List.ext_getElem (by simp) fun i h1 h2 => ?_
  have hi : i < l.length := by simpa using h1
  rw [List.getElem_map, List.getElem_set]
  split
  · rename_i e
    subst e
    rw [List.getElem?_eq_getElem hi] at hp
    rw [Option.some.inj hp, hk]
  · rename_i e
    rw [List.getElem_map]
    refine hg _ (List.getElem_mem hi) fun hx => e ?_
    exact up_inj h hp (List.getElem?_eq_some_iff.2 ⟨hi, hx⟩)
end Go.Proofs.Ytioaieacogoemaa
