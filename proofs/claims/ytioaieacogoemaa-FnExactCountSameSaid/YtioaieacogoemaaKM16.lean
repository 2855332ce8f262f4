/- The plain mathematics of paths: what is got at a value's own path. -/
import Derived.Test.YtioaieacogoemaaKM15
import Derived.Test.YtioaieacogoemaaKM10
set_option linter.unusedSimpArgs false
set_option linter.unusedVariables false
set_option linter.unnecessarySimpa false
namespace Go.Proofs.Ytioaieacogoemaa
open Go.RowKit
theorem findKey_own {ks : List ByteArray} (hs : asc none ks) {i : Nat} (hi : i < ks.length) : findKey ks ks[i] = some i := by
  rw [findKey_at hs (key := ks[i]) (Nat.le_of_lt hi) (fun t h => asc_sorted hs h hi) (fun t h hp => ?_), dif_pos hi, if_pos (by simp)]
  by_cases he : t = i
  · subst he
    exact lessB_irrefl _
  · have h1 : lessB ks[i] ks[t] = true := asc_sorted hs (by omega) h
    cases h2 : lessB ks[t] ks[i] with
    | false => rfl
    | true =>
      have := lessB_trans h1 h2
      rw [lessB_irrefl] at this
      cases this
theorem getAt_own {t : V} (h : t.right) {i : Nat} (hi : i < t.kids.length) : getAtV t (t.keyV i) = okR t.kids[i] := by
  obtain ⟨_, _, _, _, _, hk⟩ := right_shape h.1
  unfold V.keyV
  split
  · rename_i h6
    obtain ⟨hasc, _, hl⟩ := right_asc h h6
    obtain ⟨hk', he⟩ := keyAt_get (right_neat h) h6 hi
    show getAtV t (strV (t.keyAt i)) = _
    have e1 : getAtV t (strV (t.keyAt i)) = getKeyV t (t.keyAt i) := rfl
    rw [e1]
    unfold getKeyV
    rw [if_neg (by omega), if_pos h6]
    unfold V.member
    rw [he, findKey_own hasc hk']
    simp only [List.getD_eq_getElem?_getD, List.getElem?_eq_getElem hi, Option.getD_some]
  · rename_i h6
    have h5 : t.kind = 5 := by
      by_cases h5 : t.kind = 5
      · exact h5
      · rw [hk h5 h6] at hi
        simp at hi
    have e1 : getAtV t (numV i) = getIdxV t i := rfl
    rw [e1]
    have e2 : fromEnd (i : Int) t.kids.length = i := by unfold fromEnd; rw [if_neg (by omega)]
    unfold getIdxV
    rw [if_neg (by omega), if_pos h5, e2, if_pos ⟨by omega, by omega⟩, Int.toNat_natCast, List.getD_eq_getElem?_getD, List.getElem?_eq_getElem hi, Option.getD_some]
theorem pathsL_mem (key : Nat → V) (ahead : List V) : ∀ (ks : List V) (i : Nat) (p : List V × V), p ∈ pathsL key i ks ahead → ∃ (j : Nat) (hj : j < ks.length), p ∈ ks[j].paths (ahead ++ [key (i + j)])
  | [], _, p, h => by simp [pathsL] at h
  | k :: ks, i, p, h => by
    simp only [pathsL, List.mem_append] at h
    rcases h with h | h
    · exact ⟨0, by simp, by simpa using h⟩
    · obtain ⟨j, hj, hp⟩ := pathsL_mem key ahead ks (i + 1) p h
      refine ⟨j + 1, by simpa using hj, ?_⟩
      rw [show i + (j + 1) = i + 1 + j by omega]
      simpa using hp
theorem path_get : ∀ (m : Nat) (t : V) (ahead : List V), t.count ≤ m → t.right → ∀ p ∈ t.paths ahead, ∃ rel, p.1 = ahead ++ rel ∧ getPathV t rel = okR p.2 ∧ (∀ k ∈ rel, k.right) ∧ rel.length < t.depth ∧ p.2.right
  | 0, t, _, hm, _ => by have := count_pos t; omega
  | m + 1, t, ahead, hm, ht => by
    intro p hp
    rw [paths_eq] at hp
    rcases List.mem_cons.1 hp with rfl | hp
    · exact ⟨[], by simp, rfl, by simp, by rw [depth_kids]; simp, ht⟩
    · obtain ⟨j, hj, hp⟩ := pathsL_mem _ _ _ _ _ hp
      rw [Nat.zero_add] at hp
      have hmem := List.getElem_mem hj
      have hc := countL_mem hmem
      have hck := count_kids t
      have hd := depthL_mem hmem
      have hdk := depth_kids t
      obtain ⟨rel, h1, h2, h3, h4, h5⟩ := path_get m t.kids[j] (ahead ++ [t.keyV j]) (by omega) (right_mem ht hmem) p hp
      refine ⟨t.keyV j :: rel, by rw [h1]; simp, ?_, fun k hk => ?_, by simp only [List.length_cons]; omega, h5⟩
      · unfold getPathV
        rw [getAt_own ht hj]
        exact h2
      · rcases List.mem_cons.1 hk with rfl | hk
        · exact (okKey_right (keyV_ok ht hj)).1
        · exact h3 k hk
theorem path_own {t : V} (ht : t.right) {p : List V × V} (hp : p ∈ t.paths []) : getPathV t p.1 = okR p.2 ∧ (∀ k ∈ p.1, k.right) ∧ p.1.length ≤ 20 ∧ p.2.right := by
  obtain ⟨rel, h1, h2, h3, h4, h5⟩ := path_get t.count t [] (Nat.le_refl _) ht p hp
  have h1' : p.1 = rel := by simpa using h1
  rw [h1']
  exact ⟨h2, h3, by have := ht.2.2; omega, h5⟩
/-- Whether another value holds the same at a path. -/
def sameAt (u : V) (p : List V × V) : Bool := match (getPathV u p.1).2 with
  | some v => v.cmp p.2 == 0
  | none => false
theorem sameAt_some {u v : V} {p : List V × V} {c : Int} (h : getPathV u p.1 = (c, some v)) : sameAt u p = (v.cmp p.2 == 0) ∧ sameAt u p = (p.2.cmp v == 0) := by
  have e : sameAt u p = (v.cmp p.2 == 0) := by unfold sameAt; rw [h]
  refine ⟨e, ?_⟩
  rw [e]
  by_cases hv : v = p.2
  · subst hv
    rfl
  · have h1 : v.cmp p.2 ≠ 0 := fun hh => hv (cmp_null.1 hh)
    have h2 : p.2.cmp v ≠ 0 := fun hh => hv (cmp_null.1 hh).symm
    rw [show (v.cmp p.2 == 0) = false by simpa using h1, show (p.2.cmp v == 0) = false by simpa using h2]
theorem sameAt_none {u : V} {p : List V × V} {c : Int} (h : getPathV u p.1 = (c, none)) : sameAt u p = false := by unfold sameAt; rw [h]
theorem keysOf_own {t : V} (h : t.right) (h6 : t.kind = 6) : (List.range t.kids.length).map t.keyAt = t.keys := by
  obtain ⟨_, _, hl⟩ := right_asc h h6
  apply List.ext_getElem
  · simp [hl]
  · intro i h1 h2
    rw [List.getElem_map, List.getElem_range]
    obtain ⟨_, he⟩ := keyAt_get (right_neat h) h6 (i := i) (by omega)
    exact he
end Go.Proofs.Ytioaieacogoemaa
