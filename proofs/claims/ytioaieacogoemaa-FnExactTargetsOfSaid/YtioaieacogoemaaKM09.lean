/- The plain mathematics of sorted keys: where a key stands. -/
import Derived.Test.YtioaieacogoemaaKM08
set_option linter.unusedSimpArgs false
set_option linter.unusedVariables false
set_option linter.unnecessarySimpa false
namespace Go.Proofs.Ytioaieacogoemaa
open Go.RowKit
def lessB (a b : ByteArray) : Bool := Op.bytesLess a.toList b.toList
theorem bytesLess_irrefl : ∀ (l : List UInt8), Op.bytesLess l l = false
  | [] => rfl
  | x :: l => by simp [Op.bytesLess, bytesLess_irrefl l]
theorem bytesLess_trans : ∀ {a b c : List UInt8}, Op.bytesLess a b = true → Op.bytesLess b c = true → Op.bytesLess a c = true
  | [], _, c :: cs, h1, h2 => rfl
  | [], b, [], h1, h2 => by cases b <;> simp [Op.bytesLess] at h1 h2
  | x :: a, [], _, h1, _ => by simp [Op.bytesLess] at h1
  | x :: a, y :: b, [], _, h2 => by simp [Op.bytesLess] at h2
  | x :: a, y :: b, z :: c, h1, h2 => by
    simp only [Op.bytesLess, Bool.or_eq_true, decide_eq_true_eq, Bool.and_eq_true, beq_iff_eq] at h1 h2 ⊢
    rcases h1 with h1 | ⟨rfl, h1⟩
    · rcases h2 with h2 | ⟨rfl, h2⟩
      · exact .inl (UInt8.lt_trans h1 h2)
      · exact .inl h1
    · rcases h2 with h2 | ⟨rfl, h2⟩
      · exact .inl h2
      · exact .inr ⟨rfl, bytesLess_trans h1 h2⟩
theorem bytesLess_tri : ∀ (a b : List UInt8), Op.bytesLess a b = true ∨ a = b ∨ Op.bytesLess b a = true
  | [], [] => .inr (.inl rfl)
  | [], _ :: _ => .inl rfl
  | _ :: _, [] => .inr (.inr rfl)
  | x :: a, y :: b => by
    simp only [Op.bytesLess, Bool.or_eq_true, decide_eq_true_eq, Bool.and_eq_true, beq_iff_eq]
    by_cases hxy : x < y
    · exact .inl (.inl hxy)
    · by_cases hyx : y < x
      · exact .inr (.inr (.inl hyx))
      · have : x = y := by
          apply UInt8.toNat_inj.1
          have h1 : ¬ x.toNat < y.toNat := fun h => hxy (UInt8.lt_iff_toNat_lt.2 h)
          have h2 : ¬ y.toNat < x.toNat := fun h => hyx (UInt8.lt_iff_toNat_lt.2 h)
          omega
        subst this
        rcases bytesLess_tri a b with h | rfl | h
        · exact .inl (.inr ⟨rfl, h⟩)
        · exact .inr (.inl rfl)
        · exact .inr (.inr (.inr ⟨rfl, h⟩))
theorem lessB_trans {a b c : ByteArray} (h1 : lessB a b = true) (h2 : lessB b c = true) : lessB a c = true := bytesLess_trans h1 h2
theorem lessB_irrefl (a : ByteArray) : lessB a a = false := bytesLess_irrefl _
theorem asc_from : ∀ {ks : List ByteArray} {p : ByteArray}, asc (some p) ks → ∀ {i : Nat} (hi : i < ks.length), lessB p ks[i] = true
  | [], _, _, i, hi => by simp at hi
  | k :: ks, p, h, 0, _ => h.1
  | k :: ks, p, h, i + 1, hi => by
    have := asc_from h.2 (i := i) (by simpa using hi)
    simp only [List.getElem_cons_succ]
    exact lessB_trans h.1 this
theorem asc_sorted : ∀ {ks : List ByteArray} {o : Option ByteArray}, asc o ks → ∀ {i j : Nat} (hij : i < j) (hj : j < ks.length), lessB (ks[i]'(by omega)) ks[j] = true
  | [], _, _, i, j, _, hj => by simp at hj
  | k :: ks, o, h, 0, j + 1, _, hj => by
    have h' : asc (some k) ks := by
      cases o with
      | none => exact h
      | some p => exact h.2
    simp only [List.getElem_cons_zero, List.getElem_cons_succ]
    exact asc_from h' (by simpa using hj)
  | k :: ks, o, h, i + 1, j + 1, hij, hj => by
    have h' : asc (some k) ks := by
      cases o with
      | none => exact h
      | some p => exact h.2
    simp only [List.getElem_cons_succ]
    exact asc_sorted h' (by omega) (by simpa using hj)
/-- Where a key is looked for comes out. -/
theorem findKey_at {ks : List ByteArray} {key : ByteArray} (hs : asc none ks) {p : Nat} (hp : p ≤ ks.length) (h1 : ∀ t (h : t < p), lessB (ks[t]'(by omega)) key = true) (h2 : ∀ t (h : t < ks.length), p ≤ t → lessB ks[t] key = false) :
    findKey ks key = if h : p < ks.length then (if ks[p].toList == key.toList then some p else none) else none := by
  have none_of : (∀ t (h : t < ks.length), ks[t].toList ≠ key.toList) → findKey ks key = none := by
    intro h
    unfold findKey
    rw [List.findIdx?_eq_none_iff]
    intro x hx
    obtain ⟨t, ht, rfl⟩ := List.getElem_of_mem hx
    simpa using h t ht
  have low : ∀ t (h : t < ks.length), t < p → ks[t].toList ≠ key.toList := by
    intro t h htp he
    have h3 := h1 t htp
    unfold lessB at h3
    rw [he, bytesLess_irrefl] at h3
    cases h3
  by_cases hlt : p < ks.length
  · rw [dif_pos hlt]
    by_cases he : (ks[p].toList == key.toList) = true
    · rw [if_pos he]
      unfold findKey
      rw [List.findIdx?_eq_some_iff_getElem]
      exact ⟨hlt, he, fun j hj => by simpa using low j (by omega) hj⟩
    · rw [if_neg he]
      refine none_of fun t ht => ?_
      by_cases htp : t < p
      · exact low t ht htp
      · by_cases hpt : t = p
        · subst hpt; simpa using he
        · intro hk
          have h3 := asc_sorted hs (i := p) (j := t) (by omega) ht
          have h4 := h2 p hlt (Nat.le_refl _)
          unfold lessB at h3 h4
          rw [hk] at h3
          rw [h3] at h4
          cases h4
  · rw [dif_neg hlt]
    exact none_of fun t ht => low t ht (by omega)
theorem right_asc {t : V} (h : t.right) (h6 : t.kind = 6) : asc none t.keys ∧ (∀ k ∈ t.keys, okText k = true) ∧ t.keys.length = t.kids.length := by
  obtain ⟨hw, _, _⟩ := h
  cases t
  simp only [V.wf, keysOk] at hw
  simp only [V.kind] at h6
  rw [if_pos h6] at hw
  exact ⟨hw.2.1.2.2, hw.2.1.2.1, hw.2.1.1⟩
end Go.Proofs.Ytioaieacogoemaa
