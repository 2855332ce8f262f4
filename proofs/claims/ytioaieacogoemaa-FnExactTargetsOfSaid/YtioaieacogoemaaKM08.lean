/- The plain mathematics of trees: right trees; a member, an element, what is at a path. -/
import Derived.Test.YtioaieacogoemaaKM1
set_option linter.unusedSimpArgs false
set_option linter.unusedVariables false
set_option linter.unnecessarySimpa false
namespace Go.Proofs.Ytioaieacogoemaa
open Go.RowKit

/-- A value without a fault. -/
def V.right (t : V) : Prop := t.wf ∧ t.count ≤ 200 ∧ t.depth ≤ 20
theorem ByteArray_toList_inj {a b : ByteArray} (h : a.toList = b.toList) : a = b := by
  rw [ByteArray.toList_eq, ByteArray.toList_eq] at h
  cases a; cases b
  simp at h
  rw [h]
theorem right_mem {t : V} (h : t.right) {k : V} (hk : k ∈ t.kids) : k.right := by
  obtain ⟨h1, h2, h3⟩ := h
  have h4 := countL_mem hk
  have h5 := count_kids t
  have h6 := depthL_mem hk
  have h7 := depth_kids t
  exact ⟨wfL_mem (wf_kids h1) k hk, by omega, by omega⟩
theorem right_null : nullV.right := by
  refine ⟨?_, by decide, by decide⟩
  refine ⟨?_, ?_, trivial⟩
  · decide +kernel
  · simp [keysOk]
theorem right_neat {t : V} (h : t.right) : t.neat := neat_wf t h.1
theorem right_dec {t : V} (h : t.right) : dec t.enc = (0, some t) := dec_enc h.1 h.2.1 h.2.2
/-- Where a key stands. -/
def findKey (keys : List ByteArray) (key : ByteArray) : Option Nat := keys.findIdx? fun k => k.toList == key.toList
def V.member (t : V) (key : ByteArray) : V := match findKey t.keys key with
  | some i => t.kids.getD i nullV
  | none => nullV
theorem findKey_some {keys : List ByteArray} {key : ByteArray} {i : Nat} (h : findKey keys key = some i) : ∃ hi : i < keys.length, keys[i] = key ∧ ∀ j (hj : j < i), keys[j]'(by omega) ≠ key := by
  unfold findKey at h
  rw [List.findIdx?_eq_some_iff_getElem] at h
  obtain ⟨h1, h2, h3⟩ := h
  refine ⟨h1, ByteArray_toList_inj (by simpa using h2), fun j hj he => ?_⟩
  have := h3 j hj
  rw [he] at this
  simp at this
theorem findKey_none {keys : List ByteArray} {key : ByteArray} (h : findKey keys key = none) : key ∉ keys := by
  unfold findKey at h
  rw [List.findIdx?_eq_none_iff] at h
  intro hm
  have := h key hm
  simp at this
theorem member_mem {t : V} (hn : t.neat) (h6 : t.kind = 6) (key : ByteArray) : t.member key = nullV ∨ t.member key ∈ t.kids := by
  unfold V.member
  split
  · rename_i i hi
    obtain ⟨h1, _⟩ := findKey_some hi
    have := neat_keys hn h6
    right
    rw [List.getD_eq_getElem?_getD, List.getElem?_eq_getElem (by omega), Option.getD_some]
    exact List.getElem_mem _
  · exact .inl rfl
theorem right_member {t : V} (h : t.right) (h6 : t.kind = 6) (key : ByteArray) : (t.member key).right := by
  rcases member_mem (right_neat h) h6 key with e | e
  · rw [e]; exact right_null
  · exact right_mem h e
/-- A value, or a code. -/
def Res := Int × Option V
def okR (t : V) : Int × Option V := (0, some t)
def badR (c : Int) : Int × Option V := (c, none)
def getKeyV (t : V) (key : ByteArray) : Int × Option V := if t.kind = 0 then okR nullV else if t.kind = 6 then okR (t.member key) else badR 6
def fromEnd (n : Int) (many : Nat) : Int := if n < 0 then n + many else n
def getIdxV (t : V) (n : Int) : Int × Option V :=
  if t.kind = 0 then okR nullV else if t.kind = 5 then okR (if 0 ≤ fromEnd n t.kids.length ∧ fromEnd n t.kids.length < t.kids.length then t.kids.getD (fromEnd n t.kids.length).toNat nullV else nullV) else badR 6
def getAtV (t k : V) : Int × Option V := if k.kind = 4 then getKeyV t k.text else if k.kind = 3 then getIdxV t k.num else badR 6
def getPathV : V → List V → Int × Option V
  | t, [] => okR t
  | t, k :: ks => match getAtV t k with
    | (_, some u) => getPathV u ks
    | (c, none) => (c, none)
def okRes (r : Int × Option V) : Prop := match r.2 with
  | some t => r.1 = 0 ∧ t.right
  | none => r.1 ≠ 0
theorem okRes_ok {t : V} (h : t.right) : okRes (okR t) := ⟨rfl, h⟩
theorem okRes_bad {c : Int} (h : c ≠ 0) : okRes (badR c) := h
theorem getKey_ok {t : V} (h : t.right) (key : ByteArray) : okRes (getKeyV t key) := by
  unfold getKeyV
  split
  · exact okRes_ok right_null
  · split
    · rename_i h6
      exact okRes_ok (right_member h h6 key)
    · exact okRes_bad (by decide)
theorem getIdx_ok {t : V} (h : t.right) (n : Int) : okRes (getIdxV t n) := by
  unfold getIdxV
  split
  · exact okRes_ok right_null
  · split
    · refine okRes_ok ?_
      split
      · rename_i hr
        rw [List.getD_eq_getElem?_getD, List.getElem?_eq_getElem (by omega), Option.getD_some]
        exact right_mem h (List.getElem_mem _)
      · exact right_null
    · exact okRes_bad (by decide)
theorem getAt_ok {t : V} (h : t.right) (k : V) : okRes (getAtV t k) := by
  unfold getAtV
  split
  · exact getKey_ok h _
  · split
    · exact getIdx_ok h _
    · exact okRes_bad (by decide)
theorem getPath_ok : ∀ (ks : List V) {t : V}, t.right → okRes (getPathV t ks)
  | [], t, h => okRes_ok h
  | k :: ks, t, h => by
    have h1 := getAt_ok h k
    unfold getPathV
    split
    · rename_i c u hu
      rw [hu] at h1
      exact getPath_ok ks h1.2
    · rename_i c hu
      rw [hu] at h1
      exact h1
end Go.Proofs.Ytioaieacogoemaa
