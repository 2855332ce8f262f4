/- The plain mathematics of merging, round by round; what stands at a path when a value is put there. -/
import Derived.Test.YtioaieacogoemaaKM20
set_option linter.unusedSimpArgs false
set_option linter.unusedVariables false
set_option linter.unnecessarySimpa false
namespace Go.Proofs.Ytioaieacogoemaa
open Go.RowKit
theorem keep_none {bk : List ByteArray} {bv : List V} {s : ByteArray} (h : findKey bk s = none) : keepK bk bv s = true := by
  unfold keepK
  rw [h]
  rfl
theorem keep_some {bk : List ByteArray} {bv : List V} {s : ByteArray} {k : Nat} {v : V} (h : findKey bk s = some k) (hv : bv[k]? = some v) : keepK bk bv s = !(v.kind == 0) := by
  unfold keepK memL
  rw [h]
  simp only [Option.isSome_some, Bool.true_and]
  rw [List.getD_eq_getElem?_getD, hv]
  rfl
theorem pick_none {a : V} {bk : List ByteArray} {ml : List V} {s : ByteArray} (h : findKey bk s = none) : pickV a bk ml s = a.member s := by
  unfold pickV
  rw [h]
  rfl
theorem pick_some {a : V} {bk : List ByteArray} {bv : List V} {s : ByteArray} {k : Nat} {v : V} (h : findKey bk s = some k) (hv : bv[k]? = some v) : pickV a bk (mergeL a bk bv) s = mergeV (a.member s) v := by
  obtain ⟨h1, h2, _⟩ := findKey_some h
  obtain ⟨h3, h4⟩ := List.getElem?_eq_some_iff.1 hv
  have hm := mergeL_get a bk bv k h1 h3
  unfold pickV memL
  rw [h]
  simp only [Option.isSome_some, if_true]
  rw [List.getD_eq_getElem?_getD, hm, h2, h4]
  rfl
theorem member_at {a : V} {s : ByteArray} {j : Nat} {v : V} (h : findKey a.keys s = some j) (hv : a.kids[j]? = some v) : a.member s = v := by
  unfold V.member
  rw [h]
  simp only
  rw [List.getD_eq_getElem?_getD, hv]
  rfl
theorem member_no {a : V} {s : ByteArray} (h : findKey a.keys s = none) : a.member s = nullV := by
  unfold V.member
  rw [h]
theorem merge_plain {a b : V} (h : b.kind ≠ 6) : mergeV a b = b := by
  cases b
  simp only [V.kind] at h
  unfold mergeV
  rw [if_neg h]
theorem merge_obj {a b : V} (h : b.kind = 6) : mergeV a b = mergeO (asObj a) b.keys b.kids (mergeL (asObj a) b.keys b.kids) := by
  cases b
  simp only [V.kind] at h
  unfold mergeV
  rw [if_pos h]
  rfl
theorem asObj_obj {a : V} (h : a.kind = 6) : asObj a = a := if_pos h
theorem asObj_no {a : V} (h : a.kind ≠ 6) : asObj a = emptyO := if_neg h
theorem right_obj {a : V} (h : a.right) : (asObj a).right := by
  unfold asObj
  split
  · exact h
  · exact ⟨wf_obj (a := nullV) right_null.1, by decide, by decide⟩
theorem obj_six (a : V) : (asObj a).kind = 6 := by
  unfold asObj
  split
  · assumption
  · rfl
/-! ### what is put at a path -/
theorem give_ok {t : V} (h : t.fit) : okRes (giveR t) := by
  unfold giveR
  split
  · rename_i h0
    exact ⟨rfl, fit_dec h h0⟩
  · rename_i h0
    exact h0
end Go.Proofs.Ytioaieacogoemaa
