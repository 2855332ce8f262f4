/- The plain mathematics of trees: where the kids stand among the cells. -/
import Derived.Test.YtfmkejgdooammaaM04
namespace Go.Proofs.Ytfmkejgdooammaa
open Go.RowKit

/-- The place of the i-th kid. -/
def kp (ks : List V) (i : Nat) : Nat := 1 + countL (ks.take i)
def V.keyAt (t : V) (i : Nat) : ByteArray := if t.kind = 6 then (t.keys.drop i).headD ByteArray.empty else ByteArray.empty
theorem cellsL_drop : ∀ (kids : List V) (kind : Int) (keys : List ByteArray) (i : Nat), (cellsL kind keys kids).drop (countL (kids.take i)) = cellsL kind (keys.drop i) (kids.drop i)
  | [], kind, keys, i => by simp [cellsL]
  | k :: ks, kind, keys, 0 => by simp [countL]
  | k :: ks, kind, keys, i + 1 => by
    simp only [List.take_succ_cons, countL, cellsL, List.drop_succ_cons]
    have hl := cells_len k (if kind = 6 then keys.headD ByteArray.empty else ByteArray.empty)
    generalize V.cells (if kind = 6 then keys.headD ByteArray.empty else ByteArray.empty) k = kc at *
    rw [← List.drop_drop, show (kc ++ cellsL kind keys.tail ks).drop k.count = cellsL kind keys.tail ks by rw [← hl]; simp, cellsL_drop ks kind keys.tail i, List.drop_tail]
theorem enc_drop (t : V) (i : Nat) : t.enc.drop (kp t.kids i) = cellsL t.kind (t.keys.drop i) (t.kids.drop i) := by
  unfold V.enc kp
  rw [cells_head, Nat.add_comm, List.drop_succ_cons, cellsL_drop]
theorem enc_kid (t : V) {i : Nat} (h : i < t.kids.length) : t.enc.drop (kp t.kids i) = t.kids[i].cells (t.keyAt i) ++ t.enc.drop (kp t.kids (i + 1)) := by
  rw [enc_drop, enc_drop, List.drop_eq_getElem_cons h]
  simp only [cellsL, List.tail_drop]
  rfl
theorem countL_take_le (ks : List V) (i : Nat) : countL (ks.take i) ≤ countL ks := by
  induction ks generalizing i with
  | nil => simp [countL]
  | cons k ks ih => cases i with
    | zero => simp [countL]
    | succ i => have := ih i; simp only [List.take_succ_cons, countL]; omega
theorem countL_snoc (a : List V) (v : V) : countL (a ++ [v]) = countL a + v.count := by
  induction a with
  | nil => simp [countL]
  | cons x a ih => simp [countL, ih]; omega
theorem kp_succ (ks : List V) {i : Nat} (h : i < ks.length) : kp ks (i + 1) = kp ks i + ks[i].count := by
  unfold kp; rw [take_snoc h, countL_snoc]; omega
theorem kp_le (t : V) (i : Nat) : kp t.kids i ≤ t.count := by
  have := countL_take_le t.kids i; have := count_kids t; unfold kp; omega
theorem wf_kids {t : V} (h : t.wf) : wfL t.kids := by cases t; simp only [V.wf] at h; exact h.2.2
theorem wfL_mem : ∀ {ks : List V}, wfL ks → ∀ k ∈ ks, k.wf
  | [], _ => by simp
  | k :: ks, h => by
    simp only [wfL] at h
    intro x hx
    simp only [List.mem_cons] at hx
    rcases hx with rfl | hx
    · exact h.1
    · exact wfL_mem h.2 x hx
theorem wf_kid {t : V} (h : t.wf) {i : Nat} (hi : i < t.kids.length) : t.kids[i].wf := wfL_mem (wf_kids h) _ (List.getElem_mem hi)
theorem parse_kid {t : V} (hw : t.wf) {i : Nat} (h : i < t.kids.length) {m : Nat} (hm : t.count ≤ m) : parseV m (t.enc.drop (kp t.kids i)) = some (t.kids[i], t.enc.drop (kp t.kids (i + 1))) := by
  rw [enc_kid t h]
  have := countL_mem (List.getElem_mem h)
  have := count_kids t
  exact parseV_cells _ _ _ _ (wf_kid hw h) (by omega)
theorem end_kid {t : V} (hw : t.wf) {i : Nat} (h : i < t.kids.length) {m : Nat} (hm : t.count ≤ m) : endOf t.enc.length (parseV m (t.enc.drop (kp t.kids i))) = (kp t.kids (i + 1) : Nat) := by
  rw [parse_kid hw h hm, endOf_some, List.length_drop, enc_len]
  have := kp_le t (i + 1)
  omega
theorem enc_n {t : V} (hw : t.wf) : ∀ c ∈ t.enc, c.n ≤ 200 := fun c hc => (code_n (cells_codes t _ hw okText_empty c hc)).2
theorem enc_zero (t : V) (h : 0 < t.enc.length) : t.enc[0] = ⟨t.kind, t.num, t.text, ByteArray.empty, t.kids.length⟩ := by
  have := cells_head t ByteArray.empty
  simp only [V.enc, this, List.getElem_cons_zero]
theorem cells_slice {t : V} {i : Nat} (h : i < t.kids.length) : (t.enc.drop (kp t.kids i)).take t.kids[i].count = t.kids[i].cells (t.keyAt i) := by
  rw [enc_kid t h, List.take_append_of_le_length (by rw [cells_len]; omega), List.take_of_length_le (by rw [cells_len]; omega)]
theorem kids_len_le {t : V} (h : t.count ≤ 200) : t.kids.length ≤ 200 := by have := countL_len t.kids; have := count_kids t; omega
end Go.Proofs.Ytfmkejgdooammaa
