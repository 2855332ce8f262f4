/- The plain mathematics of comparing values. -/
import Derived.Test.YtioaieacogoemaaKM09
set_option linter.unusedSimpArgs false
set_option linter.unusedVariables false
set_option linter.unnecessarySimpa false
namespace Go.Proofs.Ytioaieacogoemaa
open Go.RowKit
def cmpI (a b : Int) : Int := if a < b then -1 else if b < a then 1 else 0
def cmpB (a b : ByteArray) : Int := if lessB a b then -1 else if a.toList == b.toList then 0 else 1
def orI (a b : Int) : Int := if a = 0 then b else a
def cmpKeys : List ByteArray → List ByteArray → Int
  | [], [] => 0
  | [], _ :: _ => -1
  | _ :: _, [] => 1
  | a :: as, b :: bs => orI (cmpB a b) (cmpKeys as bs)
mutual
def V.cmp : V → V → Int
  | .mk k n t ks vs, b => if k = b.kind then orI (cmpI n b.num) (orI (cmpB t b.text) (orI (cmpKeys ks b.keys) (cmpLV vs b.kids))) else cmpI k b.kind
def cmpLV : List V → List V → Int
  | [], [] => 0
  | [], _ :: _ => -1
  | _ :: _, [] => 1
  | a :: as, b :: bs => orI (a.cmp b) (cmpLV as bs)
end
theorem cmp_eq (a b : V) : a.cmp b = if a.kind = b.kind then orI (cmpI a.num b.num) (orI (cmpB a.text b.text) (orI (cmpKeys a.keys b.keys) (cmpLV a.kids b.kids))) else cmpI a.kind b.kind := by cases a; rfl
theorem orI_zero (a : Int) : orI 0 a = a := rfl
theorem orI_right (a : Int) : orI a 0 = a := by unfold orI; split <;> simp_all
theorem orI_assoc (a b c : Int) : orI (orI a b) c = orI a (orI b c) := by
  unfold orI
  by_cases h : a = 0 <;> simp [h]
theorem orI_ne {a : Int} (h : a ≠ 0) (b : Int) : orI a b = a := if_neg h
theorem orI_null {a b : Int} : orI a b = 0 ↔ a = 0 ∧ b = 0 := by
  unfold orI
  split
  · rename_i h; simp [h]
  · rename_i h; simp [h]
theorem cmpI_null {a b : Int} : cmpI a b = 0 ↔ a = b := by
  unfold cmpI
  repeat' split
  all_goals omega
theorem cmpI_self (a : Int) : cmpI a a = 0 := cmpI_null.2 rfl
theorem cmpB_null {a b : ByteArray} : cmpB a b = 0 ↔ a = b := by
  unfold cmpB
  constructor
  · intro h
    split at h
    · cases h
    · split at h
      · rename_i h2
        exact ByteArray_toList_inj (by simpa using h2)
      · cases h
  · rintro rfl
    rw [lessB_irrefl]
    simp
theorem cmpB_self (a : ByteArray) : cmpB a a = 0 := cmpB_null.2 rfl
theorem cmpKeys_null : ∀ {a b : List ByteArray}, cmpKeys a b = 0 ↔ a = b
  | [], [] => by simp [cmpKeys]
  | [], _ :: _ => by simp [cmpKeys]
  | _ :: _, [] => by simp [cmpKeys]
  | a :: as, b :: bs => by
    unfold cmpKeys
    rw [orI_null, cmpB_null, cmpKeys_null]
    simp
theorem cmpKeys_self (a : List ByteArray) : cmpKeys a a = 0 := cmpKeys_null.2 rfl
mutual
theorem cmp_null : ∀ {a b : V}, a.cmp b = 0 ↔ a = b
  | .mk k n t ks vs, .mk k' n' t' ks' vs' => by
    have hv := @cmpLV_null vs vs'
    by_cases h : k = k'
    · have e : (V.mk k n t ks vs).cmp (.mk k' n' t' ks' vs') = orI (cmpI n n') (orI (cmpB t t') (orI (cmpKeys ks ks') (cmpLV vs vs'))) := by
        rw [cmp_eq]
        exact if_pos h
      rw [e, orI_null, orI_null, orI_null, cmpI_null, cmpB_null, cmpKeys_null, hv]
      simp [h]
    · have e : (V.mk k n t ks vs).cmp (.mk k' n' t' ks' vs') = cmpI k k' := by
        rw [cmp_eq]
        exact if_neg h
      rw [e, cmpI_null]
      simp [h]
theorem cmpLV_null : ∀ {a b : List V}, cmpLV a b = 0 ↔ a = b
  | [], [] => by simp [cmpLV]
  | [], _ :: _ => by simp [cmpLV]
  | _ :: _, [] => by simp [cmpLV]
  | a :: as, b :: bs => by
    unfold cmpLV
    rw [orI_null, cmp_null, cmpLV_null]
    simp
end
theorem cmpLV_drop {a b : List V} {i : Nat} (h1 : i < a.length) (h2 : i < b.length) : cmpLV (a.drop i) (b.drop i) = orI (a[i].cmp b[i]) (cmpLV (a.drop (i + 1)) (b.drop (i + 1))) := by
  rw [List.drop_eq_getElem_cons h1, List.drop_eq_getElem_cons h2]
  rfl
theorem cmpLV_end {a b : List V} {i : Nat} (h1 : i ≤ a.length) (h2 : i ≤ b.length) (h : ¬ (i < a.length ∧ i < b.length)) : cmpLV (a.drop i) (b.drop i) = cmpI a.length b.length := by
  by_cases ha : i < a.length
  · have hb : i = b.length := by omega
    rw [List.drop_eq_getElem_cons ha, List.drop_eq_nil_of_le (as := b) (by omega)]
    simp only [cmpLV, cmpI]
    rw [if_neg (by omega), if_pos (by omega)]
  · rw [List.drop_eq_nil_of_le (as := a) (by omega)]
    by_cases hb : i < b.length
    · rw [List.drop_eq_getElem_cons hb]
      simp only [cmpLV, cmpI]
      rw [if_pos (by omega)]
    · rw [List.drop_eq_nil_of_le (as := b) (by omega)]
      simp only [cmpLV, cmpI]
      rw [if_neg (by omega), if_neg (by omega)]
theorem cmpKeys_drop {a b : List ByteArray} {i : Nat} (h1 : i < a.length) (h2 : i < b.length) : cmpKeys (a.drop i) (b.drop i) = orI (cmpB a[i] b[i]) (cmpKeys (a.drop (i + 1)) (b.drop (i + 1))) := by
  rw [List.drop_eq_getElem_cons h1, List.drop_eq_getElem_cons h2]
  rfl
theorem cmpKeys_end {a b : List ByteArray} {i : Nat} (h1 : i ≤ a.length) (h2 : i ≤ b.length) (h : ¬ (i < a.length ∧ i < b.length)) : cmpKeys (a.drop i) (b.drop i) = cmpI a.length b.length := by
  by_cases ha : i < a.length
  · have hb : i = b.length := by omega
    rw [List.drop_eq_getElem_cons ha, List.drop_eq_nil_of_le (as := b) (by omega)]
    simp only [cmpKeys, cmpI]
    rw [if_neg (by omega), if_pos (by omega)]
  · rw [List.drop_eq_nil_of_le (as := a) (by omega)]
    by_cases hb : i < b.length
    · rw [List.drop_eq_getElem_cons hb]
      simp only [cmpKeys, cmpI]
      rw [if_pos (by omega)]
    · rw [List.drop_eq_nil_of_le (as := b) (by omega)]
      simp only [cmpKeys, cmpI]
      rw [if_neg (by omega), if_neg (by omega)]
/-- What a kind leaves empty. -/
theorem right_shape {t : V} (h : t.wf) : 0 ≤ t.kind ∧ t.kind ≤ 6 ∧ (t.kind ≠ 3 → t.num = 0) ∧ (t.kind ≠ 4 → t.text = ByteArray.empty) ∧ (t.kind ≠ 6 → t.keys = []) ∧ (t.kind ≠ 5 → t.kind ≠ 6 → t.kids = []) := by
  obtain ⟨k, n, s, ks, vs⟩ := t
  simp only [V.wf] at h
  obtain ⟨h1, h2, _⟩ := h
  simp only [V.kind, V.num, V.text, V.keys, V.kids]
  unfold cellCode at h1
  split at h1
  · exact absurd h1 (by decide)
  · rename_i hk
    split at h1
    · exact absurd h1 (by decide)
    · rename_i hf
      unfold cF at hf
      unfold inB at hk
      unfold holds at hf
      simp only [Bool.not_eq_true', Bool.not_eq_false, Bool.and_eq_true, decide_eq_true_eq, Bool.or_eq_true, not_or, not_and, bne_iff_ne, ne_eq, Bool.not_eq_true, beq_eq_false_iff_ne] at hk hf
      obtain ⟨⟨f1, f2⟩, f3⟩ := hf
      refine ⟨hk.1, hk.2, fun h => ?_, fun h => ?_, fun h => ?_, fun h5 h6 => ?_⟩
      · by_cases hn : n = 0
        · exact hn
        · exact absurd (f1 hn) (by simpa using h)
      · by_cases hs : s.toList = []
        · exact empty_of hs
        · have := f2 (by simpa using hs)
          exact absurd this (by simpa using h)
      · unfold keysOk at h2
        rw [if_neg h] at h2
        exact h2
      · by_cases hn : (vs.length : Int) = 0
        · exact List.eq_nil_of_length_eq_zero (by omega)
        · have := f3 hn
          simp [h5, h6] at this
theorem cmp_plain {a b : V} (ha : a.wf) (hb : b.wf) (hk : a.kind = b.kind) (h3 : a.kind ≠ 3) (h4 : a.kind ≠ 4) (h5 : a.kind ≠ 5) (h6 : a.kind ≠ 6) : a.cmp b = 0 := by
  obtain ⟨_, _, a1, a2, a3, a4⟩ := right_shape ha
  obtain ⟨_, _, b1, b2, b3, b4⟩ := right_shape hb
  rw [← hk] at b1 b2 b3 b4
  rw [cmp_eq, if_pos hk, a1 h3, b1 h3, a2 h4, b2 h4, a3 h6, b3 h6, a4 h5 h6, b4 h5 h6, cmpI_self, cmpB_self, cmpKeys_self]
  rfl
theorem cmp_number {a b : V} (ha : a.wf) (hb : b.wf) (hk : a.kind = b.kind) (h3 : a.kind = 3) : a.cmp b = cmpI a.num b.num := by
  obtain ⟨_, _, a1, a2, a3, a4⟩ := right_shape ha
  obtain ⟨_, _, b1, b2, b3, b4⟩ := right_shape hb
  rw [← hk] at b1 b2 b3 b4
  rw [cmp_eq, if_pos hk, a2 (by omega), b2 (by omega), a3 (by omega), b3 (by omega), a4 (by omega) (by omega), b4 (by omega) (by omega), cmpB_self, cmpKeys_self]
  exact orI_right _
theorem cmp_text {a b : V} (ha : a.wf) (hb : b.wf) (hk : a.kind = b.kind) (h4 : a.kind = 4) : a.cmp b = cmpB a.text b.text := by
  obtain ⟨_, _, a1, a2, a3, a4⟩ := right_shape ha
  obtain ⟨_, _, b1, b2, b3, b4⟩ := right_shape hb
  rw [← hk] at b1 b2 b3 b4
  rw [cmp_eq, if_pos hk, a1 (by omega), b1 (by omega), a3 (by omega), b3 (by omega), a4 (by omega) (by omega), b4 (by omega) (by omega), cmpI_self, cmpKeys_self]
  exact orI_right _
theorem cmp_array {a b : V} (ha : a.wf) (hb : b.wf) (hk : a.kind = b.kind) (h5 : a.kind = 5) : a.cmp b = cmpLV a.kids b.kids := by
  obtain ⟨_, _, a1, a2, a3, a4⟩ := right_shape ha
  obtain ⟨_, _, b1, b2, b3, b4⟩ := right_shape hb
  rw [← hk] at b1 b2 b3 b4
  rw [cmp_eq, if_pos hk, a1 (by omega), b1 (by omega), a2 (by omega), b2 (by omega), a3 (by omega), b3 (by omega), cmpI_self, cmpB_self, cmpKeys_self]
  rfl
theorem cmp_object {a b : V} (ha : a.wf) (hb : b.wf) (hk : a.kind = b.kind) (h6 : a.kind = 6) : a.cmp b = orI (cmpKeys a.keys b.keys) (cmpLV a.kids b.kids) := by
  obtain ⟨_, _, a1, a2, a3, a4⟩ := right_shape ha
  obtain ⟨_, _, b1, b2, b3, b4⟩ := right_shape hb
  rw [← hk] at b1 b2 b3 b4
  rw [cmp_eq, if_pos hk, a1 (by omega), b1 (by omega), a2 (by omega), b2 (by omega), cmpI_self, cmpB_self]
  rfl
theorem cmpI_range (a b : Int) : -1 ≤ cmpI a b ∧ cmpI a b ≤ 1 := by
  unfold cmpI
  repeat' split
  all_goals omega
theorem cmpB_range (a b : ByteArray) : -1 ≤ cmpB a b ∧ cmpB a b ≤ 1 := by
  unfold cmpB
  repeat' split
  all_goals omega
theorem orI_range {a b : Int} (h1 : -1 ≤ a ∧ a ≤ 1) (h2 : -1 ≤ b ∧ b ≤ 1) : -1 ≤ orI a b ∧ orI a b ≤ 1 := by unfold orI; split <;> assumption
theorem cmpKeys_range : ∀ (a b : List ByteArray), -1 ≤ cmpKeys a b ∧ cmpKeys a b ≤ 1
  | [], [] => by simp [cmpKeys]
  | [], _ :: _ => by simp [cmpKeys]
  | _ :: _, [] => by simp [cmpKeys]
  | a :: as, b :: bs => orI_range (cmpB_range a b) (cmpKeys_range as bs)
mutual
theorem cmp_range : ∀ (a b : V), -1 ≤ a.cmp b ∧ a.cmp b ≤ 1
  | .mk k n t ks vs, b => by
    unfold V.cmp
    split
    · exact orI_range (cmpI_range _ _) (orI_range (cmpB_range _ _) (orI_range (cmpKeys_range _ _) (cmpLV_range _ _)))
    · exact cmpI_range _ _
theorem cmpLV_range : ∀ (a b : List V), -1 ≤ cmpLV a b ∧ cmpLV a b ≤ 1
  | [], [] => by simp [cmpLV]
  | [], _ :: _ => by simp [cmpLV]
  | _ :: _, [] => by simp [cmpLV]
  | a :: as, b :: bs => orI_range (cmp_range a b) (cmpLV_range as bs)
end
end Go.Proofs.Ytioaieacogoemaa
