/- Texts of this proof: M08 M09 M10 M15 M16 M18 M19. -/
import Derived.Test.YtioaieacogoemaaGreatKM1
set_option linter.unusedSimpArgs false
set_option linter.unusedVariables false
set_option linter.unnecessarySimpa false
namespace Go.Proofs.YtioaieacogoemaaGreat
open Go.RowKit

/-- A value without a fault. -/
def V.right (t : V) : Prop := t.wf ∧ t.count ≤ 200 ∧ t.depth ≤ 20
theorem ByteArray_toList_inj {a b : ByteArray} (h : a.toList = b.toList) : a = b := by
  rw [ByteArray.toList_eq, ByteArray.toList_eq] at h
  cases a; cases b
  simp at h
  rw [h]
theorem right_mem {t : V} (h : t.right) {k : V} (hk : k ∈ t.kids) : k.right := by
  obtain ⟨h1, h2, h3⟩ := h
  have h4 := countL_mem hk
  have h5 := count_kids t
  have h6 := depthL_mem hk
  have h7 := depth_kids t
  exact ⟨wfL_mem (wf_kids h1) k hk, by omega, by omega⟩
theorem right_null : nullV.right := by
  refine ⟨?_, by decide, by decide⟩
  refine ⟨?_, ?_, trivial⟩
  · decide +kernel
  · simp [keysOk]
theorem right_neat {t : V} (h : t.right) : t.neat := neat_wf t h.1
/-- Where a key stands. -/
def findKey (keys : List ByteArray) (key : ByteArray) : Option Nat := keys.findIdx? fun k => k.toList == key.toList
def V.member (t : V) (key : ByteArray) : V := match findKey t.keys key with
  | some i => t.kids.getD i nullV
  | none => nullV
theorem findKey_some {keys : List ByteArray} {key : ByteArray} {i : Nat} (h : findKey keys key = some i) : ∃ hi : i < keys.length, keys[i] = key ∧ ∀ j (hj : j < i), keys[j]'(by omega) ≠ key := by
  unfold findKey at h
  rw [List.findIdx?_eq_some_iff_getElem] at h
  obtain ⟨h1, h2, h3⟩ := h
  refine ⟨h1, ByteArray_toList_inj (by simpa using h2), fun j hj he => ?_⟩
  have := h3 j hj
  rw [he] at this
  simp at this
theorem member_mem {t : V} (hn : t.neat) (h6 : t.kind = 6) (key : ByteArray) : t.member key = nullV ∨ t.member key ∈ t.kids := by
  unfold V.member
  split
  · rename_i i hi
    obtain ⟨h1, _⟩ := findKey_some hi
    have := neat_keys hn h6
    right
    rw [List.getD_eq_getElem?_getD, List.getElem?_eq_getElem (by omega), Option.getD_some]
    exact List.getElem_mem _
  · exact .inl rfl
theorem right_member {t : V} (h : t.right) (h6 : t.kind = 6) (key : ByteArray) : (t.member key).right := by
  rcases member_mem (right_neat h) h6 key with e | e
  · rw [e]; exact right_null
  · exact right_mem h e
end Go.Proofs.YtioaieacogoemaaGreat

/- The plain mathematics of sorted keys: where a key stands. -/
namespace Go.Proofs.YtioaieacogoemaaGreat
open Go.RowKit
def lessB (a b : ByteArray) : Bool := Op.bytesLess a.toList b.toList
theorem bytesLess_irrefl : ∀ (l : List UInt8), Op.bytesLess l l = false
  | [] => rfl
  | x :: l => by simp [Op.bytesLess, bytesLess_irrefl l]
theorem bytesLess_trans : ∀ {a b c : List UInt8}, Op.bytesLess a b = true → Op.bytesLess b c = true → Op.bytesLess a c = true
  | [], _, c :: cs, h1, h2 => rfl
  | [], b, [], h1, h2 => by cases b <;> simp [Op.bytesLess] at h1 h2
  | x :: a, [], _, h1, _ => by simp [Op.bytesLess] at h1
  | x :: a, y :: b, [], _, h2 => by simp [Op.bytesLess] at h2
  | x :: a, y :: b, z :: c, h1, h2 => by
    simp only [Op.bytesLess, Bool.or_eq_true, decide_eq_true_eq, Bool.and_eq_true, beq_iff_eq] at h1 h2 ⊢
    rcases h1 with h1 | ⟨rfl, h1⟩
    · rcases h2 with h2 | ⟨rfl, h2⟩
      · exact .inl (UInt8.lt_trans h1 h2)
      · exact .inl h1
    · rcases h2 with h2 | ⟨rfl, h2⟩
      · exact .inl h2
      · exact .inr ⟨rfl, bytesLess_trans h1 h2⟩
theorem bytesLess_tri : ∀ (a b : List UInt8), Op.bytesLess a b = true ∨ a = b ∨ Op.bytesLess b a = true
  | [], [] => .inr (.inl rfl)
  | [], _ :: _ => .inl rfl
  | _ :: _, [] => .inr (.inr rfl)
  | x :: a, y :: b => by
    simp only [Op.bytesLess, Bool.or_eq_true, decide_eq_true_eq, Bool.and_eq_true, beq_iff_eq]
    by_cases hxy : x < y
    · exact .inl (.inl hxy)
    · by_cases hyx : y < x
      · exact .inr (.inr (.inl hyx))
      · have : x = y := by
          apply UInt8.toNat_inj.1
          have h1 : ¬ x.toNat < y.toNat := fun h => hxy (UInt8.lt_iff_toNat_lt.2 h)
          have h2 : ¬ y.toNat < x.toNat := fun h => hyx (UInt8.lt_iff_toNat_lt.2 h)
          omega
        subst this
        rcases bytesLess_tri a b with h | rfl | h
        · exact .inl (.inr ⟨rfl, h⟩)
        · exact .inr (.inl rfl)
        · exact .inr (.inr (.inr ⟨rfl, h⟩))
theorem lessB_trans {a b c : ByteArray} (h1 : lessB a b = true) (h2 : lessB b c = true) : lessB a c = true := bytesLess_trans h1 h2
theorem lessB_irrefl (a : ByteArray) : lessB a a = false := bytesLess_irrefl _
theorem asc_from : ∀ {ks : List ByteArray} {p : ByteArray}, asc (some p) ks → ∀ {i : Nat} (hi : i < ks.length), lessB p ks[i] = true
  | [], _, _, i, hi => by simp at hi
  | k :: ks, p, h, 0, _ => h.1
  | k :: ks, p, h, i + 1, hi => by
    have := asc_from h.2 (i := i) (by simpa using hi)
    simp only [List.getElem_cons_succ]
    exact lessB_trans h.1 this
theorem asc_sorted : ∀ {ks : List ByteArray} {o : Option ByteArray}, asc o ks → ∀ {i j : Nat} (hij : i < j) (hj : j < ks.length), lessB (ks[i]'(by omega)) ks[j] = true
  | [], _, _, i, j, _, hj => by simp at hj
  | k :: ks, o, h, 0, j + 1, _, hj => by
    have h' : asc (some k) ks := by
      cases o with
      | none => exact h
      | some p => exact h.2
    simp only [List.getElem_cons_zero, List.getElem_cons_succ]
    exact asc_from h' (by simpa using hj)
  | k :: ks, o, h, i + 1, j + 1, hij, hj => by
    have h' : asc (some k) ks := by
      cases o with
      | none => exact h
      | some p => exact h.2
    simp only [List.getElem_cons_succ]
    exact asc_sorted h' (by omega) (by simpa using hj)
/-- Where a key is looked for comes out. -/
theorem findKey_at {ks : List ByteArray} {key : ByteArray} (hs : asc none ks) {p : Nat} (hp : p ≤ ks.length) (h1 : ∀ t (h : t < p), lessB (ks[t]'(by omega)) key = true) (h2 : ∀ t (h : t < ks.length), p ≤ t → lessB ks[t] key = false) :
    findKey ks key = if h : p < ks.length then (if ks[p].toList == key.toList then some p else none) else none := by
  have none_of : (∀ t (h : t < ks.length), ks[t].toList ≠ key.toList) → findKey ks key = none := by
    intro h
    unfold findKey
    rw [List.findIdx?_eq_none_iff]
    intro x hx
    obtain ⟨t, ht, rfl⟩ := List.getElem_of_mem hx
    simpa using h t ht
  have low : ∀ t (h : t < ks.length), t < p → ks[t].toList ≠ key.toList := by
    intro t h htp he
    have h3 := h1 t htp
    unfold lessB at h3
    rw [he, bytesLess_irrefl] at h3
    cases h3
  by_cases hlt : p < ks.length
  · rw [dif_pos hlt]
    by_cases he : (ks[p].toList == key.toList) = true
    · rw [if_pos he]
      unfold findKey
      rw [List.findIdx?_eq_some_iff_getElem]
      exact ⟨hlt, he, fun j hj => by simpa using low j (by omega) hj⟩
    · rw [if_neg he]
      refine none_of fun t ht => ?_
      by_cases htp : t < p
      · exact low t ht htp
      · by_cases hpt : t = p
        · subst hpt; simpa using he
        · intro hk
          have h3 := asc_sorted hs (i := p) (j := t) (by omega) ht
          have h4 := h2 p hlt (Nat.le_refl _)
          unfold lessB at h3 h4
          rw [hk] at h3
          rw [h3] at h4
          cases h4
  · rw [dif_neg hlt]
    exact none_of fun t ht => low t ht (by omega)
theorem right_asc {t : V} (h : t.right) (h6 : t.kind = 6) : asc none t.keys ∧ (∀ k ∈ t.keys, okText k = true) ∧ t.keys.length = t.kids.length := by
  obtain ⟨hw, _, _⟩ := h
  cases t
  simp only [V.wf, keysOk] at hw
  simp only [V.kind] at h6
  rw [if_pos h6] at hw
  exact ⟨hw.2.1.2.2, hw.2.1.2.1, hw.2.1.1⟩
end Go.Proofs.YtioaieacogoemaaGreat

/- The plain mathematics of trees: the events of a value. -/
namespace Go.Proofs.YtioaieacogoemaaGreat
open Go.RowKit
/-- An event: a path; the leaf that stands there, or none at the end of an array or object. -/
abbrev Ev := List V × Option V
/-- The value of an event. -/
def evV (e : Ev) : V := match e.2 with
  | some t => arrV [arrV e.1, t]
  | none => arrV [arrV e.1]
end Go.Proofs.YtioaieacogoemaaGreat

/- The plain mathematics of comparing values. -/
namespace Go.Proofs.YtioaieacogoemaaGreat
open Go.RowKit
def cmpI (a b : Int) : Int := if a < b then -1 else if b < a then 1 else 0
def cmpB (a b : ByteArray) : Int := if lessB a b then -1 else if a.toList == b.toList then 0 else 1
def orI (a b : Int) : Int := if a = 0 then b else a
def cmpKeys : List ByteArray → List ByteArray → Int
  | [], [] => 0
  | [], _ :: _ => -1
  | _ :: _, [] => 1
  | a :: as, b :: bs => orI (cmpB a b) (cmpKeys as bs)
mutual
def V.cmp : V → V → Int
  | .mk k n t ks vs, b => if k = b.kind then orI (cmpI n b.num) (orI (cmpB t b.text) (orI (cmpKeys ks b.keys) (cmpLV vs b.kids))) else cmpI k b.kind
def cmpLV : List V → List V → Int
  | [], [] => 0
  | [], _ :: _ => -1
  | _ :: _, [] => 1
  | a :: as, b :: bs => orI (a.cmp b) (cmpLV as bs)
end
theorem cmp_eq (a b : V) : a.cmp b = if a.kind = b.kind then orI (cmpI a.num b.num) (orI (cmpB a.text b.text) (orI (cmpKeys a.keys b.keys) (cmpLV a.kids b.kids))) else cmpI a.kind b.kind := by cases a; rfl
theorem orI_zero (a : Int) : orI 0 a = a := rfl
theorem orI_right (a : Int) : orI a 0 = a := by unfold orI; split <;> simp_all
theorem orI_assoc (a b c : Int) : orI (orI a b) c = orI a (orI b c) := by
  unfold orI
  by_cases h : a = 0 <;> simp [h]
theorem orI_ne {a : Int} (h : a ≠ 0) (b : Int) : orI a b = a := if_neg h
theorem orI_null {a b : Int} : orI a b = 0 ↔ a = 0 ∧ b = 0 := by
  unfold orI
  split
  · rename_i h; simp [h]
  · rename_i h; simp [h]
theorem cmpI_null {a b : Int} : cmpI a b = 0 ↔ a = b := by
  unfold cmpI
  repeat' split
  all_goals omega
theorem cmpI_self (a : Int) : cmpI a a = 0 := cmpI_null.2 rfl
theorem cmpB_null {a b : ByteArray} : cmpB a b = 0 ↔ a = b := by
  unfold cmpB
  constructor
  · intro h
    split at h
    · cases h
    · split at h
      · rename_i h2
        exact ByteArray_toList_inj (by simpa using h2)
      · cases h
  · rintro rfl
    rw [lessB_irrefl]
    simp
theorem cmpB_self (a : ByteArray) : cmpB a a = 0 := cmpB_null.2 rfl
theorem cmpKeys_null : ∀ {a b : List ByteArray}, cmpKeys a b = 0 ↔ a = b
  | [], [] => by simp [cmpKeys]
  | [], _ :: _ => by simp [cmpKeys]
  | _ :: _, [] => by simp [cmpKeys]
  | a :: as, b :: bs => by
    unfold cmpKeys
    rw [orI_null, cmpB_null, cmpKeys_null]
    simp
theorem cmpKeys_self (a : List ByteArray) : cmpKeys a a = 0 := cmpKeys_null.2 rfl
theorem cmpLV_drop {a b : List V} {i : Nat} (h1 : i < a.length) (h2 : i < b.length) : cmpLV (a.drop i) (b.drop i) = orI (a[i].cmp b[i]) (cmpLV (a.drop (i + 1)) (b.drop (i + 1))) := by
  rw [List.drop_eq_getElem_cons h1, List.drop_eq_getElem_cons h2]
  rfl
theorem cmpLV_end {a b : List V} {i : Nat} (h1 : i ≤ a.length) (h2 : i ≤ b.length) (h : ¬ (i < a.length ∧ i < b.length)) : cmpLV (a.drop i) (b.drop i) = cmpI a.length b.length := by
  by_cases ha : i < a.length
  · have hb : i = b.length := by omega
    rw [List.drop_eq_getElem_cons ha, List.drop_eq_nil_of_le (as := b) (by omega)]
    simp only [cmpLV, cmpI]
    rw [if_neg (by omega), if_pos (by omega)]
  · rw [List.drop_eq_nil_of_le (as := a) (by omega)]
    by_cases hb : i < b.length
    · rw [List.drop_eq_getElem_cons hb]
      simp only [cmpLV, cmpI]
      rw [if_pos (by omega)]
    · rw [List.drop_eq_nil_of_le (as := b) (by omega)]
      simp only [cmpLV, cmpI]
      rw [if_neg (by omega), if_neg (by omega)]
theorem cmpKeys_drop {a b : List ByteArray} {i : Nat} (h1 : i < a.length) (h2 : i < b.length) : cmpKeys (a.drop i) (b.drop i) = orI (cmpB a[i] b[i]) (cmpKeys (a.drop (i + 1)) (b.drop (i + 1))) := by
  rw [List.drop_eq_getElem_cons h1, List.drop_eq_getElem_cons h2]
  rfl
theorem cmpKeys_end {a b : List ByteArray} {i : Nat} (h1 : i ≤ a.length) (h2 : i ≤ b.length) (h : ¬ (i < a.length ∧ i < b.length)) : cmpKeys (a.drop i) (b.drop i) = cmpI a.length b.length := by
  by_cases ha : i < a.length
  · have hb : i = b.length := by omega
    rw [List.drop_eq_getElem_cons ha, List.drop_eq_nil_of_le (as := b) (by omega)]
    simp only [cmpKeys, cmpI]
    rw [if_neg (by omega), if_pos (by omega)]
  · rw [List.drop_eq_nil_of_le (as := a) (by omega)]
    by_cases hb : i < b.length
    · rw [List.drop_eq_getElem_cons hb]
      simp only [cmpKeys, cmpI]
      rw [if_pos (by omega)]
    · rw [List.drop_eq_nil_of_le (as := b) (by omega)]
      simp only [cmpKeys, cmpI]
      rw [if_neg (by omega), if_neg (by omega)]
/-- What a kind leaves empty. -/
theorem right_shape {t : V} (h : t.wf) : 0 ≤ t.kind ∧ t.kind ≤ 6 ∧ (t.kind ≠ 3 → t.num = 0) ∧ (t.kind ≠ 4 → t.text = ByteArray.empty) ∧ (t.kind ≠ 6 → t.keys = []) ∧ (t.kind ≠ 5 → t.kind ≠ 6 → t.kids = []) := by
  obtain ⟨k, n, s, ks, vs⟩ := t
  simp only [V.wf] at h
  obtain ⟨h1, h2, _⟩ := h
  simp only [V.kind, V.num, V.text, V.keys, V.kids]
  unfold cellCode at h1
  split at h1
  · exact absurd h1 (by decide)
  · rename_i hk
    split at h1
    · exact absurd h1 (by decide)
    · rename_i hf
      unfold cF at hf
      unfold inB at hk
      unfold holds at hf
      simp only [Bool.not_eq_true', Bool.not_eq_false, Bool.and_eq_true, decide_eq_true_eq, Bool.or_eq_true, not_or, not_and, bne_iff_ne, ne_eq, Bool.not_eq_true, beq_eq_false_iff_ne] at hk hf
      obtain ⟨⟨f1, f2⟩, f3⟩ := hf
      refine ⟨hk.1, hk.2, fun h => ?_, fun h => ?_, fun h => ?_, fun h5 h6 => ?_⟩
      · by_cases hn : n = 0
        · exact hn
        · exact absurd (f1 hn) (by simpa using h)
      · by_cases hs : s.toList = []
        · exact empty_of hs
        · have := f2 (by simpa using hs)
          exact absurd this (by simpa using h)
      · unfold keysOk at h2
        rw [if_neg h] at h2
        exact h2
      · by_cases hn : (vs.length : Int) = 0
        · exact List.eq_nil_of_length_eq_zero (by omega)
        · have := f3 hn
          simp [h5, h6] at this
theorem cmp_plain {a b : V} (ha : a.wf) (hb : b.wf) (hk : a.kind = b.kind) (h3 : a.kind ≠ 3) (h4 : a.kind ≠ 4) (h5 : a.kind ≠ 5) (h6 : a.kind ≠ 6) : a.cmp b = 0 := by
  obtain ⟨_, _, a1, a2, a3, a4⟩ := right_shape ha
  obtain ⟨_, _, b1, b2, b3, b4⟩ := right_shape hb
  rw [← hk] at b1 b2 b3 b4
  rw [cmp_eq, if_pos hk, a1 h3, b1 h3, a2 h4, b2 h4, a3 h6, b3 h6, a4 h5 h6, b4 h5 h6, cmpI_self, cmpB_self, cmpKeys_self]
  rfl
theorem cmp_number {a b : V} (ha : a.wf) (hb : b.wf) (hk : a.kind = b.kind) (h3 : a.kind = 3) : a.cmp b = cmpI a.num b.num := by
  obtain ⟨_, _, a1, a2, a3, a4⟩ := right_shape ha
  obtain ⟨_, _, b1, b2, b3, b4⟩ := right_shape hb
  rw [← hk] at b1 b2 b3 b4
  rw [cmp_eq, if_pos hk, a2 (by omega), b2 (by omega), a3 (by omega), b3 (by omega), a4 (by omega) (by omega), b4 (by omega) (by omega), cmpB_self, cmpKeys_self]
  exact orI_right _
theorem cmp_text {a b : V} (ha : a.wf) (hb : b.wf) (hk : a.kind = b.kind) (h4 : a.kind = 4) : a.cmp b = cmpB a.text b.text := by
  obtain ⟨_, _, a1, a2, a3, a4⟩ := right_shape ha
  obtain ⟨_, _, b1, b2, b3, b4⟩ := right_shape hb
  rw [← hk] at b1 b2 b3 b4
  rw [cmp_eq, if_pos hk, a1 (by omega), b1 (by omega), a3 (by omega), b3 (by omega), a4 (by omega) (by omega), b4 (by omega) (by omega), cmpI_self, cmpKeys_self]
  exact orI_right _
theorem cmp_array {a b : V} (ha : a.wf) (hb : b.wf) (hk : a.kind = b.kind) (h5 : a.kind = 5) : a.cmp b = cmpLV a.kids b.kids := by
  obtain ⟨_, _, a1, a2, a3, a4⟩ := right_shape ha
  obtain ⟨_, _, b1, b2, b3, b4⟩ := right_shape hb
  rw [← hk] at b1 b2 b3 b4
  rw [cmp_eq, if_pos hk, a1 (by omega), b1 (by omega), a2 (by omega), b2 (by omega), a3 (by omega), b3 (by omega), cmpI_self, cmpB_self, cmpKeys_self]
  rfl
theorem cmp_object {a b : V} (ha : a.wf) (hb : b.wf) (hk : a.kind = b.kind) (h6 : a.kind = 6) : a.cmp b = orI (cmpKeys a.keys b.keys) (cmpLV a.kids b.kids) := by
  obtain ⟨_, _, a1, a2, a3, a4⟩ := right_shape ha
  obtain ⟨_, _, b1, b2, b3, b4⟩ := right_shape hb
  rw [← hk] at b1 b2 b3 b4
  rw [cmp_eq, if_pos hk, a1 (by omega), b1 (by omega), a2 (by omega), b2 (by omega), cmpI_self, cmpB_self]
  rfl
theorem cmpI_range (a b : Int) : -1 ≤ cmpI a b ∧ cmpI a b ≤ 1 := by
  unfold cmpI
  repeat' split
  all_goals omega
theorem cmpB_range (a b : ByteArray) : -1 ≤ cmpB a b ∧ cmpB a b ≤ 1 := by
  unfold cmpB
  repeat' split
  all_goals omega
theorem orI_range {a b : Int} (h1 : -1 ≤ a ∧ a ≤ 1) (h2 : -1 ≤ b ∧ b ≤ 1) : -1 ≤ orI a b ∧ orI a b ≤ 1 := by unfold orI; split <;> assumption
theorem cmpKeys_range : ∀ (a b : List ByteArray), -1 ≤ cmpKeys a b ∧ cmpKeys a b ≤ 1
  | [], [] => by simp [cmpKeys]
  | [], _ :: _ => by simp [cmpKeys]
  | _ :: _, [] => by simp [cmpKeys]
  | a :: as, b :: bs => orI_range (cmpB_range a b) (cmpKeys_range as bs)
mutual
theorem cmp_range : ∀ (a b : V), -1 ≤ a.cmp b ∧ a.cmp b ≤ 1
  | .mk k n t ks vs, b => by
    unfold V.cmp
    split
    · exact orI_range (cmpI_range _ _) (orI_range (cmpB_range _ _) (orI_range (cmpKeys_range _ _) (cmpLV_range _ _)))
    · exact cmpI_range _ _
theorem cmpLV_range : ∀ (a b : List V), -1 ≤ cmpLV a b ∧ cmpLV a b ≤ 1
  | [], [] => by simp [cmpLV]
  | [], _ :: _ => by simp [cmpLV]
  | _ :: _, [] => by simp [cmpLV]
  | a :: as, b :: bs => orI_range (cmp_range a b) (cmpLV_range as bs)
end
end Go.Proofs.YtioaieacogoemaaGreat

/- The plain mathematics of paths: what is got at a value's own path. -/
namespace Go.Proofs.YtioaieacogoemaaGreat
open Go.RowKit
theorem keysOf_own {t : V} (h : t.right) (h6 : t.kind = 6) : (List.range t.kids.length).map t.keyAt = t.keys := by
  obtain ⟨_, _, hl⟩ := right_asc h h6
  apply List.ext_getElem
  · simp [hl]
  · intro i h1 h2
    rw [List.getElem_map, List.getElem_range]
    obtain ⟨_, he⟩ := keyAt_get (right_neat h) h6 (i := i) (by omega)
    exact he
end Go.Proofs.YtioaieacogoemaaGreat

/- The plain mathematics of objects made of members: sorted keys, of several of one key the last. -/
namespace Go.Proofs.YtioaieacogoemaaGreat
open Go.RowKit
/-- A key put in its place. -/
def insKey (k : ByteArray) : List ByteArray → List ByteArray
  | [] => [k]
  | x :: r => if lessB k x then k :: x :: r else if k.toList == x.toList then x :: r else x :: insKey k r
def objKeys (keys : List ByteArray) : List ByteArray := keys.foldl (fun l k => insKey k l) []
def Up (l : List ByteArray) : Prop := l.Pairwise fun a b => lessB a b = true
theorem insKey_mem (k : ByteArray) : ∀ (l : List ByteArray) (x : ByteArray), x ∈ insKey k l ↔ x = k ∨ x ∈ l
  | [], x => by simp [insKey]
  | y :: r, x => by
    unfold insKey
    split
    · simp
    · split
      · rename_i h
        have : k = y := ByteArray_toList_inj (by simpa using h)
        subst this
        simp
      · rw [List.mem_cons, insKey_mem k r x, List.mem_cons]
        constructor
        · rintro (h | h | h)
          · exact .inr (.inl h)
          · exact .inl h
          · exact .inr (.inr h)
        · rintro (h | h | h)
          · exact .inr (.inl h)
          · exact .inl h
          · exact .inr (.inr h)
theorem lessB_tri (a b : ByteArray) : lessB a b = true ∨ a = b ∨ lessB b a = true := by
  rcases bytesLess_tri a.toList b.toList with h | h | h
  · exact .inl h
  · exact .inr (.inl (ByteArray_toList_inj h))
  · exact .inr (.inr h)
theorem insKey_up (k : ByteArray) : ∀ {l : List ByteArray}, Up l → Up (insKey k l)
  | [], _ => by simp [insKey, Up]
  | y :: r, h => by
    unfold Up at h
    rw [List.pairwise_cons] at h
    unfold insKey
    split
    · rename_i hl
      refine List.pairwise_cons.2 ⟨fun x hx => ?_, List.pairwise_cons.2 h⟩
      rcases List.mem_cons.1 hx with rfl | hx
      · exact hl
      · exact lessB_trans hl (h.1 x hx)
    · rename_i hl
      split
      · exact List.pairwise_cons.2 h
      · rename_i he
        refine List.pairwise_cons.2 ⟨fun x hx => ?_, insKey_up k h.2⟩
        rcases (insKey_mem k r x).1 hx with rfl | hx
        · rcases lessB_tri x y with g | g | g
          · exact absurd g hl
          · subst g; exact absurd (by simp) he
          · exact g
        · exact h.1 x hx
theorem up_eq : ∀ {a b : List ByteArray}, Up a → Up b → (∀ x, x ∈ a ↔ x ∈ b) → a = b
  | [], [], _, _, _ => rfl
  | [], y :: b, _, _, h => absurd ((h y).2 (by simp)) (by simp)
  | x :: a, [], _, _, h => absurd ((h x).1 (by simp)) (by simp)
  | x :: a, y :: b, h1, h2, h => by
    unfold Up at h1 h2
    rw [List.pairwise_cons] at h1 h2
    have no : ∀ {u v : ByteArray}, lessB u v = true → lessB v u = true → False := fun g1 g2 => by
      have := lessB_trans g1 g2
      rw [lessB_irrefl] at this
      cases this
    have hxy : x = y := by
      rcases List.mem_cons.1 ((h x).1 (by simp)) with e | hx
      · exact e
      · rcases List.mem_cons.1 ((h y).2 (by simp)) with e | hy
        · exact e.symm
        · exact (no (h1.1 y hy) (h2.1 x hx)).elim
    subst hxy
    congr 1
    refine up_eq h1.2 h2.2 fun z => ?_
    constructor
    · intro hz
      rcases List.mem_cons.1 ((h z).1 (by simp [hz])) with e | hz'
      · subst e; exact (no (h1.1 z hz) (h1.1 z hz)).elim
      · exact hz'
    · intro hz
      rcases List.mem_cons.1 ((h z).2 (by simp [hz])) with e | hz'
      · subst e; exact (no (h2.1 z hz) (h2.1 z hz)).elim
      · exact hz'
theorem foldIns (keys : List ByteArray) : ∀ (l : List ByteArray), Up l → Up (keys.foldl (fun l k => insKey k l) l) ∧ ∀ x, x ∈ keys.foldl (fun l k => insKey k l) l ↔ x ∈ keys ∨ x ∈ l := by
  induction keys with
  | nil => intro l h; exact ⟨h, fun x => by simp⟩
  | cons k r ih =>
    intro l h
    obtain ⟨h1, h2⟩ := ih (insKey k l) (insKey_up k h)
    refine ⟨h1, fun x => ?_⟩
    rw [List.foldl_cons, h2, insKey_mem, List.mem_cons]
    constructor
    · rintro (h | h | h)
      · exact .inl (.inr h)
      · exact .inl (.inl h)
      · exact .inr h
    · rintro ((h | h) | h)
      · exact .inr (.inl h)
      · exact .inl h
      · exact .inr (.inr h)
theorem objKeys_up (keys : List ByteArray) : Up (objKeys keys) := (foldIns keys [] (by simp [Up])).1
theorem objKeys_mem {keys : List ByteArray} {x : ByteArray} : x ∈ objKeys keys ↔ x ∈ keys := by
  unfold objKeys
  rw [(foldIns keys [] (by simp [Up])).2]
  simp
theorem insKey_len (k : ByteArray) : ∀ (l : List ByteArray), (insKey k l).length ≤ l.length + 1
  | [] => by simp [insKey]
  | x :: r => by
    unfold insKey
    split
    · simp
    · split
      · simp
      · have := insKey_len k r
        simp only [List.length_cons]
        omega
theorem objKeys_len (keys : List ByteArray) : (objKeys keys).length ≤ keys.length := by
  have key : ∀ (keys l : List ByteArray), (keys.foldl (fun l k => insKey k l) l).length ≤ keys.length + l.length := by
    intro keys
    induction keys with
    | nil => intro l; simp
    | cons k r ih =>
      intro l
      have h1 := ih (insKey k l)
      have h2 := insKey_len k l
      rw [List.foldl_cons, List.length_cons]
      omega
  have := key keys []
  unfold objKeys
  simpa using this
/-- Text, sorted. -/
def sortB (l : List ByteArray) : List ByteArray := ((l.map fun b => b.data.toList).mergeSort fun x y => decide (x ≤ y)).map fun x => ⟨x.toArray⟩
end Go.Proofs.YtioaieacogoemaaGreat

/- The plain mathematics of merging: trees that fit, their cells tell them; what two values come to. -/
namespace Go.Proofs.YtioaieacogoemaaGreat
open Go.RowKit
mutual
/-- A tree whose shape and texts are as they should be; nothing is said of its size. -/
def V.fit : V → Prop
  | .mk kind _ text keys kids => text.size ≤ 200 ∧ (∀ k ∈ keys, k.size ≤ 60) ∧ (holds kind = false → kids = []) ∧ (kind = 6 → keys.length = kids.length) ∧ (kind ≠ 6 → keys = []) ∧ fitL kids
def fitL : List V → Prop
  | [] => True
  | k :: ks => k.fit ∧ fitL ks
end
theorem up_of {ks : List ByteArray} (h : asc none ks) : Up ks := by
  unfold Up
  rw [List.pairwise_iff_getElem]
  intro i j hi hj hij
  exact asc_sorted h hij hj
theorem up_nodup {ks : List ByteArray} (h : Up ks) : ks.Nodup := by
  unfold Up at h
  refine h.imp fun {a b} hl e => ?_
  subst e
  rw [lessB_irrefl] at hl
  cases hl
theorem countL_app (a b : List V) : countL (a ++ b) = countL a + countL b := by
  induction a with
  | nil => simp [countL]
  | cons x a ih => simp only [List.cons_append, countL, ih]; omega
end Go.Proofs.YtioaieacogoemaaGreat
