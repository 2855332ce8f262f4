/- Texts of this proof: M08 M09 M10 M15 M16 M18 M19. -/
import Derived.Test.YtlciedpfjhkkdaaGreatDoorKM1
set_option linter.unusedSimpArgs false
set_option linter.unusedVariables false
set_option linter.unnecessarySimpa false
namespace Go.Proofs.YtlciedpfjhkkdaaGreatDoor
open Go.RowKit
def V.right (t : V) : Prop := t.wf ∧ t.count ≤ 200 ∧ t.depth ≤ 20
theorem ByteArray_toList_inj {a b : ByteArray} (h : a.toList = b.toList) : a = b := by
 rw [ByteArray.toList_eq, ByteArray.toList_eq] at h
 cases a; cases b
 simp at h
 rw [h]
theorem right_mem {t : V} (h : t.right) {k : V} (hk : k ∈ t.kids) : k.right := by
 obtain ⟨h1, h2, h3⟩ := h
 have h4 := countL_mem hk
 have h5 := count_kids t
 have h6 := depthL_mem hk
 have h7 := depth_kids t
 exact ⟨wfL_mem (wf_kids h1) k hk, by omega, by omega⟩
theorem right_null : nullV.right := by
 refine ⟨?_, by decide, by decide⟩
 refine ⟨?_, ?_, trivial⟩
 ·decide +kernel
 ·simp [keysOk]
theorem right_neat {t : V} (h : t.right) : t.neat := neat_wf t h.1
theorem right_dec {t : V} (h : t.right) : dec t.enc = (0, some t) := dec_enc h.1 h.2.1 h.2.2
def findKey (keys : List ByteArray) (key : ByteArray) : Option Nat := keys.findIdx? fun k => k.toList == key.toList
def V.member (t : V) (key : ByteArray) : V := match findKey t.keys key with
 | some i => t.kids.getD i nullV
 | none => nullV
theorem findKey_some {keys : List ByteArray} {key : ByteArray} {i : Nat} (h : findKey keys key = some i) : ∃ hi : i < keys.length, keys[i] = key ∧ ∀ j (hj : j < i), keys[j]'(by omega) ≠ key := by
 unfold findKey at h
 rw [List.findIdx?_eq_some_iff_getElem] at h
 obtain ⟨h1, h2, h3⟩ := h
 refine ⟨h1, ByteArray_toList_inj (by simpa using h2), fun j hj he => ?_⟩
 have := h3 j hj
 rw [he] at this
 simp at this
theorem findKey_none {keys : List ByteArray} {key : ByteArray} (h : findKey keys key = none) : key ∉ keys := by
 unfold findKey at h
 rw [List.findIdx?_eq_none_iff] at h
 intro hm
 have := h key hm
 simp at this
theorem member_mem {t : V} (hn : t.neat) (h6 : t.kind = 6) (key : ByteArray) : t.member key = nullV ∨ t.member key ∈ t.kids := by
 unfold V.member
 split
 ·rename_i i hi
  obtain ⟨h1, _⟩ := findKey_some hi
  have := neat_keys hn h6
  right
  rw [List.getD_eq_getElem?_getD, List.getElem?_eq_getElem (by omega), Option.getD_some]
  exact List.getElem_mem _
 ·exact .inl rfl
theorem right_member {t : V} (h : t.right) (h6 : t.kind = 6) (key : ByteArray) : (t.member key).right := by
 rcases member_mem (right_neat h) h6 key with e | e
 ·rw [e]; exact right_null
 ·exact right_mem h e
def okR (t : V) : Int × Option V := (0, some t)
def badR (c : Int) : Int × Option V := (c, none)
def getKeyV (t : V) (key : ByteArray) : Int × Option V := if t.kind = 0 then okR nullV else if t.kind = 6 then okR (t.member key) else badR 6
def fromEnd (n : Int) (many : Nat) : Int := if n < 0 then n + many else n
def okRes (r : Int × Option V) : Prop := match r.2 with
 | some t => r.1 = 0 ∧ t.right
 | none => r.1 ≠ 0
theorem okRes_ok {t : V} (h : t.right) : okRes (okR t) := ⟨rfl, h⟩
theorem okRes_bad {c : Int} (h : c ≠ 0) : okRes (badR c) := h
theorem getKey_ok {t : V} (h : t.right) (key : ByteArray) : okRes (getKeyV t key) := by
 unfold getKeyV
 split
 ·exact okRes_ok right_null
 ·split
  ·rename_i h6
   exact okRes_ok (right_member h h6 key)
  ·exact okRes_bad (by decide)
def lessB (a b : ByteArray) : Bool := Op.bytesLess a.toList b.toList
theorem bytesLess_irrefl : ∀ (l : List UInt8), Op.bytesLess l l = false
 | [] => rfl
 | x :: l => by simp [Op.bytesLess, bytesLess_irrefl l]
theorem bytesLess_trans : ∀ {a b c : List UInt8}, Op.bytesLess a b = true → Op.bytesLess b c = true → Op.bytesLess a c = true
 | [], _, c :: cs, h1, h2 => rfl
 | [], b, [], h1, h2 => by cases b <;> simp [Op.bytesLess] at h1 h2
 | x :: a, [], _, h1, _ => by simp [Op.bytesLess] at h1
 | x :: a, y :: b, [], _, h2 => by simp [Op.bytesLess] at h2
 | x :: a, y :: b, z :: c, h1, h2 => by
  simp only [Op.bytesLess, Bool.or_eq_true, decide_eq_true_eq, Bool.and_eq_true, beq_iff_eq] at h1 h2 ⊢
  rcases h1 with h1 | ⟨rfl, h1⟩
  ·rcases h2 with h2 | ⟨rfl, h2⟩
   ·exact .inl (UInt8.lt_trans h1 h2)
   ·exact .inl h1
  ·rcases h2 with h2 | ⟨rfl, h2⟩
   ·exact .inl h2
   ·exact .inr ⟨rfl, bytesLess_trans h1 h2⟩
theorem bytesLess_tri : ∀ (a b : List UInt8), Op.bytesLess a b = true ∨ a = b ∨ Op.bytesLess b a = true
 | [], [] => .inr (.inl rfl)
 | [], _ :: _ => .inl rfl
 | _ :: _, [] => .inr (.inr rfl)
 | x :: a, y :: b => by
  simp only [Op.bytesLess, Bool.or_eq_true, decide_eq_true_eq, Bool.and_eq_true, beq_iff_eq]
  by_cases hxy : x < y
  ·exact .inl (.inl hxy)
  ·by_cases hyx : y < x
   ·exact .inr (.inr (.inl hyx))
   ·have : x = y := by
     apply UInt8.toNat_inj.1
     have h1 : ¬ x.toNat < y.toNat := fun h => hxy (UInt8.lt_iff_toNat_lt.2 h)
     have h2 : ¬ y.toNat < x.toNat := fun h => hyx (UInt8.lt_iff_toNat_lt.2 h)
     omega
    subst this
    rcases bytesLess_tri a b with h | rfl | h
    ·exact .inl (.inr ⟨rfl, h⟩)
    ·exact .inr (.inl rfl)
    ·exact .inr (.inr (.inr ⟨rfl, h⟩))
theorem lessB_trans {a b c : ByteArray} (h1 : lessB a b = true) (h2 : lessB b c = true) : lessB a c = true := bytesLess_trans h1 h2
theorem lessB_irrefl (a : ByteArray) : lessB a a = false := bytesLess_irrefl _
theorem asc_from : ∀ {ks : List ByteArray} {p : ByteArray}, asc (some p) ks → ∀ {i : Nat} (hi : i < ks.length), lessB p ks[i] = true
 | [], _, _, i, hi => by simp at hi
 | k :: ks, p, h, 0, _ => h.1
 | k :: ks, p, h, i + 1, hi => by
  have := asc_from h.2 (i := i) (by simpa using hi)
  simp only [List.getElem_cons_succ]
  exact lessB_trans h.1 this
theorem asc_sorted : ∀ {ks : List ByteArray} {o : Option ByteArray}, asc o ks → ∀ {i j : Nat} (hij : i < j) (hj : j < ks.length), lessB (ks[i]'(by omega)) ks[j] = true
 | [], _, _, i, j, _, hj => by simp at hj
 | k :: ks, o, h, 0, j + 1, _, hj => by
  have h' : asc (some k) ks := by
   cases o with
   | none => exact h
   | some p => exact h.2
  simp only [List.getElem_cons_zero, List.getElem_cons_succ]
  exact asc_from h' (by simpa using hj)
 | k :: ks, o, h, i + 1, j + 1, hij, hj => by
  have h' : asc (some k) ks := by
   cases o with
   | none => exact h
   | some p => exact h.2
  simp only [List.getElem_cons_succ]
  exact asc_sorted h' (by omega) (by simpa using hj)
theorem findKey_at {ks : List ByteArray} {key : ByteArray} (hs : asc none ks) {p : Nat} (hp : p ≤ ks.length) (h1 : ∀ t (h : t < p), lessB (ks[t]'(by omega)) key = true) (h2 : ∀ t (h : t < ks.length), p ≤ t → lessB ks[t] key = false) :
  findKey ks key = if h : p < ks.length then (if ks[p].toList == key.toList then some p else none) else none := by
 have none_of : (∀ t (h : t < ks.length), ks[t].toList ≠ key.toList) → findKey ks key = none := by
  intro h
  unfold findKey
  rw [List.findIdx?_eq_none_iff]
  intro x hx
  obtain ⟨t, ht, rfl⟩ := List.getElem_of_mem hx
  simpa using h t ht
 have low : ∀ t (h : t < ks.length), t < p → ks[t].toList ≠ key.toList := by
  intro t h htp he
  have h3 := h1 t htp
  unfold lessB at h3
  rw [he, bytesLess_irrefl] at h3
  cases h3
 by_cases hlt : p < ks.length
 ·rw [dif_pos hlt]
  by_cases he : (ks[p].toList == key.toList) = true
  ·rw [if_pos he]
   unfold findKey
   rw [List.findIdx?_eq_some_iff_getElem]
   exact ⟨hlt, he, fun j hj => by simpa using low j (by omega) hj⟩
  ·rw [if_neg he]
   refine none_of fun t ht => ?_
   by_cases htp : t < p
   ·exact low t ht htp
   ·by_cases hpt : t = p
    ·subst hpt; simpa using he
    ·intro hk
     have h3 := asc_sorted hs (i := p) (j := t) (by omega) ht
     have h4 := h2 p hlt (Nat.le_refl _)
     unfold lessB at h3 h4
     rw [hk] at h3
     rw [h3] at h4
     cases h4
 ·rw [dif_neg hlt]
  exact none_of fun t ht => low t ht (by omega)
theorem right_asc {t : V} (h : t.right) (h6 : t.kind = 6) : asc none t.keys ∧ (∀ k ∈ t.keys, okText k = true) ∧ t.keys.length = t.kids.length := by
 obtain ⟨hw, _, _⟩ := h
 cases t
 simp only [V.wf, keysOk] at hw
 simp only [V.kind] at h6
 rw [if_pos h6] at hw
 exact ⟨hw.2.1.2.2, hw.2.1.2.1, hw.2.1.1⟩
abbrev Ev := List V × Option V
def evUnder (q : V) (e : Ev) : Ev := (q :: e.1, e.2)
mutual
def V.stream : V → List Ev
 | .mk kind num text keys kids => if kids.isEmpty then [([], some (.mk kind num text keys kids))] else streamL (V.mk kind num text keys kids).keyV 0 kids ++ [([(V.mk kind num text keys kids).keyV (kids.length - 1)], none)]
def streamL (key : Nat → V) (i : Nat) : List V → List Ev
 | [] => []
 | k :: ks => k.stream.map (evUnder (key i)) ++ streamL key (i + 1) ks
end
theorem stream_leaf {t : V} (h : t.kids.isEmpty = true) : t.stream = [([], some t)] := by
 cases t
 simp only [V.kids] at h
 unfold V.stream
 rw [if_pos h]
theorem stream_node {t : V} (h : t.kids.isEmpty = false) : t.stream = streamL t.keyV 0 t.kids ++ [([t.keyV (t.kids.length - 1)], none)] := by
 cases t
 simp only [V.kids] at h ⊢
 unfold V.stream
 rw [if_neg (by simp [h])]
theorem streamL_drop (key : Nat → V) (ks : List V) {k : Nat} (h : k < ks.length) : streamL key k (ks.drop k) = ks[k].stream.map (evUnder (key k)) ++ streamL key (k + 1) (ks.drop (k + 1)) := by
 rw [List.drop_eq_getElem_cons h]
 rfl
mutual
theorem stream_len : ∀ (t : V), t.stream.length = t.count
 | .mk kind num text keys kids => by
  unfold V.stream
  by_cases h : kids.isEmpty = true
  ·rw [if_pos h]
   have : kids = [] := by simpa using h
   subst this
   rfl
  ·rw [if_neg h, List.length_append, streamL_len _ 0 kids]
   simp [V.count]
theorem streamL_len : ∀ (key : Nat → V) (i : Nat) (ks : List V), (streamL key i ks).length = countL ks
 | _, _, [] => rfl
 | key, i, k :: ks => by
  simp only [streamL, List.length_append, List.length_map, countL]
  rw [stream_len k, streamL_len key (i + 1) ks]
end
def okKey (q : V) : Prop := (∃ s, q = strV s ∧ okText s = true) ∨ ∃ n : Int, q = numV n ∧ 0 ≤ n ∧ n ≤ 200
theorem okKey_right {q : V} (h : okKey q) : q.right ∧ q.count = 1 ∧ q.depth = 1 := by
 rcases h with ⟨s, rfl, hs⟩ | ⟨n, rfl, h1, h2⟩
 ·refine ⟨⟨⟨?_, ?_, trivial⟩, by simp [strV, V.count, countL], by simp [strV, V.depth, depthL]⟩, rfl, rfl⟩
  ·unfold cellCode
   have h1 : inB 4 0 6 = true := by decide
   simp [h1, cF, cR, cT, hs, okText_empty, inB]
  ·simp [keysOk]
 ·refine ⟨⟨⟨?_, ?_, trivial⟩, by simp [numV, V.count, countL], by simp [numV, V.depth, depthL]⟩, rfl, rfl⟩
  ·unfold cellCode
   have h3 : inB 3 0 6 = true := by decide
   have h4 : inB n (-1000000000000000) 1000000000000000 = true := by unfold inB; simp; omega
   simp [h3, cF, cR, cT, okText_empty, h4, inB]
   omega
  ·simp [keysOk]
theorem keyV_ok {t : V} (h : t.right) {i : Nat} (hi : i < t.kids.length) : okKey (t.keyV i) := by
 have hk := kids_len_le h.2.1
 unfold V.keyV
 split
 ·rename_i h6
  obtain ⟨_, h2, h3⟩ := right_asc h h6
  refine .inl ⟨_, rfl, ?_⟩
  obtain ⟨hk', he⟩ := keyAt_get (right_neat h) h6 hi
  rw [he]
  exact h2 _ (List.getElem_mem _)
 ·exact .inr ⟨i, rfl, by omega, by omega⟩
def okEv (d : Nat) (e : Ev) : Prop := e.1.length ≤ d ∧ (∀ q ∈ e.1, okKey q) ∧ ∀ t, e.2 = some t → t.right ∧ t.kids = []
mutual
theorem stream_ok : ∀ (t : V), t.right → ∀ e ∈ t.stream, okEv t.depth e
 | .mk kind num text keys kids, h => by
  intro e he
  have hkid := @right_mem _ h
  simp only [V.kids] at hkid
  have hkey := @keyV_ok _ h
  simp only [V.kids] at hkey
  unfold V.stream at he
  by_cases hk : kids.isEmpty = true
  ·rw [if_pos hk] at he
   simp only [List.mem_singleton] at he
   subst he
   exact ⟨by simp, by simp, fun t ht => by cases ht; exact ⟨h, by simpa [V.kids] using hk⟩⟩
  ·rw [if_neg hk] at he
   have hne : 0 < kids.length := by
    cases kids with
    | nil => simp at hk
    | cons x xs => simp
   simp only [List.mem_append, List.mem_singleton] at he
   rcases he with he | rfl
   ·exact streamL_ok _ 0 kids (fun k hk' => hkid hk') (fun i hi => hkey (by omega)) e he
   ·refine ⟨by simp only [V.depth, List.length_singleton]; omega, ?_, by simp⟩
    intro q hq
    simp only [List.mem_singleton] at hq
    subst hq
    exact hkey (by omega)
theorem streamL_ok : ∀ (key : Nat → V) (i : Nat) (ks : List V), (∀ k ∈ ks, k.right) → (∀ j, j < i + ks.length → okKey (key j)) → ∀ e ∈ streamL key i ks, okEv (depthL ks + 1) e
 | _, _, [], _, _ => by simp [streamL]
 | key, i, k :: ks, hk, hkey => by
  intro e he
  simp only [streamL, List.mem_append, List.mem_map] at he
  rcases he with ⟨e', he', rfl⟩ | he
  ·obtain ⟨h1, h2, h3⟩ := stream_ok k (hk k (by simp)) e' he'
   refine ⟨by simp only [evUnder, List.length_cons, depthL]; omega, ?_, h3⟩
   intro q hq
   simp only [evUnder, List.mem_cons] at hq
   rcases hq with rfl | hq
   ·exact hkey i (by simp)
   ·exact h2 q hq
  ·obtain ⟨h1, h2, h3⟩ := streamL_ok key (i + 1) ks (fun x hx => hk x (by simp [hx])) (fun j hj => hkey j (by simp only [List.length_cons]; omega)) e he
   exact ⟨by simp only [depthL]; omega, h2, h3⟩
end
def evV (e : Ev) : V := match e.2 with
 | some t => arrV [arrV e.1, t]
 | none => arrV [arrV e.1]
theorem countL_keys : ∀ {l : List V}, (∀ q ∈ l, okKey q) → countL l = l.length ∧ depthL l ≤ 1 ∧ wfL l
 | [], _ => ⟨rfl, by simp [depthL], trivial⟩
 | q :: l, h => by
  obtain ⟨h1, h2, h3⟩ := countL_keys (l := l) fun x hx => h x (by simp [hx])
  obtain ⟨h4, h5, h6⟩ := okKey_right (h q (by simp))
  exact ⟨by simp only [countL, List.length_cons]; omega, by simp only [depthL]; omega, h4.1, h3⟩
theorem arr_wf {l : List V} (h : wfL l) (hl : l.length ≤ 200) : (arrV l).wf := by
 refine ⟨?_, by simp [keysOk], h⟩
 unfold cellCode
 have h1 : inB 5 0 6 = true := by decide
 have h2 : inB (l.length : Int) 0 200 = true := by unfold inB; simp; omega
 simp [h1, cF, cR, cT, okText_empty, holds, h2, inB]
 omega
theorem leaf_count {t : V} (h : t.kids = []) : t.count = 1 ∧ t.depth = 1 := by
 cases t
 simp only [V.kids] at h
 subst h
 exact ⟨rfl, rfl⟩
theorem ev_right {e : Ev} (h : okEv 20 e) : (evV e).right ∧ (evV e).count ≤ 25 := by
 obtain ⟨h1, h2, h3⟩ := h
 obtain ⟨c1, c2, c3⟩ := countL_keys h2
 have ha := arr_wf c3 (by omega)
 unfold evV
 cases he : e.2 with
 | none =>
  refine ⟨⟨arr_wf ⟨ha, trivial⟩ (by simp), ?_, ?_⟩, ?_⟩
  ·simp only [arrV, V.count, countL]; omega
  ·simp only [arrV, V.depth, depthL]; omega
  ·simp only [arrV, V.count, countL]; omega
 | some t =>
  obtain ⟨g1, g2⟩ := h3 t he
  obtain ⟨g3, g4⟩ := leaf_count g2
  refine ⟨⟨arr_wf ⟨ha, g1.1, trivial⟩ (by simp), ?_, ?_⟩, ?_⟩
  ·simp only [arrV, V.count, countL]; omega
  ·simp only [arrV, V.depth, depthL]; omega
  ·simp only [arrV, V.count, countL]; omega
def cmpI (a b : Int) : Int := if a < b then -1 else if b < a then 1 else 0
def cmpB (a b : ByteArray) : Int := if lessB a b then -1 else if a.toList == b.toList then 0 else 1
def orI (a b : Int) : Int := if a = 0 then b else a
def cmpKeys : List ByteArray → List ByteArray → Int
 | [], [] => 0
 | [], _ :: _ => -1
 | _ :: _, [] => 1
 | a :: as, b :: bs => orI (cmpB a b) (cmpKeys as bs)
mutual
def V.cmp : V → V → Int
 | .mk k n t ks vs, b => if k = b.kind then orI (cmpI n b.num) (orI (cmpB t b.text) (orI (cmpKeys ks b.keys) (cmpLV vs b.kids))) else cmpI k b.kind
def cmpLV : List V → List V → Int
 | [], [] => 0
 | [], _ :: _ => -1
 | _ :: _, [] => 1
 | a :: as, b :: bs => orI (a.cmp b) (cmpLV as bs)
end
theorem cmp_eq (a b : V) : a.cmp b = if a.kind = b.kind then orI (cmpI a.num b.num) (orI (cmpB a.text b.text) (orI (cmpKeys a.keys b.keys) (cmpLV a.kids b.kids))) else cmpI a.kind b.kind := by cases a; rfl
theorem orI_zero (a : Int) : orI 0 a = a := rfl
theorem orI_right (a : Int) : orI a 0 = a := by unfold orI; split <;> simp_all
theorem orI_assoc (a b c : Int) : orI (orI a b) c = orI a (orI b c) := by
 unfold orI
 by_cases h : a = 0 <;> simp [h]
theorem orI_ne {a : Int} (h : a ≠ 0) (b : Int) : orI a b = a := if_neg h
theorem orI_null {a b : Int} : orI a b = 0 ↔ a = 0 ∧ b = 0 := by
 unfold orI
 split
 ·rename_i h; simp [h]
 ·rename_i h; simp [h]
theorem cmpI_null {a b : Int} : cmpI a b = 0 ↔ a = b := by
 unfold cmpI
 repeat' split
 all_goals omega
theorem cmpB_null {a b : ByteArray} : cmpB a b = 0 ↔ a = b := by
 unfold cmpB
 constructor
 ·intro h
  split at h
  ·cases h
  ·split at h
   ·rename_i h2
    exact ByteArray_toList_inj (by simpa using h2)
   ·cases h
 ·rintro rfl
  rw [lessB_irrefl]
  simp
theorem cmpKeys_null : ∀ {a b : List ByteArray}, cmpKeys a b = 0 ↔ a = b
 | [], [] => by simp [cmpKeys]
 | [], _ :: _ => by simp [cmpKeys]
 | _ :: _, [] => by simp [cmpKeys]
 | a :: as, b :: bs => by
  unfold cmpKeys
  rw [orI_null, cmpB_null, cmpKeys_null]
  simp
mutual
theorem cmp_null : ∀ {a b : V}, a.cmp b = 0 ↔ a = b
 | .mk k n t ks vs, .mk k' n' t' ks' vs' => by
  have hv := @cmpLV_null vs vs'
  by_cases h : k = k'
  ·have e : (V.mk k n t ks vs).cmp (.mk k' n' t' ks' vs') = orI (cmpI n n') (orI (cmpB t t') (orI (cmpKeys ks ks') (cmpLV vs vs'))) := by
    rw [cmp_eq]
    exact if_pos h
   rw [e, orI_null, orI_null, orI_null, cmpI_null, cmpB_null, cmpKeys_null, hv]
   simp [h]
  ·have e : (V.mk k n t ks vs).cmp (.mk k' n' t' ks' vs') = cmpI k k' := by
    rw [cmp_eq]
    exact if_neg h
   rw [e, cmpI_null]
   simp [h]
theorem cmpLV_null : ∀ {a b : List V}, cmpLV a b = 0 ↔ a = b
 | [], [] => by simp [cmpLV]
 | [], _ :: _ => by simp [cmpLV]
 | _ :: _, [] => by simp [cmpLV]
 | a :: as, b :: bs => by
  unfold cmpLV
  rw [orI_null, cmp_null, cmpLV_null]
  simp
end
theorem cmpLV_drop {a b : List V} {i : Nat} (h1 : i < a.length) (h2 : i < b.length) : cmpLV (a.drop i) (b.drop i) = orI (a[i].cmp b[i]) (cmpLV (a.drop (i + 1)) (b.drop (i + 1))) := by
 rw [List.drop_eq_getElem_cons h1, List.drop_eq_getElem_cons h2]
 rfl
theorem cmpLV_end {a b : List V} {i : Nat} (h1 : i ≤ a.length) (h2 : i ≤ b.length) (h : ¬ (i < a.length ∧ i < b.length)) : cmpLV (a.drop i) (b.drop i) = cmpI a.length b.length := by
 by_cases ha : i < a.length
 ·have hb : i = b.length := by omega
  rw [List.drop_eq_getElem_cons ha, List.drop_eq_nil_of_le (as := b) (by omega)]
  simp only [cmpLV, cmpI]
  rw [if_neg (by omega), if_pos (by omega)]
 ·rw [List.drop_eq_nil_of_le (as := a) (by omega)]
  by_cases hb : i < b.length
  ·rw [List.drop_eq_getElem_cons hb]
   simp only [cmpLV, cmpI]
   rw [if_pos (by omega)]
  ·rw [List.drop_eq_nil_of_le (as := b) (by omega)]
   simp only [cmpLV, cmpI]
   rw [if_neg (by omega), if_neg (by omega)]
theorem cmpKeys_drop {a b : List ByteArray} {i : Nat} (h1 : i < a.length) (h2 : i < b.length) : cmpKeys (a.drop i) (b.drop i) = orI (cmpB a[i] b[i]) (cmpKeys (a.drop (i + 1)) (b.drop (i + 1))) := by
 rw [List.drop_eq_getElem_cons h1, List.drop_eq_getElem_cons h2]
 rfl
theorem cmpKeys_end {a b : List ByteArray} {i : Nat} (h1 : i ≤ a.length) (h2 : i ≤ b.length) (h : ¬ (i < a.length ∧ i < b.length)) : cmpKeys (a.drop i) (b.drop i) = cmpI a.length b.length := by
 by_cases ha : i < a.length
 ·have hb : i = b.length := by omega
  rw [List.drop_eq_getElem_cons ha, List.drop_eq_nil_of_le (as := b) (by omega)]
  simp only [cmpKeys, cmpI]
  rw [if_neg (by omega), if_pos (by omega)]
 ·rw [List.drop_eq_nil_of_le (as := a) (by omega)]
  by_cases hb : i < b.length
  ·rw [List.drop_eq_getElem_cons hb]
   simp only [cmpKeys, cmpI]
   rw [if_pos (by omega)]
  ·rw [List.drop_eq_nil_of_le (as := b) (by omega)]
   simp only [cmpKeys, cmpI]
   rw [if_neg (by omega), if_neg (by omega)]
theorem right_shape {t : V} (h : t.wf) : 0 ≤ t.kind ∧ t.kind ≤ 6 ∧ (t.kind ≠ 3 → t.num = 0) ∧ (t.kind ≠ 4 → t.text = ByteArray.empty) ∧ (t.kind ≠ 6 → t.keys = []) ∧ (t.kind ≠ 5 → t.kind ≠ 6 → t.kids = []) := by
 obtain ⟨k, n, s, ks, vs⟩ := t
 simp only [V.wf] at h
 obtain ⟨h1, h2, _⟩ := h
 simp only [V.kind, V.num, V.text, V.keys, V.kids]
 unfold cellCode at h1
 split at h1
 ·exact absurd h1 (by decide)
 ·rename_i hk
  split at h1
  ·exact absurd h1 (by decide)
  ·rename_i hf
   unfold cF at hf
   unfold inB at hk
   unfold holds at hf
   simp only [Bool.not_eq_true', Bool.not_eq_false, Bool.and_eq_true, decide_eq_true_eq, Bool.or_eq_true, not_or, not_and, bne_iff_ne, ne_eq, Bool.not_eq_true, beq_eq_false_iff_ne] at hk hf
   obtain ⟨⟨f1, f2⟩, f3⟩ := hf
   refine ⟨hk.1, hk.2, fun h => ?_, fun h => ?_, fun h => ?_, fun h5 h6 => ?_⟩
   ·by_cases hn : n = 0
    ·exact hn
    ·exact absurd (f1 hn) (by simpa using h)
   ·by_cases hs : s.toList = []
    ·exact empty_of hs
    ·have := f2 (by simpa using hs)
     exact absurd this (by simpa using h)
   ·unfold keysOk at h2
    rw [if_neg h] at h2
    exact h2
   ·by_cases hn : (vs.length : Int) = 0
    ·exact List.eq_nil_of_length_eq_zero (by omega)
    ·have := f3 hn
     simp [h5, h6] at this
theorem cmpI_range (a b : Int) : -1 ≤ cmpI a b ∧ cmpI a b ≤ 1 := by
 unfold cmpI
 repeat' split
 all_goals omega
theorem cmpB_range (a b : ByteArray) : -1 ≤ cmpB a b ∧ cmpB a b ≤ 1 := by
 unfold cmpB
 repeat' split
 all_goals omega
theorem orI_range {a b : Int} (h1 : -1 ≤ a ∧ a ≤ 1) (h2 : -1 ≤ b ∧ b ≤ 1) : -1 ≤ orI a b ∧ orI a b ≤ 1 := by unfold orI; split <;> assumption
theorem cmpKeys_range : ∀ (a b : List ByteArray), -1 ≤ cmpKeys a b ∧ cmpKeys a b ≤ 1
 | [], [] => by simp [cmpKeys]
 | [], _ :: _ => by simp [cmpKeys]
 | _ :: _, [] => by simp [cmpKeys]
 | a :: as, b :: bs => orI_range (cmpB_range a b) (cmpKeys_range as bs)
mutual
theorem cmp_range : ∀ (a b : V), -1 ≤ a.cmp b ∧ a.cmp b ≤ 1
 | .mk k n t ks vs, b => by
  unfold V.cmp
  split
  ·exact orI_range (cmpI_range _ _) (orI_range (cmpB_range _ _) (orI_range (cmpKeys_range _ _) (cmpLV_range _ _)))
  ·exact cmpI_range _ _
theorem cmpLV_range : ∀ (a b : List V), -1 ≤ cmpLV a b ∧ cmpLV a b ≤ 1
 | [], [] => by simp [cmpLV]
 | [], _ :: _ => by simp [cmpLV]
 | _ :: _, [] => by simp [cmpLV]
 | a :: as, b :: bs => orI_range (cmp_range a b) (cmpLV_range as bs)
end
theorem keysOf_own {t : V} (h : t.right) (h6 : t.kind = 6) : (List.range t.kids.length).map t.keyAt = t.keys := by
 obtain ⟨_, _, hl⟩ := right_asc h h6
 apply List.ext_getElem
 ·simp [hl]
 ·intro i h1 h2
  rw [List.getElem_map, List.getElem_range]
  obtain ⟨_, he⟩ := keyAt_get (right_neat h) h6 (i := i) (by omega)
  exact he
def hasKey (l : List ByteArray) (k : ByteArray) : Bool := l.any fun x => x.toList == k.toList
theorem hasKey_iff {l : List ByteArray} {k : ByteArray} : hasKey l k = true ↔ k ∈ l := by
 unfold hasKey
 rw [List.any_eq_true]
 constructor
 ·rintro ⟨x, hx, h⟩
  have : x = k := ByteArray_toList_inj (by simpa using h)
  rw [← this]; exact hx
 ·intro h
  exact ⟨k, h, by simp⟩
def insKey (k : ByteArray) : List ByteArray → List ByteArray
 | [] => [k]
 | x :: r => if lessB k x then k :: x :: r else if k.toList == x.toList then x :: r else x :: insKey k r
def objKeys (keys : List ByteArray) : List ByteArray := keys.foldl (fun l k => insKey k l) []
def Up (l : List ByteArray) : Prop := l.Pairwise fun a b => lessB a b = true
theorem insKey_mem (k : ByteArray) : ∀ (l : List ByteArray) (x : ByteArray), x ∈ insKey k l ↔ x = k ∨ x ∈ l
 | [], x => by simp [insKey]
 | y :: r, x => by
  unfold insKey
  split
  ·simp
  ·split
   ·rename_i h
    have : k = y := ByteArray_toList_inj (by simpa using h)
    subst this
    simp
   ·rw [List.mem_cons, insKey_mem k r x, List.mem_cons]
    constructor
    ·rintro (h | h | h)
     ·exact .inr (.inl h)
     ·exact .inl h
     ·exact .inr (.inr h)
    ·rintro (h | h | h)
     ·exact .inr (.inl h)
     ·exact .inl h
     ·exact .inr (.inr h)
theorem lessB_tri (a b : ByteArray) : lessB a b = true ∨ a = b ∨ lessB b a = true := by
 rcases bytesLess_tri a.toList b.toList with h | h | h
 ·exact .inl h
 ·exact .inr (.inl (ByteArray_toList_inj h))
 ·exact .inr (.inr h)
theorem insKey_up (k : ByteArray) : ∀ {l : List ByteArray}, Up l → Up (insKey k l)
 | [], _ => by simp [insKey, Up]
 | y :: r, h => by
  unfold Up at h
  rw [List.pairwise_cons] at h
  unfold insKey
  split
  ·rename_i hl
   refine List.pairwise_cons.2 ⟨fun x hx => ?_, List.pairwise_cons.2 h⟩
   rcases List.mem_cons.1 hx with rfl | hx
   ·exact hl
   ·exact lessB_trans hl (h.1 x hx)
  ·rename_i hl
   split
   ·exact List.pairwise_cons.2 h
   ·rename_i he
    refine List.pairwise_cons.2 ⟨fun x hx => ?_, insKey_up k h.2⟩
    rcases (insKey_mem k r x).1 hx with rfl | hx
    ·rcases lessB_tri x y with g | g | g
     ·exact absurd g hl
     ·subst g; exact absurd (by simp) he
     ·exact g
    ·exact h.1 x hx
theorem up_eq : ∀ {a b : List ByteArray}, Up a → Up b → (∀ x, x ∈ a ↔ x ∈ b) → a = b
 | [], [], _, _, _ => rfl
 | [], y :: b, _, _, h => absurd ((h y).2 (by simp)) (by simp)
 | x :: a, [], _, _, h => absurd ((h x).1 (by simp)) (by simp)
 | x :: a, y :: b, h1, h2, h => by
  unfold Up at h1 h2
  rw [List.pairwise_cons] at h1 h2
  have no : ∀ {u v : ByteArray}, lessB u v = true → lessB v u = true → False := fun g1 g2 => by
   have := lessB_trans g1 g2
   rw [lessB_irrefl] at this
   cases this
  have hxy : x = y := by
   rcases List.mem_cons.1 ((h x).1 (by simp)) with e | hx
   ·exact e
   ·rcases List.mem_cons.1 ((h y).2 (by simp)) with e | hy
    ·exact e.symm
    ·exact (no (h1.1 y hy) (h2.1 x hx)).elim
  subst hxy
  congr 1
  refine up_eq h1.2 h2.2 fun z => ?_
  constructor
  ·intro hz
   rcases List.mem_cons.1 ((h z).1 (by simp [hz])) with e | hz'
   ·subst e; exact (no (h1.1 z hz) (h1.1 z hz)).elim
   ·exact hz'
  ·intro hz
   rcases List.mem_cons.1 ((h z).2 (by simp [hz])) with e | hz'
   ·subst e; exact (no (h2.1 z hz) (h2.1 z hz)).elim
   ·exact hz'
theorem foldIns (keys : List ByteArray) : ∀ (l : List ByteArray), Up l → Up (keys.foldl (fun l k => insKey k l) l) ∧ ∀ x, x ∈ keys.foldl (fun l k => insKey k l) l ↔ x ∈ keys ∨ x ∈ l := by
 induction keys with
 | nil => intro l h; exact ⟨h, fun x => by simp⟩
 | cons k r ih =>
  intro l h
  obtain ⟨h1, h2⟩ := ih (insKey k l) (insKey_up k h)
  refine ⟨h1, fun x => ?_⟩
  rw [List.foldl_cons, h2, insKey_mem, List.mem_cons]
  constructor
  ·rintro (h | h | h)
   ·exact .inl (.inr h)
   ·exact .inl (.inl h)
   ·exact .inr h
  ·rintro ((h | h) | h)
   ·exact .inr (.inl h)
   ·exact .inl h
   ·exact .inr (.inr h)
theorem objKeys_up (keys : List ByteArray) : Up (objKeys keys) := (foldIns keys [] (by simp [Up])).1
theorem objKeys_mem {keys : List ByteArray} {x : ByteArray} : x ∈ objKeys keys ↔ x ∈ keys := by
 unfold objKeys
 rw [(foldIns keys [] (by simp [Up])).2]
 simp
theorem insKey_len (k : ByteArray) : ∀ (l : List ByteArray), (insKey k l).length ≤ l.length + 1
 | [] => by simp [insKey]
 | x :: r => by
  unfold insKey
  split
  ·simp
  ·split
   ·simp
   ·have := insKey_len k r
    simp only [List.length_cons]
    omega
theorem objKeys_len (keys : List ByteArray) : (objKeys keys).length ≤ keys.length := by
 have key : ∀ (keys l : List ByteArray), (keys.foldl (fun l k => insKey k l) l).length ≤ keys.length + l.length := by
  intro keys
  induction keys with
  | nil => intro l; simp
  | cons k r ih =>
   intro l
   have h1 := ih (insKey k l)
   have h2 := insKey_len k l
   rw [List.foldl_cons, List.length_cons]
   omega
 have := key keys []
 unfold objKeys
 simpa using this
def lastKid : List ByteArray → List V → ByteArray → V
 | _ :: ks, v :: vs, x => if hasKey ks x then lastKid ks vs x else v
 | _, _, _ => nullV
theorem lastKid_at : ∀ {keys : List ByteArray} {kids : List V} {x : ByteArray}, keys.length = kids.length → x ∈ keys → ∃ j : Nat, keys[j]? = some x ∧ (∀ n : Nat, j < n → keys[n]? ≠ some x) ∧ kids[j]? = some (lastKid keys kids x)
 | [], _, x, _, h => absurd h (by simp)
 | k :: ks, [], x, h, _ => absurd h (by simp)
 | k :: ks, v :: vs, x, hl, hx => by
  have hl' : ks.length = vs.length := by simpa using hl
  unfold lastKid
  cases hk : hasKey ks x with
  | true =>
   obtain ⟨j, h1, h2, h3⟩ := lastKid_at hl' (hasKey_iff.1 hk)
   refine ⟨j + 1, by simpa using h1, fun n hn => ?_, by simpa using h3⟩
   cases n with
   | zero => omega
   | succ n => simpa using h2 n (by omega)
  | false =>
   have hnx : x ∉ ks := fun h => by rw [hasKey_iff.2 h] at hk; cases hk
   have hxk : x = k := by
    rcases List.mem_cons.1 hx with e | e
    ·exact e
    ·exact absurd e hnx
   subst hxk
   refine ⟨0, rfl, fun n hn => ?_, by simp⟩
   cases n with
   | zero => omega
   | succ n =>
    intro hc
    exact hnx (List.mem_of_getElem? (by simpa using hc))
def objV (keys : List ByteArray) (kids : List V) : V := .mk 6 0 ByteArray.empty (objKeys keys) ((objKeys keys).map (lastKid keys kids))
def toCome (keys vis : List ByteArray) : Nat := (keys.filter fun k => !hasKey vis k).length
theorem toCome_less {keys vis : List ByteArray} {k : ByteArray} (hk : k ∈ keys) (hv : k ∉ vis) : toCome keys (vis ++ [k]) < toCome keys vis := by
 unfold toCome
 have key : ∀ (l : List ByteArray), (l.filter fun x => !hasKey (vis ++ [k]) x).length ≤ (l.filter fun x => !hasKey vis x).length ∧ (k ∈ l → (l.filter fun x => !hasKey (vis ++ [k]) x).length < (l.filter fun x => !hasKey vis x).length) := by
  intro l
  induction l with
  | nil => simp
  | cons x r ih =>
   have himp : hasKey vis x = true → hasKey (vis ++ [k]) x = true := fun h => hasKey_iff.2 (by simp [hasKey_iff.1 h])
   rw [List.filter_cons, List.filter_cons]
   cases h1 : hasKey vis x with
   | true =>
    rw [himp h1]
    simp only [Bool.not_true, Bool.false_eq_true, if_false]
    refine ⟨ih.1, fun hm => ?_⟩
    rcases List.mem_cons.1 hm with e | e
    ·subst e; exact absurd (hasKey_iff.1 h1) hv
    ·exact ih.2 e
   | false =>
    simp only [Bool.not_false, if_true, List.length_cons]
    cases h2 : hasKey (vis ++ [k]) x with
    | true =>
     simp only [Bool.not_true, Bool.false_eq_true, if_false]
     exact ⟨by omega, fun _ => by omega⟩
    | false =>
     simp only [Bool.not_false, if_true, List.length_cons]
     refine ⟨by omega, fun hm => ?_⟩
     rcases List.mem_cons.1 hm with e | e
     ·subst e
      rw [hasKey_iff.2 (by simp)] at h2
      cases h2
     ·have := ih.2 e; omega
 exact (key keys).2 hk
theorem toCome_nil (keys : List ByteArray) : toCome keys [] = keys.length := by
 unfold toCome
 congr 1
 exact List.filter_eq_self.2 fun x _ => by simp [hasKey]
def sortB (l : List ByteArray) : List ByteArray := ((l.map fun b => b.data.toList).mergeSort fun x y => decide (x ≤ y)).map fun x => ⟨x.toArray⟩
mutual
def V.fit : V → Prop
 | .mk kind _ text keys kids => text.size ≤ 200 ∧ (∀ k ∈ keys, k.size ≤ 60) ∧ (holds kind = false → kids = []) ∧ (kind = 6 → keys.length = kids.length) ∧ (kind ≠ 6 → keys = []) ∧ fitL kids
def fitL : List V → Prop
 | [] => True
 | k :: ks => k.fit ∧ fitL ks
end
theorem fitL_iff : ∀ {l : List V}, fitL l ↔ ∀ v ∈ l, v.fit
 | [] => by simp [fitL]
 | v :: l => by simp only [fitL, List.mem_cons, forall_eq_or_imp, fitL_iff (l := l)]
theorem okText_le {s : ByteArray} (h : okText s = true) : s.size ≤ 60 := by
 unfold okText at h
 simp only [Bool.and_eq_true, decide_eq_true_eq] at h
 exact h.1
mutual
theorem fit_wf : ∀ (t : V), t.wf → t.fit
 | .mk kind num text keys kids, h => by
  have hn := neat_wf _ h
  obtain ⟨h1, h2, h3⟩ := h
  have ht := (code_text (c := ⟨kind, num, text, ByteArray.empty, kids.length⟩) h1).1
  unfold keysOk at h2
  refine ⟨Nat.le_trans (okText_le ht) (by decide), fun k hk => ?_, hn.1, hn.2.1, fun h6 => ?_, fitL_wf kids h3⟩
  ·by_cases h6 : kind = 6
   ·rw [if_pos h6] at h2
    exact okText_le (h2.2.1 k hk)
   ·rw [if_neg h6] at h2
    rw [h2] at hk
    simp at hk
  ·rw [if_neg h6] at h2
   exact h2
theorem fitL_wf : ∀ (l : List V), wfL l → fitL l
 | [], _ => trivial
 | v :: l, h => ⟨fit_wf v h.1, fitL_wf l h.2⟩
end
mutual
theorem fit_neat : ∀ (t : V), t.fit → t.neat
 | .mk kind num text keys kids, h => ⟨h.2.2.1, h.2.2.2.1, fitL_neat kids h.2.2.2.2.2⟩
theorem fitL_neat : ∀ (l : List V), fitL l → neatL l
 | [], _ => trivial
 | v :: l, h => ⟨fit_neat v h.1, fitL_neat l h.2⟩
end
mutual
theorem fit_cells : ∀ (t : V) (key : ByteArray), t.fit → key.size ≤ 60 → ∀ c ∈ t.cells key, c.text.size ≤ 200 ∧ c.key.size ≤ 60
 | .mk kind num text keys kids, key, h, hk, c, hc => by
  rcases List.mem_cons.1 hc with rfl | hc
  ·exact ⟨h.1, hk⟩
  ·exact fit_cellsL kids kind keys h.2.1 h.2.2.2.2.2 c hc
theorem fit_cellsL : ∀ (l : List V) (kind : Int) (keys : List ByteArray), (∀ k ∈ keys, k.size ≤ 60) → fitL l → ∀ c ∈ cellsL kind keys l, c.text.size ≤ 200 ∧ c.key.size ≤ 60
 | [], _, _, _, _, c, hc => by simp [cellsL] at hc
 | v :: l, kind, keys, hk, h, c, hc => by
  rcases List.mem_append.1 hc with hc | hc
  ·refine fit_cells v _ h.1 ?_ c hc
   split
   ·cases keys with
    | nil => exact Nat.zero_le _
    | cons k ks => exact hk k (by simp)
   ·exact Nat.zero_le _
  ·exact fit_cellsL l kind keys.tail (fun k hk' => hk k (List.mem_of_mem_tail hk')) h.2 c hc
end
mutual
theorem cells_inj : ∀ (t t' : V) (key key' : ByteArray) (r r' : List CellD), t.fit → t'.fit → t.cells key ++ r = t'.cells key' ++ r' → t = t' ∧ key = key' ∧ r = r'
 | .mk kind num text keys kids, .mk kind' num' text' keys' kids', key, key', r, r', h, h', he => by
  simp only [V.cells, List.cons_append, List.cons.injEq, CellD.mk.injEq] at he
  obtain ⟨⟨rfl, rfl, rfl, rfl, hl⟩, he⟩ := he
  obtain ⟨rfl, rfl, rfl⟩ := cellsL_inj kids kids' kind keys keys' r r' (by omega) (fun h6 => ⟨h.2.2.2.1 h6, h'.2.2.2.1 h6⟩) (fun h6 => ⟨h.2.2.2.2.1 h6, h'.2.2.2.2.1 h6⟩) h.2.2.2.2.2 h'.2.2.2.2.2 he
  exact ⟨rfl, rfl, rfl⟩
theorem cellsL_inj : ∀ (l l' : List V) (kind : Int) (keys keys' : List ByteArray) (r r' : List CellD), l.length = l'.length → (kind = 6 → keys.length = l.length ∧ keys'.length = l'.length) → (kind ≠ 6 → keys = [] ∧ keys' = []) → fitL l → fitL l' → cellsL kind keys l ++ r = cellsL kind keys' l' ++ r' → keys = keys' ∧ l = l' ∧ r = r'
 | [], [], kind, keys, keys', r, r', _, h6, hn, _, _, he => by
  by_cases h : kind = 6
  ·have := h6 h
   exact ⟨by rw [List.eq_nil_of_length_eq_zero this.1, List.eq_nil_of_length_eq_zero this.2], rfl, he⟩
  ·exact ⟨by rw [(hn h).1, (hn h).2], rfl, he⟩
 | [], _ :: _, _, _, _, _, _, hl, _, _, _, _, _ => by simp at hl
 | _ :: _, [], _, _, _, _, _, hl, _, _, _, _, _ => by simp at hl
 | v :: l, v' :: l', kind, keys, keys', r, r', hl, h6, hn, h, h', he => by
  simp only [cellsL, List.append_assoc] at he
  obtain ⟨rfl, hk, he⟩ := cells_inj v v' _ _ _ _ h.1 h'.1 he
  by_cases hk6 : kind = 6
  ·obtain ⟨q1, q2⟩ := h6 hk6
   cases keys with
   | nil => simp at q1
   | cons k ks => cases keys' with
    | nil => simp at q2
    | cons k' ks' =>
     rw [if_pos hk6, if_pos hk6] at hk
     have hk' : k = k' := hk
     subst hk'
     obtain ⟨rfl, rfl, rfl⟩ := cellsL_inj l l' kind ks ks' r r' (by simpa using hl) (fun _ => ⟨by simpa using q1, by simpa using q2⟩) (fun e => absurd hk6 e) h.2 h'.2 he
     exact ⟨rfl, rfl, rfl⟩
  ·obtain ⟨rfl, rfl⟩ := hn hk6
   obtain ⟨_, rfl, rfl⟩ := cellsL_inj l l' kind [] [] r r' (by simpa using hl) (fun e => absurd e hk6) (fun _ => ⟨rfl, rfl⟩) h.2 h'.2 he
   exact ⟨rfl, rfl, rfl⟩
end
theorem fit_dec {t : V} (h : t.fit) (h0 : (dec t.enc).1 = 0) : t.right := by
 rcases dec_cases t.enc with ⟨u, hu⟩ | ⟨c, hc, hd⟩
 ·obtain ⟨h1, h2, h3, h4⟩ := dec_ok hu
  obtain ⟨rfl, _, _⟩ := cells_inj t u ByteArray.empty ByteArray.empty [] [] h (fit_wf u h2) (by rw [List.append_nil, List.append_nil]; exact h1)
  exact ⟨h2, h3, h4⟩
 ·rw [hd] at h0
  exact absurd h0 hc
theorem fit_sized {t : V} (h : t.fit) : ∀ c ∈ t.enc, c.text.size ≤ 9223372036854775807 ∧ c.key.size ≤ 9223372036854775807 := fun c hc => by
 have := fit_cells t ByteArray.empty h (Nat.zero_le _) c hc
 omega
theorem fit_right {t : V} (h : t.right) : t.fit := fit_wf t h.1
def giveR (t : V) : Int × Option V := if (dec t.enc).1 = 0 then (0, some t) else ((dec t.enc).1, none)
def memL (ks : List ByteArray) (vs : List V) (k : ByteArray) : V := match findKey ks k with
 | some i => vs.getD i nullV
 | none => nullV
theorem up_of {ks : List ByteArray} (h : asc none ks) : Up ks := by
 unfold Up
 rw [List.pairwise_iff_getElem]
 intro i j hi hj hij
 exact asc_sorted h hij hj
theorem up_inj {ks : List ByteArray} (h : Up ks) {i j : Nat} {x : ByteArray} (hi : ks[i]? = some x) (hj : ks[j]? = some x) : i = j := by
 unfold Up at h
 rw [List.pairwise_iff_getElem] at h
 obtain ⟨h1, e1⟩ := List.getElem?_eq_some_iff.1 hi
 obtain ⟨h2, e2⟩ := List.getElem?_eq_some_iff.1 hj
 rcases Nat.lt_trichotomy i j with g | g | g
 ·have := h i j h1 h2 g
  rw [e1, e2, lessB_irrefl] at this
  cases this
 ·exact g
 ·have := h j i h2 h1 g
  rw [e1, e2, lessB_irrefl] at this
  cases this
theorem memL_at {ks : List ByteArray} {vs : List V} (h : Up ks) {i : Nat} {x : ByteArray} {v : V} (hi : ks[i]? = some x) (hv : vs[i]? = some v) : memL ks vs x = v := by
 unfold memL
 cases hf : findKey ks x with
 | none => exact absurd (List.mem_of_getElem? hi) (findKey_none hf)
 | some j =>
  obtain ⟨h1, h2, _⟩ := findKey_some hf
  have : j = i := up_inj h (List.getElem?_eq_some_iff.2 ⟨h1, h2⟩) hi
  subst this
  simp only
  rw [List.getD_eq_getElem?_getD, hv, Option.getD_some]
theorem memL_none {ks : List ByteArray} {vs : List V} {x : ByteArray} (h : x ∉ ks) : memL ks vs x = nullV := by
 unfold memL
 cases hf : findKey ks x with
 | none => rfl
 | some j =>
  obtain ⟨h1, h2, _⟩ := findKey_some hf
  exact absurd (h2 ▸ List.getElem_mem h1) h
theorem fit_keys {a : V} (h : a.fit) : ∀ k ∈ a.keys, k.size ≤ 60 := by cases a; exact h.2.1
theorem countL_app (a b : List V) : countL (a ++ b) = countL a + countL b := by
 induction a with
 | nil => simp [countL]
 | cons x a ih => simp only [List.cons_append, countL, ih]; omega
theorem ins_count {g g' : ByteArray → V} {k : ByteArray} : ∀ {l : List ByteArray}, Up l → (∀ x ∈ l, x ≠ k → g' x = g x) → countL ((insKey k l).map g') ≤ countL (l.map g) + (g' k).count
 | [], _, _ => by simp [insKey, countL]
 | x :: r, hu, h => by
  unfold Up at hu
  rw [List.pairwise_cons] at hu
  have hne : ∀ {u v : ByteArray}, lessB u v = true → v ≠ u := fun hl e => by subst e; rw [lessB_irrefl] at hl; cases hl
  unfold insKey
  split
  ·rename_i hl
   have e : (x :: r).map g' = (x :: r).map g := List.map_congr_left fun y hy => h y hy (by
    rcases List.mem_cons.1 hy with rfl | hy
    ·exact hne hl
    ·exact hne (lessB_trans hl (hu.1 y hy)))
   rw [List.map_cons, countL, e]
   omega
  ·split
   ·rename_i he
    have hx : k = x := ByteArray_toList_inj (by simpa using he)
    have e : r.map g' = r.map g := List.map_congr_left fun y hy => h y (by simp [hy]) (by rw [hx]; exact hne (hu.1 y hy))
    rw [List.map_cons, List.map_cons, countL, countL, e, ← hx]
    omega
   ·rename_i he
    have hx : x ≠ k := fun e => he (by rw [e]; simp)
    have := ins_count (g := g) (g' := g') (k := k) hu.2 fun y hy => h y (by simp [hy])
    rw [List.map_cons, List.map_cons, countL, countL, h x (by simp) hx]
    omega
theorem lastKid_snoc : ∀ {ks : List ByteArray} {vs : List V} {k : ByteArray} {v : V} {x : ByteArray}, ks.length = vs.length → (x = k ∨ x ∈ ks) → lastKid (ks ++ [k]) (vs ++ [v]) x = if x = k then v else lastKid ks vs x
 | [], [], k, v, x, _, hx => by
  have hxk : x = k := by simpa using hx
  rw [if_pos hxk]
  simp [lastKid, hasKey]
 | [], _ :: _, _, _, _, h, _ => by simp at h
 | _ :: _, [], _, _, _, h, _ => by simp at h
 | k0 :: ks, v0 :: vs, k, v, x, h, hx => by
  have hl : ks.length = vs.length := by simpa using h
  simp only [List.cons_append, lastKid]
  have hh : hasKey (ks ++ [k]) x = true ↔ x ∈ ks ∨ x = k := by rw [hasKey_iff]; simp
  by_cases hxk : x = k
  ·rw [if_pos hxk, if_pos (hh.2 (.inr hxk)), lastKid_snoc hl (.inl hxk), if_pos hxk]
  ·rw [if_neg hxk]
   by_cases hm : x ∈ ks
   ·rw [if_pos (hh.2 (.inl hm)), if_pos (hasKey_iff.2 hm), lastKid_snoc hl (.inr hm), if_neg hxk]
   ·rw [if_neg (fun hc => (hh.1 hc).elim hm hxk), if_neg (fun hc => hm (hasKey_iff.1 hc))]
theorem objKeys_snoc (ks : List ByteArray) (k : ByteArray) : objKeys (ks ++ [k]) = insKey k (objKeys ks) := by
 unfold objKeys
 rw [List.foldl_append]
 rfl
theorem objV_count : ∀ (n : Nat) (ks : List ByteArray) (vs : List V), ks.length = n → vs.length = n → countL ((objKeys ks).map (lastKid ks vs)) ≤ countL vs
 | 0, ks, vs, h1, h2 => by
  rw [List.eq_nil_of_length_eq_zero h1]
  simp [objKeys, countL]
 | n + 1, ks, vs, h1, h2 => by
  rcases List.eq_nil_or_concat ks with rfl | ⟨ks', k, rfl⟩
  ·simp at h1
  ·rcases List.eq_nil_or_concat vs with rfl | ⟨vs', v, rfl⟩
   ·simp at h2
   ·simp only [List.concat_eq_append, List.length_append, List.length_singleton] at h1 h2 ⊢
    have hl : ks'.length = vs'.length := by omega
    have ih := objV_count n ks' vs' (by omega) (by omega)
    rw [objKeys_snoc, countL_app]
    have hins := ins_count (g := lastKid ks' vs') (g' := lastKid (ks' ++ [k]) (vs' ++ [v])) (k := k) (objKeys_up ks') fun x hx hne => by
     rw [lastKid_snoc hl (.inr (objKeys_mem.1 hx)), if_neg hne]
    rw [lastKid_snoc hl (.inl rfl), if_pos rfl] at hins
    simp only [countL]
    omega
theorem member_memL (a : V) (k : ByteArray) : a.member k = memL a.keys a.kids k := rfl
end Go.Proofs.YtlciedpfjhkkdaaGreatDoor
