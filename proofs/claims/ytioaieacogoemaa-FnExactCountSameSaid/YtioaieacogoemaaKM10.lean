/- The plain mathematics of trees: the events of a value. -/
import Derived.Test.YtioaieacogoemaaKM09
set_option linter.unusedSimpArgs false
set_option linter.unusedVariables false
set_option linter.unnecessarySimpa false
namespace Go.Proofs.Ytioaieacogoemaa
open Go.RowKit
/-- An event: a path; the leaf that stands there, or none at the end of an array or object. -/
abbrev Ev := List V × Option V
def evUnder (q : V) (e : Ev) : Ev := (q :: e.1, e.2)
mutual
def V.stream : V → List Ev
  | .mk kind num text keys kids => if kids.isEmpty then [([], some (.mk kind num text keys kids))] else streamL (V.mk kind num text keys kids).keyV 0 kids ++ [([(V.mk kind num text keys kids).keyV (kids.length - 1)], none)]
def streamL (key : Nat → V) (i : Nat) : List V → List Ev
  | [] => []
  | k :: ks => k.stream.map (evUnder (key i)) ++ streamL key (i + 1) ks
end
theorem stream_leaf {t : V} (h : t.kids.isEmpty = true) : t.stream = [([], some t)] := by
  cases t
  simp only [V.kids] at h
  unfold V.stream
  rw [if_pos h]
theorem stream_node {t : V} (h : t.kids.isEmpty = false) : t.stream = streamL t.keyV 0 t.kids ++ [([t.keyV (t.kids.length - 1)], none)] := by
  cases t
  simp only [V.kids] at h ⊢
  unfold V.stream
  rw [if_neg (by simp [h])]
theorem streamL_drop (key : Nat → V) (ks : List V) {k : Nat} (h : k < ks.length) : streamL key k (ks.drop k) = ks[k].stream.map (evUnder (key k)) ++ streamL key (k + 1) (ks.drop (k + 1)) := by
  rw [List.drop_eq_getElem_cons h]
  rfl
mutual
theorem stream_len : ∀ (t : V), t.stream.length = t.count
  | .mk kind num text keys kids => by
    unfold V.stream
    by_cases h : kids.isEmpty = true
    · rw [if_pos h]
      have : kids = [] := by simpa using h
      subst this
      rfl
    · rw [if_neg h, List.length_append, streamL_len _ 0 kids]
      simp [V.count]
theorem streamL_len : ∀ (key : Nat → V) (i : Nat) (ks : List V), (streamL key i ks).length = countL ks
  | _, _, [] => rfl
  | key, i, k :: ks => by
    simp only [streamL, List.length_append, List.length_map, countL]
    rw [stream_len k, streamL_len key (i + 1) ks]
end
/-- What stands in a path: a short text, or a number. -/
def okKey (q : V) : Prop := (∃ s, q = strV s ∧ okText s = true) ∨ ∃ n : Int, q = numV n ∧ 0 ≤ n ∧ n ≤ 200
theorem okKey_right {q : V} (h : okKey q) : q.right ∧ q.count = 1 ∧ q.depth = 1 := by
  rcases h with ⟨s, rfl, hs⟩ | ⟨n, rfl, h1, h2⟩
  · refine ⟨⟨⟨?_, ?_, trivial⟩, by simp [strV, V.count, countL], by simp [strV, V.depth, depthL]⟩, rfl, rfl⟩
    · unfold cellCode
      have h1 : inB 4 0 6 = true := by decide
      simp [h1, cF, cR, cT, hs, okText_empty, inB]
    · simp [keysOk]
  · refine ⟨⟨⟨?_, ?_, trivial⟩, by simp [numV, V.count, countL], by simp [numV, V.depth, depthL]⟩, rfl, rfl⟩
    · unfold cellCode
      have h3 : inB 3 0 6 = true := by decide
      have h4 : inB n (-1000000000000000) 1000000000000000 = true := by unfold inB; simp; omega
      simp [h3, cF, cR, cT, okText_empty, h4, inB]
      omega
    · simp [keysOk]
theorem keyV_ok {t : V} (h : t.right) {i : Nat} (hi : i < t.kids.length) : okKey (t.keyV i) := by
  have hk := kids_len_le h.2.1
  unfold V.keyV
  split
  · rename_i h6
    obtain ⟨_, h2, h3⟩ := right_asc h h6
    refine .inl ⟨_, rfl, ?_⟩
    obtain ⟨hk', he⟩ := keyAt_get (right_neat h) h6 hi
    rw [he]
    exact h2 _ (List.getElem_mem _)
  · exact .inr ⟨i, rfl, by omega, by omega⟩
/-- An event without a fault: its path is short, its leaf is right and holds nothing. -/
def okEv (d : Nat) (e : Ev) : Prop := e.1.length ≤ d ∧ (∀ q ∈ e.1, okKey q) ∧ ∀ t, e.2 = some t → t.right ∧ t.kids = []
mutual
theorem stream_ok : ∀ (t : V), t.right → ∀ e ∈ t.stream, okEv t.depth e
  | .mk kind num text keys kids, h => by
    intro e he
    have hkid := @right_mem _ h
    simp only [V.kids] at hkid
    have hkey := @keyV_ok _ h
    simp only [V.kids] at hkey
    unfold V.stream at he
    by_cases hk : kids.isEmpty = true
    · rw [if_pos hk] at he
      simp only [List.mem_singleton] at he
      subst he
      exact ⟨by simp, by simp, fun t ht => by cases ht; exact ⟨h, by simpa [V.kids] using hk⟩⟩
    · rw [if_neg hk] at he
      have hne : 0 < kids.length := by
        cases kids with
        | nil => simp at hk
        | cons x xs => simp
      simp only [List.mem_append, List.mem_singleton] at he
      rcases he with he | rfl
      · exact streamL_ok _ 0 kids (fun k hk' => hkid hk') (fun i hi => hkey (by omega)) e he
      · refine ⟨by simp only [V.depth, List.length_singleton]; omega, ?_, by simp⟩
        intro q hq
        simp only [List.mem_singleton] at hq
        subst hq
        exact hkey (by omega)
theorem streamL_ok : ∀ (key : Nat → V) (i : Nat) (ks : List V), (∀ k ∈ ks, k.right) → (∀ j, j < i + ks.length → okKey (key j)) → ∀ e ∈ streamL key i ks, okEv (depthL ks + 1) e
  | _, _, [], _, _ => by simp [streamL]
  | key, i, k :: ks, hk, hkey => by
    intro e he
    simp only [streamL, List.mem_append, List.mem_map] at he
    rcases he with ⟨e', he', rfl⟩ | he
    · obtain ⟨h1, h2, h3⟩ := stream_ok k (hk k (by simp)) e' he'
      refine ⟨by simp only [evUnder, List.length_cons, depthL]; omega, ?_, h3⟩
      intro q hq
      simp only [evUnder, List.mem_cons] at hq
      rcases hq with rfl | hq
      · exact hkey i (by simp)
      · exact h2 q hq
    · obtain ⟨h1, h2, h3⟩ := streamL_ok key (i + 1) ks (fun x hx => hk x (by simp [hx])) (fun j hj => hkey j (by simp only [List.length_cons]; omega)) e he
      exact ⟨by simp only [depthL]; omega, h2, h3⟩
end
/-- The value of an event. -/
def evV (e : Ev) : V := match e.2 with
  | some t => arrV [arrV e.1, t]
  | none => arrV [arrV e.1]
theorem countL_keys : ∀ {l : List V}, (∀ q ∈ l, okKey q) → countL l = l.length ∧ depthL l ≤ 1 ∧ wfL l
  | [], _ => ⟨rfl, by simp [depthL], trivial⟩
  | q :: l, h => by
    obtain ⟨h1, h2, h3⟩ := countL_keys (l := l) fun x hx => h x (by simp [hx])
    obtain ⟨h4, h5, h6⟩ := okKey_right (h q (by simp))
    exact ⟨by simp only [countL, List.length_cons]; omega, by simp only [depthL]; omega, h4.1, h3⟩
theorem arr_wf {l : List V} (h : wfL l) (hl : l.length ≤ 200) : (arrV l).wf := by
  refine ⟨?_, by simp [keysOk], h⟩
  unfold cellCode
  have h1 : inB 5 0 6 = true := by decide
  have h2 : inB (l.length : Int) 0 200 = true := by unfold inB; simp; omega
  simp [h1, cF, cR, cT, okText_empty, holds, h2, inB]
  omega
theorem leaf_count {t : V} (h : t.kids = []) : t.count = 1 ∧ t.depth = 1 := by
  cases t
  simp only [V.kids] at h
  subst h
  exact ⟨rfl, rfl⟩
theorem ev_right {e : Ev} (h : okEv 20 e) : (evV e).right ∧ (evV e).count ≤ 25 := by
  obtain ⟨h1, h2, h3⟩ := h
  obtain ⟨c1, c2, c3⟩ := countL_keys h2
  have ha := arr_wf c3 (by omega)
  unfold evV
  cases he : e.2 with
  | none =>
    refine ⟨⟨arr_wf ⟨ha, trivial⟩ (by simp), ?_, ?_⟩, ?_⟩
    · simp only [arrV, V.count, countL]; omega
    · simp only [arrV, V.depth, depthL]; omega
    · simp only [arrV, V.count, countL]; omega
  | some t =>
    obtain ⟨g1, g2⟩ := h3 t he
    obtain ⟨g3, g4⟩ := leaf_count g2
    refine ⟨⟨arr_wf ⟨ha, g1.1, trivial⟩ (by simp), ?_, ?_⟩, ?_⟩
    · simp only [arrV, V.count, countL]; omega
    · simp only [arrV, V.depth, depthL]; omega
    · simp only [arrV, V.count, countL]; omega
end Go.Proofs.Ytioaieacogoemaa
