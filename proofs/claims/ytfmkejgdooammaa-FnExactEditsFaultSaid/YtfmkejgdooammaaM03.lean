/- The plain mathematics of trees, on. -/
import Derived.Test.YtfmkejgdooammaaM02
namespace Go.Proofs.Ytfmkejgdooammaa
open Go.RowKit

theorem take_snoc {α : Type} {xs : List α} {k : Nat} (h : k < xs.length) : xs.take (k + 1) = xs.take k ++ [xs[k]] := by
  rw [List.take_succ_eq_append_getElem h]
theorem depthL_take {ks : List V} {k : Nat} (h : k < ks.length) : depthL (ks.take (k + 1)) = max (depthL (ks.take k)) ks[k].depth := by
  rw [take_snoc h, depthL_append]
theorem depthL_mem {ks : List V} {t : V} (h : t ∈ ks) : t.depth ≤ depthL ks := by
  induction ks with
  | nil => simp at h
  | cons x ks ih =>
    simp only [List.mem_cons] at h
    simp only [depthL]
    rcases h with rfl | h
    · omega
    · have := ih h; omega
theorem countL_mem {ks : List V} {t : V} (h : t ∈ ks) : t.count ≤ countL ks := by
  induction ks with
  | nil => simp at h
  | cons x ks ih =>
    simp only [List.mem_cons] at h
    simp only [countL]
    rcases h with rfl | h
    · omega
    · have := ih h; omega
theorem count_pos (t : V) : 0 < t.count := by cases t; simp [V.count]
theorem countL_len (ks : List V) : ks.length ≤ countL ks := by
  induction ks with
  | nil => simp [countL]
  | cons x ks ih => have := count_pos x; simp only [countL, List.length_cons]; omega
theorem count_kids (t : V) : t.count = countL t.kids + 1 := by cases t; rfl
theorem depth_kids (t : V) : t.depth = depthL t.kids + 1 := by cases t; rfl
mutual
theorem depth_le_count : ∀ t : V, t.depth ≤ t.count
  | .mk _ _ _ _ kids => by simp only [V.depth, V.count]; have := depthL_le_countL kids; omega
theorem depthL_le_countL : ∀ ks : List V, depthL ks ≤ countL ks
  | [] => by simp [depthL, countL]
  | k :: ks => by simp only [depthL, countL]; have := depth_le_count k; have := depthL_le_countL ks; omega
end
theorem depthL_take_le (ks : List V) (k : Nat) : depthL (ks.take k) ≤ depthL ks := by
  induction ks generalizing k with
  | nil => simp [depthL]
  | cons x ks ih =>
    cases k with
    | zero => simp [depthL]
    | succ k => have := ih k; simp only [List.take_succ_cons, depthL]; omega
theorem parseK_count {pv : List CellD → Option (V × List CellD)} (hp : ∀ l t r, pv l = some (t, r) → t.count + r.length ≤ l.length) (kind : Int) :
    ∀ cnt last l x, parseK pv kind cnt last l = some x → countL x.2.1 + x.2.2.length ≤ l.length := by
  intro cnt
  induction cnt with
  | zero => intro last l x h; simp only [parseK, Option.some.injEq] at h; subst h; simp [countL]
  | succ cnt ih =>
    intro last l x h
    cases l with
    | nil => simp [parseK] at h
    | cons c l =>
      simp only [parseK] at h
      split at h
      · simp at h
      · split at h
        · simp at h
        · rename_i v r hv
          simp only [Option.map_eq_some_iff] at h
          obtain ⟨y, hy, rfl⟩ := h
          have h1 := ih _ _ _ hy
          have h2 := hp _ _ _ hv
          simp only [countL]
          omega
theorem parseV_count : ∀ m l t r, parseV m l = some (t, r) → t.count + r.length ≤ l.length := by
  intro m
  induction m with
  | zero => intro l t r h; simp [parseV] at h
  | succ m ih =>
    intro l t r h
    cases l with
    | nil => simp [parseV] at h
    | cons c l =>
      simp only [parseV, Option.map_eq_some_iff] at h
      obtain ⟨x, hx, he⟩ := h
      simp only [Prod.mk.injEq] at he
      have := parseK_count ih _ _ _ _ _ hx
      obtain ⟨rfl, rfl⟩ := he
      simp only [V.count, List.length_cons]
      omega
theorem dec_some {xs : List CellD} {t : V} (h : (dec xs).2 = some t) : (dec xs).1 = 0 ∧ 1 ≤ xs.length ∧ xs.length ≤ 200 ∧ firstCode xs = 0 ∧ parseV xs.length xs = some (t, []) ∧ (xs.headD ⟨0, 0, ByteArray.empty, ByteArray.empty, 0⟩).key.toList.isEmpty = true ∧ t.depth ≤ 20 := by
  unfold dec at h ⊢
  split at h
  · simp at h
  · split at h
    · simp at h
    · rename_i h1 h2
      rw [if_neg h1, if_neg h2]
      split at h
      · rename_i u hu
        split at h
        · simp at h
        · split at h
          · simp at h
          · rename_i h3 h4
            rw [hu]
            simp only [Option.some.injEq] at h
            subst h
            simp only [h3, h4]
            simp at h1 h2 h3
            exact ⟨by trivial, by omega, by omega, h2, by trivial, by simpa using h3, by omega⟩
      · simp at h
theorem dec_cases (xs : List CellD) : (∃ t, dec xs = (0, some t)) ∨ (∃ c, c ≠ 0 ∧ dec xs = (c, none)) := by
  by_cases h1 : ¬ (1 ≤ xs.length ∧ xs.length ≤ 200)
  · exact .inr ⟨2, by omega, by unfold dec; rw [if_pos h1]⟩
  · by_cases h2 : firstCode xs ≠ 0
    · exact .inr ⟨firstCode xs, h2, by unfold dec; rw [if_neg h1, if_pos h2]⟩
    · have h0 : dec xs = dec2 xs := by unfold dec; rw [if_neg h1, if_neg h2]; rfl
      rw [h0]
      unfold dec2
      rcases parseV xs.length xs with _ | ⟨t, _ | ⟨y, r⟩⟩
      · exact .inr ⟨1, by omega, rfl⟩
      · by_cases h3 : (!((xs.headD ⟨0, 0, ByteArray.empty, ByteArray.empty, 0⟩).key.toList.isEmpty)) = true
        · exact .inr ⟨1, by omega, if_pos h3⟩
        · by_cases h4 : 20 < t.depth
          · exact .inr ⟨7, by omega, (if_neg h3).trans (if_pos h4)⟩
          · exact .inl ⟨t, (if_neg h3).trans (if_neg h4)⟩
      · exact .inr ⟨1, by omega, rfl⟩
theorem dec_none {xs : List CellD} (h : (dec xs).2 = none) : (dec xs).1 ≠ 0 := by
  rcases dec_cases xs with ⟨t, ht⟩ | ⟨c, hc, hd⟩
  · rw [ht] at h; simp at h
  · rw [hd]; exact hc
end Go.Proofs.Ytfmkejgdooammaa
