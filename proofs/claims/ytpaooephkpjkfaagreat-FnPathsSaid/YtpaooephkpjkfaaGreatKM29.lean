/- The plain mathematics of drawn paths. -/
import Derived.Test.YtpaooephkpjkfaaGreatKM23uM28
import Derived.Test.YtpaooephkpjkfaaGreatKM2
set_option linter.unusedSimpArgs false
set_option linter.unusedVariables false
set_option linter.unnecessarySimpa false
namespace Go.Proofs.YtpaooephkpjkfaaGreat
open Go.RowKit
/-- A simple key: one cell, a number or a string. -/
def sKey (q : V) : Prop := q.right ∧ q.count = 1 ∧ q.depth = 1 ∧ (q.kind = 3 ∨ q.kind = 4)
theorem sKey_ok {q : V} (h : okKey q) : sKey q := by
  obtain ⟨h1, h2, h3⟩ := okKey_right h
  refine ⟨h1, h2, h3, ?_⟩
  rcases h with ⟨s, rfl, _⟩ | ⟨n, rfl, _⟩
  · exact .inr rfl
  · exact .inl rfl
theorem sKey_num {n : Int} (h : -1000000000000000 ≤ n ∧ n ≤ 1000000000000000) : sKey (numV n) := ⟨numV_right h, rfl, rfl, .inl rfl⟩
theorem strV_right {s : ByteArray} (h : okText s = true) : (strV s).right := by
  refine leaf_right ?_ (by decide)
  unfold cellCode
  have h2 : inB 0 (-1000000000000000) 1000000000000000 = true := by decide
  simp [cF, cR, cT, okText_empty, holds, h2, inB, h]
theorem sKey_str {s : ByteArray} (h : okText s = true) : sKey (strV s) := ⟨strV_right h, rfl, rfl, .inr rfl⟩
mutual
theorem paths_sk : ∀ (t : V) (ahead : List V), t.right → (∀ q ∈ ahead, sKey q) → ∀ p ∈ t.paths ahead, (∀ q ∈ p.1, sKey q) ∧ p.1.length + p.2.depth ≤ ahead.length + t.depth
  | .mk kind num text keys kids, ahead, ht, ha => by
    intro p hp
    simp only [V.paths, List.mem_cons] at hp
    rcases hp with rfl | hp
    · exact ⟨ha, Nat.le_refl _⟩
    · have hr : ∀ k ∈ kids, k.right := fun k hk => right_mem ht hk
      have := pathsL_sk (V.mk kind num text keys kids).keyV 0 kids ahead hr (fun j hj => sKey_ok (keyV_ok ht (by simpa [V.kids] using hj))) ha p hp
      exact ⟨this.1, by simp only [V.depth]; omega⟩
theorem pathsL_sk : ∀ (key : Nat → V) (i : Nat) (ks ahead : List V), (∀ k ∈ ks, k.right) → (∀ j, j < i + ks.length → sKey (key j)) → (∀ q ∈ ahead, sKey q) → ∀ p ∈ pathsL key i ks ahead, (∀ q ∈ p.1, sKey q) ∧ p.1.length + p.2.depth ≤ ahead.length + 1 + depthL ks
  | _, _, [], _, _, _, _ => by simp [pathsL]
  | key, i, k :: ks, ahead, hr, hk, ha => by
    intro p hp
    simp only [pathsL, List.mem_append] at hp
    rcases hp with hp | hp
    · have := paths_sk k (ahead ++ [key i]) (hr k (by simp)) (fun q hq => by
        rcases List.mem_append.1 hq with hq | hq
        · exact ha q hq
        · rw [List.mem_singleton.1 hq]; exact hk i (by simp)) p hp
      refine ⟨this.1, ?_⟩
      have h2 := this.2
      rw [List.length_append, List.length_singleton] at h2
      simp only [depthL]
      omega
    · have := pathsL_sk key (i + 1) ks ahead (fun x hx => hr x (by simp [hx])) (fun j hj => hk j (by simp only [List.length_cons]; omega)) ha p hp
      exact ⟨this.1, by simp only [depthL]; omega⟩
end
theorem depth_pos (t : V) : 1 ≤ t.depth := by cases t; simp [V.depth]
/-- A path that was drawn. -/
def PathOk (P : List V) : Prop := P.length ≤ 15 ∧ ∀ q ∈ P, sKey q
theorem countL_sk : ∀ {l : List V}, (∀ q ∈ l, sKey q) → countL l = l.length ∧ depthL l ≤ 1 ∧ wfL l
  | [], _ => ⟨rfl, Nat.zero_le _, trivial⟩
  | q :: l, h => by
    obtain ⟨h1, h2, h3⟩ := countL_sk (l := l) fun x hx => h x (by simp [hx])
    obtain ⟨h4, h5, h6, _⟩ := h q (by simp)
    exact ⟨by simp only [countL, List.length_cons]; omega, by simp only [depthL]; omega, h4.1, h3⟩
theorem path_right {P : List V} (h : ∀ q ∈ P, sKey q) (hl : P.length ≤ 100) : (arrV P).right := by
  obtain ⟨h1, h2, h3⟩ := countL_sk h
  exact ⟨arr_wf h3 (by omega), by simp only [arrV, V.count]; omega, by simp only [arrV, V.depth]; omega⟩
theorem sk_snoc {P : List V} (h : ∀ q ∈ P, sKey q) {x : V} (hx : sKey x) : ∀ q ∈ P ++ [x], sKey q := fun q hq => by
  rcases List.mem_append.1 hq with hq | hq
  · exact h q hq
  · rw [List.mem_singleton.1 hq]; exact hx
theorem sk_take {P : List V} (h : ∀ q ∈ P, sKey q) (n : Nat) : ∀ q ∈ P.take n, sKey q := fun q hq => h q (List.mem_of_mem_take hq)
end Go.Proofs.YtpaooephkpjkfaaGreat
