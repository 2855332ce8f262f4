/- The plain mathematics of targets: sorted numbers, each once. -/
import Derived.Test.YtpaooephkpjkfaaKM14
import Derived.Lib.SlicesCompact
set_option linter.unusedSimpArgs false
set_option linter.unusedVariables false
set_option linter.unnecessarySimpa false
namespace Go.Proofs.Ytpaooephkpjkfaa
open Go.RowKit
def sortN (l : List Int) : List Int := l.mergeSort fun x y => decide (x ≤ y)
theorem sortN_perm (l : List Int) : (sortN l).Perm l := List.mergeSort_perm l _
theorem sortN_len (l : List Int) : (sortN l).length = l.length := (sortN_perm l).length_eq
theorem sortN_sorted (l : List Int) : (sortN l).Pairwise (· ≤ ·) := by
  have h := List.pairwise_mergeSort (le := fun x y : Int => decide (x ≤ y)) (fun a b c h1 h2 => by simp at h1 h2 ⊢; omega) (fun a b => by simp; omega) l
  exact h.imp fun h => by simpa using h
theorem compact_up {d : List Int} (hs : d.Pairwise (· ≤ ·)) : ∀ (m : Nat), m ≤ d.length → (Lib.compactUpTo d.toArray m).Pairwise (· < ·) ∧ (∀ x, x ∈ Lib.compactUpTo d.toArray m ↔ ∃ (j : Nat) (hj : j < d.length), j < m ∧ d[j] = x)
  | 0, _ => by simp [Lib.compactUpTo]
  | m + 1, hm => by
    obtain ⟨h1, h2⟩ := compact_up hs m (by omega)
    have hlt : m < d.length := by omega
    have hg : d.toArray[m]! = d[m] := by simp [hlt]
    rw [Lib.compactUpTo_succ, hg]
    have hle : ∀ (i j : Nat) (hi : i < d.length) (hj : j < d.length), i ≤ j → d[i] ≤ d[j] := by
      intro i j hi hj hij
      by_cases he : i = j
      · subst he; exact Int.le_refl _
      · exact List.pairwise_iff_getElem.1 hs i j hi hj (by omega)
    cases hk : Lib.keeps d.toArray m with
    | true =>
      rw [if_pos rfl]
      refine ⟨List.pairwise_append.2 ⟨h1, by simp, fun a ha b hb => ?_⟩, fun x => ?_⟩
      · have hb' : b = d[m] := by simpa using hb
        subst hb'
        obtain ⟨j, hj, hjm, rfl⟩ := (h2 a).1 ha
        unfold Lib.keeps at hk
        have hne : d[m] ≠ d[m - 1]'(by omega) := by
          have := of_decide_eq_true hk
          rcases this with h | h
          · omega
          · have e1 : d.toArray[m - 1]! = d[m - 1]'(by omega) := by simp [show m - 1 < d.length by omega]
            rw [hg, e1] at h
            exact h
        have l1 := hle j (m - 1) hj (by omega) (by omega)
        have l2 := hle (m - 1) m (by omega) hlt (by omega)
        omega
      · rw [List.mem_append, h2]
        constructor
        · rintro (⟨j, hj, hjm, e⟩ | h)
          · exact ⟨j, hj, by omega, e⟩
          · exact ⟨m, hlt, by omega, (List.mem_singleton.1 h).symm⟩
        · rintro ⟨j, hj, hjm, e⟩
          by_cases hjm' : j < m
          · exact .inl ⟨j, hj, hjm', e⟩
          · have : j = m := by omega
            subst this
            exact .inr (by simp [e])
    | false =>
      rw [if_neg (by simp), List.append_nil]
      refine ⟨h1, fun x => ?_⟩
      rw [h2]
      constructor
      · rintro ⟨j, hj, hjm, e⟩
        exact ⟨j, hj, by omega, e⟩
      · rintro ⟨j, hj, hjm, e⟩
        by_cases hjm' : j < m
        · exact ⟨j, hj, hjm', e⟩
        · have hjm2 : j = m := by omega
          subst hjm2
          unfold Lib.keeps at hk
          have := of_decide_eq_false hk
          have h0 : ¬ j = 0 := fun h => this (.inl h)
          have h3 : d.toArray[j]! = d.toArray[j - 1]! := Classical.not_not.1 fun h => this (.inr h)
          have e1 : d.toArray[j - 1]! = d[j - 1]'(by omega) := by simp [show j - 1 < d.length by omega]
          rw [hg, e1] at h3
          exact ⟨j - 1, by omega, by omega, by rw [← h3]; exact e⟩
theorem rising_eq : ∀ {a b : List Int}, a.Pairwise (· < ·) → b.Pairwise (· < ·) → (∀ x, x ∈ a ↔ x ∈ b) → a = b
  | [], [], _, _, _ => rfl
  | [], y :: b, _, _, h => absurd ((h y).2 (by simp)) (by simp)
  | x :: a, [], _, _, h => absurd ((h x).1 (by simp)) (by simp)
  | x :: a, y :: b, h1, h2, h => by
    rw [List.pairwise_cons] at h1 h2
    have hxy : x = y := by
      rcases List.mem_cons.1 ((h x).1 (by simp)) with e | hx
      · exact e
      · rcases List.mem_cons.1 ((h y).2 (by simp)) with e | hy
        · exact e.symm
        · have := h1.1 y hy
          have := h2.1 x hx
          omega
    subst hxy
    congr 1
    refine rising_eq h1.2 h2.2 fun z => ?_
    constructor
    · intro hz
      rcases List.mem_cons.1 ((h z).1 (by simp [hz])) with e | hz'
      · have := h1.1 z hz
        omega
      · exact hz'
    · intro hz
      rcases List.mem_cons.1 ((h z).2 (by simp [hz])) with e | hz'
      · have := h2.1 z hz
        omega
      · exact hz'
def isT (l : List InD) (a : Int) : Bool := l.any fun d => inPlace d.op && d.arg == a
def tgts (l : List InD) (k : Nat) : List Int := ((List.range k).map fun i : Nat => (i : Int)).filter (isT l)
theorem tgts_len (l : List InD) (k : Nat) : (tgts l k).length ≤ k := by
  unfold tgts
  refine Nat.le_trans (List.length_filter_le _ _) (by simp)
def jargs (l : List InD) : List Int := (l.filter fun d => inPlace d.op).map InD.arg
theorem jargs_len (l : List InD) : (jargs l).length ≤ l.length := by
  unfold jargs
  rw [List.length_map]
  exact List.length_filter_le _ _
theorem jargs_take {l : List InD} {k : Nat} (h : k < l.length) : jargs (l.take (k + 1)) = jargs (l.take k) ++ (if inPlace l[k].op then [l[k].arg] else []) := by
  unfold jargs
  rw [List.take_succ_eq_append_getElem h, List.filter_append, List.map_append]
  congr 1
  rw [List.filter_cons]
  split <;> rfl
theorem targets_eq {l : List InD} (hj : jumpsOn l) : Lib.compact (sortN (jargs l)) = tgts l l.length := by
  have hc := compact_up (sortN_sorted (jargs l)) (sortN (jargs l)).length (Nat.le_refl _)
  refine rising_eq hc.1 ?_ fun x => ?_
  · unfold tgts
    refine List.Pairwise.filter _ ?_
    rw [List.pairwise_map]
    exact (List.pairwise_lt_range).imp fun h => by omega
  · have h1 : x ∈ Lib.compact (sortN (jargs l)) ↔ x ∈ jargs l := by
      rw [show (x ∈ Lib.compact (sortN (jargs l))) = (x ∈ Lib.compactUpTo (sortN (jargs l)).toArray (sortN (jargs l)).length) from rfl, hc.2, ← (sortN_perm (jargs l)).mem_iff, List.mem_iff_getElem]
      constructor
      · rintro ⟨j, hj, _, e⟩; exact ⟨j, hj, e⟩
      · rintro ⟨j, hj, e⟩; exact ⟨j, hj, hj, e⟩
    rw [h1]
    unfold jargs tgts isT
    simp only [List.mem_map, List.mem_filter, List.any_eq_true, Bool.and_eq_true, beq_iff_eq, List.mem_range]
    constructor
    · rintro ⟨d, ⟨hd, hp⟩, rfl⟩
      obtain ⟨k, hk, rfl⟩ := List.getElem_of_mem hd
      obtain ⟨_, _, h3⟩ := hj k hk
      have := h3 hp
      exact ⟨⟨l[k].arg.toNat, by omega, by omega⟩, l[k], hd, hp, rfl⟩
    · rintro ⟨_, d, hd, hp, e⟩
      exact ⟨d, ⟨hd, hp⟩, e⟩
end Go.Proofs.Ytpaooephkpjkfaa
