/- slices.Compact at []string; the keys of either, sorted, each once. -/
import Derived.Test.YtioaieacogoemaaGreatKG8
import Derived.Test.YtioaieacogoemaaGreatKS03
import Derived.Test.YtioaieacogoemaaGreatKM3
import Derived.Shelf.SlicesG.CompactS
import Derived.Lib.RowBridge
set_option linter.unusedSimpArgs false
set_option linter.unusedVariables false
set_option linter.unnecessarySimpa false
namespace Go.Proofs.YtioaieacogoemaaGreat
open Go.RowKit Go.Sort Go.Shelf
set_option maxRecDepth 10000
theorem compactG {α : Type} [Inhabited α] [DecidableEq α] {lt : α → α → Prop} (htr : ∀ a b c, lt a b → lt b c → lt a c) {d : List α} (hs : d.Pairwise fun a b => a = b ∨ lt a b) : ∀ (m : Nat), m ≤ d.length → (Lib.compactUpTo d.toArray m).Pairwise lt ∧ (∀ x, x ∈ Lib.compactUpTo d.toArray m ↔ ∃ (j : Nat) (hj : j < d.length), j < m ∧ d[j] = x)
  | 0, _ => by simp [Lib.compactUpTo]
  | m + 1, hm => by
    obtain ⟨h1, h2⟩ := compactG htr hs m (by omega)
    have hlt : m < d.length := by omega
    have hg : d.toArray[m]! = d[m] := by simp [hlt]
    rw [Lib.compactUpTo_succ, hg]
    have hle : ∀ (i j : Nat) (hi : i < d.length) (hj : j < d.length), i ≤ j → d[i] = d[j] ∨ lt d[i] d[j] := by
      intro i j hi hj hij
      by_cases he : i = j
      · subst he; exact .inl rfl
      · exact List.pairwise_iff_getElem.1 hs i j hi hj (by omega)
    cases hk : Lib.keeps d.toArray m with
    | true =>
      rw [if_pos rfl]
      refine ⟨List.pairwise_append.2 ⟨h1, by simp, fun a ha b hb => ?_⟩, fun x => ?_⟩
      · have hb' : b = d[m] := by simpa using hb
        subst hb'
        obtain ⟨j, hj, hjm, rfl⟩ := (h2 a).1 ha
        unfold Lib.keeps at hk
        have hne : d[m] ≠ d[m - 1]'(by omega) := by
          have := of_decide_eq_true hk
          rcases this with h | h
          · omega
          · have e1 : d.toArray[m - 1]! = d[m - 1]'(by omega) := by simp [show m - 1 < d.length by omega]
            rw [hg, e1] at h
            exact h
        have l2 : lt d[m - 1] d[m] := (hle (m - 1) m (by omega) hlt (by omega)).resolve_left fun e => hne e.symm
        rcases hle j (m - 1) hj (by omega) (by omega) with l1 | l1
        · rw [l1]; exact l2
        · exact htr _ _ _ l1 l2
      · rw [List.mem_append, h2]
        constructor
        · rintro (⟨j, hj, hjm, e⟩ | h)
          · exact ⟨j, hj, by omega, e⟩
          · exact ⟨m, hlt, by omega, (List.mem_singleton.1 h).symm⟩
        · rintro ⟨j, hj, hjm, e⟩
          by_cases hjm' : j < m
          · exact .inl ⟨j, hj, hjm', e⟩
          · have : j = m := by omega
            subst this
            exact .inr (by simp [e])
    | false =>
      rw [if_neg (by simp), List.append_nil]
      refine ⟨h1, fun x => ?_⟩
      rw [h2]
      constructor
      · rintro ⟨j, hj, hjm, e⟩
        exact ⟨j, hj, by omega, e⟩
      · rintro ⟨j, hj, hjm, e⟩
        by_cases hjm' : j < m
        · exact ⟨j, hj, hjm', e⟩
        · have hjm2 : j = m := by omega
          subst hjm2
          unfold Lib.keeps at hk
          have := of_decide_eq_false hk
          have h0 : ¬ j = 0 := fun h => this (.inl h)
          have h3 : d.toArray[j]! = d.toArray[j - 1]! := Classical.not_not.1 fun h => this (.inr h)
          have e1 : d.toArray[j - 1]! = d[j - 1]'(by omega) := by simp [show j - 1 < d.length by omega]
          rw [hg, e1] at h3
          exact ⟨j - 1, by omega, by omega, by rw [← h3]; exact e⟩
def compB (l : List ByteArray) : List ByteArray := (Lib.compact (l.map fun b => b.data.toList)).map fun x => ⟨x.toArray⟩
theorem sorted_pair (l : List (List UInt8)) : (l.mergeSort fun x y => decide (x ≤ y)).Pairwise fun a b => a = b ∨ Op.bytesLess a b = true := by
  have hs := List.pairwise_mergeSort (le := fun x y : List UInt8 => decide (x ≤ y)) (fun a b c h1 h2 => by
    rw [le_less] at h1 h2 ⊢
    cases h3 : Op.bytesLess c a with
    | false => rfl
    | true =>
      rcases bytesLess_tri a b with h | h | h
      · rw [bytesLess_trans h3 h] at h2; exact h2
      · subst h; rw [h3] at h2; exact h2
      · rw [h] at h1; exact h1) (fun a b => by
    rw [le_less, le_less]
    rcases bytesLess_tri a b with h | h | h
    · have : Op.bytesLess b a = false := by
        cases h2 : Op.bytesLess b a with
        | false => rfl
        | true => have := bytesLess_trans h h2; rw [bytesLess_irrefl] at this; cases this
      simp [this]
    · subst h; simp [bytesLess_irrefl]
    · have : Op.bytesLess a b = false := by
        cases h2 : Op.bytesLess a b with
        | false => rfl
        | true => have := bytesLess_trans h h2; rw [bytesLess_irrefl] at this; cases this
      simp [this]) l
  refine hs.imp fun {a b} h => ?_
  rw [le_less] at h
  rcases bytesLess_tri a b with g | g | g
  · exact .inr g
  · exact .inl g
  · rw [g] at h; exact absurd h (by simp)
/-- Sorted and compacted: the keys, in order, each once. -/
theorem compB_sort (l : List ByteArray) : compB (sortB l) = objKeys l := by
  have hmap : ((sortB l).map fun b => b.data.toList) = (l.map fun b => b.data.toList).mergeSort fun x y => decide (x ≤ y) := by
    unfold sortB
    rw [List.map_map]
    exact List.map_id'' (fun x => rfl) _
  unfold compB
  rw [hmap]
  obtain ⟨h1, h2⟩ := compactG (lt := fun a b => Op.bytesLess a b = true) (fun a b c => bytesLess_trans) (sorted_pair (l.map fun b => b.data.toList)) _ (Nat.le_refl _)
  refine up_eq ?_ (objKeys_up l) fun x => ?_
  · unfold Up
    rw [List.pairwise_map]
    refine h1.imp fun {a b} h => ?_
    unfold lessB
    rw [ByteArray.toList_eq, ByteArray.toList_eq]
    exact h
  · rw [objKeys_mem, List.mem_map]
    constructor
    · rintro ⟨y, hy, rfl⟩
      obtain ⟨j, hj, _, rfl⟩ := (h2 y).1 hy
      have := (List.mergeSort_perm (l.map fun b => b.data.toList) fun x y => decide (x ≤ y)).mem_iff.1 (List.getElem_mem hj)
      obtain ⟨b, hb, he⟩ := List.mem_map.1 this
      rw [← he]
      exact hb
    · intro h
      refine ⟨x.data.toList, (h2 _).2 ?_, rfl⟩
      have := (List.mergeSort_perm (l.map fun b => b.data.toList) fun x y => decide (x ≤ y)).mem_iff.2 (List.mem_map.2 ⟨x, h, rfl⟩)
      obtain ⟨j, hj, he⟩ := List.mem_iff_getElem.1 this
      exact ⟨j, hj, hj, he⟩
set_option maxHeartbeats 1000000 in
theorem compactStrs_ac (l : List ByteArray) (hl : l.length ≤ 1000000) : AC Tryz.prog 151 [.own (0, 0)] [((0, 0), .row false 1 9 (l.map strCs))] (.own (1, 0)) [((1, 0), .row false 1 9 ((compB l).map strCs))] := by
  refine AC.of_cons (closed_strs _) fun S w v vrows h1 h2 h3 => ?_
  obtain ⟨rfl, _⟩ := crss_strs.1 h1
  rw [flat_strs, List.length_map] at h3
  have hll : (l.map fun b => b.data.toList).length = l.length := by simp
  have hcl := Lib.compact_length_le (l.map fun b => b.data.toList)
  rcases h3.2 with ⟨rfl, h0⟩ | ⟨g, cap, cur, rfl, hb, hg, hc, hm, hs, ht⟩
  · have hl0 : l = [] := List.eq_nil_of_length_eq_zero h0
    subst hl0
    have e0 : compB [] = [] := by simp [compB, Lib.compact, Lib.compactUpTo]
    rw [e0]
    refine (AnyG.slices_Compact_string_empty compS_lays none 0 w).mono ?_
    rintro e1 w' ⟨rfl, rfl⟩
    exact ⟨⟨rfl, rfl, rfl, Nat.le_refl _, fun _ _ _ => rfl⟩, _, [], rfl, rfl, ⟨rfl, rfl⟩, by simp, World.ownsRow_nil _ _ _ _⟩
  · rw [Nat.mul_one, ← hll] at ht
    have hH := holds_of_block hg ht
    have hcall := AnyG.slices_Compact_string compS_lays g 0 cap (l.map fun b => b.data.toList) w hH (by rw [hll]; omega) (by rw [hll]; exact hc)
    rw [hll] at hcall
    refine hcall.mono ?_
    rintro e1 w' ⟨rfl, q, rfl⟩
    rw [hll] at hcl
    generalize hD : Lib.compact (l.map fun b => b.data.toList) = D at *
    have hown := ownsRow_sorted (w := w) (n := q) (os := #[]) (ss := l.map fun b => b.data.toList) (ts := D ++ List.replicate (l.length - D.length) []) (by simp; omega) hb hg (by rw [hll]; exact hc) hm hs
    have hgb := grownBy_sorted (w := w) (g := g) (n := q) (os := #[]) (D ++ List.replicate (l.length - D.length) []).toArray
    rw [grow_empty] at hown hgb
    have hmap : (((compB l) ++ List.replicate (l.length - D.length) (⟨#[]⟩ : ByteArray)).map fun b => b.data.toList) = D ++ List.replicate (l.length - D.length) [] := by
      unfold compB
      rw [List.map_append, List.map_map, List.map_replicate, hD]
      refine congrArg (· ++ _) ?_
      exact List.map_id'' (fun x => rfl) _
    have hcb : (compB l).length = D.length := by unfold compB; rw [List.length_map, hD]
    rw [← hmap, ← flat_strs] at hown
    refine ⟨hgb, _, (compB l).map (fun x => [Value.string x]), rfl, rfl, crss_strs.2 ⟨rfl, rfl⟩, rows_oneS _, ?_⟩
    rcases ownsRow_pre hown (fun x hx => by obtain ⟨y, _, rfl⟩ := List.mem_map.1 hx; rfl) (by simp [hcb]; omega) (m := D.length) (by simp; omega) with ⟨hn, _⟩ | ⟨g', cap', he, _, hown'⟩
    · simp at hn
    · simp only [Value.slice.injEq, Option.some.injEq, Addr.mk.injEq, and_true] at he
      obtain ⟨rfl, _, rfl⟩ := he
      rw [← List.map_take, List.take_left' hcb, hmap] at hown'
      rw [List.length_map, hcb]
      exact hown'
end Go.Proofs.YtioaieacogoemaaGreat
