/- Contracts of functions that turn a row of the caller's own: how they become the engine's; slices.Sort, slices.Compact at []int64. -/
import Derived.Test.YtpaooephkpjkfaaKG48
import Derived.Test.YtpaooephkpjkfaaKG38
import Derived.Test.YtpaooephkpjkfaaKM17
import Derived.Test.YtpaooephkpjkfaaKS01
import Derived.Test.YtpaooephkpjkfaaKE5
import Derived.Shelf.SlicesG.CompactI
import Derived.Shelf.SortM.Plain
import Derived.Shelf.SortM.SortNone
import Derived.Sort.OwnSortedInts
set_option linter.unusedSimpArgs false
set_option linter.unusedVariables false
set_option linter.unnecessarySimpa false
namespace Go.Proofs.Ytpaooephkpjkfaa
open Go.RowKit Go.Sort
theorem crs_num {w : World} {S : Nat → Prop} {x : Int} {v : List Value} {bs : List Nat} : CRs w S (intCs x) v bs ↔ v = [.int .i64 x] ∧ bs = [] := by
  simp only [intCs, CRs, CR]
  constructor
  · rintro ⟨_, _, _, _, rfl, rfl, ⟨rfl, rfl⟩, rfl, rfl⟩
    exact ⟨rfl, rfl⟩
  · rintro ⟨rfl, rfl⟩
    exact ⟨_, _, [], [], rfl, rfl, ⟨rfl, rfl⟩, rfl, rfl⟩
theorem crss_nums {w : World} {S : Nat → Prop} {l : List Int} {vs : List (List Value)} {bs : List Nat} : CRss w S (l.map intCs) vs bs ↔ vs = l.map (fun x => [Value.int .i64 x]) ∧ bs = [] := crss_map crs_num
theorem rows_one (l : List Int) : ∀ x ∈ l.map (fun x => [Value.int .i64 x]), x.length = 1 := fun x hx => by
  obtain ⟨y, _, rfl⟩ := List.mem_map.1 hx
  rfl
theorem flat_nums (l : List Int) : (l.map fun x => [Value.int .i64 x]).flatten = l.map (Value.int .i64) := by
  induction l with
  | nil => rfl
  | cons x l ih => simp only [List.map_cons, List.flatten_cons, ih, List.singleton_append]
theorem sortNums_ac (l : List Int) (hl : l.length ≤ 1000000) : AC Try.prog 35 [.own (0, 0)] [((0, 0), .row false 1 2 (l.map intCs))] (.tup []) [((0, 0), .row false 1 2 ((sortN l).map intCs))] := by
  refine AC.of_mut (closed_nums _) fun S w v vrows h1 h2 h3 => ?_
  obtain ⟨rfl, _⟩ := crss_nums.1 h1
  rw [flat_nums, List.length_map] at h3
  have hsl := sortN_len l
  rcases h3.2 with ⟨rfl, h0⟩ | ⟨g, cap, cur, rfl, hb, hg, hc, hm, hs, ht⟩
  · have hl0 : l = [] := List.eq_nil_of_length_eq_zero h0
    subst hl0
    have e0 : sortN [] = [] := by simp [sortN]
    rw [e0]
    refine (AnyM.slices_Sort_int_none sortI_lays none 0 w).mono ?_
    rintro e1 w' ⟨rfl, rfl⟩
    exact ⟨rfl, ⟨rfl, rfl, rfl, Nat.le_refl _, fun _ _ _ => rfl⟩, [], ⟨rfl, rfl⟩, by simp, World.ownsRow_nil _ _ _ _⟩
  · rw [Nat.mul_one] at ht
    have hH := holds_of_blockI hg ht
    refine (AnyM.slices_Sort_int sortI_lays g 0 cap l w hH (Array.getElem?_eq_some_iff.1 hg).1 (by omega)).mono ?_
    rintro e1 w' ⟨rfl, n, os, rfl⟩
    refine ⟨rfl, grownBy_sortedI _, (sortN l).map (fun x => [Value.int .i64 x]), crss_nums.2 ⟨rfl, rfl⟩, rows_one _, ?_⟩
    rw [flat_nums, List.length_map, hsl]
    exact ownsRow_sortedI (ss := l) (ts := sortN l) hsl hb hg hc hm hs
theorem compactNums_ac (l : List Int) (hl : l.length ≤ 1000000) : AC Try.prog 36 [.own (0, 0)] [((0, 0), .row false 1 2 (l.map intCs))] (.own (1, 0)) [((1, 0), .row false 1 2 ((Lib.compact l).map intCs))] := by
  refine AC.of_cons (closed_nums _) fun S w v vrows h1 h2 h3 => ?_
  obtain ⟨rfl, _⟩ := crss_nums.1 h1
  rw [flat_nums, List.length_map] at h3
  have hcl : (Lib.compact l).length ≤ l.length := by unfold Lib.compact Lib.compactUpTo; rw [List.length_map]; exact Nat.le_trans (List.length_filter_le _ _) (by simp)
  rcases h3.2 with ⟨rfl, h0⟩ | ⟨g, cap, cur, rfl, hb, hg, hc, hm, hs, ht⟩
  · have hl0 : l = [] := List.eq_nil_of_length_eq_zero h0
    subst hl0
    have e0 : Lib.compact ([] : List Int) = [] := by simp [Lib.compact, Lib.compactUpTo]
    rw [e0]
    refine (AnyG.slices_Compact_int_empty compI_lays none 0 w).mono ?_
    rintro e1 w' ⟨rfl, rfl⟩
    exact ⟨⟨rfl, rfl, rfl, Nat.le_refl _, fun _ _ _ => rfl⟩, _, [], rfl, rfl, ⟨rfl, rfl⟩, by simp, World.ownsRow_nil _ _ _ _⟩
  · rw [Nat.mul_one] at ht
    have hH := holds_of_blockI hg ht
    refine (AnyG.slices_Compact_int compI_lays g 0 cap l w hH (by omega) hc).mono ?_
    rintro e1 w' ⟨rfl, q, rfl⟩
    have hown := ownsRow_sortedI (w := w) (n := q) (os := #[]) (ss := l) (ts := Lib.compact l ++ List.replicate (l.length - (Lib.compact l).length) 0) (by simp; omega) hb hg hc hm hs
    have hgb := grownBy_sortedI (w := w) (g := g) (n := q) (os := #[]) (Lib.compact l ++ List.replicate (l.length - (Lib.compact l).length) 0).toArray
    rw [grow_empty] at hown hgb
    rw [← flat_nums] at hown
    refine ⟨hgb, _, (Lib.compact l).map (fun x => [Value.int .i64 x]), rfl, rfl, crss_nums.2 ⟨rfl, rfl⟩, rows_one _, ?_⟩
    rcases ownsRow_pre hown (fun x hx => by obtain ⟨y, _, rfl⟩ := List.mem_map.1 hx; rfl) (by simp; omega) (m := (Lib.compact l).length) hcl with ⟨hn, _⟩ | ⟨g', cap', he, _, hown'⟩
    · simp at hn
    · simp only [Value.slice.injEq, Option.some.injEq, Addr.mk.injEq, and_true] at he
      obtain ⟨rfl, _, rfl⟩ := he
      rw [List.map_append, List.take_left' (by simp)] at hown'
      rw [List.length_map]
      exact hown'
end Go.Proofs.Ytpaooephkpjkfaa
