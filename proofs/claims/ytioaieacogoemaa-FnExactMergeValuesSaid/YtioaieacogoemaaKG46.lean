/- slices.Sort at []string; impl.object, by the engine. -/
import Derived.Test.YtioaieacogoemaaKG48
import Derived.Shelf.SortM.Plain
import Derived.Shelf.SortM.SortNone
import Derived.Test.YtioaieacogoemaaKG04
import Derived.Test.YtioaieacogoemaaKM2
import Derived.Test.YtioaieacogoemaaKS02
import Derived.Test.YtioaieacogoemaaKE6
import Derived.Sort.OwnSorted
set_option linter.unusedSimpArgs false
set_option linter.unusedVariables false
set_option linter.unnecessarySimpa false
namespace Go.Proofs.Ytioaieacogoemaa
open Go.RowKit Go.Sort
set_option maxRecDepth 10000
theorem le_less (x y : List UInt8) : decide (x ≤ y) = !Op.bytesLess y x := by
  rw [bytesLess_eq]
  by_cases h : y < x
  · have : ¬ x ≤ y := fun h2 => h2 h
    simp [h, this]
  · have : x ≤ y := h
    simp [h, this]
theorem sortB_mem (l : List ByteArray) (x : ByteArray) : x ∈ sortB l ↔ x ∈ l := by
  unfold sortB
  rw [List.mem_map]
  constructor
  · rintro ⟨y, hy, rfl⟩
    obtain ⟨b, hb, rfl⟩ := List.mem_map.1 ((List.mergeSort_perm _ _).mem_iff.1 hy)
    exact hb
  · intro h
    exact ⟨x.data.toList, (List.mergeSort_perm _ _).mem_iff.2 (List.mem_map.2 ⟨x, h, rfl⟩), rfl⟩
theorem sortB_len (l : List ByteArray) : (sortB l).length = l.length := by
  unfold sortB
  rw [List.length_map, (List.mergeSort_perm _ _).length_eq, List.length_map]
theorem sortB_up {l : List ByteArray} (hn : l.Nodup) : Up (sortB l) := by
  unfold Up sortB
  rw [List.pairwise_map]
  have hs := List.pairwise_mergeSort (le := fun x y : List UInt8 => decide (x ≤ y)) (fun a b c h1 h2 => by
    rw [le_less] at h1 h2 ⊢
    cases h3 : Op.bytesLess c a with
    | false => rfl
    | true =>
      rcases bytesLess_tri a b with h | h | h
      · rw [bytesLess_trans h3 h] at h2; exact h2
      · subst h; rw [h3] at h2; exact h2
      · rw [h] at h1; exact h1) (fun a b => by
    rw [le_less, le_less]
    rcases bytesLess_tri a b with h | h | h
    · have : Op.bytesLess b a = false := by
        cases h2 : Op.bytesLess b a with
        | false => rfl
        | true => have := bytesLess_trans h h2; rw [bytesLess_irrefl] at this; cases this
      simp [this]
    · subst h; simp [bytesLess_irrefl]
    · have : Op.bytesLess a b = false := by
        cases h2 : Op.bytesLess a b with
        | false => rfl
        | true => have := bytesLess_trans h h2; rw [bytesLess_irrefl] at this; cases this
      simp [this]) (l.map fun b => b.data.toList)
  have hnd : ((l.map fun b => b.data.toList).mergeSort fun x y => decide (x ≤ y)).Nodup := by
    refine (List.mergeSort_perm _ _).nodup_iff.2 ?_
    refine List.pairwise_map.2 (hn.imp fun {a b} h e => h ?_)
    exact ByteArray_toList_inj (by rw [ByteArray.toList_eq, ByteArray.toList_eq]; exact e)
  refine (hs.and hnd).imp fun {a b} h => ?_
  rw [le_less] at h
  unfold lessB
  rw [ByteArray.toList_eq, ByteArray.toList_eq]
  rcases bytesLess_tri a b with g | g | g
  · exact g
  · exact absurd g h.2
  · rw [g] at h; exact absurd h.1 (by simp)
theorem sortB_keys {vis keys : List ByteArray} (hn : vis.Nodup) (h : ∀ x, x ∈ vis ↔ x ∈ keys) : sortB vis = objKeys keys := up_eq (sortB_up hn) (objKeys_up keys) fun x => by rw [sortB_mem, objKeys_mem]; exact h x
theorem crss_strs {w : World} {S : Nat → Prop} {l : List ByteArray} {vs : List (List Value)} {bs : List Nat} : CRss w S (l.map strCs) vs bs ↔ vs = l.map (fun x => [Value.string x]) ∧ bs = [] := crss_map crs_str
theorem rows_oneS (l : List ByteArray) : ∀ x ∈ l.map (fun x => [Value.string x]), x.length = 1 := fun x hx => by
  obtain ⟨y, _, rfl⟩ := List.mem_map.1 hx
  rfl
theorem flat_strs (l : List ByteArray) : (l.map fun x => [Value.string x]).flatten = (l.map fun b => b.data.toList).map encStr := by
  induction l with
  | nil => rfl
  | cons x l ih => simp only [List.map_cons, List.flatten_cons, ih, List.singleton_append]
theorem closed_strs (l : List ByteArray) : closedLL (l.map strCs) = true := by
  induction l with
  | nil => rfl
  | cons x l ih => simp only [List.map_cons, closedLL, ih, Bool.and_true]; rfl
attribute [go_sem] closed_strs
set_option maxHeartbeats 1000000 in
theorem sortStrs_ac (l : List ByteArray) (hl : l.length ≤ 1000000) : AC Try.prog 153 [.own (0, 0)] [((0, 0), .row false 1 9 (l.map strCs))] (.tup []) [((0, 0), .row false 1 9 ((sortB l).map strCs))] := by
  refine AC.of_mut (closed_strs _) fun S w v vrows h1 h2 h3 => ?_
  obtain ⟨rfl, _⟩ := crss_strs.1 h1
  rw [flat_strs, List.length_map] at h3
  have hsl := sortB_len l
  have hll : (l.map fun b => b.data.toList).length = l.length := by simp
  rcases h3.2 with ⟨rfl, h0⟩ | ⟨g, cap, cur, rfl, hb, hg, hc, hm, hs, ht⟩
  · have hl0 : l = [] := List.eq_nil_of_length_eq_zero h0
    subst hl0
    have e0 : sortB [] = [] := by simp [sortB]
    rw [e0]
    refine (AnyM.slices_Sort_string_none sortS_lays none 0 w).mono ?_
    rintro e1 w' ⟨rfl, rfl⟩
    exact ⟨rfl, ⟨rfl, rfl, rfl, Nat.le_refl _, fun _ _ _ => rfl⟩, [], ⟨rfl, rfl⟩, by simp, World.ownsRow_nil _ _ _ _⟩
  · rw [Nat.mul_one, ← hll] at ht
    have hH := holds_of_block hg ht
    have hcall := AnyM.slices_Sort_string sortS_lays g 0 cap (l.map fun b => b.data.toList) w hH (Array.getElem?_eq_some_iff.1 hg).1 (by rw [hll]; omega)
    rw [hll] at hcall
    refine hcall.mono ?_
    rintro e1 w' ⟨rfl, n, os, rfl⟩
    refine ⟨rfl, grownBy_sorted _, (sortB l).map (fun x => [Value.string x]), crss_strs.2 ⟨rfl, rfl⟩, rows_oneS _, ?_⟩
    have hmap : ((sortB l).map fun b => b.data.toList) = (l.map fun b => b.data.toList).mergeSort fun x y => decide (x ≤ y) := by
      unfold sortB
      rw [List.map_map]
      exact List.map_id'' (fun x => rfl) _
    rw [flat_strs, hmap, List.length_map, hsl]
    have hts : ((l.map fun b => b.data.toList).mergeSort fun x y => decide (x ≤ y)).length = (l.map fun b => b.data.toList).length := (List.mergeSort_perm _ _).length_eq
    generalize ((l.map fun b => b.data.toList).mergeSort fun x y => decide (x ≤ y)) = ts at *
    generalize (l.map fun b => b.data.toList) = ss at *
    have := ownsRow_sorted (w := w) (os := os) (n := n) (base := 0) hts hb hg (by rw [hll]; exact hc) hm hs
    rw [hll] at this
    exact this
end Go.Proofs.Ytioaieacogoemaa
