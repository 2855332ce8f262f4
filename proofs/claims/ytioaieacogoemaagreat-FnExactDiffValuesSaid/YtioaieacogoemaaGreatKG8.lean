/- Texts of this proof: G46 G47. -/
import Derived.Test.YtioaieacogoemaaGreatKG16uG48
import Derived.Shelf.SortM.Plain
import Derived.Shelf.SortM.SortNone
import Derived.Test.YtioaieacogoemaaGreatKG04
import Derived.Test.YtioaieacogoemaaGreatKM2
import Derived.Test.YtioaieacogoemaaGreatKS02
import Derived.Test.YtioaieacogoemaaGreatKE6
import Derived.Sort.OwnSorted
import Derived.Test.YtioaieacogoemaaGreatKG02
set_option linter.unusedSimpArgs false
set_option linter.unusedVariables false
set_option linter.unnecessarySimpa false
namespace Go.Proofs.YtioaieacogoemaaGreat
open Go.RowKit Go.Sort
set_option maxRecDepth 10000
theorem le_less (x y : List UInt8) : decide (x ≤ y) = !Op.bytesLess y x := by
  rw [bytesLess_eq]
  by_cases h : y < x
  · have : ¬ x ≤ y := fun h2 => h2 h
    simp [h, this]
  · have : x ≤ y := h
    simp [h, this]
theorem sortB_len (l : List ByteArray) : (sortB l).length = l.length := by
  unfold sortB
  rw [List.length_map, (List.mergeSort_perm _ _).length_eq, List.length_map]
theorem crss_strs {w : World} {S : Nat → Prop} {l : List ByteArray} {vs : List (List Value)} {bs : List Nat} : CRss w S (l.map strCs) vs bs ↔ vs = l.map (fun x => [Value.string x]) ∧ bs = [] := crss_map crs_str
theorem rows_oneS (l : List ByteArray) : ∀ x ∈ l.map (fun x => [Value.string x]), x.length = 1 := fun x hx => by
  obtain ⟨y, _, rfl⟩ := List.mem_map.1 hx
  rfl
theorem flat_strs (l : List ByteArray) : (l.map fun x => [Value.string x]).flatten = (l.map fun b => b.data.toList).map encStr := by
  induction l with
  | nil => rfl
  | cons x l ih => simp only [List.map_cons, List.flatten_cons, ih, List.singleton_append]
theorem closed_strs (l : List ByteArray) : closedLL (l.map strCs) = true := by
  induction l with
  | nil => rfl
  | cons x l ih => simp only [List.map_cons, closedLL, ih, Bool.and_true]; rfl
attribute [go_sem] closed_strs
set_option maxHeartbeats 1000000 in
theorem sortStrs_ac (l : List ByteArray) (hl : l.length ≤ 1000000) : AC Tryz.prog 150 [.own (0, 0)] [((0, 0), .row false 1 9 (l.map strCs))] (.tup []) [((0, 0), .row false 1 9 ((sortB l).map strCs))] := by
  refine AC.of_mut (closed_strs _) fun S w v vrows h1 h2 h3 => ?_
  obtain ⟨rfl, _⟩ := crss_strs.1 h1
  rw [flat_strs, List.length_map] at h3
  have hsl := sortB_len l
  have hll : (l.map fun b => b.data.toList).length = l.length := by simp
  rcases h3.2 with ⟨rfl, h0⟩ | ⟨g, cap, cur, rfl, hb, hg, hc, hm, hs, ht⟩
  · have hl0 : l = [] := List.eq_nil_of_length_eq_zero h0
    subst hl0
    have e0 : sortB [] = [] := by simp [sortB]
    rw [e0]
    refine (AnyM.slices_Sort_string_none sortS_lays none 0 w).mono ?_
    rintro e1 w' ⟨rfl, rfl⟩
    exact ⟨rfl, ⟨rfl, rfl, rfl, Nat.le_refl _, fun _ _ _ => rfl⟩, [], ⟨rfl, rfl⟩, by simp, World.ownsRow_nil _ _ _ _⟩
  · rw [Nat.mul_one, ← hll] at ht
    have hH := holds_of_block hg ht
    have hcall := AnyM.slices_Sort_string sortS_lays g 0 cap (l.map fun b => b.data.toList) w hH (Array.getElem?_eq_some_iff.1 hg).1 (by rw [hll]; omega)
    rw [hll] at hcall
    refine hcall.mono ?_
    rintro e1 w' ⟨rfl, n, os, rfl⟩
    refine ⟨rfl, grownBy_sorted _, (sortB l).map (fun x => [Value.string x]), crss_strs.2 ⟨rfl, rfl⟩, rows_oneS _, ?_⟩
    have hmap : ((sortB l).map fun b => b.data.toList) = (l.map fun b => b.data.toList).mergeSort fun x y => decide (x ≤ y) := by
      unfold sortB
      rw [List.map_map]
      exact List.map_id'' (fun x => rfl) _
    rw [flat_strs, hmap, List.length_map, hsl]
    have hts : ((l.map fun b => b.data.toList).mergeSort fun x y => decide (x ≤ y)).length = (l.map fun b => b.data.toList).length := (List.mergeSort_perm _ _).length_eq
    generalize ((l.map fun b => b.data.toList).mergeSort fun x y => decide (x ≤ y)) = ts at *
    generalize (l.map fun b => b.data.toList) = ss at *
    have := ownsRow_sorted (w := w) (os := os) (n := n) (base := 0) hts hb hg (by rw [hll]; exact hc) hm hs
    rw [hll] at this
    exact this
end Go.Proofs.YtioaieacogoemaaGreat


