/- An argument that is a slice of cells, opened: it reads as a list of cells. -/
import Derived.Test.YtfmnoljflcpbgaaGreatDoorRows
import Derived.Test.YtfmnoljflcpbgaaGreatDoorKA1
import Derived.ProofKit
import Derived.SizedLaws
import Derived.Deep.Slices
import Derived.Deep.Fields
import Derived.ChangeSame
set_option linter.unusedSimpArgs false
set_option linter.unusedVariables false
set_option linter.unnecessarySimpa false
namespace Go.Proofs.YtfmnoljflcpbgaaGreatDoor
open Go.ChangeShapes Go.WideShapes Go.ChangeAt Go.RowKit Go.Deep

section
variable {H : Type} {enc : TypeId × Value → H} {P : Program} {w : World} {base : Nat} {spare : Nat → Bool} {held : Bool}
theorem open_slice_fields {t e : TypeId} {fs : Array Field} {fuel : Nat} {cs : List Value} {x : DataW H × List MemPlace} (ht : P.underlying t = some (.slice e)) (he : P.underlying e = some (.struct fs))
    (hone : oneCellFields P fs = true) (hC : P.cellsOf e = fs.size) (h : DataW.trod enc P w base spare held fuel t cs = some x) :
    (cs = [.slice none 0 0] ∧ x = (.nil, [])) ∨
    ∃ (a : Addr) (len cap m : Nat) (D : Nat → DataW H) (Pl : Nat → List MemPlace), cs = [.slice (some a) len cap] ∧ base ≤ a.block ∧ len ≤ cap ∧ cap ≤ maxLen ∧ m = (if spare a.block then cap else len) ∧
      x = (.slice ((List.range len).map D) ((List.range (m - len)).map fun j => D (len + j)), MemPlace.row a (m * fs.size) ++ (List.range m).flatMap Pl) ∧
      ∀ i, i < m → ∃ (ys : List (DataW H × List MemPlace)) (n : Nat), D i = .agg (ys.map (·.1)) ∧ Pl i = ys.flatMap (·.2) ∧ ys.length = fs.size ∧
        ∀ (j : Nat) (f : Field), fs[j]? = some f → ∃ (v : Value) (y : DataW H × List MemPlace), w.cell? (a.add (i * fs.size + j)) = some v ∧ ys[j]? = some y ∧ DataW.trod enc P w base spare held n f.type [v] = some y := by
  rcases open_slice ht h with h0 | ⟨a, len, cap, m, n, D, Pl, hcs, hb, hl, hm, hmm, hx, hi⟩
  · exact .inl h0
  · refine .inr ⟨a, len, cap, m, D, Pl, hcs, hb, hl, hm, hmm, by rw [hC] at hx; exact hx, fun i him => ?_⟩
    obtain ⟨cs', hc, ht'⟩ := hi i him
    rw [hC] at hc
    obtain ⟨ys, n', hn', hy, hlen, hyl, hf⟩ := DataW.trod_struct he ht'
    obtain ⟨_, hcl, hat⟩ := World.cells?_some hc
    simp only [Prod.mk.injEq] at hy
    refine ⟨ys, n', hy.1, hy.2, hyl, fun j f hj => ?_⟩
    obtain ⟨ho, hk⟩ := hone_of hone j f hj
    have hjl : j < fs.size := (Array.getElem?_eq_some_iff.1 hj).1
    have hcell := hat j hjl
    have hv : cs'[j]? = some (cs'[j]'(by omega)) := List.getElem?_eq_getElem (by omega)
    have h1 := hf j f hj
    rw [ho, hk] at h1
    have hone' : (cs'.drop j).take 1 = [cs'[j]'(by omega)] := by
      rw [List.drop_eq_getElem_cons (by omega)]
      rfl
    rw [hone'] at h1
    have hys : ys[j]? = some (ys[j]'(by omega)) := List.getElem?_eq_getElem (by omega)
    refine ⟨_, _, ?_, hys, h1.trans hys⟩
    rw [← Go.Deep.add_add, hcell, hv]

theorem list_of {α : Type} {p : Nat → α → Prop} : ∀ (n : Nat), (∀ i, i < n → ∃ c, p i c) → ∃ xs : List α, xs.length = n ∧ ∀ i (h : i < xs.length), p i xs[i]
  | 0, _ => ⟨[], rfl, fun i h => absurd h (by simp)⟩
  | n + 1, h => by
    obtain ⟨xs, hl, hx⟩ := list_of n (fun i hi => h i (by omega))
    obtain ⟨c, hc⟩ := h n (by omega)
    refine ⟨xs ++ [c], by simp [hl], fun i hi => ?_⟩
    by_cases hlt : i < xs.length
    · rw [List.getElem_append_left hlt]; exact hx i hlt
    · have : i = xs.length := by simp at hi; omega
      subst this
      rw [List.getElem_append_right (Nat.le_refl _)]
      simp
      rw [hl]
      exact hc

/-- An argument of type []Cell: five fields of one cell each. -/
theorem open_cellS {t e tI tS : TypeId} {n0 n1 n2 n3 n4 : Field} {fuel len cap : Nat} {A : Option Addr} {x : DataW H × List MemPlace} (ht : P.underlying t = some (.slice e)) (he : P.underlying e = some (.struct #[n0, n1, n2, n3, n4]))
    (hone : oneCellFields P #[n0, n1, n2, n3, n4] = true) (hC : P.cellsOf e = 5) (h0 : n0.type = tI) (h1 : n1.type = tI) (h2 : n2.type = tS) (h3 : n3.type = tS) (h4 : n4.type = tI)
    (hI : P.underlying tI = some (.int .i64)) (hS : P.underlying tS = some .string)
    (h : DataW.trod enc P w base spare held fuel t [.slice A len cap] = some x) :
    ∃ xs : List CellD, xs.length = len ∧ len ≤ 9223372036854775807 ∧ len ≤ cap ∧ (∀ c ∈ xs, c.text.size ≤ 9223372036854775807 ∧ c.key.size ≤ 9223372036854775807) ∧ Cells w (fun b => b < w.heap.size) A xs := by
  rcases open_slice_fields ht he hone hC h with ⟨hcs, _⟩ | ⟨a, len', cap', m, D, Pl, hcs, _, hl, hm, hmm, _, hi⟩
  · simp only [List.cons.injEq, Value.slice.injEq, and_true] at hcs
    obtain ⟨rfl, rfl, rfl⟩ := hcs
    exact ⟨[], rfl, by omega, by omega, by simp, Cells.nil⟩
  · simp only [List.cons.injEq, Value.slice.injEq, and_true] at hcs
    obtain ⟨rfl, rfl, rfl⟩ := hcs
    have hlm : len ≤ m := by rw [hmm]; split <;> omega
    have hmx : maxLen = 9223372036854775807 := rfl
    obtain ⟨xs, hxl, hx⟩ := list_of (p := fun i (c : CellD) => (c.text.size ≤ 9223372036854775807 ∧ c.key.size ≤ 9223372036854775807) ∧ ∀ j u, (vals c)[j]? = some u → w.cell? (a.add (i * 5 + j)) = some u) len (fun i hil => by
      obtain ⟨ys, n, _, _, _, hf⟩ := hi i (by omega)
      obtain ⟨v0, y0, c0, _, t0⟩ := hf 0 n0 rfl
      obtain ⟨v1, y1, c1, _, t1⟩ := hf 1 n1 rfl
      obtain ⟨v2, y2, c2, _, t2⟩ := hf 2 n2 rfl
      obtain ⟨v3, y3, c3, _, t3⟩ := hf 3 n3 rfl
      obtain ⟨v4, y4, c4, _, t4⟩ := hf 4 n4 rfl
      rw [h0] at t0; rw [h1] at t1; rw [h2] at t2; rw [h3] at t3; rw [h4] at t4
      obtain ⟨k, e0, _⟩ := DataW.trod_int hI t0
      obtain ⟨q, e1, _⟩ := DataW.trod_int hI t1
      obtain ⟨s, e2, _, z2⟩ := DataW.trod_string hS t2
      obtain ⟨y, e3, _, z3⟩ := DataW.trod_string hS t3
      obtain ⟨nn, e4, _⟩ := DataW.trod_int hI t4
      simp only [List.cons.injEq, and_true] at e0 e1 e2 e3 e4
      subst e0 e1 e2 e3 e4
      refine ⟨⟨k, q, s, y, nn⟩, ⟨by show s.size ≤ _; omega, by show y.size ≤ _; omega⟩, fun j u hu => ?_⟩
      simp only [vals] at hu
      match j with
      | 0 => simp only [List.getElem?_cons_zero, Option.some.injEq] at hu; subst hu; exact c0
      | 1 => simp only [List.getElem?_cons_succ, List.getElem?_cons_zero, Option.some.injEq] at hu; subst hu; exact c1
      | 2 => simp only [List.getElem?_cons_succ, List.getElem?_cons_zero, Option.some.injEq] at hu; subst hu; exact c2
      | 3 => simp only [List.getElem?_cons_succ, List.getElem?_cons_zero, Option.some.injEq] at hu; subst hu; exact c3
      | 4 => simp only [List.getElem?_cons_succ, List.getElem?_cons_zero, Option.some.injEq] at hu; subst hu; exact c4
      | j + 5 => simp at hu)
    refine ⟨xs, hxl, by omega, hl, fun c hc => ?_, fun x hx' => ?_, fun hn => ?_⟩
    · obtain ⟨i, hi', rfl⟩ := List.getElem_of_mem hc
      exact (hx i hi').1
    · simp only [List.mem_map] at hx'
      obtain ⟨c, _, rfl⟩ := hx'
      rfl
    · simp only [List.length_map] at hn
      have hfirst := (hx 0 hn).2 0 _ rfl
      simp only [Nat.zero_mul, Nat.zero_add] at hfirst
      have hadd0 : a.add 0 = a := by unfold Addr.add; simp
      rw [hadd0] at hfirst
      obtain ⟨ab, ao, asp⟩ := a
      have hsp : asp = none := by
        unfold World.cell? at hfirst
        simp only at hfirst
        split at hfirst
        · split at hfirst
          · simp at hfirst
          · rename_i hns; simpa using hns
        · simp at hfirst
      subst hsp
      refine ⟨ab, ao, rfl, World.block_lt_of_cell? w _ hfirst, World.block_lt_of_cell? w _ hfirst, fun i x hxi j u hu => ?_⟩
      simp only [List.getElem?_map] at hxi
      by_cases hil : i < xs.length
      · rw [List.getElem?_eq_getElem hil] at hxi
        simp only [Option.map_some, Option.some.injEq] at hxi
        subst hxi
        have := (hx i hil).2 j u hu
        have hadd : (⟨ab, ao, none⟩ : Addr).add (i * 5 + j) = ⟨ab, ao + i * 5 + j, none⟩ := by
          unfold Addr.add
          split
          · rename_i h0; (have hi0 : i = 0 := by omega); subst hi0; simp
          · simp [Nat.add_assoc]
        rw [hadd] at this
        exact this
      · rw [List.getElem?_eq_none (by omega)] at hxi
        simp at hxi
end
end Go.Proofs.YtfmnoljflcpbgaaGreatDoor
