/- An argument that is a slice of things of one cell each, opened; [][]Cell. -/
import Derived.Test.YtpaooephkpjkfaaGreatKO02
import Derived.Test.YtpaooephkpjkfaaGreatKG06
import Derived.Deep.Slices
set_option linter.unusedSimpArgs false
set_option linter.unusedVariables false
set_option linter.unnecessarySimpa false
namespace Go.Proofs.YtpaooephkpjkfaaGreat
open Go.ChangeShapes Go.WideShapes Go.ChangeAt Go.RowKit Go.Deep
section
variable {H : Type} {enc : TypeId × Value → H} {P : Program} {w : World} {base : Nat} {spare : Nat → Bool} {held : Bool}
theorem crss_ones {α : Type} {S : Nat → Prop} (f : α → C) : ∀ (l : List (α × Value)), (∀ y ∈ l, CR w S (f y.1) y.2 []) → CRss w S (l.map fun y => [f y.1]) (l.map fun y => [y.2]) []
  | [], _ => ⟨rfl, rfl⟩
  | y :: l, h => ⟨[y.2], _, [], [], rfl, rfl, ⟨y.2, [], [], [], rfl, rfl, h y (by simp), rfl, rfl⟩, crss_ones f l fun z hz => h z (by simp [hz])⟩
theorem open_ones {α : Type} {p : α → Prop} {f : α → C} {t e : TypeId} {fuel len cap : Nat} {A : Option Addr} {x : DataW H × List MemPlace} (ht : P.underlying t = some (.slice e)) (hC : P.cellsOf e = 1)
    (hel : ∀ (n : Nat) (v : Value) (y : DataW H × List MemPlace), DataW.trod enc P w base spare held n e [v] = some y → ∃ a : α, p a ∧ CR w (fun b => b < w.heap.size) (f a) v [])
    (h : DataW.trod enc P w base spare held fuel t [.slice A len cap] = some x) :
    ∃ l : List α, l.length = len ∧ len ≤ 9223372036854775807 ∧ len ≤ cap ∧ (∀ a ∈ l, p a) ∧ CR w (fun b => b < w.heap.size) (.sl (l.map fun a => [f a])) (.slice A len cap) [] := by
  rcases open_slice1 ht hC h with ⟨hcs, _⟩ | ⟨a, len', cap', m, n, V, D, Pl, hcs, _, hl, hm, hmm, _, hi⟩
  · simp only [List.cons.injEq, Value.slice.injEq, and_true] at hcs
    obtain ⟨rfl, rfl, rfl⟩ := hcs
    exact ⟨[], rfl, by omega, by omega, by simp, 0, none, 0, [], rfl, Nat.le_refl _, trivial, Row.nil, ⟨rfl, rfl⟩, rfl⟩
  · simp only [List.cons.injEq, Value.slice.injEq, and_true] at hcs
    obtain ⟨rfl, rfl, rfl⟩ := hcs
    have hlm : len ≤ m := by rw [hmm]; split <;> omega
    have hmx : maxLen = 9223372036854775807 := rfl
    obtain ⟨l, hll, hx⟩ := list_of (p := fun i (y : α × Value) => p y.1 ∧ CR w (fun b => b < w.heap.size) (f y.1) y.2 [] ∧ w.cell? (a.add i) = some y.2) len (fun i hil => by
      obtain ⟨c0, t0⟩ := hi i (by omega)
      obtain ⟨b, h1, h2⟩ := hel _ _ _ t0
      exact ⟨(b, V i), h1, h2, c0⟩)
    have hmem : ∀ y ∈ l, p y.1 ∧ CR w (fun b => b < w.heap.size) (f y.1) y.2 [] := fun y hy => by
      obtain ⟨i, hi', rfl⟩ := List.getElem_of_mem hy
      exact ⟨(hx i hi').1, (hx i hi').2.1⟩
    refine ⟨l.map (·.1), by simp [hll], by omega, hl, fun b hb => ?_, 1, some a, cap, l.map fun y => [y.2], by simp [hll], by simp [hll]; exact hl, trivial, ⟨fun x hx' => ?_, fun hn => ?_⟩, ?_, rfl⟩
    · simp only [List.mem_map] at hb
      obtain ⟨y, hy, rfl⟩ := hb
      exact (hmem y hy).1
    · simp only [List.mem_map] at hx'
      obtain ⟨y, _, rfl⟩ := hx'
      rfl
    · simp only [List.length_map] at hn
      have hfirst := (hx 0 hn).2.2
      have hadd0 : a.add 0 = a := by unfold Addr.add; simp
      rw [hadd0] at hfirst
      obtain ⟨ab, ao, asp⟩ := a
      have hsp : asp = none := by
        unfold World.cell? at hfirst
        simp only at hfirst
        split at hfirst
        · split at hfirst
          · simp at hfirst
          · rename_i hns; simpa using hns
        · simp at hfirst
      subst hsp
      refine ⟨ab, ao, rfl, World.block_lt_of_cell? w _ hfirst, World.block_lt_of_cell? w _ hfirst, fun i x hxi j u hu => ?_⟩
      simp only [List.getElem?_map] at hxi
      by_cases hil : i < l.length
      · rw [List.getElem?_eq_getElem hil] at hxi
        simp only [Option.map_some, Option.some.injEq] at hxi
        subst hxi
        have hj : j = 0 := by
          match j with
          | 0 => rfl
          | j + 1 => simp at hu
        subst hj
        simp only [List.getElem?_cons_zero, Option.some.injEq] at hu
        subst hu
        have := (hx i hil).2.2
        have hadd : (⟨ab, ao, none⟩ : Addr).add i = ⟨ab, ao + i * 1 + 0, none⟩ := by
          unfold Addr.add
          split
          · rename_i h0
            have hi0 : i = 0 := by omega
            subst hi0
            simp
          · simp
        rw [hadd] at this
        exact this
      · rw [List.getElem?_eq_none (by omega)] at hxi
        simp at hxi
    · rw [List.map_map]
      exact crss_ones f l fun y hy => (hmem y hy).2
theorem open_cellSS {t tc e tI tS : TypeId} {n0 n1 n2 n3 n4 : Field} {fuel len cap : Nat} {A : Option Addr} {x : DataW H × List MemPlace} (ht : P.underlying t = some (.slice tc)) (htc : P.underlying tc = some (.slice e)) (hC1 : P.cellsOf tc = 1) (he : P.underlying e = some (.struct #[n0, n1, n2, n3, n4]))
    (hone : oneCellFields P #[n0, n1, n2, n3, n4] = true) (hC : P.cellsOf e = 5) (h0 : n0.type = tI) (h1 : n1.type = tI) (h2 : n2.type = tS) (h3 : n3.type = tS) (h4 : n4.type = tI)
    (hI : P.underlying tI = some (.int .i64)) (hS : P.underlying tS = some .string)
    (h : DataW.trod enc P w base spare held fuel t [.slice A len cap] = some x) :
    ∃ l : List (List CellD), l.length = len ∧ len ≤ 9223372036854775807 ∧ len ≤ cap ∧ (∀ x ∈ l, Sized x) ∧ (∀ x ∈ l, x.length ≤ 9223372036854775807) ∧ CR w (fun b => b < w.heap.size) (.sl (l.map encCs)) (.slice A len cap) [] := by
  obtain ⟨l, g1, g2, g3, g4, g5⟩ := open_ones (α := List CellD) (p := fun xs => Sized xs ∧ xs.length ≤ 9223372036854775807) (f := fun xs => .sl (xs.map CellD.cs)) ht hC1 (fun n v y hy => by
    obtain ⟨A', c, xs, rfl, p1, p2, p3, p4⟩ := open_cellV htc he hone hC h0 h1 h2 h3 h4 hI hS hy
    exact ⟨xs, ⟨p3, p1⟩, cr_cells.2 ⟨A', c, rfl, p2, p4⟩⟩) h
  exact ⟨l, g1, g2, g3, fun x hx => (g4 x hx).1, fun x hx => (g4 x hx).2, g5⟩
end
end Go.Proofs.YtpaooephkpjkfaaGreat
