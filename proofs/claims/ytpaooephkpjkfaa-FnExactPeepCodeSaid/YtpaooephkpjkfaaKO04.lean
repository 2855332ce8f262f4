/- An argument that is a slice of instructions, opened. -/
import Derived.Test.YtpaooephkpjkfaaKO02
import Derived.Test.YtpaooephkpjkfaaKM2uG06
import Derived.Deep.Slices
import Derived.Test.YtpaooephkpjkfaaKG35
set_option linter.unusedSimpArgs false
set_option linter.unusedVariables false
set_option linter.unnecessarySimpa false
namespace Go.Proofs.Ytpaooephkpjkfaa
open Go.ChangeShapes Go.WideShapes Go.ChangeAt Go.RowKit Go.Deep
section
variable {H : Type} {enc : TypeId × Value → H} {P : Program} {w : World} {base : Nat} {spare : Nat → Bool} {held : Bool}
/-- An instruction as three cells. -/
def RIn (w : World) (d : InD) (row : List Value) : Prop := ∃ v, row = [.int .i64 d.op, .int .i64 d.arg, v] ∧ CR w (fun b => b < w.heap.size) (.sl (d.val.map CellD.cs)) v []
theorem crss_ins : ∀ (l : List (InD × List Value)), (∀ y ∈ l, RIn w y.1 y.2) → CRss w (fun b => b < w.heap.size) (l.map fun y => y.1.cs) (l.map fun y => y.2) []
  | [], _ => ⟨rfl, rfl⟩
  | y :: l, h => by
    obtain ⟨v, hv, hc⟩ := h y (by simp)
    refine ⟨y.2, _, [], [], rfl, rfl, ?_, crss_ins l fun z hz => h z (by simp [hz])⟩
    rw [hv]
    exact ⟨_, _, [], [], rfl, rfl, ⟨rfl, rfl⟩, _, _, [], [], rfl, rfl, ⟨rfl, rfl⟩, v, [], [], [], rfl, rfl, hc, rfl, rfl⟩
theorem open_inS {t e tc ec tI tS : TypeId} {f0 f1 f2 n0 n1 n2 n3 n4 : Field} {fuel len cap : Nat} {A : Option Addr} {x : DataW H × List MemPlace} (ht : P.underlying t = some (.slice e)) (he : P.underlying e = some (.struct #[f0, f1, f2]))
    (hone : oneCellFields P #[f0, f1, f2] = true) (hC : P.cellsOf e = 3) (g0 : f0.type = tI) (g1 : f1.type = tI) (g2 : f2.type = tc)
    (htc : P.underlying tc = some (.slice ec)) (hec : P.underlying ec = some (.struct #[n0, n1, n2, n3, n4]))
    (honec : oneCellFields P #[n0, n1, n2, n3, n4] = true) (hCc : P.cellsOf ec = 5) (h0 : n0.type = tI) (h1 : n1.type = tI) (h2 : n2.type = tS) (h3 : n3.type = tS) (h4 : n4.type = tI)
    (hI : P.underlying tI = some (.int .i64)) (hS : P.underlying tS = some .string)
    (h : DataW.trod enc P w base spare held fuel t [.slice A len cap] = some x) :
    ∃ l : List InD, l.length = len ∧ len ≤ 9223372036854775807 ∧ len ≤ cap ∧ (∀ d ∈ l, Sized d.val) ∧ (∀ d ∈ l, d.val.length ≤ 9223372036854775807) ∧ CR w (fun b => b < w.heap.size) (.sl (l.map InD.cs)) (.slice A len cap) [] := by
  rcases open_slice_fields ht he hone hC h with ⟨hcs, _⟩ | ⟨a, len', cap', m, D, Pl, hcs, _, hl, hm, hmm, _, hi⟩
  · simp only [List.cons.injEq, Value.slice.injEq, and_true] at hcs
    obtain ⟨rfl, rfl, rfl⟩ := hcs
    exact ⟨[], rfl, by omega, by omega, by simp, by simp, 0, none, 0, [], rfl, Nat.le_refl _, trivial, Row.nil, ⟨rfl, rfl⟩, rfl⟩
  · simp only [List.cons.injEq, Value.slice.injEq, and_true] at hcs
    obtain ⟨rfl, rfl, rfl⟩ := hcs
    have hlm : len ≤ m := by rw [hmm]; split <;> omega
    have hmx : maxLen = 9223372036854775807 := rfl
    obtain ⟨l, hll, hx⟩ := list_of (p := fun i (d : InD × List Value) => (Sized d.1.val ∧ d.1.val.length ≤ 9223372036854775807) ∧ RIn w d.1 d.2 ∧ ∀ j u, d.2[j]? = some u → w.cell? (a.add (i * 3 + j)) = some u) len (fun i hil => by
      obtain ⟨ys, n, _, _, _, hf⟩ := hi i (by omega)
      obtain ⟨v0, y0, c0, _, t0⟩ := hf 0 f0 rfl
      obtain ⟨v1, y1, c1, _, t1⟩ := hf 1 f1 rfl
      obtain ⟨v2, y2, c2, _, t2⟩ := hf 2 f2 rfl
      rw [g0] at t0; rw [g1] at t1; rw [g2] at t2
      obtain ⟨op, e0, _⟩ := DataW.trod_int hI t0
      obtain ⟨arg, e1, _⟩ := DataW.trod_int hI t1
      simp only [List.cons.injEq, and_true] at e0 e1
      subst e0 e1
      obtain ⟨Ax, cx, xs, rfl, x1, x2, x3, x4⟩ := open_cellV htc hec honec hCc h0 h1 h2 h3 h4 hI hS t2
      refine ⟨(⟨op, arg, xs⟩, [.int .i64 op, .int .i64 arg, .slice Ax xs.length cx]), ⟨x3, x1⟩, ⟨_, rfl, cr_cells.2 ⟨Ax, cx, rfl, x2, x4⟩⟩, fun j u hu => ?_⟩
      match j with
      | 0 => simp only [List.getElem?_cons_zero, Option.some.injEq] at hu; subst hu; exact c0
      | 1 => simp only [List.getElem?_cons_succ, List.getElem?_cons_zero, Option.some.injEq] at hu; subst hu; exact c1
      | 2 => simp only [List.getElem?_cons_succ, List.getElem?_cons_zero, Option.some.injEq] at hu; subst hu; exact c2
      | j + 3 => simp at hu)
    have hmem : ∀ y ∈ l, (Sized y.1.val ∧ y.1.val.length ≤ 9223372036854775807) ∧ RIn w y.1 y.2 := fun y hy => by
      obtain ⟨i, hi', rfl⟩ := List.getElem_of_mem hy
      exact ⟨(hx i hi').1, (hx i hi').2.1⟩
    refine ⟨l.map (·.1), by simp [hll], by omega, hl, fun d hd => ?_, fun d hd => ?_, 3, some a, cap, l.map fun y => y.2, by simp [hll], by simp [hll]; exact hl, trivial, ⟨fun x hx' => ?_, fun hn => ?_⟩, ?_, rfl⟩
    · simp only [List.mem_map] at hd
      obtain ⟨y, hy, rfl⟩ := hd
      exact (hmem y hy).1.1
    · simp only [List.mem_map] at hd
      obtain ⟨y, hy, rfl⟩ := hd
      exact (hmem y hy).1.2
    · simp only [List.mem_map] at hx'
      obtain ⟨y, hy, rfl⟩ := hx'
      obtain ⟨v, hv, _⟩ := (hmem y hy).2
      rw [hv]
      rfl
    · simp only [List.length_map] at hn
      obtain ⟨_, ⟨_, hrow, _⟩, hc0⟩ := hx 0 hn
      have hfirst := hc0 0 _ (by rw [hrow]; rfl)
      simp only [Nat.zero_mul, Nat.zero_add] at hfirst
      have hadd0 : a.add 0 = a := by unfold Addr.add; simp
      rw [hadd0] at hfirst
      obtain ⟨ab, ao, asp⟩ := a
      have hsp : asp = none := by
        unfold World.cell? at hfirst
        simp only at hfirst
        split at hfirst
        · split at hfirst
          · simp at hfirst
          · rename_i hns; simpa using hns
        · simp at hfirst
      subst hsp
      refine ⟨ab, ao, rfl, World.block_lt_of_cell? w _ hfirst, World.block_lt_of_cell? w _ hfirst, fun i x hxi j u hu => ?_⟩
      simp only [List.getElem?_map] at hxi
      by_cases hil : i < l.length
      · rw [List.getElem?_eq_getElem hil] at hxi
        simp only [Option.map_some, Option.some.injEq] at hxi
        subst hxi
        have := (hx i hil).2.2 j u hu
        have hadd : (⟨ab, ao, none⟩ : Addr).add (i * 3 + j) = ⟨ab, ao + i * 3 + j, none⟩ := by
          unfold Addr.add
          split
          · rename_i h0
            have hi0 : i = 0 := by omega
            subst hi0
            simp
          · simp [Nat.add_assoc]
        rw [hadd] at this
        exact this
      · rw [List.getElem?_eq_none (by omega)] at hxi
        simp at hxi
    · rw [List.map_map]
      exact crss_ins l fun y hy => (hmem y hy).2
end
end Go.Proofs.Ytpaooephkpjkfaa
