/- Texts of this proof: O05 O08. -/
import Derived.Test.YtfmnoljflcpbgaaGreatDoorKO02
import Derived.Test.YtfmnoljflcpbgaaGreatDoorKGE
import Derived.Test.YtfmnoljflcpbgaaGreatDoorKF00uO07
set_option linter.unusedSimpArgs false
set_option linter.unusedVariables false
set_option linter.unnecessarySimpa false
namespace Go.Proofs.YtfmnoljflcpbgaaGreatDoor
open Go.ChangeShapes Go.WideShapes Go.ChangeAt Go.RowKit Go.Deep
theorem crss_edits {w : World} {S : Nat → Prop} : ∀ (l : List EditD) (v : List (List Value)), v.length = l.length → (∀ i (h : i < l.length), ∀ row, v[i]? = some row → RE w S l[i] row) → CRss w S (l.map EditD.cs) v []
  | [], v, hv, _ => by
    have : v = [] := List.eq_nil_of_length_eq_zero hv
    subst this
    exact ⟨rfl, rfl⟩
  | d :: l, [], hv, _ => by simp at hv
  | d :: l, r :: v, hv, h => by
    have h0 := h 0 (by simp) r rfl
    obtain ⟨Ap, cp, Ax, cx, rfl, p2, x2, p4, x4⟩ := h0
    refine ⟨_, v, [], [], rfl, rfl, ?_, crss_edits l v (by simpa using hv) fun i hi row hr => h (i + 1) (by simp; omega) row hr⟩
    exact ⟨_, _, [], [], rfl, rfl, ⟨rfl, rfl⟩, _, _, [], [], rfl, rfl, cr_cells.2 ⟨Ap, cp, rfl, p2, p4⟩, _, _, [], [], rfl, rfl, cr_cells.2 ⟨Ax, cx, rfl, x2, x4⟩, rfl, rfl⟩
section
variable {H : Type} {enc : TypeId × Value → H} {P : Program} {w : World} {base : Nat} {spare : Nat → Bool} {held : Bool}
theorem open_edits {t e tc ec tI tS : TypeId} {f0 f1 f2 n0 n1 n2 n3 n4 : Field} {fuel len cap : Nat} {A : Option Addr} {x : DataW H × List MemPlace} (ht : P.underlying t = some (.slice e)) (he : P.underlying e = some (.struct #[f0, f1, f2]))
    (hone : oneCellFields P #[f0, f1, f2] = true) (hC : P.cellsOf e = 3) (g0 : f0.type = tI) (g1 : f1.type = tc) (g2 : f2.type = tc)
    (htc : P.underlying tc = some (.slice ec)) (hec : P.underlying ec = some (.struct #[n0, n1, n2, n3, n4]))
    (honec : oneCellFields P #[n0, n1, n2, n3, n4] = true) (hCc : P.cellsOf ec = 5) (h0 : n0.type = tI) (h1 : n1.type = tI) (h2 : n2.type = tS) (h3 : n3.type = tS) (h4 : n4.type = tI)
    (hI : P.underlying tI = some (.int .i64)) (hS : P.underlying tS = some .string)
    (h : DataW.trod enc P w base spare held fuel t [.slice A len cap] = some x) :
    ∃ l : List EditD, l.length = len ∧ len ≤ 9223372036854775807 ∧ len ≤ cap ∧ (∀ d ∈ l, EditOk d) ∧ CR w (fun b => b < w.heap.size) (.sl (l.map EditD.cs)) (.slice A len cap) [] := by
  obtain ⟨l, k1, k2, k3, k4, vrows, k5, k6, k7⟩ := open_editS ht he hone hC g0 g1 g2 htc hec honec hCc h0 h1 h2 h3 h4 hI hS h
  refine ⟨l, k1, k2, k3, k4, 3, A, cap, vrows, by rw [List.length_map, k1], by rw [List.length_map, k1]; exact k3, trivial, k6, crss_edits l vrows k5 k7, rfl⟩
end
end Go.Proofs.YtfmnoljflcpbgaaGreatDoor

/- Edits do not lie where a table lies. -/
namespace Go.Proofs.YtfmnoljflcpbgaaGreatDoor
open Go.RowKit
theorem off_edits : ∀ l : List EditD, (C.sl (l.map EditD.cs)).offT = true
  | [] => rfl
  | d :: l => by
    have h := off_edits l
    have h1 := off_cells d.path
    have h2 := off_cells d.x
    simp only [C.offT] at h
    simp only [C.offT, List.map_cons, offTss, h, EditD.cs, offTs]
    simp only [C.offT] at h1 h2
    rw [h1, h2]
    rfl
end Go.Proofs.YtfmnoljflcpbgaaGreatDoor
