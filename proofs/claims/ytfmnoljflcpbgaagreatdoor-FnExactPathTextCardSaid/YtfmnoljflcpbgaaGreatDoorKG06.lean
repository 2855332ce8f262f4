/- Specification functions as the engine's contracts: fault, l1End, l1Children, l1Parts, l1Keys, l1Number, l1String, l1Array. -/
import Derived.Test.YtfmnoljflcpbgaaGreatDoorKG04
import Derived.Test.YtfmnoljflcpbgaaGreatDoorKB3
set_option linter.unusedSimpArgs false
set_option linter.unusedVariables false
set_option linter.unnecessarySimpa false
namespace Go.Proofs.YtfmnoljflcpbgaaGreatDoor
open Go.RowKit
def intCs (n : Int) : List C := [.int .i64 n]
def encCs (xs : List CellD) : List C := [.sl (xs.map CellD.cs)]
theorem all_ints (l : List Int) : ((l.map intCs).all fun r => r.length == 1) = true := by simp [intCs]
theorem all_encs (l : List (List CellD)) : ((l.map encCs).all fun r => r.length == 1) = true := by simp [encCs]
theorem fl_int (n : Int) : forgetL (intCs n) = intCs n := rfl
theorem fl_enc (xs : List CellD) : forgetL (encCs xs) = encCs xs := rfl
theorem forget_ints (l : List Int) : forgetLL (l.map intCs) = l.map intCs := forget_map _ fl_int l
theorem forget_encs (l : List (List CellD)) : forgetLL (l.map encCs) = l.map encCs := forget_map _ fl_enc l
attribute [go_sem] all_ints all_encs forget_ints forget_encs intCs encCs

theorem crss_of {α : Type} {w : World} {S : Nat → Prop} {f : α → List C} : ∀ {l : List α} {rows : List (List Value)}, rows.length = l.length → (∀ i (h : i < l.length) row, rows[i]? = some row → CRs w S (f l[i]) row []) → CRss w S (l.map f) rows []
  | [], rows, hl, _ => by
    have : rows = [] := List.eq_nil_of_length_eq_zero (by simpa using hl)
    subst this
    exact ⟨rfl, rfl⟩
  | x :: l, [], hl, _ => by simp at hl
  | x :: l, r :: rows, hl, h => by
    simp only [List.map_cons, CRss]
    exact ⟨r, rows, [], [], rfl, rfl, h 0 (by simp) r rfl, crss_of (by simpa using hl) fun i hi row hr => by
      have := h (i + 1) (by simpa using hi) row (by simpa using hr)
      simpa using this⟩
theorem l1Parts_ac {t : V} (hw : t.wf) (hc : t.count ≤ 200) : AC Tryz.prog 43 [cellsA t.enc] [] (.c (.sl ((t.kids.map V.enc).map encCs))) [] := by
  refine AC.of_calls fun S w κ vs hv => ?_
  obtain ⟨v, vs', rfl, h1, rfl⟩ := hv
  obtain ⟨A, cap, rfl, hcap, hcs⟩ := cr_cells.1 h1
  refine (l1Parts_any t hw hc A cap hcap S w hcs).mono ?_
  rintro e w' ⟨⟨A', c', rfl, hcap', hr⟩, hb⟩
  refine ⟨hb, _, rfl, fun T _ hT => ?_⟩
  obtain ⟨rows, hl, hrow, hat⟩ := hr
  simp only [AR, CR]
  refine ⟨1, A', c', rows, by simp, by simpa using hcap', trivial, hrow.weaken fun b hb _ => hT b hb, crss_of hl fun i hi row hri => ?_, trivial⟩
  obtain ⟨Ai, ci, rfl, h3, h4⟩ := hat i hi row hri
  exact ⟨_, _, [], [], rfl, rfl, cr_cells.2 ⟨Ai, ci, rfl, h3, h4.weaken fun b hb _ => hT b hb⟩, rfl, rfl⟩

set_option maxRecDepth 10000
end Go.Proofs.YtfmnoljflcpbgaaGreatDoor
