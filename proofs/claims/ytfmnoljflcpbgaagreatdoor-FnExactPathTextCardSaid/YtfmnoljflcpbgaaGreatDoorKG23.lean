/- impl.pathOf, withPath, ofOne, by the engine. -/
import Derived.Test.YtfmnoljflcpbgaaGreatDoorKG22
set_option linter.unusedSimpArgs false
set_option linter.unusedVariables false
set_option linter.unnecessarySimpa false
namespace Go.Proofs.YtfmnoljflcpbgaaGreatDoor
open Go.RowKit
set_option maxRecDepth 10000
theorem ar_trees {w : World} {S : Nat → Prop} {m : Mem} {κ : Id → Value} {ks : List V} {kvs : List (List Value)} {A : Option Addr} {cv : Nat} (hc : ks.length ≤ cv) (hr : Row w S 5 A kvs) (hv : VReps w S ks kvs) : AR w S m κ (valsA ks) (.slice A ks.length cv) := by
  have h7 := crss_trees hv
  rw [csL_eq] at h7
  exact ⟨5, A, cv, kvs, by rw [List.length_map], by rw [List.length_map]; exact hc, trivial, hr, h7, rfl⟩
theorem pathOf_ac (xs : List CellD) (hz : Sized xs) {ks : List V} (h : pathDec xs = (0, some ks)) : AC Tryz.prog 46 [cellsA xs] [] (.tup [valsA ks, .c (.int .i64 0)]) [] := by
  refine AC.of_calls fun S w κ vs hv => ?_
  obtain ⟨v, vs', rfl, h1, rfl⟩ := hv
  obtain ⟨A, cap, rfl, _, hc⟩ := cr_cells.1 h1
  refine (pathOf_any xs hz A cap S w hc).mono ?_
  rintro e w' ⟨hb, he⟩
  rw [h] at he
  obtain ⟨Av, cv, kvs, rfl, h2, h3, h4⟩ := he
  exact ⟨hb, _, rfl, fun T _ hT => ⟨[_, _], rfl, _, _, rfl, ar_trees h2 (h3.weaken fun b hb _ => hT b hb) (h4.weaken fun b hb _ => hT b hb), _, _, rfl, ⟨rfl, rfl⟩, rfl⟩⟩
theorem pathOf_bad (xs : List CellD) (hz : Sized xs) {c : Int} (h : pathDec xs = (c, none)) : AC Tryz.prog 46 [cellsA xs] [] (.tup [.nils, .c (.int .i64 c)]) [] := by
  refine AC.of_calls fun S w κ vs hv => ?_
  obtain ⟨v, vs', rfl, h1, rfl⟩ := hv
  obtain ⟨A, cap, rfl, _, hc⟩ := cr_cells.1 h1
  refine (pathOf_any xs hz A cap S w hc).mono ?_
  rintro e w' ⟨hb, he⟩
  rw [h] at he
  have he' : e = .returned (.tuple #[.slice none 0 0, .int .i64 c]) := he
  subst he'
  exact ⟨hb, _, rfl, fun T _ hT => ⟨[_, _], rfl, _, _, rfl, rfl, _, _, rfl, ⟨rfl, rfl⟩, rfl⟩⟩
end Go.Proofs.YtfmnoljflcpbgaaGreatDoor
