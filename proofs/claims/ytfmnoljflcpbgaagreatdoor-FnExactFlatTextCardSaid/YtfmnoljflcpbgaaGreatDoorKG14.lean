/- The laws' own function toCellS as the engine's contract; a row that a function of the old kind returns. -/
import Derived.Test.YtfmnoljflcpbgaaGreatDoorKG10uG13
import Derived.Test.YtfmnoljflcpbgaaGreatDoorKL1
set_option linter.unusedSimpArgs false
set_option linter.unusedVariables false
set_option linter.unnecessarySimpa false
namespace Go.Proofs.YtfmnoljflcpbgaaGreatDoor
open Go.RowKit
theorem ownsRow_lt {w : World} {base : Nat} {e : TypeId} {es n : Nat} {v : Value} {cs : List Value} (h : w.ownsRow base e es v n cs) {b : Nat} (hb : v.ownBlock = some b) : base ≤ b ∧ b < w.heap.size := by
  rcases h.2 with ⟨rfl, _⟩ | ⟨g, cap, cur, rfl, hg, hh, _⟩
  · cases hb
  · have : g = b := by simpa [Value.ownBlock] using hb
    subst this
    exact ⟨hg, (Array.getElem?_eq_some_iff.1 hh).1⟩
theorem ownsRow_zero {w : World} {base : Nat} {e : TypeId} {es n : Nat} {v : Value} {cs : List Value} (h : w.ownsRow base e es v n cs) : w.ownsRow 0 e es v n cs := by
  refine ⟨h.1, ?_⟩
  rcases h.2 with h | ⟨g, cap, cur, e1, hg, r⟩
  · exact .inl h
  · exact .inr ⟨g, cap, cur, e1, Nat.zero_le _, r⟩
/-- A contract of a function that is handed no object and makes a row. -/
theorem AC.of_row {P : Program} {f : FuncId} {args : List AV} {es : Nat} {e : TypeId} {rows : List (List C)} (hc : closedLL rows = true)
    (h : ∀ (S : Nat → Prop) (w : World) (κ : Id → Value) (vals : List Value), ARs w S [] κ args vals → Calls P f vals.toArray w fun e1 w' => Below w.heap.size w w' ∧ ∃ v vrows, e1 = .returned v ∧ CRss w' (fun _ => False) rows vrows [] ∧ (∀ x ∈ vrows, x.length = es) ∧ w'.ownsRow w.heap.size e es v rows.length vrows.flatten) :
    AC P f args [] (.own (0, 0)) [((0, 0), .row false es e rows)] := by
  intro Γ vals hE hA
  have how : ∀ b, Γ.ow b = none := by
    intro b
    cases hb : Γ.ow b with
    | none => rfl
    | some i => obtain ⟨_, o, h1, _⟩ := hE.own b i hb; simp [Mem.get] at h1
  refine (h _ _ _ _ hA).mono ?_
  rintro e1 w' ⟨hb, v, vrows, rfl, h1, h2, h3⟩
  refine ⟨v, fun b => if v.ownBlock = some b then some (0, 0) else none, fun _ => v, rfl, ⟨⟨ownsRow_one h3, _, rfl, fun _ => rfl⟩, ?_, ?_, hb.os, hb.tape, hb.output, hb.size, ?_, fun i o o' h => (by simp [Mem.get] at h)⟩⟩
  · intro i o hi
    obtain ⟨rfl, rfl⟩ := get_one hi
    refine ⟨vrows, [], CRss.closed hc h1, fun _ => rfl, h2, ownsRow_zero h3, ?_, fun b hb => ?_⟩
    · show (v.ownBlock.toList ++ []).Nodup
      cases v.ownBlock <;> simp
    · have hb' : b ∈ v.ownBlock.toList ++ [] := hb
      have : v.ownBlock = some b := by simpa using hb'
      exact if_pos this
  · intro b i hbi
    split at hbi
    · rename_i hv
      refine ⟨(ownsRow_lt h3 hv).2, .row false es e rows, ?_, rfl⟩
      rw [← Option.some.inj hbi]
      rfl
    · cases hbi
  · intro b hl _
    refine ⟨hb.block b hl, ?_⟩
    refine if_neg fun hv => ?_
    have := (ownsRow_lt h3 hv).1
    omega
theorem closed_cells (l : List CellD) : closedLL (l.map CellD.cs) = true := by
  induction l with
  | nil => rfl
  | cons c l ih => simp only [List.map_cons, closedLL, ih, Bool.and_true]; rfl
attribute [go_sem] closed_cells AO.closed
theorem toCellS_ac (xs : List CellD) (hl : xs.length ≤ 1048576) : AC Tryz.prog 12 [cellsA xs] [] (.own (0, 0)) [((0, 0), .row false 5 69 (xs.map CellD.cs))] := by
  refine AC.of_row (closed_cells xs) fun S w κ vs hv => ?_
  obtain ⟨v, vs', rfl, h1, rfl⟩ := hv
  obtain ⟨A, cap, rfl, _, hc⟩ := cr_cells.1 h1
  refine (toCellS_any xs hl A cap S w hc).mono ?_
  rintro e w' ⟨⟨g, rfl, rows, q1, q2, q3, q4⟩, hb⟩
  have : rows = xs.map vals := by
    apply List.ext_getElem?
    intro i
    by_cases hi : i < xs.length
    · rw [List.getElem?_eq_getElem (by omega)]
      have := q4 i hi _ (List.getElem?_eq_getElem (by omega))
      rw [List.getElem?_map, List.getElem?_eq_getElem hi]
      exact congrArg some this
    · rw [List.getElem?_eq_none (by omega), List.getElem?_eq_none (by simp; omega)]
  subst this
  refine ⟨hb, _, xs.map vals, rfl, (crss_map crs_cell).2 ⟨rfl, rfl⟩, q2, ?_⟩
  rw [List.length_map]
  exact q3
end Go.Proofs.YtfmnoljflcpbgaaGreatDoor
