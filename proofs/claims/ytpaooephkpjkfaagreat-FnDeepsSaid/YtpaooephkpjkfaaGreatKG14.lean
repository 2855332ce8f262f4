/- The laws' own function toCellS as the engine's contract; a row that a function of the old kind returns. -/
import Derived.Test.YtpaooephkpjkfaaGreatKG11
import Derived.Test.YtpaooephkpjkfaaGreatKB3
import Derived.Deep.RegionHeld3
import Derived.Deep.RegionWith
import Derived.Test.YtpaooephkpjkfaaGreatKA1
set_option linter.unusedSimpArgs false
set_option linter.unusedVariables false
set_option linter.unnecessarySimpa false
namespace Go.Proofs.YtpaooephkpjkfaaGreat
open Go.RowKit
theorem ownsRow_lt {w : World} {base : Nat} {e : TypeId} {es n : Nat} {v : Value} {cs : List Value} (h : w.ownsRow base e es v n cs) {b : Nat} (hb : v.ownBlock = some b) : base ≤ b ∧ b < w.heap.size := by
  rcases h.2 with ⟨rfl, _⟩ | ⟨g, cap, cur, rfl, hg, hh, _⟩
  · cases hb
  · have : g = b := by simpa [Value.ownBlock] using hb
    subst this
    exact ⟨hg, (Array.getElem?_eq_some_iff.1 hh).1⟩
theorem ownsRow_zero {w : World} {base : Nat} {e : TypeId} {es n : Nat} {v : Value} {cs : List Value} (h : w.ownsRow base e es v n cs) : w.ownsRow 0 e es v n cs := by
  refine ⟨h.1, ?_⟩
  rcases h.2 with h | ⟨g, cap, cur, e1, hg, r⟩
  · exact .inl h
  · exact .inr ⟨g, cap, cur, e1, Nat.zero_le _, r⟩
/-- A contract of a function that is handed no object and makes a row. -/
theorem AC.of_row {P : Program} {f : FuncId} {args : List AV} {es : Nat} {e : TypeId} {rows : List (List C)} (hc : closedLL rows = true)
    (h : ∀ (S : Nat → Prop) (w : World) (κ : Id → Value) (vals : List Value), ARs w S [] κ args vals → Calls P f vals.toArray w fun e1 w' => Below w.heap.size w w' ∧ ∃ v vrows, e1 = .returned v ∧ CRss w' (fun _ => False) rows vrows [] ∧ (∀ x ∈ vrows, x.length = es) ∧ w'.ownsRow w.heap.size e es v rows.length vrows.flatten) :
    AC P f args [] (.own (0, 0)) [((0, 0), .row false es e rows)] := by
  intro Γ vals hE hA
  have how : ∀ b, Γ.ow b = none := by
    intro b
    cases hb : Γ.ow b with
    | none => rfl
    | some i => obtain ⟨_, o, h1, _⟩ := hE.own b i hb; simp [Mem.get] at h1
  refine (h _ _ _ _ hA).mono ?_
  rintro e1 w' ⟨hb, v, vrows, rfl, h1, h2, h3⟩
  refine ⟨v, fun b => if v.ownBlock = some b then some (0, 0) else none, fun _ => v, rfl, ⟨⟨ownsRow_one h3, _, rfl, fun _ => rfl⟩, ?_, ?_, hb.os, hb.tape, hb.output, hb.size, ?_, fun i o o' h => (by simp [Mem.get] at h)⟩⟩
  · intro i o hi
    obtain ⟨rfl, rfl⟩ := get_one hi
    refine ⟨vrows, [], CRss.closed hc h1, fun _ => rfl, h2, ownsRow_zero h3, ?_, fun b hb => ?_⟩
    · show (v.ownBlock.toList ++ []).Nodup
      cases v.ownBlock <;> simp
    · have hb' : b ∈ v.ownBlock.toList ++ [] := hb
      have : v.ownBlock = some b := by simpa using hb'
      exact if_pos this
  · intro b i hbi
    split at hbi
    · rename_i hv
      refine ⟨(ownsRow_lt h3 hv).2, .row false es e rows, ?_, rfl⟩
      rw [← Option.some.inj hbi]
      rfl
    · cases hbi
  · intro b hl _
    refine ⟨hb.block b hl, ?_⟩
    refine if_neg fun hv => ?_
    have := (ownsRow_lt h3 hv).1
    omega
theorem closed_cells (l : List CellD) : closedLL (l.map CellD.cs) = true := by
  induction l with
  | nil => rfl
  | cons c l ih => simp only [List.map_cons, closedLL, ih, Bool.and_true]; rfl
attribute [go_sem] closed_cells AO.closed
/-- A contract met by values in a world. -/
theorem AC.calls {P : Program} {f : FuncId} {args : List AV} {b : Bool} (h : AC P f args [] (.c (.bool b)) []) {w : World} {S : Nat → Prop} {vals : List Value}
    (hv : ∀ (T : Nat → Prop), (∀ b, S b → T b) → ∀ κ, ARs w T [] κ args vals) : Calls P f vals.toArray w fun e w' => e = .returned (.bool b) ∧ Below w.heap.size w w' := by
  let Γ : Ctx := ⟨w, S, fun _ => none, fun _ => .bool false, []⟩
  have hE : Entry Γ [] := ⟨fun i o hi => (by simp [Mem.get] at hi), fun b i hb => (by cases hb), rfl⟩
  refine (h Γ vals hE (hv _ (fun b hb => ⟨rfl, .inl hb⟩) _)).mono ?_
  rintro e w' ⟨v, ow, κ, rfl, hx⟩
  obtain ⟨rfl, _⟩ := hx.res
  exact ⟨rfl, hx.os, hx.tape, hx.output, hx.size, fun b hb => (hx.frame b hb rfl).1⟩
end Go.Proofs.YtpaooephkpjkfaaGreat
