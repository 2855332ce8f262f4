/- Contracts of functions that turn a row of the caller's own: how they become the engine's. -/
import Derived.Test.YtpaooephkpjkfaaKG14uG26
set_option linter.unusedSimpArgs false
set_option linter.unusedVariables false
set_option linter.unnecessarySimpa false
namespace Go.Proofs.Ytpaooephkpjkfaa
open Go.RowKit
theorem AC.of_mut {P : Program} {f : FuncId} {es : Nat} {e : TypeId} {rows rows' : List (List C)} (hc : closedLL rows' = true)
    (h : ∀ (S : Nat → Prop) (w : World) (v : Value) (vrows : List (List Value)), CRss w S rows vrows [] → (∀ x ∈ vrows, x.length = es) → w.ownsRow 0 e es v rows.length vrows.flatten → Calls P f #[v] w fun e1 w' => e1 = .returned (.tuple #[]) ∧ w.grownBy w' v.ownBlock ∧ ∃ vrows', CRss w' (fun _ => False) rows' vrows' [] ∧ (∀ x ∈ vrows', x.length = es) ∧ w'.ownsRow 0 e es v rows'.length vrows'.flatten) :
    AC P f [.own (0, 0)] [((0, 0), .row false es e rows)] (.tup []) [((0, 0), .row false es e rows')] := by
  intro Γ vals hE hA
  obtain ⟨v, vs, rfl, hv, rfl⟩ := hA
  obtain ⟨_, o, ho, hk⟩ := hv
  obtain ⟨_, rfl⟩ := get_one ho
  obtain ⟨vrows, bs, h1, h2, h3, h4, h5, h6⟩ := hE.objs (0, 0) _ rfl
  have hbs := h2 rfl
  subst hbs
  have hkv := hk (by simp)
  rw [← hkv] at h4 h5 h6
  refine (h _ _ _ _ h1 h3 h4).mono ?_
  rintro e1 w' ⟨rfl, hg, vrows', g1, g2, g3⟩
  have hob : ∀ b, b < Γ.w.heap.size → Γ.ow b = none → some b ≠ v.ownBlock := by
    intro b _ hb hv
    have := h6 b (by simp [← hv])
    rw [hb] at this
    cases this
  refine ⟨.tuple #[], Γ.ow, Γ.κ, rfl, ⟨⟨[], rfl, rfl⟩, ?_, ?_, hg.os, hg.tape, hg.output, hg.size, ?_, fun i o o' _ _ => rfl⟩⟩
  · intro i o hi
    obtain ⟨rfl, rfl⟩ := get_one hi
    refine ⟨vrows', [], CRss.closed hc g1, fun _ => rfl, g2, by rw [← hkv]; exact g3, by rw [← hkv]; exact h5, fun b hb => h6 b (by rw [hkv]; exact hb)⟩
  · intro b i hbi
    obtain ⟨k1, o, k2, k3⟩ := hE.own b i hbi
    obtain ⟨rfl, _⟩ := get_one k2
    exact ⟨Nat.lt_of_lt_of_le k1 hg.size, _, rfl, rfl⟩
  · intro b hl hb
    exact ⟨hg.block b hl (hob b hl hb), hb⟩
/-- The same where the row is handed over for good, and comes back under another name. -/
theorem AC.of_cons {P : Program} {f : FuncId} {es : Nat} {e : TypeId} {rows rows' : List (List C)} (hc : closedLL rows' = true)
    (h : ∀ (S : Nat → Prop) (w : World) (v : Value) (vrows : List (List Value)), CRss w S rows vrows [] → (∀ x ∈ vrows, x.length = es) → w.ownsRow 0 e es v rows.length vrows.flatten → Calls P f #[v] w fun e1 w' => w.grownBy w' v.ownBlock ∧ ∃ u vrows', e1 = .returned u ∧ u.ownBlock = v.ownBlock ∧ CRss w' (fun _ => False) rows' vrows' [] ∧ (∀ x ∈ vrows', x.length = es) ∧ w'.ownsRow 0 e es u rows'.length vrows'.flatten) :
    AC P f [.own (0, 0)] [((0, 0), .row false es e rows)] (.own (1, 0)) [((1, 0), .row false es e rows')] := by
  intro Γ vals hE hA
  obtain ⟨v, vs, rfl, hv, rfl⟩ := hA
  obtain ⟨_, o, ho, hk⟩ := hv
  obtain ⟨_, rfl⟩ := get_one ho
  obtain ⟨vrows, bs, h1, h2, h3, h4, h5, h6⟩ := hE.objs (0, 0) _ rfl
  have hbs := h2 rfl
  subst hbs
  have hkv := hk (by simp)
  rw [← hkv] at h4 h5 h6
  refine (h _ _ _ _ h1 h3 h4).mono ?_
  rintro e1 w' ⟨hg, u, vrows', rfl, hu, g1, g2, g3⟩
  have hob : ∀ b, b < Γ.w.heap.size → Γ.ow b = none → some b ≠ v.ownBlock := by
    intro b _ hb hv
    have := h6 b (by simp [← hv])
    rw [hb] at this
    cases this
  refine ⟨u, fun b => if v.ownBlock = some b then some (1, 0) else none, fun _ => u, rfl, ⟨⟨ownsRow_one g3, _, rfl, fun _ => rfl⟩, ?_, ?_, hg.os, hg.tape, hg.output, hg.size, ?_, fun i o o' h1 h2 => ?_⟩⟩
  · intro i o hi
    obtain ⟨rfl, rfl⟩ := get_one hi
    refine ⟨vrows', [], CRss.closed hc g1, fun _ => rfl, g2, g3, ?_, fun b hb => ?_⟩
    · show (u.ownBlock.toList ++ []).Nodup
      cases u.ownBlock <;> simp
    · have hb' : b ∈ u.ownBlock.toList ++ [] := hb
      have : v.ownBlock = some b := by rw [← hu]; simpa using hb'
      exact if_pos this
  · intro b i hbi
    split at hbi
    · rename_i hv
      refine ⟨Nat.lt_of_lt_of_le (ownsRow_lt h4 hv).2 hg.size, .row false es e rows', ?_, rfl⟩
      rw [← Option.some.inj hbi]
      rfl
    · cases hbi
  · intro b hl hb
    exact ⟨hg.block b hl (hob b hl hb), if_neg fun hv => hob b hl hb hv.symm⟩
  · obtain ⟨rfl, _⟩ := get_one h1
    obtain ⟨h3, _⟩ := get_one h2
    cases h3
end Go.Proofs.Ytpaooephkpjkfaa
