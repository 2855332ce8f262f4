/- Texts of this proof: M08 M09 M10 M15 M16 M18 M19. -/
import Derived.Test.YtfmnoljflcpbgaaGreatDoorKM1
set_option linter.unusedSimpArgs false
set_option linter.unusedVariables false
set_option linter.unnecessarySimpa false
namespace Go.Proofs.YtfmnoljflcpbgaaGreatDoor
open Go.RowKit

/-- A value without a fault. -/
def V.right (t : V) : Prop := t.wf ∧ t.count ≤ 200 ∧ t.depth ≤ 20
theorem right_mem {t : V} (h : t.right) {k : V} (hk : k ∈ t.kids) : k.right := by
  obtain ⟨h1, h2, h3⟩ := h
  have h4 := countL_mem hk
  have h5 := count_kids t
  have h6 := depthL_mem hk
  have h7 := depth_kids t
  exact ⟨wfL_mem (wf_kids h1) k hk, by omega, by omega⟩
end Go.Proofs.YtfmnoljflcpbgaaGreatDoor











/- The plain mathematics of merging: trees that fit, their cells tell them; what two values come to. -/
namespace Go.Proofs.YtfmnoljflcpbgaaGreatDoor
open Go.RowKit
mutual
/-- A tree whose shape and texts are as they should be; nothing is said of its size. -/
def V.fit : V → Prop
  | .mk kind _ text keys kids => text.size ≤ 200 ∧ (∀ k ∈ keys, k.size ≤ 60) ∧ (holds kind = false → kids = []) ∧ (kind = 6 → keys.length = kids.length) ∧ (kind ≠ 6 → keys = []) ∧ fitL kids
def fitL : List V → Prop
  | [] => True
  | k :: ks => k.fit ∧ fitL ks
end
end Go.Proofs.YtfmnoljflcpbgaaGreatDoor
