/- The plain mathematics of heights: what the loops keep. -/
import Derived.Test.YtfmnoljflcpbgaaGreatDoorKM13uG35
set_option linter.unusedSimpArgs false
set_option linter.unusedVariables false
set_option linter.unnecessarySimpa false
namespace Go.Proofs.YtfmnoljflcpbgaaGreatDoor
open Go.RowKit
/-- The list is so long, and its numbers lie between -1 and b. -/
def HInv (n : Nat) (b : Int) (out : List Int) : Prop := out.length = n ∧ ∀ v ∈ out, -1 ≤ v ∧ v ≤ b
theorem HInv.get {n : Nat} {b : Int} {out : List Int} (h : HInv n b out) (hb : 0 ≤ b) (m : Nat) : -1 ≤ out.getD m 0 ∧ out.getD m 0 ≤ b := by
  rw [List.getD_eq_getElem?_getD]
  by_cases hm : m < out.length
  · rw [List.getElem?_eq_getElem hm, Option.getD_some]
    exact h.2 _ (List.getElem_mem hm)
  · rw [List.getElem?_eq_none (by omega), Option.getD_none]
    omega
theorem HInv.set {n : Nat} {b : Int} {out : List Int} (h : HInv n b out) {m : Nat} {x : Int} (hx : -1 ≤ x ∧ x ≤ b) : HInv n b (out.set m x) := by
  refine ⟨by rw [List.length_set]; exact h.1, fun v hv => ?_⟩
  rcases List.mem_or_eq_of_mem_set hv with hv | rfl
  · exact h.2 v hv
  · exact hx
theorem HInv.up {n : Nat} {b c : Int} {out : List Int} (h : HInv n b out) (hc : b ≤ c) : HInv n c out := ⟨h.1, fun v hv => by have := h.2 v hv; omega⟩
theorem getD_set_ne {out : List Int} {m k : Nat} {x : Int} (h : m ≠ k) : (out.set m x).getD k 0 = out.getD k 0 := by
  rw [List.getD_eq_getElem?_getD, List.getD_eq_getElem?_getD, List.getElem?_set_ne h]
theorem layAll_drop (n : Nat) (h : Int) (nx : List Int) {j : Nat} (hj : j < nx.length) (out : List Int) : layAll n h (nx.drop j) out = if (n : Int) ≤ nx[j] ∨ (0 ≤ out.getD nx[j].toNat 0 ∧ out.getD nx[j].toNat 0 ≠ h) then (out, false) else layAll n h (nx.drop (j + 1)) (out.set nx[j].toNat h) := by
  rw [List.drop_eq_getElem_cons hj]
  rfl
theorem takes_lays (op : Int) : 0 ≤ takesOf op ∧ takesOf op ≤ 2 ∧ 0 ≤ laysOf op ∧ laysOf op ≤ 2 ∧ laysOf op ≤ takesOf op + 1 := by
  unfold takesOf laysOf
  repeat' split
  all_goals omega
theorem hGo_end (n : Nat) : ∀ (l : List InD) (i : Nat) (out : List Int), (hGo n i l out).2 = -1 ∨ 0 ≤ (hGo n i l out).2
  | [], _, _ => .inl rfl
  | d :: r, i, out => by
    unfold hGo
    split
    · exact hGo_end n r (i + 1) out
    · split
      · exact .inr (by dsimp only; omega)
      · split
        · exact hGo_end n r (i + 1) _
        · exact .inr (by dsimp only; omega)
theorem heights_end (l : List InD) : (heightsOf l).2 = -1 ∨ 0 ≤ (heightsOf l).2 := hGo_end _ _ _ _
def startH (n : Nat) : List Int := (List.replicate n (-1)).set 0 1
theorem startH_inv (n : Nat) : HInv n 1 (startH n) := by
  refine ⟨by simp [startH], fun v hv => ?_⟩
  rcases List.mem_or_eq_of_mem_set hv with hv | rfl
  · rw [List.mem_replicate] at hv
    omega
  · omega
theorem nexts_len (d : InD) (i : Int) : (nexts d i).length ≤ 2 := by
  unfold nexts
  repeat' split
  all_goals simp
end Go.Proofs.YtfmnoljflcpbgaaGreatDoor
