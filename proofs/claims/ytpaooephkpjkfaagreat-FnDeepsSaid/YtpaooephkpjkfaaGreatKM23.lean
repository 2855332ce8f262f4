/- The plain mathematics of operations with two values. -/
import Derived.Test.YtpaooephkpjkfaaGreatKM3
import Derived.Test.YtpaooephkpjkfaaGreatKM2
set_option linter.unusedSimpArgs false
set_option linter.unusedVariables false
set_option linter.unnecessarySimpa false
namespace Go.Proofs.YtpaooephkpjkfaaGreat
open Go.RowKit
theorem leaf_right {k n : Int} {s : ByteArray} (h : cellCode k n s ByteArray.empty 0 = 0) (h6 : k ≠ 6) : (V.mk k n s [] []).right := by
  refine ⟨⟨h, ?_, trivial⟩, by simp [V.count, countL], by simp [V.depth, depthL]⟩
  unfold keysOk
  rw [if_neg h6]
theorem numV_right {n : Int} (h : -1000000000000000 ≤ n ∧ n ≤ 1000000000000000) : (numV n).right := by
  refine leaf_right ?_ (by decide)
  unfold cellCode
  have h1 : inB 3 0 6 = true := by decide
  have h2 : inB n (-1000000000000000) 1000000000000000 = true := by unfold inB; simp; omega
  simp [h1, cF, cR, cT, okText_empty, holds, h2, inB]
  omega
end Go.Proofs.YtpaooephkpjkfaaGreat
