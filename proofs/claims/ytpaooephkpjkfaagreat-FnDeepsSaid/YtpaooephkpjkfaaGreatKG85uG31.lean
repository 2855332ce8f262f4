/- Texts of this proof: G85 H22 M30 G31. -/
import Derived.Test.YtpaooephkpjkfaaGreatKG84
import Derived.Test.YtpaooephkpjkfaaGreatKM23
import Derived.Test.YtpaooephkpjkfaaGreatKM3
import Derived.Test.YtpaooephkpjkfaaGreatKM2
import Derived.Test.YtpaooephkpjkfaaGreatKG05uG20
import Derived.Test.YtpaooephkpjkfaaGreatKE5
import Derived.Test.YtpaooephkpjkfaaGreatKS02uG24
import Derived.Test.YtpaooephkpjkfaaGreatKA1
set_option linter.unusedSimpArgs false
set_option linter.unusedVariables false
set_option linter.unnecessarySimpa false
namespace Go.Proofs.YtpaooephkpjkfaaGreat
open Go.RowKit
set_option maxRecDepth 10000
theorem lwBig_ac (bs : List Nat) : AC Tryz.prog 8 [.c (.sl (bs.map byteCs))] [] (.c (.bool (decide ((bs.length : Int) > 1048576)))) [] := by
  have hln : (bs.map byteCs).length = bs.length := by simp
  refine wEnter Tryz.func8 Tryz.ntmps8 ?_
  refine wRUN hln ?_
  exact wRet (ret_data []) Tryz.results8
end Go.Proofs.YtpaooephkpjkfaaGreat

/- laws.FnSums: the walk of the law, by the engine. -/
namespace Go.Proofs.YtpaooephkpjkfaaGreat
open Go.RowKit
set_option maxRecDepth 10000
theorem faultS {t : V} (ht : t.right) : AC Tryz.prog 21 [cellsA t.enc] [] (.c (.int .i64 0)) [] := by
  have := implFault_ac t.enc (right_sized ht)
  rw [right_dec ht] at this
  exact this
theorem sameS {t : V} (ht : t.right) : AC Tryz.prog 13 [cellsA t.enc, cellsA t.enc] [] (.c (.bool true)) [] := by
  have := implSame_ac t.enc t.enc (right_sized ht) (right_sized ht)
  rw [sameC_self ht] at this
  exact this
end Go.Proofs.YtpaooephkpjkfaaGreat

/- The plain mathematics of FnPaths: what is put at a path is got there; what is dropped is null. -/
namespace Go.Proofs.YtpaooephkpjkfaaGreat
open Go.RowKit
theorem give_some {t r : V} {c : Int} (h : giveR t = (c, some r)) : c = 0 ∧ r = t ∧ giveR t = okR t := by
  unfold giveR at h ⊢
  split at h
  · rename_i h0
    rw [if_pos h0]
    simp only [Prod.mk.injEq, Option.some.injEq] at h
    exact ⟨h.1.symm, h.2.symm, rfl⟩
  · simp at h
end Go.Proofs.YtpaooephkpjkfaaGreat

/- impl.eventOf, by the engine. -/
namespace Go.Proofs.YtpaooephkpjkfaaGreat
open Go.RowKit
set_option maxRecDepth 10000
theorem count_right {q : V} (h : q.right) : AC Tryz.prog 49 [q.av] [] (.own (0, 0)) [((0, 0), .row false 5 42 (q.enc.map CellD.cs))] :=
  cells_ac q.count q (Nat.le_refl _) (by have := h.2.1; omega) (right_neat h)
end Go.Proofs.YtpaooephkpjkfaaGreat
