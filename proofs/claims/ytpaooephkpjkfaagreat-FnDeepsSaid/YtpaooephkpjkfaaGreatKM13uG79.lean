/- Texts of this proof: M13 M14 G35 G79. -/
import Derived.Test.YtpaooephkpjkfaaGreatKM2
import Derived.Test.YtpaooephkpjkfaaGreatKA1
import Derived.Test.YtpaooephkpjkfaaGreatKS02uG24
import Derived.Test.YtpaooephkpjkfaaGreatKG06
import Derived.Lib.SlicesCompact
import Derived.Test.YtpaooephkpjkfaaGreatKG86uG87
import Derived.Test.YtpaooephkpjkfaaGreatKE6
import Derived.Test.YtpaooephkpjkfaaGreatKG02
set_option linter.unusedSimpArgs false
set_option linter.unusedVariables false
set_option linter.unnecessarySimpa false
namespace Go.Proofs.YtpaooephkpjkfaaGreat
open Go.RowKit
/-- An instruction as data. -/
structure InD where
  op : Int
  arg : Int
  val : List CellD
def between (n lo hi : Int) : Bool := decide (n ≥ lo) && decide (n ≤ hi)
end Go.Proofs.YtpaooephkpjkfaaGreat

/- The plain mathematics of heights: what the loops keep. -/
namespace Go.Proofs.YtpaooephkpjkfaaGreat
open Go.RowKit
/-- The list is so long, and its numbers lie between -1 and b. -/
def HInv (n : Nat) (b : Int) (out : List Int) : Prop := out.length = n ∧ ∀ v ∈ out, -1 ≤ v ∧ v ≤ b
theorem HInv.get {n : Nat} {b : Int} {out : List Int} (h : HInv n b out) (hb : 0 ≤ b) (m : Nat) : -1 ≤ out.getD m 0 ∧ out.getD m 0 ≤ b := by
  rw [List.getD_eq_getElem?_getD]
  by_cases hm : m < out.length
  · rw [List.getElem?_eq_getElem hm, Option.getD_some]
    exact h.2 _ (List.getElem_mem hm)
  · rw [List.getElem?_eq_none (by omega), Option.getD_none]
    omega
theorem HInv.set {n : Nat} {b : Int} {out : List Int} (h : HInv n b out) {m : Nat} {x : Int} (hx : -1 ≤ x ∧ x ≤ b) : HInv n b (out.set m x) := by
  refine ⟨by rw [List.length_set]; exact h.1, fun v hv => ?_⟩
  rcases List.mem_or_eq_of_mem_set hv with hv | rfl
  · exact h.2 v hv
  · exact hx
theorem HInv.up {n : Nat} {b c : Int} {out : List Int} (h : HInv n b out) (hc : b ≤ c) : HInv n c out := ⟨h.1, fun v hv => by have := h.2 v hv; omega⟩
theorem getD_set_ne {out : List Int} {m k : Nat} {x : Int} (h : m ≠ k) : (out.set m x).getD k 0 = out.getD k 0 := by
  rw [List.getD_eq_getElem?_getD, List.getD_eq_getElem?_getD, List.getElem?_set_ne h]
end Go.Proofs.YtpaooephkpjkfaaGreat

/- impl's functions of one instruction: hasPlace, hasReg, hasVal, hasArg, argOk, inFault, effect, behind, by the engine. -/
namespace Go.Proofs.YtpaooephkpjkfaaGreat
open Go.RowKit
set_option maxRecDepth 10000
def InD.cs (d : InD) : List C := [.int .i64 d.op, .int .i64 d.arg, .sl (d.val.map CellD.cs)]
def InD.av (d : InD) : AV := .agg [.c (.int .i64 d.op), .c (.int .i64 d.arg), .c (.sl (d.val.map CellD.cs))]
attribute [go_sem] InD.av
end Go.Proofs.YtpaooephkpjkfaaGreat

/- slices.Index, Contains at []int64; slices.Clone at []Cell; impl.isLeftOut; hasPlace of a struct not all of which is known, by the engine. -/
namespace Go.Proofs.YtpaooephkpjkfaaGreat
open Go.RowKit
set_option maxRecDepth 10000
set_option maxHeartbeats 1000000 in
theorem cloneCells_ac (l : List CellD) (hl : l.length ≤ 1000000) : AC Tryz.prog 52 [.c (.sl (l.map CellD.cs))] [] (.own (0, 0)) [((0, 0), .row false 5 42 (l.map CellD.cs))] := by
  have ha := all_cells l
  have hl0 : 0 + l.length ≤ 1000000 := by omega
  refine wEnter Tryz.func52 Tryz.ntmps52 ?_
  refine wRUN1 trivial ?_
  refine a_region ?_
  refine wRUN1 trivial ?_
  refine a_regionN ?_
  (repeat ((with_reducible apply n_eff); (iterate 2 (focus (first | (simp only [go_sem, Nat.reduceEqDiff, Nat.reduceAdd, Nat.reduceSub, Nat.reduceLeDiff, Nat.reduceMul, Nat.reduceBEq, Nat.reduceLT, Int.reduceToNat, reduceCtorEq]; first | done | exact rfl | (and_intros <;> rfl)) | exact rfl | decide)))))
  (apply n_isnil; (focus (first | (simp only [go_sem, Nat.reduceEqDiff, Nat.reduceAdd, Nat.reduceSub, Nat.reduceLeDiff, Nat.reduceMul, Nat.reduceBEq, Nat.reduceLT, Int.reduceToNat, reduceCtorEq]; first | done | exact rfl | (and_intros <;> rfl)) | exact rfl | decide)); (focus (first | (simp only [go_sem, Nat.reduceEqDiff, Nat.reduceAdd, Nat.reduceSub, Nat.reduceLeDiff, Nat.reduceMul, Nat.reduceBEq, Nat.reduceLT, Int.reduceToNat, reduceCtorEq]; first | done | exact rfl | (and_intros <;> rfl)) | exact rfl | decide)); (focus (first | (simp only [go_sem, Nat.reduceEqDiff, Nat.reduceAdd, Nat.reduceSub, Nat.reduceLeDiff, Nat.reduceMul, Nat.reduceBEq, Nat.reduceLT, Int.reduceToNat, reduceCtorEq]; first | done | exact rfl | (and_intros <;> rfl)) | exact rfl | decide)); (focus (first | (simp only [go_sem, Nat.reduceEqDiff, Nat.reduceAdd, Nat.reduceSub, Nat.reduceLeDiff, Nat.reduceMul, Nat.reduceBEq, Nat.reduceLT, Int.reduceToNat, reduceCtorEq]; first | done | exact rfl | (and_intros <;> rfl)) | exact rfl | decide)); (focus (first | (simp only [go_sem, Nat.reduceEqDiff, Nat.reduceAdd, Nat.reduceSub, Nat.reduceLeDiff, Nat.reduceMul, Nat.reduceBEq, Nat.reduceLT, Int.reduceToNat, reduceCtorEq]; first | done | exact rfl | (and_intros <;> rfl)) | exact rfl | decide)))
  · intro hnil
    have hnil2 : l = [] := List.map_eq_nil_iff.1 hnil
    subst hnil2
    refine n_nil ?_
    dsimp only
    refine wRUN trivial ?_
    (apply (ret_of [] []); (focus (simp only [Tryz.results52, go_sem, Nat.reduceBEq, Nat.reduceLT, List.map_nil]; exact rfl)); (focus (simp only [go_sem, Nat.reduceEqDiff, Nat.reduceAdd, Nat.reduceSub, Nat.reduceLeDiff, Nat.reduceMul, Nat.reduceBEq, Nat.reduceLT, Int.reduceToNat, reduceCtorEq, List.map_nil]; try (and_intros <;> rfl))); (focus exact rfl); (focus (simp only [go_sem, Nat.reduceEqDiff, Nat.reduceAdd, Nat.reduceSub, Nat.reduceLeDiff, Nat.reduceMul, Nat.reduceBEq, Nat.reduceLT, Int.reduceToNat, reduceCtorEq, List.map_nil]; try (and_intros <;> rfl))); (focus exact rfl); (iterate 4 (focus (simp [go_sem, List.map_nil]; done))))
  · refine n_nil ?_
    dsimp only
    refine wRUN (j3 hl ha hl0) ?_
    exact wRetOf (ret_of [((0, 0), (7, 0))] []) Tryz.results52 hl
end Go.Proofs.YtpaooephkpjkfaaGreat
