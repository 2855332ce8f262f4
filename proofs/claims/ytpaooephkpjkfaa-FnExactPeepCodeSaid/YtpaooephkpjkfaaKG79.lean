/- slices.Index, Contains at []int64; slices.Clone at []Cell; impl.isLeftOut; hasPlace of a struct not all of which is known, by the engine. -/
import Derived.Test.YtpaooephkpjkfaaKM25
import Derived.Test.YtpaooephkpjkfaaKG38
import Derived.Test.YtpaooephkpjkfaaKE6
import Derived.Test.YtpaooephkpjkfaaKE33
import Derived.Test.YtpaooephkpjkfaaKG01uG02
set_option linter.unusedSimpArgs false
set_option linter.unusedVariables false
set_option linter.unnecessarySimpa false
namespace Go.Proofs.Ytpaooephkpjkfaa
open Go.RowKit
set_option maxRecDepth 10000
/-- The first place of a number, or -1. -/
def numAt (l : List Int) (x : Int) : Int := match l.findIdx? fun y => x == y with
  | some i => i
  | none => -1
theorem numAt_some {l : List Int} {x : Int} {k : Nat} (h : k < l.length) (hb : (x == l[k]) = true) (hno : ∀ j (h : j < l.length), j < k → (x == l[j]) = false) : numAt l x = k := by
  unfold numAt
  rw [List.findIdx?_eq_some_iff_getElem.2 ⟨h, hb, fun j hj => by simpa using hno j (by omega) hj⟩]
theorem numAt_none {l : List Int} {x : Int} (hno : ∀ j (h : j < l.length), (x == l[j]) = false) : numAt l x = -1 := by
  unfold numAt
  rw [List.findIdx?_eq_none_iff.2 fun y hy => by
    obtain ⟨i, hi, rfl⟩ := List.getElem_of_mem hy
    exact hno i hi]
theorem numAt_mem (l : List Int) (x : Int) : decide (numAt l x ≥ 0) = l.contains x := by
  unfold numAt
  cases hf : l.findIdx? fun y => x == y with
  | none =>
    have h := List.findIdx?_eq_none_iff.1 hf
    have : l.contains x = false := by
      rw [Bool.eq_false_iff]
      intro hc
      have := h x (List.contains_iff_mem.1 hc)
      simp at this
    rw [this]
    rfl
  | some i =>
    obtain ⟨h1, h2, _⟩ := List.findIdx?_eq_some_iff_getElem.1 hf
    have : l.contains x = true := by
      have e : x = l[i] := by simpa using h2
      rw [e]
      exact List.contains_iff_mem.2 (List.getElem_mem h1)
    rw [this]
    simp
theorem indexNum_ac (l : List Int) (x : Int) (hl : l.length ≤ 1000000) : AC Try.prog 56 [.c (.sl (l.map intCs)), .c (.int .i64 x)] [] (.c (.int .i64 (numAt l x))) [] := by
  refine wEnter Try.func56 Try.ntmps56 ?_
  refine wRUN trivial ?_
  refine a_loop (κ := Nat) (fun k => ⟨mkS 0 19 [(0, .c (.sl (l.map intCs))), (1, .c (.int .i64 x)), (7, .c (.int .i64 l.length)), (8, .c (.int .i64 k))], []⟩)
    (fun k => k ≤ l.length ∧ ∀ j (h : j < l.length), j < k → (x == l[j]) = false) (fun k => l.length - k) 0 ⟨Nat.zero_le _, by intro j h hj; omega⟩ ?_ ?_
  · exact wSays (Says.of [] []) hl
  · rintro k ⟨hk, hno⟩
    by_cases hlt : k < l.length
    · have hdk : decide ((k : Int) < (l.length : Int)) = true := by simpa using hlt
      have hw := wrap_succ (k := k) (by omega)
      have hr : rowsAt (l.map intCs) 1 k = true := by simp [rowsAt, hlt, intCs]
      have hg : (l.map intCs)[k]? = some [.int .i64 l[k]] := by simp [hlt, intCs]
      cases hb : x == l[k] with
      | true =>
        rw [numAt_some hlt hb hno]
        refine wRUN (j4 hdk hr hg hb) ?_
        exact wRet (ret_data []) Try.results56
      | false =>
        refine wRUN (j5 hdk hr hg hb hw) ?_
        refine ⟨k + 1, by omega, ⟨by omega, fun j hj hjk => ?_⟩, ?_⟩
        · by_cases hjk' : j = k
          · subst hjk'; exact hb
          · exact hno j hj (by omega)
        · exact wSays (Says.of [] []) hw
    · have hdk : decide ((k : Int) < (l.length : Int)) = false := by simpa using hlt
      rw [numAt_none fun j hj => hno j hj (by omega)]
      refine wRUN hdk ?_
      exact wRet (ret_data []) Try.results56
theorem containsNum_ac (l : List Int) (x : Int) (hl : l.length ≤ 1000000) : AC Try.prog 37 [.c (.sl (l.map intCs)), .c (.int .i64 x)] [] (.c (.bool (l.contains x))) [] := by
  have hi := indexNum_ac l x hl
  have hd := numAt_mem l x
  generalize numAt l x = i at *
  generalize l.contains x = b at *
  refine wEnter Try.func37 Try.ntmps37 ?_
  refine wRUN trivial ?_
  refine w7 (op_data [] hi) trivial ?_
  refine wRUN hd ?_
  exact wRet (ret_data []) Try.results37
set_option maxHeartbeats 1000000 in
theorem cloneCells_ac (l : List CellD) (hl : l.length ≤ 1000000) : AC Try.prog 22 [.c (.sl (l.map CellD.cs))] [] (.own (0, 0)) [((0, 0), .row false 5 50 (l.map CellD.cs))] := by
  have ha := all_cells l
  have hl0 : 0 + l.length ≤ 1000000 := by omega
  refine wEnter Try.func22 Try.ntmps22 ?_
  refine wRUN1 trivial ?_
  refine a_region ?_
  refine wRUN1 trivial ?_
  refine a_regionN ?_
  (repeat ((with_reducible apply n_eff); (iterate 2 (focus (first | (simp only [go_sem, Nat.reduceEqDiff, Nat.reduceAdd, Nat.reduceSub, Nat.reduceLeDiff, Nat.reduceMul, Nat.reduceBEq, Nat.reduceLT, Int.reduceToNat, reduceCtorEq]; first | done | exact rfl | (and_intros <;> rfl)) | exact rfl | decide)))))
  (apply n_isnil; (focus (first | (simp only [go_sem, Nat.reduceEqDiff, Nat.reduceAdd, Nat.reduceSub, Nat.reduceLeDiff, Nat.reduceMul, Nat.reduceBEq, Nat.reduceLT, Int.reduceToNat, reduceCtorEq]; first | done | exact rfl | (and_intros <;> rfl)) | exact rfl | decide)); (focus (first | (simp only [go_sem, Nat.reduceEqDiff, Nat.reduceAdd, Nat.reduceSub, Nat.reduceLeDiff, Nat.reduceMul, Nat.reduceBEq, Nat.reduceLT, Int.reduceToNat, reduceCtorEq]; first | done | exact rfl | (and_intros <;> rfl)) | exact rfl | decide)); (focus (first | (simp only [go_sem, Nat.reduceEqDiff, Nat.reduceAdd, Nat.reduceSub, Nat.reduceLeDiff, Nat.reduceMul, Nat.reduceBEq, Nat.reduceLT, Int.reduceToNat, reduceCtorEq]; first | done | exact rfl | (and_intros <;> rfl)) | exact rfl | decide)); (focus (first | (simp only [go_sem, Nat.reduceEqDiff, Nat.reduceAdd, Nat.reduceSub, Nat.reduceLeDiff, Nat.reduceMul, Nat.reduceBEq, Nat.reduceLT, Int.reduceToNat, reduceCtorEq]; first | done | exact rfl | (and_intros <;> rfl)) | exact rfl | decide)); (focus (first | (simp only [go_sem, Nat.reduceEqDiff, Nat.reduceAdd, Nat.reduceSub, Nat.reduceLeDiff, Nat.reduceMul, Nat.reduceBEq, Nat.reduceLT, Int.reduceToNat, reduceCtorEq]; first | done | exact rfl | (and_intros <;> rfl)) | exact rfl | decide)))
  · intro hnil
    have hnil2 : l = [] := List.map_eq_nil_iff.1 hnil
    subst hnil2
    refine n_nil ?_
    dsimp only
    refine wRUN trivial ?_
    (apply (ret_of [] []); (focus (simp only [Try.results22, go_sem, Nat.reduceBEq, Nat.reduceLT, List.map_nil]; exact rfl)); (focus (simp only [go_sem, Nat.reduceEqDiff, Nat.reduceAdd, Nat.reduceSub, Nat.reduceLeDiff, Nat.reduceMul, Nat.reduceBEq, Nat.reduceLT, Int.reduceToNat, reduceCtorEq, List.map_nil]; try (and_intros <;> rfl))); (focus exact rfl); (focus (simp only [go_sem, Nat.reduceEqDiff, Nat.reduceAdd, Nat.reduceSub, Nat.reduceLeDiff, Nat.reduceMul, Nat.reduceBEq, Nat.reduceLT, Int.reduceToNat, reduceCtorEq, List.map_nil]; try (and_intros <;> rfl))); (focus exact rfl); (iterate 4 (focus (simp [go_sem, List.map_nil]; done))))
  · refine n_nil ?_
    dsimp only
    refine wRUN (j3 hl ha hl0) ?_
    exact wRetOf (ret_of [((0, 0), (7, 0))] []) Try.results22 hl
theorem hasPlaceU_ac (op arg : Int) : AC Try.prog 23 [.agg [.c (.int .i64 op), .c (.int .i64 arg), .undef]] [] (.c (.bool (inPlace op))) [] := by
  have hw := within_ac op 10 14
  refine wEnter Try.func23 Try.ntmps23 ?_
  refine wRUN1 trivial ?_
  refine a_region ?_
  ((with_reducible apply op_boxU); (iterate 6 (focus (first | (simp only [go_sem, Nat.reduceEqDiff, Nat.reduceAdd, Nat.reduceSub, Nat.reduceLeDiff, Nat.reduceMul, Nat.reduceBEq, Nat.reduceLT, Int.reduceToNat, reduceCtorEq]; first | done | exact rfl | (and_intros <;> rfl)) | exact rfl | decide))))
  refine wRUN trivial ?_
  refine w7 (op_data [] hw) trivial ?_
  refine wRUN trivial ?_
  exact ret_data [] (by simp only [Try.results23, go_sem, Nat.reduceBEq, Nat.reduceLT]; exact rfl) (by simp only [go_sem, Nat.reduceEqDiff, Nat.reduceAdd, Nat.reduceSub, Nat.reduceLeDiff, Nat.reduceMul, Nat.reduceBEq, Nat.reduceLT, Int.reduceToNat, reduceCtorEq, inPlace]) rfl
end Go.Proofs.Ytpaooephkpjkfaa
