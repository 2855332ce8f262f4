/- Texts of this proof: G49 G22. -/
import Derived.Test.YtpaooephkpjkfaaGreatKE6
import Derived.Test.YtpaooephkpjkfaaGreatKG8
import Derived.Test.YtpaooephkpjkfaaGreatKG21
set_option linter.unusedSimpArgs false
set_option linter.unusedVariables false
set_option linter.unnecessarySimpa false
namespace Go.Proofs.YtpaooephkpjkfaaGreat
open Go.RowKit
set_option maxRecDepth 10000
set_option maxHeartbeats 1000000 in
theorem cloneStrs_ac (l : List ByteArray) (hl : l.length ≤ 1000000) : AC Tryz.prog 133 [.c (.sl (l.map strCs))] [] (.own (0, 0)) [((0, 0), .row false 1 9 (l.map strCs))] := by
  have ha := all_strs l
  have hl0 : 0 + l.length ≤ 1000000 := by omega
  refine wEnter Tryz.func133 Tryz.ntmps133 ?_
  refine wRUN1 trivial ?_
  refine a_region ?_
  refine wRUN1 trivial ?_
  refine a_regionN ?_
  (repeat ((with_reducible apply n_eff); (iterate 2 (focus (first | (simp only [go_sem, Nat.reduceEqDiff, Nat.reduceAdd, Nat.reduceSub, Nat.reduceLeDiff, Nat.reduceMul, Nat.reduceBEq, Nat.reduceLT, Int.reduceToNat, reduceCtorEq]; first | done | exact rfl | (and_intros <;> rfl)) | exact rfl | decide)))))
  (apply n_isnil; (focus (first | (simp only [go_sem, Nat.reduceEqDiff, Nat.reduceAdd, Nat.reduceSub, Nat.reduceLeDiff, Nat.reduceMul, Nat.reduceBEq, Nat.reduceLT, Int.reduceToNat, reduceCtorEq]; first | done | exact rfl | (and_intros <;> rfl)) | exact rfl | decide)); (focus (first | (simp only [go_sem, Nat.reduceEqDiff, Nat.reduceAdd, Nat.reduceSub, Nat.reduceLeDiff, Nat.reduceMul, Nat.reduceBEq, Nat.reduceLT, Int.reduceToNat, reduceCtorEq]; first | done | exact rfl | (and_intros <;> rfl)) | exact rfl | decide)); (focus (first | (simp only [go_sem, Nat.reduceEqDiff, Nat.reduceAdd, Nat.reduceSub, Nat.reduceLeDiff, Nat.reduceMul, Nat.reduceBEq, Nat.reduceLT, Int.reduceToNat, reduceCtorEq]; first | done | exact rfl | (and_intros <;> rfl)) | exact rfl | decide)); (focus (first | (simp only [go_sem, Nat.reduceEqDiff, Nat.reduceAdd, Nat.reduceSub, Nat.reduceLeDiff, Nat.reduceMul, Nat.reduceBEq, Nat.reduceLT, Int.reduceToNat, reduceCtorEq]; first | done | exact rfl | (and_intros <;> rfl)) | exact rfl | decide)); (focus (first | (simp only [go_sem, Nat.reduceEqDiff, Nat.reduceAdd, Nat.reduceSub, Nat.reduceLeDiff, Nat.reduceMul, Nat.reduceBEq, Nat.reduceLT, Int.reduceToNat, reduceCtorEq]; first | done | exact rfl | (and_intros <;> rfl)) | exact rfl | decide)))
  · intro hnil
    have hnil2 : l = [] := List.map_eq_nil_iff.1 hnil
    subst hnil2
    refine n_nil ?_
    dsimp only
    refine wRUN trivial ?_
    (apply (ret_of [] []); (focus (simp only [Tryz.results133, go_sem, Nat.reduceBEq, Nat.reduceLT, List.map_nil]; exact rfl)); (focus (simp only [go_sem, Nat.reduceEqDiff, Nat.reduceAdd, Nat.reduceSub, Nat.reduceLeDiff, Nat.reduceMul, Nat.reduceBEq, Nat.reduceLT, Int.reduceToNat, reduceCtorEq, List.map_nil]; try (and_intros <;> rfl))); (focus exact rfl); (focus (simp only [go_sem, Nat.reduceEqDiff, Nat.reduceAdd, Nat.reduceSub, Nat.reduceLeDiff, Nat.reduceMul, Nat.reduceBEq, Nat.reduceLT, Int.reduceToNat, reduceCtorEq, List.map_nil]; try (and_intros <;> rfl))); (focus exact rfl); (iterate 4 (focus (simp [go_sem, List.map_nil]; done))))
  · refine n_nil ?_
    dsimp only
    refine wRUN (j3 hl ha hl0) ?_
    exact wRetOf (ret_of [((0, 0), (7, 0))] []) Tryz.results133 hl
set_option maxHeartbeats 1000000 in
theorem cloneVals_ac (l : List V) (hl : l.length ≤ 1000000) : AC Tryz.prog 134 [.c (.sl (l.map V.cs))] [] (.own (0, 0)) [((0, 0), .row false 5 73 (l.map V.cs))] := by
  have ha := all_trees l
  have hl0 : 0 + l.length ≤ 1000000 := by omega
  refine wEnter Tryz.func134 Tryz.ntmps134 ?_
  refine wRUN1 trivial ?_
  refine a_region ?_
  refine wRUN1 trivial ?_
  refine a_regionN ?_
  (repeat ((with_reducible apply n_eff); (iterate 2 (focus (first | (simp only [go_sem, Nat.reduceEqDiff, Nat.reduceAdd, Nat.reduceSub, Nat.reduceLeDiff, Nat.reduceMul, Nat.reduceBEq, Nat.reduceLT, Int.reduceToNat, reduceCtorEq]; first | done | exact rfl | (and_intros <;> rfl)) | exact rfl | decide)))))
  (apply n_isnil; (focus (first | (simp only [go_sem, Nat.reduceEqDiff, Nat.reduceAdd, Nat.reduceSub, Nat.reduceLeDiff, Nat.reduceMul, Nat.reduceBEq, Nat.reduceLT, Int.reduceToNat, reduceCtorEq]; first | done | exact rfl | (and_intros <;> rfl)) | exact rfl | decide)); (focus (first | (simp only [go_sem, Nat.reduceEqDiff, Nat.reduceAdd, Nat.reduceSub, Nat.reduceLeDiff, Nat.reduceMul, Nat.reduceBEq, Nat.reduceLT, Int.reduceToNat, reduceCtorEq]; first | done | exact rfl | (and_intros <;> rfl)) | exact rfl | decide)); (focus (first | (simp only [go_sem, Nat.reduceEqDiff, Nat.reduceAdd, Nat.reduceSub, Nat.reduceLeDiff, Nat.reduceMul, Nat.reduceBEq, Nat.reduceLT, Int.reduceToNat, reduceCtorEq]; first | done | exact rfl | (and_intros <;> rfl)) | exact rfl | decide)); (focus (first | (simp only [go_sem, Nat.reduceEqDiff, Nat.reduceAdd, Nat.reduceSub, Nat.reduceLeDiff, Nat.reduceMul, Nat.reduceBEq, Nat.reduceLT, Int.reduceToNat, reduceCtorEq]; first | done | exact rfl | (and_intros <;> rfl)) | exact rfl | decide)); (focus (first | (simp only [go_sem, Nat.reduceEqDiff, Nat.reduceAdd, Nat.reduceSub, Nat.reduceLeDiff, Nat.reduceMul, Nat.reduceBEq, Nat.reduceLT, Int.reduceToNat, reduceCtorEq]; first | done | exact rfl | (and_intros <;> rfl)) | exact rfl | decide)))
  · intro hnil
    have hnil2 : l = [] := List.map_eq_nil_iff.1 hnil
    subst hnil2
    refine n_nil ?_
    dsimp only
    refine wRUN trivial ?_
    (apply (ret_of [] []); (focus (simp only [Tryz.results134, go_sem, Nat.reduceBEq, Nat.reduceLT, List.map_nil]; exact rfl)); (focus (simp only [go_sem, Nat.reduceEqDiff, Nat.reduceAdd, Nat.reduceSub, Nat.reduceLeDiff, Nat.reduceMul, Nat.reduceBEq, Nat.reduceLT, Int.reduceToNat, reduceCtorEq, List.map_nil]; try (and_intros <;> rfl))); (focus exact rfl); (focus (simp only [go_sem, Nat.reduceEqDiff, Nat.reduceAdd, Nat.reduceSub, Nat.reduceLeDiff, Nat.reduceMul, Nat.reduceBEq, Nat.reduceLT, Int.reduceToNat, reduceCtorEq, List.map_nil]; try (and_intros <;> rfl))); (focus exact rfl); (iterate 4 (focus (simp [go_sem, List.map_nil]; done))))
  · refine n_nil ?_
    dsimp only
    refine wRUN (j3 hl ha hl0) ?_
    exact wRetOf (ret_of [((0, 0), (7, 0))] []) Tryz.results134 hl
set_option maxHeartbeats 1000000 in
theorem indexStr_ac (l : List ByteArray) (key : ByteArray) (hl : l.length ≤ 1000000) : AC Tryz.prog 198 [.c (.sl (l.map strCs)), .c (.str key)] [] (.c (.int .i64 (match findKey l key with | some i => (i : Int) | none => -1))) [] := by
  refine wEnter Tryz.func198 Tryz.ntmps198 ?_
  refine wRUN trivial ?_
  refine a_loop (κ := Nat) (fun k => ⟨mkS 0 19 [(0, .c (.sl (l.map strCs))), (1, .c (.str key)), (7, .c (.int .i64 l.length)), (8, .c (.int .i64 k))], []⟩)
    (fun k => k ≤ l.length ∧ ∀ j (h : j < l.length), j < k → (key.toList == l[j].toList) = false) (fun k => l.length - k) 0 ⟨Nat.zero_le _, by intro j h hj; omega⟩ ?_ ?_
  · exact wSays (Says.of [] []) hl
  · rintro k ⟨hk, hno⟩
    by_cases hlt : k < l.length
    · have hdk : decide ((k : Int) < (l.length : Int)) = true := by simpa using hlt
      have hw := wrap_succ (k := k) (by omega)
      have hr : rowsAt (l.map strCs) 1 k = true := by simp [rowsAt, hlt, strCs]
      have hg : (l.map strCs)[k]? = some [.str l[k]] := by simp [hlt, strCs]
      cases hb : key.toList == l[k].toList with
      | true =>
        have hf : findKey l key = some k := by
          unfold findKey
          refine List.findIdx?_eq_some_iff_getElem.2 ⟨hlt, by rw [beq_iff_eq] at hb ⊢; exact hb.symm, fun j hj => ?_⟩
          have := hno j (by omega) hj
          rw [beq_eq_false_iff_ne] at this
          simp only [Bool.not_eq_true, beq_eq_false_iff_ne, ne_eq]
          exact fun e => this e.symm
        rw [hf]
        refine wRUN (j4 hdk hr hg hb) ?_
        exact wRet (ret_data []) Tryz.results198
      | false =>
        refine wRUN (j5 hdk hr hg hb hw) ?_
        refine ⟨k + 1, by omega, ⟨by omega, fun j hj hjk => ?_⟩, ?_⟩
        · by_cases hjk' : j = k
          · subst hjk'; exact hb
          · exact hno j hj (by omega)
        · exact wSays (Says.of [] []) hw
    · have hdk : decide ((k : Int) < (l.length : Int)) = false := by simpa using hlt
      have hf : findKey l key = none := by
        unfold findKey
        rw [List.findIdx?_eq_none_iff]
        intro x hx
        obtain ⟨i, hi, rfl⟩ := List.getElem_of_mem hx
        have := hno i hi (by omega)
        rw [beq_eq_false_iff_ne] at this ⊢
        exact fun e => this e.symm
      rw [hf]
      refine wRUN hdk ?_
      exact wRet (ret_data []) Tryz.results198
theorem containsStr_ac (l : List ByteArray) (key : ByteArray) (hl : l.length ≤ 1000000) : AC Tryz.prog 136 [.c (.sl (l.map strCs)), .c (.str key)] [] (.c (.bool (findKey l key).isSome)) [] := by
  have hi := indexStr_ac l key hl
  cases h : findKey l key with
  | none =>
    rw [h] at hi
    have hd : decide ((-1 : Int) ≥ 0) = false := by decide
    refine wEnter Tryz.func136 Tryz.ntmps136 ?_
    refine wRUN trivial ?_
    refine w7 (op_data [] hi) trivial ?_
    refine wRUN hd ?_
    exact ret_data [] (by simp only [Tryz.results136, go_sem, Nat.reduceBEq, Nat.reduceLT]; exact rfl) (by simp only [go_sem, Nat.reduceEqDiff, Nat.reduceAdd, Nat.reduceSub, Nat.reduceLeDiff, Nat.reduceMul, Nat.reduceBEq, Nat.reduceLT, Int.reduceToNat, reduceCtorEq, hd, Option.isSome]) rfl
  | some i =>
    rw [h] at hi
    have hd : decide ((i : Int) ≥ 0) = true := by simp
    refine wEnter Tryz.func136 Tryz.ntmps136 ?_
    refine wRUN trivial ?_
    refine w7 (op_data [] hi) trivial ?_
    refine wRUN hd ?_
    exact ret_data [] (by simp only [Tryz.results136, go_sem, Nat.reduceBEq, Nat.reduceLT]; exact rfl) (by simp only [go_sem, Nat.reduceEqDiff, Nat.reduceAdd, Nat.reduceSub, Nat.reduceLeDiff, Nat.reduceMul, Nat.reduceBEq, Nat.reduceLT, Int.reduceToNat, reduceCtorEq, hd, Option.isSome]) rfl
end Go.Proofs.YtpaooephkpjkfaaGreat

/- impl.getKey, getIndex, getAt, getPath, by the engine. -/
namespace Go.Proofs.YtpaooephkpjkfaaGreat
open Go.RowKit
set_option maxRecDepth 10000
theorem right_head {t : V} (h : t.right) : (⟨t.kind, t.num, t.text, ByteArray.empty, t.kids.length⟩ : CellD).code = 0 := by
  refine cells_codes t ByteArray.empty h.1 okText_empty _ ?_
  rw [cells_head]
  simp
theorem right_num {t : V} (h : t.right) : -1000000000000000 ≤ t.num ∧ t.num ≤ 1000000000000000 := by
  have hc := right_head h
  unfold CellD.code cellCode at hc
  have hr : cR t.num (t.kids.length : Int) = false := by
    cases hh : cR t.num (t.kids.length : Int)
    · rfl
    · simp only [hh] at hc
      split at hc
      · omega
      · split at hc
        · omega
        · simp at hc
  simp [cR, inB] at hr
  omega
theorem right_text {t : V} (h : t.right) : okText t.text = true := (code_text (right_head h)).1
theorem resA_some (c : Int) (t : V) : resA (c, some t) = outA 0 t := rfl
theorem resA_none (c : Int) : resA (c, none) = outA c nullV := rfl
end Go.Proofs.YtpaooephkpjkfaaGreat
