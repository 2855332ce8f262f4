/- Texts of this proof: G53 G54. -/
import Derived.Test.YtioaieacogoemaaGreatKM3
import Derived.Test.YtioaieacogoemaaGreatKG49uG52
import Derived.Test.YtioaieacogoemaaGreatKG07uG08
set_option linter.unusedSimpArgs false
set_option linter.unusedVariables false
set_option linter.unnecessarySimpa false
namespace Go.Proofs.YtioaieacogoemaaGreat
open Go.RowKit
set_option maxRecDepth 10000
set_option maxHeartbeats 1000000 in
theorem l14Place_ac (l : List ByteArray) (key : ByteArray) (hl : l.length ≤ 1000000) : AC Tryz.prog 141 [.c (.sl (l.map strCs)), .c (.str key)] [] (.c (.int .i64 (match findKey l key with | some i => (i : Int) | none => -1))) [] := by
  have hlm : (l.map strCs).length = l.length := by simp
  refine wEnter Tryz.func141 Tryz.ntmps141 ?_
  refine wRUN trivial ?_
  refine a_loop (κ := Nat) (fun k => ⟨mkS 0 19 [(0, .c (.sl (l.map strCs))), (1, .c (.str key)), (5, .c (.int .i64 k))], []⟩)
    (fun k => k ≤ l.length ∧ ∀ j (h : j < l.length), j < k → (l[j].toList == key.toList) = false) (fun k => l.length - k) 0 ⟨Nat.zero_le _, by intro j h hj; omega⟩ ?_ ?_
  · exact wSays (Says.of [] []) hl
  · rintro k ⟨hk, hno⟩
    by_cases hlt : k < l.length
    · have hdk : decide ((k : Int) < (l.length : Int)) = true := by simpa using hlt
      have hw := wrap_succ (k := k) (by omega)
      have hr : rowsAt (l.map strCs) 1 k = true := by simp [rowsAt, hlt, strCs]
      have hg : (l.map strCs)[k]? = some [.str l[k]] := by simp [hlt, strCs]
      cases hb : l[k].toList == key.toList with
      | true =>
        have hf : findKey l key = some k := by
          unfold findKey
          exact List.findIdx?_eq_some_iff_getElem.2 ⟨hlt, hb, fun j hj => by simpa using hno j (by omega) hj⟩
        rw [hf]
        refine wRUN (j5 hlm hdk hr hg hb) ?_
        exact wRet (ret_data []) Tryz.results141
      | false =>
        refine wRUN (j6 hlm hdk hr hg hb hw) ?_
        refine ⟨k + 1, by omega, ⟨by omega, fun j hj hjk => ?_⟩, ?_⟩
        · by_cases hjk' : j = k
          · subst hjk'; exact hb
          · exact hno j hj (by omega)
        · exact wSays (Says.of [] []) hw
    · have hdk : decide ((k : Int) < (l.length : Int)) = false := by simpa using hlt
      have hf : findKey l key = none := by
        unfold findKey
        rw [List.findIdx?_eq_none_iff]
        intro x hx
        obtain ⟨i, hi, rfl⟩ := List.getElem_of_mem hx
        exact hno i hi (by omega)
      rw [hf]
      refine wRUN (j2 hlm hdk) ?_
      exact wRet (ret_data []) Tryz.results141
set_option maxHeartbeats 4000000 in
theorem l14Keys_ac (a b : List ByteArray) (hla : a.length ≤ 400000) (hlb : b.length ≤ 400000) : AC Tryz.prog 138 [.c (.sl (a.map strCs)), .c (.sl (b.map strCs))] [] (.own (0, 0)) [((0, 0), .row false 1 9 ((mergeU a b).map strCs))] := by
  have hlma : (a.map strCs).length = a.length := by simp
  have hlmb : (b.map strCs).length = b.length := by simp
  obtain ⟨R, hR⟩ : ∃ R, R = mergeU a b := ⟨_, rfl⟩
  rw [← hR]
  refine wEnter Tryz.func138 Tryz.ntmps138 ?_
  refine wRUN trivial ?_
  refine a_loop (κ := Nat × Nat × List ByteArray) (fun x => ⟨mkS 0 76 [(0, .c (.sl (a.map strCs))), (1, .c (.sl (b.map strCs))), (5, .own (95, 0)), (6, .c (.int .i64 x.1)), (7, .c (.int .i64 x.2.1))], [((95, 0), .row false 1 9 (x.2.2.map strCs))]⟩)
    (fun x => x.1 ≤ a.length ∧ x.2.1 ≤ b.length ∧ x.2.2.length ≤ x.1 + x.2.1 ∧ x.2.2 ++ mergeU (a.drop x.1) (b.drop x.2.1) = R) (fun x => (a.length - x.1) + (b.length - x.2.1)) (0, 0, []) ⟨Nat.zero_le _, Nat.zero_le _, Nat.zero_le _, by rw [hR]; rfl⟩ ?_ ?_
  · (apply (Says.of [((95, 0), (8, 0))] []); (iterate 2 ((focus (simp only [go_sem, Nat.reduceEqDiff, Nat.reduceAdd, Nat.reduceSub, Nat.reduceLeDiff, Nat.reduceMul, Nat.reduceBEq, Nat.reduceLT, Int.reduceToNat, reduceCtorEq, List.map_nil]; try (and_intros <;> rfl))); (focus exact rfl))); (iterate 4 (focus (simp [go_sem, List.map_nil]; done))))
  · rintro ⟨i, k, l⟩ ⟨hi, hk, hll, hlR⟩
    dsimp only at hi hk hll hlR ⊢
    have hol : l.length + 1 ≤ 1000000 := by omega
    have hrow : ∀ s, ∃ l', l' = l ++ [s] ∧ l.map strCs ++ [[C.str s]] = l'.map strCs := fun s => ⟨_, rfl, by rw [List.map_append]; rfl⟩
    by_cases h1 : i < a.length
    · have hd1 : decide ((i : Int) < (a.length : Int)) = true := by simpa using h1
      have hw1 := wrap_succ (k := i) (by omega)
      have hr1 : rowsAt (a.map strCs) 1 i = true := by simp [rowsAt, h1, strCs]
      have hg1 : (a.map strCs)[i]? = some [.str a[i]] := by simp [h1, strCs]
      rw [List.drop_eq_getElem_cons h1] at hlR
      obtain ⟨l1, hl1, hs1⟩ := hrow a[i]
      by_cases h2 : k < b.length
      · have hd2 : decide ((k : Int) ≥ (b.length : Int)) = false := by simp; omega
        have hw2 := wrap_succ (k := k) (by omega)
        have hr2 : rowsAt (b.map strCs) 1 k = true := by simp [rowsAt, h2, strCs]
        have hg2 : (b.map strCs)[k]? = some [.str b[k]] := by simp [h2, strCs]
        rw [List.drop_eq_getElem_cons h2] at hlR
        obtain ⟨l2, hl2, hs2⟩ := hrow b[k]
        unfold mergeU at hlR
        cases hb : lessB a[i] b[k] with
        | true =>
          rw [hb, if_pos rfl, ← List.drop_eq_getElem_cons h2] at hlR
          unfold lessB at hb
          generalize a[i] = s at *
          generalize b[k] = u at *
          refine wRUN (j11 hlma hlmb hd1 hd2 hr1 hr2 hg1 hg2 hb hol hw1) ?_
          refine ⟨(i + 1, k, l1), by dsimp only; omega, ⟨by dsimp only; omega, hk, by dsimp only; rw [hl1, List.length_append, List.length_singleton]; omega, by dsimp only; rw [hl1, List.append_assoc]; exact hlR⟩, ?_⟩
          exact wSays (Says.of [((95, 0), (46, 0))] []) hs1
        | false =>
          rw [hb, if_neg Bool.false_ne_true] at hlR
          unfold lessB at hb
          cases he : a[i].toList == b[k].toList with
          | true =>
            rw [he, if_pos rfl] at hlR
            generalize a[i] = s at *
            generalize b[k] = u at *
            (repeat (first | (with_reducible first | refine a_seq ?_ | refine a_region ?_ | refine a_block ?_ | refine a_scope ?_) | ((with_reducible apply op_any); (iterate 2 (focus (first | (simp only [go_sem, Nat.reduceEqDiff, Nat.reduceAdd, Nat.reduceSub, Nat.reduceLeDiff, Nat.reduceMul, Nat.reduceBEq, Nat.reduceLT, Int.reduceToNat, reduceCtorEq, hlma, hlmb, hd1, hd2, hr1, hr2, hg1, hg2, hb, he, hol, hw1, hw2]; first | done | exact rfl | (and_intros <;> rfl)) | exact rfl | decide)))) | ((with_reducible refine o_nil ?_); dsimp only; try ((with_reducible apply o_draw); (focus (simp only [go_sem]; exact rfl)); (focus decide))) | ((with_reducible first | refine a_ret ?_ | refine a_skip ?_ | refine a_label ?_); dsimp only) | ((with_reducible refine a_exit ?_); dsimp only; simp only [if_true, if_false, Nat.reduceEqDiff]) | ((with_reducible apply a_if); (focus (simp only [go_sem, Nat.reduceBEq, Nat.reduceLT, hlma, hlmb, hd1, hd2, hr1, hr2, hg1, hg2, hb, he, hol, hw1, hw2]; exact rfl)); dsimp only [cond_true, cond_false]) | ((with_reducible refine a_draw ?_ ?_); (focus exact rfl))))
            refine ⟨(i + 1, k + 1, l2), by dsimp only; omega, ⟨by dsimp only; omega, by dsimp only; omega, by dsimp only; rw [hl2, List.length_append, List.length_singleton]; omega, by dsimp only; rw [hl2, List.append_assoc]; exact hlR⟩, ?_⟩
            exact wSays (Says.of [((95, 0), (72, 0))] []) hs2
          | false =>
            rw [he, if_neg Bool.false_ne_true, ← List.drop_eq_getElem_cons h1] at hlR
            generalize a[i] = s at *
            generalize b[k] = u at *
            (repeat (first | (with_reducible first | refine a_seq ?_ | refine a_region ?_ | refine a_block ?_ | refine a_scope ?_) | ((with_reducible apply op_any); (iterate 2 (focus (first | (simp only [go_sem, Nat.reduceEqDiff, Nat.reduceAdd, Nat.reduceSub, Nat.reduceLeDiff, Nat.reduceMul, Nat.reduceBEq, Nat.reduceLT, Int.reduceToNat, reduceCtorEq, hlma, hlmb, hd1, hd2, hr1, hr2, hg1, hg2, hb, he, hol, hw1, hw2]; first | done | exact rfl | (and_intros <;> rfl)) | exact rfl | decide)))) | ((with_reducible refine o_nil ?_); dsimp only; try ((with_reducible apply o_draw); (focus (simp only [go_sem]; exact rfl)); (focus decide))) | ((with_reducible first | refine a_ret ?_ | refine a_skip ?_ | refine a_label ?_); dsimp only) | ((with_reducible refine a_exit ?_); dsimp only; simp only [if_true, if_false, Nat.reduceEqDiff]) | ((with_reducible apply a_if); (focus (simp only [go_sem, Nat.reduceBEq, Nat.reduceLT, hlma, hlmb, hd1, hd2, hr1, hr2, hg1, hg2, hb, he, hol, hw1, hw2]; exact rfl)); dsimp only [cond_true, cond_false]) | ((with_reducible refine a_draw ?_ ?_); (focus exact rfl))))
            refine ⟨(i, k + 1, l2), by dsimp only; omega, ⟨by dsimp only; omega, by dsimp only; omega, by dsimp only; rw [hl2, List.length_append, List.length_singleton]; omega, by dsimp only; rw [hl2, List.append_assoc]; exact hlR⟩, ?_⟩
            exact wSays (Says.of [((95, 0), (72, 0))] []) hs2
      · have hd2 : decide ((k : Int) ≥ (b.length : Int)) = true := by simp; omega
        have hdb : b.drop k = [] := List.drop_eq_nil_of_le (by omega)
        rw [hdb, mergeU_nil] at hlR
        generalize a[i] = s at *
        refine wRUN (j8 hlma hlmb hd1 hd2 hr1 hg1 hol hw1) ?_
        refine ⟨(i + 1, k, l1), by dsimp only; omega, ⟨by dsimp only; omega, hk, by dsimp only; rw [hl1, List.length_append, List.length_singleton]; omega, by dsimp only; rw [hl1, List.append_assoc, hdb, mergeU_nil]; exact hlR⟩, ?_⟩
        exact wSays (Says.of [((95, 0), (46, 0))] []) hs1
    · have hd1 : decide ((i : Int) < (a.length : Int)) = false := by simpa using h1
      have hda : a.drop i = [] := List.drop_eq_nil_of_le (by omega)
      rw [hda, mergeU_left] at hlR
      by_cases h2 : k < b.length
      · have hd2 : decide ((k : Int) ≥ (b.length : Int)) = false := by simp; omega
        have hd3 : decide ((k : Int) < (b.length : Int)) = true := by simpa using h2
        have hw2 := wrap_succ (k := k) (by omega)
        have hr2 : rowsAt (b.map strCs) 1 k = true := by simp [rowsAt, h2, strCs]
        have hg2 : (b.map strCs)[k]? = some [.str b[k]] := by simp [h2, strCs]
        rw [List.drop_eq_getElem_cons h2] at hlR
        obtain ⟨l2, hl2, hs2⟩ := hrow b[k]
        generalize b[k] = u at *
        refine wRUN (j9 hlma hlmb hd1 hd2 hd3 hr2 hg2 hol hw2) ?_
        refine ⟨(i, k + 1, l2), by dsimp only; omega, ⟨by dsimp only; omega, by dsimp only; omega, by dsimp only; rw [hl2, List.length_append, List.length_singleton]; omega, by dsimp only; rw [hl2, List.append_assoc, hda, mergeU_left]; exact hlR⟩, ?_⟩
        exact wSays (Says.of [((95, 0), (72, 0))] []) hs2
      · have hd3 : decide ((k : Int) < (b.length : Int)) = false := by simpa using h2
        have hdb : b.drop k = [] := List.drop_eq_nil_of_le (by omega)
        rw [hdb, List.append_nil] at hlR
        refine wRUN (j4 hlma hlmb hd1 hd3) ?_
        exact wRetOf (ret_of [((0, 0), (95, 0))] []) Tryz.results138 hlR
end Go.Proofs.YtioaieacogoemaaGreat


