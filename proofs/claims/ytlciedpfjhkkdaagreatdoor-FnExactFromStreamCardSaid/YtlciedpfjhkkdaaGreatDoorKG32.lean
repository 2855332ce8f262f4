/- impl.size of parts, impl.eventsOf, by the engine. -/
import Derived.Test.YtlciedpfjhkkdaaGreatDoorKG31uE35
import Derived.Test.YtlciedpfjhkkdaaGreatDoorKG04uG08
set_option linter.unusedSimpArgs false
set_option linter.unusedVariables false
set_option linter.unnecessarySimpa false
set_option maxHeartbeats 8000000
namespace Go.Proofs.YtlciedpfjhkkdaaGreatDoor
open Go.RowKit
set_option maxRecDepth 10000
abbrev listA (l : List (List CellD)) : AV := .c (.sl (l.map encCs))
theorem sizeParts_ac (l : List (List CellD)) : AC Tryz.prog 102 [listA l] [] (.c (.int .i64 l.length)) [] := by
 have hn : (l.map encCs).length = l.length := by simp
 refine wEnter Tryz.func102 Tryz.ntmps102 ?_
 refine wRUN trivial ?_
 exact wRet (ret_data []) Tryz.results102
def evsOf (l : List (List CellD)) : List Ev := l.filterMap fun x => (evDec x).2
theorem evsOf_take {l : List (List CellD)} {k : Nat} (h : k < l.length) {e : Ev} (he : evDec l[k] = (0, some e)) : evsOf (l.take (k + 1)) = evsOf (l.take k) ++ [e] := by
 unfold evsOf
 rw [List.take_succ_eq_append_getElem h, List.filterMap_append]
 simp [he]
theorem evsOf_len (l : List (List CellD)) : (evsOf l).length ≤ l.length := List.length_filterMap_le _ _
def orefC : Option V → C
 | none => .raw (.pointer none)
 | some t => .oref t.cs
def evX (e : Ev) : List C := [.sl (e.1.map V.cs), orefC e.2]
theorem orefC_forget (o : Option V) : (orefC o).forget = leafC o := by
 cases o with
 | none => rfl
 | some t => simp only [orefC, leafC, C.forget, fl_tree]
theorem forget_evX (l : List Ev) : forgetLL (l.map evX) = l.map evCs := by
 induction l with
 | nil => rfl
 | cons e l ih => simp only [List.map_cons, forgetLL, ih, evX, evCs, forgetL, C.forget, orefC_forget]
theorem all_evX (l : List Ev) : ((l.map evX).all fun r => r.length == 2) = true := by simp [evX]
attribute [go_sem] forget_evX all_evX
theorem evsFault_many {l : List (List CellD)} (h : l.length < 1 ∨ 200 < l.length) : evsFault l = (2, 0) := by unfold evsFault; rw [if_pos h]
theorem evsFault_go {l : List (List CellD)} (h : ¬ (l.length < 1 ∨ 200 < l.length)) : evsFault l = evsGo 0 l := by unfold evsFault; rw [if_neg h]
theorem eventsOf_bad (l : List (List CellD)) (hz : ∀ x ∈ l, Sized x) (h : (evsFault l).1 ≠ 0) : AC Tryz.prog 50 [listA l] [] (.tup [.nils, .c (.int .i64 (evsFault l).1), .c (.int .i64 (evsFault l).2)]) [] := by
 have hs := sizeParts_ac l
 have hw := within_ac (l.length : Int) 1 200
 by_cases hm : l.length < 1 ∨ 200 < l.length
 ·have hin : (decide ((l.length : Int) ≥ 1) && decide ((l.length : Int) ≤ 200)) = false := by simp; omega
  rw [hin] at hw
  rw [evsFault_many hm]
  refine wEnter Tryz.func50 Tryz.ntmps50 ?_
  refine wRUN trivial ?_
  refine w7 (op_data [] hs) trivial ?_
  refine wRUN trivial ?_
  refine w7 (op_data [] hw) trivial ?_
  refine wRUN trivial ?_
  exact wRet (ret_data []) Tryz.results50
 ·have hin : (decide ((l.length : Int) ≥ 1) && decide ((l.length : Int) ≤ 200)) = true := by simp; omega
  rw [hin] at hw
  have hg0 := evsFault_go hm
  generalize evsFault l = r at *
  refine wEnter Tryz.func50 Tryz.ntmps50 ?_
  refine wRUN trivial ?_
  refine w7 (op_data [] hs) trivial ?_
  refine wRUN trivial ?_
  refine w7 (op_data [] hw) trivial ?_
  refine wRUN trivial ?_
  refine a_loop (κ := Nat) (fun k => ⟨mkS 0 37 [(5, .own (99, 0)), (15, listA l), (16, .c (.int .i64 l.length)), (17, .c (.int .i64 k))],
    [((99, 0), .row true 2 81 ((evsOf (l.take k)).map evX))]⟩)
   (fun k => k ≤ l.length ∧ r = evsGo k (l.drop k)) (fun k => l.length - k) 0 ⟨Nat.zero_le _, hg0⟩ ?_ ?_
  ·(apply (Says.of [((99, 0), (14, 0))] []); (iterate 2 ((focus (simp only [go_sem, Nat.reduceEqDiff, Nat.reduceAdd, Nat.reduceSub, Nat.reduceLeDiff, Nat.reduceMul, Nat.reduceBEq, Nat.reduceLT, Int.reduceToNat, reduceCtorEq, evsOf]; try (and_intros <;> rfl))); (focus exact rfl))); (iterate 4 (focus (simp [go_sem, evsOf]; done))))
  ·rintro k ⟨hk, hr⟩
   by_cases hlt : k < l.length
   ·have hd : decide ((k : Int) < (l.length : Int)) = true := by simpa using hlt
    have hrw : rowsAt (l.map encCs) 1 k = true := by simp [rowsAt, hlt, encCs]
    have hg : (l.map encCs)[k]? = some [.sl (l[k].map CellD.cs)] := by simp [hlt, encCs]
    have hzk := hz _ (List.getElem_mem hlt)
    have hwk := wrap_succ (k := k) (by omega)
    have h00 : ((0 : Int) != 0) = false := rfl
    have hol : (evsOf (l.take k)).length + 1 ≤ 1000000 := by have := evsOf_len (l.take k); rw [List.length_take] at this; omega
    rw [evsGo_drop l hlt] at hr
    by_cases he0 : (evDec l[k]).1 = 0
    ·rw [if_pos he0] at hr
     obtain ⟨⟨p, o⟩, he⟩ := ev_ok he0
     have hnx := evsOf_take hlt he
     cases o with
     | none =>
      have hcon := eventOf_end l[k] hzk he
      have hlen : 1 + 1 = 2 := rfl
      have hrow : (evsOf (l.take k)).map evX ++ [[.sl (p.map V.cs), .raw (.pointer none)]] = (evsOf (l.take (k + 1))).map evX := by rw [hnx, List.map_append]; rfl
      simp only [leafC] at hcon
      generalize l[k] = x at *
      refine wRUN (j3 hd hrw hg) ?_
      refine w9 (op_shared [] hcon) trivial ?_
      refine wRUN (j3 h00 hol hwk) ?_
      refine ⟨k + 1, by omega, ⟨by omega, hr⟩, ?_⟩
      exact wSays (Says.of [((99, 0), (34, 0))] []) hrow
     | some u =>
      have hcon := eventOf_leaf l[k] hzk he
      have hrow : (evsOf (l.take k)).map evX ++ [[.sl (p.map V.cs), .oref u.cs]] = (evsOf (l.take (k + 1))).map evX := by rw [hnx, List.map_append]; rfl
      rw [V.cs_eq] at hcon hrow
      simp only [List.map_cons, List.map_nil] at hcon
      generalize l[k] = x at *
      refine wRUN (j3 hd hrw hg) ?_
      refine wCall (op_any_call [] [((0, 0), (98, 0))] hcon) trivial ?_
      (repeat (first | (with_reducible first | refine a_seq ?_ | refine a_region ?_ | refine a_block ?_ | refine a_scope ?_) | ((with_reducible apply op_any); (iterate 2 (focus (first | (simp only [go_sem, Nat.reduceEqDiff, Nat.reduceAdd, Nat.reduceSub, Nat.reduceLeDiff, Nat.reduceMul, Nat.reduceBEq, Nat.reduceLT, Int.reduceToNat, reduceCtorEq, h00, hol, hwk, plainCs]; first | done | exact rfl | (and_intros <;> rfl)) | exact rfl | decide)))) | ((with_reducible refine o_nil ?_); dsimp only; try ((with_reducible apply o_draw); (focus (simp only [go_sem]; exact rfl)); (focus decide))) | ((with_reducible first | refine a_ret ?_ | refine a_skip ?_ | refine a_label ?_); dsimp only) | ((with_reducible refine a_exit ?_); dsimp only; simp only [if_true, if_false, Nat.reduceEqDiff]) | ((with_reducible apply a_if); (focus (simp only [go_sem, Nat.reduceBEq, Nat.reduceLT, h00, hol, hwk, plainCs]; exact rfl)); dsimp only [cond_true, cond_false]) | ((with_reducible refine a_draw ?_ ?_); (focus exact rfl))))
      refine ⟨k + 1, by omega, ⟨by omega, hr⟩, ?_⟩
      exact wSays (Says.of [((99, 0), (34, 0))] []) hrow
    ·rw [if_neg he0] at hr
     have hcon := eventOf_bad l[k] hzk he0
     have hb : ((evDec l[k]).1 != 0) = true := by simpa using he0
     rw [hr]
     generalize (evDec l[k]).1 = c at *
     generalize l[k] = x at *
     refine wRUN (j3 hd hrw hg) ?_
     (apply (op_data [] hcon); (iterate 7 (focus (first | (simp only [go_sem, Nat.reduceEqDiff, Nat.reduceAdd, Nat.reduceSub, Nat.reduceLeDiff, Nat.reduceMul, Nat.reduceBEq, Nat.reduceLT, Int.reduceToNat, reduceCtorEq, noE]; first | done | exact rfl | (and_intros <;> rfl)) | exact rfl | decide))))
     (repeat (first | (with_reducible first | refine a_seq ?_ | refine a_region ?_ | refine a_block ?_ | refine a_scope ?_) | ((with_reducible apply op_any); (iterate 2 (focus (first | (simp only [go_sem, Nat.reduceEqDiff, Nat.reduceAdd, Nat.reduceSub, Nat.reduceLeDiff, Nat.reduceMul, Nat.reduceBEq, Nat.reduceLT, Int.reduceToNat, reduceCtorEq, hb, noE]; first | done | exact rfl | (and_intros <;> rfl)) | exact rfl | decide)))) | ((with_reducible refine o_nil ?_); dsimp only; try ((with_reducible apply o_draw); (focus (simp only [go_sem]; exact rfl)); (focus decide))) | ((with_reducible first | refine a_ret ?_ | refine a_skip ?_ | refine a_label ?_); dsimp only) | ((with_reducible refine a_exit ?_); dsimp only; simp only [if_true, if_false, Nat.reduceEqDiff]) | ((with_reducible apply a_if); (focus (simp only [go_sem, Nat.reduceBEq, Nat.reduceLT, hb, noE]; exact rfl)); dsimp only [cond_true, cond_false]) | ((with_reducible refine a_draw ?_ ?_); (focus exact rfl))))
     exact wRet (ret_data []) Tryz.results50
   ·exfalso
    rw [List.drop_eq_nil_of_le (by omega)] at hr
    rw [hr] at h
    exact h rfl
theorem eventsOf_ac (l : List (List CellD)) (hz : ∀ x ∈ l, Sized x) (h : (evsFault l).1 = 0) : AC Tryz.prog 50 [listA l] [] (.tup [.c (.sl ((evsOf l).map evCs)), .c (.int .i64 0), .c (.int .i64 0)]) [] := by
 have hs := sizeParts_ac l
 have hw := within_ac (l.length : Int) 1 200
 by_cases hm : l.length < 1 ∨ 200 < l.length
 ·exfalso
  rw [evsFault_many hm] at h
  exact absurd h (by decide)
 ·have hin : (decide ((l.length : Int) ≥ 1) && decide ((l.length : Int) ≤ 200)) = true := by simp; omega
  rw [hin] at hw
  have hg0 := evsFault_go hm
  generalize evsFault l = r at *
  refine wEnter Tryz.func50 Tryz.ntmps50 ?_
  refine wRUN trivial ?_
  refine w7 (op_data [] hs) trivial ?_
  refine wRUN trivial ?_
  refine w7 (op_data [] hw) trivial ?_
  refine wRUN trivial ?_
  refine a_loop (κ := Nat) (fun k => ⟨mkS 0 37 [(5, .own (99, 0)), (15, listA l), (16, .c (.int .i64 l.length)), (17, .c (.int .i64 k))],
    [((99, 0), .row true 2 81 ((evsOf (l.take k)).map evX))]⟩)
   (fun k => k ≤ l.length ∧ r = evsGo k (l.drop k)) (fun k => l.length - k) 0 ⟨Nat.zero_le _, hg0⟩ ?_ ?_
  ·(apply (Says.of [((99, 0), (14, 0))] []); (iterate 2 ((focus (simp only [go_sem, Nat.reduceEqDiff, Nat.reduceAdd, Nat.reduceSub, Nat.reduceLeDiff, Nat.reduceMul, Nat.reduceBEq, Nat.reduceLT, Int.reduceToNat, reduceCtorEq, evsOf]; try (and_intros <;> rfl))); (focus exact rfl))); (iterate 4 (focus (simp [go_sem, evsOf]; done))))
  ·rintro k ⟨hk, hr⟩
   by_cases hlt : k < l.length
   ·have hd : decide ((k : Int) < (l.length : Int)) = true := by simpa using hlt
    have hrw : rowsAt (l.map encCs) 1 k = true := by simp [rowsAt, hlt, encCs]
    have hg : (l.map encCs)[k]? = some [.sl (l[k].map CellD.cs)] := by simp [hlt, encCs]
    have hzk := hz _ (List.getElem_mem hlt)
    have hwk := wrap_succ (k := k) (by omega)
    have h00 : ((0 : Int) != 0) = false := rfl
    have hol : (evsOf (l.take k)).length + 1 ≤ 1000000 := by have := evsOf_len (l.take k); rw [List.length_take] at this; omega
    rw [evsGo_drop l hlt] at hr
    by_cases he0 : (evDec l[k]).1 = 0
    ·rw [if_pos he0] at hr
     obtain ⟨⟨p, o⟩, he⟩ := ev_ok he0
     have hnx := evsOf_take hlt he
     cases o with
     | none =>
      have hcon := eventOf_end l[k] hzk he
      have hlen : 1 + 1 = 2 := rfl
      have hrow : (evsOf (l.take k)).map evX ++ [[.sl (p.map V.cs), .raw (.pointer none)]] = (evsOf (l.take (k + 1))).map evX := by rw [hnx, List.map_append]; rfl
      simp only [leafC] at hcon
      generalize l[k] = x at *
      refine wRUN (j3 hd hrw hg) ?_
      refine w9 (op_shared [] hcon) trivial ?_
      refine wRUN (j3 h00 hol hwk) ?_
      refine ⟨k + 1, by omega, ⟨by omega, hr⟩, ?_⟩
      exact wSays (Says.of [((99, 0), (34, 0))] []) hrow
     | some u =>
      have hcon := eventOf_leaf l[k] hzk he
      have hrow : (evsOf (l.take k)).map evX ++ [[.sl (p.map V.cs), .oref u.cs]] = (evsOf (l.take (k + 1))).map evX := by rw [hnx, List.map_append]; rfl
      rw [V.cs_eq] at hcon hrow
      simp only [List.map_cons, List.map_nil] at hcon
      generalize l[k] = x at *
      refine wRUN (j3 hd hrw hg) ?_
      refine wCall (op_any_call [] [((0, 0), (98, 0))] hcon) trivial ?_
      (repeat (first | (with_reducible first | refine a_seq ?_ | refine a_region ?_ | refine a_block ?_ | refine a_scope ?_) | ((with_reducible apply op_any); (iterate 2 (focus (first | (simp only [go_sem, Nat.reduceEqDiff, Nat.reduceAdd, Nat.reduceSub, Nat.reduceLeDiff, Nat.reduceMul, Nat.reduceBEq, Nat.reduceLT, Int.reduceToNat, reduceCtorEq, h00, hol, hwk, plainCs]; first | done | exact rfl | (and_intros <;> rfl)) | exact rfl | decide)))) | ((with_reducible refine o_nil ?_); dsimp only; try ((with_reducible apply o_draw); (focus (simp only [go_sem]; exact rfl)); (focus decide))) | ((with_reducible first | refine a_ret ?_ | refine a_skip ?_ | refine a_label ?_); dsimp only) | ((with_reducible refine a_exit ?_); dsimp only; simp only [if_true, if_false, Nat.reduceEqDiff]) | ((with_reducible apply a_if); (focus (simp only [go_sem, Nat.reduceBEq, Nat.reduceLT, h00, hol, hwk, plainCs]; exact rfl)); dsimp only [cond_true, cond_false]) | ((with_reducible refine a_draw ?_ ?_); (focus exact rfl))))
      refine ⟨k + 1, by omega, ⟨by omega, hr⟩, ?_⟩
      exact wSays (Says.of [((99, 0), (34, 0))] []) hrow
    ·rw [if_neg he0] at hr
     exfalso
     rw [hr] at h
     exact he0 h
   ·have hd : decide ((k : Int) < (l.length : Int)) = false := by simpa using hlt
    have hke : l.take k = l := List.take_of_length_le (by omega)
    refine wRUN hd ?_
    exact wRetOf (ret_of [] [(99, 0)]) Tryz.results50 hke
end Go.Proofs.YtlciedpfjhkkdaaGreatDoor
