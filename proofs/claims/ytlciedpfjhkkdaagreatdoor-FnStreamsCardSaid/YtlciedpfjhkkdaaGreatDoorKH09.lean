/- impl.StreamFault, spec.StreamFault, by the engine. -/
import Derived.Test.YtlciedpfjhkkdaaGreatDoorKG32uE38
import Derived.Test.YtlciedpfjhkkdaaGreatDoorKG27uM30
import Derived.Test.YtlciedpfjhkkdaaGreatDoorKG30uH08
set_option linter.unusedSimpArgs false
set_option linter.unusedVariables false
set_option linter.unnecessarySimpa false
set_option maxHeartbeats 8000000
namespace Go.Proofs.YtlciedpfjhkkdaaGreatDoor
open Go.RowKit
set_option maxRecDepth 10000
theorem implStreamFault_ac (l : List (List CellD)) (hz : ∀ x ∈ l, Sized x) : AC Tryz.prog 20 [listA l] [] (.agg [.c (.int .i64 (evsFault l).1), .c (.int .i64 (evsFault l).2), .nils]) [] := by
 by_cases h : (evsFault l).1 = 0
 ·have hc := eventsOf_ac l hz h
  have h2 : evsFault l = (0, 0) := by
   unfold evsFault at h ⊢
   split at h
   ·exact absurd h (by decide)
   ·rename_i hm
    rw [if_neg hm]
    have key : ∀ (l : List (List CellD)) (i : Nat), (evsGo i l).1 = 0 → evsGo i l = (0, 0) := by
     intro l
     induction l with
     | nil => intro i _; rfl
     | cons x r ih =>
      intro i hh
      unfold evsGo at hh ⊢
      split at hh
      ·rename_i h0
       rw [if_pos h0]
       exact ih _ hh
      ·rename_i h0
       exact absurd hh h0
    exact key l 0 h
  rw [h2]
  refine wEnter Tryz.func20 Tryz.ntmps20 ?_
  refine wRUN trivial ?_
  refine w9 (op_shared [] hc) trivial ?_
  refine wRUN trivial ?_
  exact wRet (ret_data []) Tryz.results20
 ·have hc := eventsOf_bad l hz h
  refine wEnter Tryz.func20 Tryz.ntmps20 ?_
  refine wRUN trivial ?_
  refine w7 (op_data [] hc) trivial ?_
  refine wRUN trivial ?_
  exact wRet (ret_data []) Tryz.results20
theorem l15Event_ac (xs : List CellD) : AC Tryz.prog 119 [cellsA xs] [] (.c (.int .i64 (evDec xs).1)) [] := by
 have h00 : ((0 : Int) != 0) = false := rfl
 have hv := fault_ac xs
 rcases ev_way xs with ⟨hn, h0, he⟩ | ⟨t, hd, rfl, ht, h⟩
 ·rw [he]
  have hb : ((dec xs).1 != 0) = true := by simpa using h0
  refine wEnter Tryz.func119 Tryz.ntmps119 ?_
  refine wRUN trivial ?_
  refine w7 (op_data [] hv) trivial ?_
  refine wRUN hb ?_
  exact wRet (ret_data []) Tryz.results119
 rw [hd] at hv
 have hr0 : rowsAt (t.enc.map CellD.cs) 5 0 = true := by unfold rowsAt; rw [show (0 : Int).toNat = 0 from rfl, enc_head]; rfl
 have hg0 := enc_head t
 have hw := l1In_ac (t.kids.length : Int) 1 2
 have hparts := l1Parts_ac ht.1 ht.2.1
 rcases h with ⟨h5, he⟩ | ⟨h5, hl, he⟩ | ⟨q, r, h5, hk, hr, hq, h⟩
 ·rw [he]
  have hb : (t.kind != 5) = true := by simpa using h5
  refine wEnter Tryz.func119 Tryz.ntmps119 ?_
  refine wRUN trivial ?_
  refine w7 (op_data [] hv) trivial ?_
  refine wRUN (j4 h00 hr0 hg0 hb) ?_
  exact wRet (ret_data []) Tryz.results119
 ·rw [he]
  have hb : (t.kind != 5) = false := by simpa using h5
  have hin : (decide ((t.kids.length : Int) ≥ 1) && decide ((t.kids.length : Int) ≤ 2)) = false := by simp; omega
  rw [hin] at hw
  refine wEnter Tryz.func119 Tryz.ntmps119 ?_
  refine wRUN trivial ?_
  refine w7 (op_data [] hv) trivial ?_
  refine wRUN (j4 h00 hr0 hg0 hb) ?_
  refine w7 (op_data [] hw) trivial ?_
  refine wRUN trivial ?_
  exact wRet (ret_data []) Tryz.results119
 have hb : (t.kind != 5) = false := by simpa using h5
 have hin : (decide ((t.kids.length : Int) ≥ 1) && decide ((t.kids.length : Int) ≤ 2)) = true := by rw [hk]; simp at hr ⊢; try omega
 rw [hin] at hw
 have hpa := specPath_ac q.enc
 have hrp : rowsAt ((t.kids.map V.enc).map encCs) 1 0 = true := by rw [hk]; simp [rowsAt, encCs]
 have hgp : ((t.kids.map V.enc).map encCs)[0]? = some [.sl (q.enc.map CellD.cs)] := by rw [hk]; simp [encCs]
 have hrq : rowsAt (q.enc.map CellD.cs) 5 0 = true := by unfold rowsAt; rw [show (0 : Int).toNat = 0 from rfl, enc_head]; rfl
 have hgq := enc_head q
 rcases h with ⟨c, h0, hp, he⟩ | ⟨hp, _, _, h⟩
 ·rw [he]
  rw [hp] at hpa
  have hb0 : (c != 0) = true := by simpa using h0
  refine wEnter Tryz.func119 Tryz.ntmps119 ?_
  refine wRUN trivial ?_
  refine w7 (op_data [] hv) trivial ?_
  refine wRUN (j4 h00 hr0 hg0 hb) ?_
  refine w7 (op_data [] hw) trivial ?_
  refine wRUN trivial ?_
  refine w9 (op_shared [] hparts) trivial ?_
  refine wRUN (j2 hrp hgp) ?_
  refine w7 (op_data [] hpa) trivial ?_
  refine wRUN hb0 ?_
  exact wRet (ret_data []) Tryz.results119
 ·rw [hp] at hpa
  have one : r = [] → ∀ b, ((q.kids.length : Int) == 0) = b → AC Tryz.prog 119 [cellsA t.enc] [] (.c (.int .i64 (if b then 1 else 0))) [] := by
   rintro rfl b hq0
   have hk1 : t.kids.length = 1 := by rw [hk]; rfl
   have hk2 : ((t.kids.length : Int) == 2) = false := by rw [hk1]; rfl
   have hk3 : ((t.kids.length : Int) == 1) = true := by rw [hk1]; rfl
   cases b with
   | true =>
    refine wEnter Tryz.func119 Tryz.ntmps119 ?_
    refine wRUN trivial ?_
    refine w7 (op_data [] hv) trivial ?_
    refine wRUN (j4 h00 hr0 hg0 hb) ?_
    refine w7 (op_data [] hw) trivial ?_
    refine wRUN trivial ?_
    refine w9 (op_shared [] hparts) trivial ?_
    refine wRUN (j2 hrp hgp) ?_
    refine w7 (op_data [] hpa) trivial ?_
    (repeat (first | (with_reducible first | refine a_seq ?_ | refine a_region ?_ | refine a_block ?_ | refine a_scope ?_) | ((with_reducible apply op_any); (iterate 2 (focus (first | (simp only [go_sem, Nat.reduceEqDiff, Nat.reduceAdd, Nat.reduceSub, Nat.reduceLeDiff, Nat.reduceMul, Nat.reduceBEq, Nat.reduceLT, Int.reduceToNat, reduceCtorEq, h00, hk2, hk3, hrp, hgp, hrq, hgq, hq0, List.length_map]; first | done | exact rfl | (and_intros <;> rfl)) | exact rfl | decide)))) | ((with_reducible refine o_nil ?_); dsimp only; try ((with_reducible apply o_draw); (focus (simp only [go_sem]; exact rfl)); (focus decide))) | ((with_reducible first | refine a_ret ?_ | refine a_skip ?_ | refine a_label ?_); dsimp only) | ((with_reducible refine a_exit ?_); dsimp only; simp only [if_true, if_false, Nat.reduceEqDiff]) | ((with_reducible apply a_if); (focus (simp only [go_sem, Nat.reduceBEq, Nat.reduceLT, h00, hk2, hk3, hrp, hgp, hrq, hgq, hq0, List.length_map]; exact rfl)); dsimp only [cond_true, cond_false]) | ((with_reducible refine a_draw ?_ ?_); (focus exact rfl))))
    exact wRet (ret_data []) Tryz.results119
   | false =>
    refine wEnter Tryz.func119 Tryz.ntmps119 ?_
    refine wRUN trivial ?_
    refine w7 (op_data [] hv) trivial ?_
    refine wRUN (j4 h00 hr0 hg0 hb) ?_
    refine w7 (op_data [] hw) trivial ?_
    refine wRUN trivial ?_
    refine w9 (op_shared [] hparts) trivial ?_
    refine wRUN (j2 hrp hgp) ?_
    refine w7 (op_data [] hpa) trivial ?_
    (repeat (first | (with_reducible first | refine a_seq ?_ | refine a_region ?_ | refine a_block ?_ | refine a_scope ?_) | ((with_reducible apply op_any); (iterate 2 (focus (first | (simp only [go_sem, Nat.reduceEqDiff, Nat.reduceAdd, Nat.reduceSub, Nat.reduceLeDiff, Nat.reduceMul, Nat.reduceBEq, Nat.reduceLT, Int.reduceToNat, reduceCtorEq, h00, hk2, hk3, hrp, hgp, hrq, hgq, hq0, List.length_map]; first | done | exact rfl | (and_intros <;> rfl)) | exact rfl | decide)))) | ((with_reducible refine o_nil ?_); dsimp only; try ((with_reducible apply o_draw); (focus (simp only [go_sem]; exact rfl)); (focus decide))) | ((with_reducible first | refine a_ret ?_ | refine a_skip ?_ | refine a_label ?_); dsimp only) | ((with_reducible refine a_exit ?_); dsimp only; simp only [if_true, if_false, Nat.reduceEqDiff]) | ((with_reducible apply a_if); (focus (simp only [go_sem, Nat.reduceBEq, Nat.reduceLT, h00, hk2, hk3, hrp, hgp, hrq, hgq, hq0, List.length_map]; exact rfl)); dsimp only [cond_true, cond_false]) | ((with_reducible refine a_draw ?_ ?_); (focus exact rfl))))
    exact wRet (ret_data []) Tryz.results119
  have two : ∀ u : V, r = [u] → ∀ b, u.kids.isEmpty = b → AC Tryz.prog 119 [cellsA t.enc] [] (.c (.int .i64 (if b then 0 else 1))) [] := by
   rintro u rfl b hu0
   have hk1 : t.kids.length = 2 := by rw [hk]; rfl
   have hk2 : ((t.kids.length : Int) == 2) = true := by rw [hk1]; rfl
   have hk3 : ((t.kids.length : Int) == 1) = false := by rw [hk1]; rfl
   have hrp1 : rowsAt ((t.kids.map V.enc).map encCs) 1 1 = true := by rw [hk]; simp [rowsAt, encCs]
   have hgp1 : ((t.kids.map V.enc).map encCs)[1]? = some [.sl (u.enc.map CellD.cs)] := by rw [hk]; simp [encCs]
   have hlf := l15Leaf_ac u
   rw [hu0] at hlf
   cases b with
   | true =>
    refine wEnter Tryz.func119 Tryz.ntmps119 ?_
    refine wRUN trivial ?_
    refine w7 (op_data [] hv) trivial ?_
    refine wRUN (j4 h00 hr0 hg0 hb) ?_
    refine w7 (op_data [] hw) trivial ?_
    refine wRUN trivial ?_
    refine w9 (op_shared [] hparts) trivial ?_
    refine wRUN (j2 hrp hgp) ?_
    refine w7 (op_data [] hpa) trivial ?_
    (repeat (first | (with_reducible first | refine a_seq ?_ | refine a_region ?_ | refine a_block ?_ | refine a_scope ?_) | ((with_reducible apply op_any); (iterate 2 (focus (first | (simp only [go_sem, Nat.reduceEqDiff, Nat.reduceAdd, Nat.reduceSub, Nat.reduceLeDiff, Nat.reduceMul, Nat.reduceBEq, Nat.reduceLT, Int.reduceToNat, reduceCtorEq, h00, hk2, hk3, hrp1, hgp1, List.length_map]; first | done | exact rfl | (and_intros <;> rfl)) | exact rfl | decide)))) | ((with_reducible refine o_nil ?_); dsimp only; try ((with_reducible apply o_draw); (focus (simp only [go_sem]; exact rfl)); (focus decide))) | ((with_reducible first | refine a_ret ?_ | refine a_skip ?_ | refine a_label ?_); dsimp only) | ((with_reducible refine a_exit ?_); dsimp only; simp only [if_true, if_false, Nat.reduceEqDiff]) | ((with_reducible apply a_if); (focus (simp only [go_sem, Nat.reduceBEq, Nat.reduceLT, h00, hk2, hk3, hrp1, hgp1, List.length_map]; exact rfl)); dsimp only [cond_true, cond_false]) | ((with_reducible refine a_draw ?_ ?_); (focus exact rfl))))
    refine w7 (op_data [] hlf) trivial ?_
    (repeat (first | (with_reducible first | refine a_seq ?_ | refine a_region ?_ | refine a_block ?_ | refine a_scope ?_) | ((with_reducible apply op_any); (iterate 2 (focus (first | (simp only [go_sem, Nat.reduceEqDiff, Nat.reduceAdd, Nat.reduceSub, Nat.reduceLeDiff, Nat.reduceMul, Nat.reduceBEq, Nat.reduceLT, Int.reduceToNat, reduceCtorEq, hk3, List.length_map]; first | done | exact rfl | (and_intros <;> rfl)) | exact rfl | decide)))) | ((with_reducible refine o_nil ?_); dsimp only; try ((with_reducible apply o_draw); (focus (simp only [go_sem]; exact rfl)); (focus decide))) | ((with_reducible first | refine a_ret ?_ | refine a_skip ?_ | refine a_label ?_); dsimp only) | ((with_reducible refine a_exit ?_); dsimp only; simp only [if_true, if_false, Nat.reduceEqDiff]) | ((with_reducible apply a_if); (focus (simp only [go_sem, Nat.reduceBEq, Nat.reduceLT, hk3, List.length_map]; exact rfl)); dsimp only [cond_true, cond_false]) | ((with_reducible refine a_draw ?_ ?_); (focus exact rfl))))
    exact wRet (ret_data []) Tryz.results119
   | false =>
    refine wEnter Tryz.func119 Tryz.ntmps119 ?_
    refine wRUN trivial ?_
    refine w7 (op_data [] hv) trivial ?_
    refine wRUN (j4 h00 hr0 hg0 hb) ?_
    refine w7 (op_data [] hw) trivial ?_
    refine wRUN trivial ?_
    refine w9 (op_shared [] hparts) trivial ?_
    refine wRUN (j2 hrp hgp) ?_
    refine w7 (op_data [] hpa) trivial ?_
    (repeat (first | (with_reducible first | refine a_seq ?_ | refine a_region ?_ | refine a_block ?_ | refine a_scope ?_) | ((with_reducible apply op_any); (iterate 2 (focus (first | (simp only [go_sem, Nat.reduceEqDiff, Nat.reduceAdd, Nat.reduceSub, Nat.reduceLeDiff, Nat.reduceMul, Nat.reduceBEq, Nat.reduceLT, Int.reduceToNat, reduceCtorEq, h00, hk2, hk3, hrp1, hgp1, List.length_map]; first | done | exact rfl | (and_intros <;> rfl)) | exact rfl | decide)))) | ((with_reducible refine o_nil ?_); dsimp only; try ((with_reducible apply o_draw); (focus (simp only [go_sem]; exact rfl)); (focus decide))) | ((with_reducible first | refine a_ret ?_ | refine a_skip ?_ | refine a_label ?_); dsimp only) | ((with_reducible refine a_exit ?_); dsimp only; simp only [if_true, if_false, Nat.reduceEqDiff]) | ((with_reducible apply a_if); (focus (simp only [go_sem, Nat.reduceBEq, Nat.reduceLT, h00, hk2, hk3, hrp1, hgp1, List.length_map]; exact rfl)); dsimp only [cond_true, cond_false]) | ((with_reducible refine a_draw ?_ ?_); (focus exact rfl))))
    refine w7 (op_data [] hlf) trivial ?_
    (repeat (first | (with_reducible first | refine a_seq ?_ | refine a_region ?_ | refine a_block ?_ | refine a_scope ?_) | ((with_reducible apply op_any); (iterate 2 (focus (first | (simp only [go_sem, Nat.reduceEqDiff, Nat.reduceAdd, Nat.reduceSub, Nat.reduceLeDiff, Nat.reduceMul, Nat.reduceBEq, Nat.reduceLT, Int.reduceToNat, reduceCtorEq, hk3, List.length_map]; first | done | exact rfl | (and_intros <;> rfl)) | exact rfl | decide)))) | ((with_reducible refine o_nil ?_); dsimp only; try ((with_reducible apply o_draw); (focus (simp only [go_sem]; exact rfl)); (focus decide))) | ((with_reducible first | refine a_ret ?_ | refine a_skip ?_ | refine a_label ?_); dsimp only) | ((with_reducible refine a_exit ?_); dsimp only; simp only [if_true, if_false, Nat.reduceEqDiff]) | ((with_reducible apply a_if); (focus (simp only [go_sem, Nat.reduceBEq, Nat.reduceLT, hk3, List.length_map]; exact rfl)); dsimp only [cond_true, cond_false]) | ((with_reducible refine a_draw ?_ ?_); (focus exact rfl))))
    exact wRet (ret_data []) Tryz.results119
  rcases h with ⟨hr, hqe, he⟩ | ⟨hr, hqe, he⟩ | ⟨u, hr, hu, hue, he⟩ | ⟨u, hr, hu, hue, he⟩
  ·rw [he]; exact one hr true (by rw [hqe]; rfl)
  ·rw [he]; exact one hr false (by cases hh : q.kids <;> simp_all; omega)
  ·rw [he]; exact two u hr false (by cases hh : u.kids <;> simp_all)
  ·rw [he]; exact two u hr true (by rw [hue]; rfl)
theorem specStreamFault_ac (l : List (List CellD)) (hl : l.length ≤ 9223372036854775807) : AC Tryz.prog 65 [listA l] [] (.agg [.c (.int .i64 (evsFault l).1), .c (.int .i64 (evsFault l).2), .nils]) [] := by
 by_cases hm : l.length < 1 ∨ 200 < l.length
 ·rw [evsFault_many hm]
  by_cases h1 : l.length < 1
  ·have hd : decide ((l.length : Int) < 1) = true := by simpa using by omega
   refine wEnter Tryz.func65 Tryz.ntmps65 ?_
   (repeat (first | (with_reducible first | refine a_seq ?_ | refine a_region ?_ | refine a_block ?_ | refine a_scope ?_) | ((with_reducible apply op_any); (iterate 2 (focus (first | (simp only [go_sem, Nat.reduceEqDiff, Nat.reduceAdd, Nat.reduceSub, Nat.reduceLeDiff, Nat.reduceMul, Nat.reduceBEq, Nat.reduceLT, Int.reduceToNat, reduceCtorEq, hd, List.length_map]; first | done | exact rfl | (and_intros <;> rfl)) | exact rfl | decide)))) | ((with_reducible refine o_nil ?_); dsimp only; try ((with_reducible apply o_draw); (focus (simp only [go_sem]; exact rfl)); (focus decide))) | ((with_reducible first | refine a_ret ?_ | refine a_skip ?_ | refine a_label ?_); dsimp only) | ((with_reducible refine a_exit ?_); dsimp only; simp only [if_true, if_false, Nat.reduceEqDiff]) | ((with_reducible apply a_if); (focus (simp only [go_sem, Nat.reduceBEq, Nat.reduceLT, hd, List.length_map]; exact rfl)); dsimp only [cond_true, cond_false]) | ((with_reducible refine a_draw ?_ ?_); (focus exact rfl))))
   exact wRet (ret_data []) Tryz.results65
  ·have hd : decide ((l.length : Int) < 1) = false := by simpa using by omega
   have hd2 : decide ((l.length : Int) > 200) = true := by simpa using by omega
   refine wEnter Tryz.func65 Tryz.ntmps65 ?_
   (repeat (first | (with_reducible first | refine a_seq ?_ | refine a_region ?_ | refine a_block ?_ | refine a_scope ?_) | ((with_reducible apply op_any); (iterate 2 (focus (first | (simp only [go_sem, Nat.reduceEqDiff, Nat.reduceAdd, Nat.reduceSub, Nat.reduceLeDiff, Nat.reduceMul, Nat.reduceBEq, Nat.reduceLT, Int.reduceToNat, reduceCtorEq, hd, hd2, List.length_map]; first | done | exact rfl | (and_intros <;> rfl)) | exact rfl | decide)))) | ((with_reducible refine o_nil ?_); dsimp only; try ((with_reducible apply o_draw); (focus (simp only [go_sem]; exact rfl)); (focus decide))) | ((with_reducible first | refine a_ret ?_ | refine a_skip ?_ | refine a_label ?_); dsimp only) | ((with_reducible refine a_exit ?_); dsimp only; simp only [if_true, if_false, Nat.reduceEqDiff]) | ((with_reducible apply a_if); (focus (simp only [go_sem, Nat.reduceBEq, Nat.reduceLT, hd, hd2, List.length_map]; exact rfl)); dsimp only [cond_true, cond_false]) | ((with_reducible refine a_draw ?_ ?_); (focus exact rfl))))
   exact wRet (ret_data []) Tryz.results65
 ·have hd1 : decide ((l.length : Int) < 1) = false := by simpa using by omega
  have hd2 : decide ((l.length : Int) > 200) = false := by simpa using by omega
  have hg0 := evsFault_go hm
  generalize evsFault l = r at *
  refine wEnter Tryz.func65 Tryz.ntmps65 ?_
  (repeat (first | (with_reducible first | refine a_seq ?_ | refine a_region ?_ | refine a_block ?_ | refine a_scope ?_) | ((with_reducible apply op_any); (iterate 2 (focus (first | (simp only [go_sem, Nat.reduceEqDiff, Nat.reduceAdd, Nat.reduceSub, Nat.reduceLeDiff, Nat.reduceMul, Nat.reduceBEq, Nat.reduceLT, Int.reduceToNat, reduceCtorEq, hd1, hd2, List.length_map]; first | done | exact rfl | (and_intros <;> rfl)) | exact rfl | decide)))) | ((with_reducible refine o_nil ?_); dsimp only; try ((with_reducible apply o_draw); (focus (simp only [go_sem]; exact rfl)); (focus decide))) | ((with_reducible first | refine a_ret ?_ | refine a_skip ?_ | refine a_label ?_); dsimp only) | ((with_reducible refine a_exit ?_); dsimp only; simp only [if_true, if_false, Nat.reduceEqDiff]) | ((with_reducible apply a_if); (focus (simp only [go_sem, Nat.reduceBEq, Nat.reduceLT, hd1, hd2, List.length_map]; exact rfl)); dsimp only [cond_true, cond_false]) | ((with_reducible refine a_draw ?_ ?_); (focus exact rfl))))
  refine a_loop (κ := Nat) (fun k => ⟨mkS 0 31 [(0, listA l), (2, .ptr (2, 0) 0), (3, .c (.int .i64 k))],
    [((2, 0), .box [.c (.int .i64 0), .c (.int .i64 0), .nils])]⟩)
   (fun k => k ≤ l.length ∧ r = evsGo k (l.drop k)) (fun k => l.length - k) 0 ⟨Nat.zero_le _, hg0⟩ ?_ ?_
  ·exact wSays (Says.of [((2, 0), (2, 0))] []) hd1
  ·rintro k ⟨hk, hr⟩
   by_cases hlt : k < l.length
   ·have hd : decide ((k : Int) < (l.length : Int)) = true := by simpa using hlt
    have hrw : rowsAt (l.map encCs) 1 k = true := by simp [rowsAt, hlt, encCs]
    have hg : (l.map encCs)[k]? = some [.sl (l[k].map CellD.cs)] := by simp [hlt, encCs]
    have hwk := wrap_succ (k := k) (by omega)
    have h00 : ((0 : Int) != 0) = false := rfl
    have hev := l15Event_ac l[k]
    rw [evsGo_drop l hlt] at hr
    by_cases he0 : (evDec l[k]).1 = 0
    ·rw [if_pos he0] at hr
     rw [he0] at hev
     generalize l[k] = x at *
     (repeat (first | (with_reducible first | refine a_seq ?_ | refine a_region ?_ | refine a_block ?_ | refine a_scope ?_) | ((with_reducible apply op_any); (iterate 2 (focus (first | (simp only [go_sem, Nat.reduceEqDiff, Nat.reduceAdd, Nat.reduceSub, Nat.reduceLeDiff, Nat.reduceMul, Nat.reduceBEq, Nat.reduceLT, Int.reduceToNat, reduceCtorEq, hd, hrw, hg, List.length_map]; first | done | exact rfl | (and_intros <;> rfl)) | exact rfl | decide)))) | ((with_reducible refine o_nil ?_); dsimp only; try ((with_reducible apply o_draw); (focus (simp only [go_sem]; exact rfl)); (focus decide))) | ((with_reducible first | refine a_ret ?_ | refine a_skip ?_ | refine a_label ?_); dsimp only) | ((with_reducible refine a_exit ?_); dsimp only; simp only [if_true, if_false, Nat.reduceEqDiff]) | ((with_reducible apply a_if); (focus (simp only [go_sem, Nat.reduceBEq, Nat.reduceLT, hd, hrw, hg, List.length_map]; exact rfl)); dsimp only [cond_true, cond_false]) | ((with_reducible refine a_draw ?_ ?_); (focus exact rfl))))
     refine w7 (op_data [] hev) trivial ?_
     refine wRUN (j2 h00 hwk) ?_
     refine ⟨k + 1, by omega, ⟨by omega, hr⟩, ?_⟩
     exact wSays (Says.of [((2, 0), (2, 0))] []) hd1
    ·rw [if_neg he0] at hr
     have hb : ((evDec l[k]).1 != 0) = true := by simpa using he0
     rw [hr]
     generalize (evDec l[k]).1 = c at *
     generalize l[k] = x at *
     (repeat (first | (with_reducible first | refine a_seq ?_ | refine a_region ?_ | refine a_block ?_ | refine a_scope ?_) | ((with_reducible apply op_any); (iterate 2 (focus (first | (simp only [go_sem, Nat.reduceEqDiff, Nat.reduceAdd, Nat.reduceSub, Nat.reduceLeDiff, Nat.reduceMul, Nat.reduceBEq, Nat.reduceLT, Int.reduceToNat, reduceCtorEq, hd, hrw, hg, List.length_map]; first | done | exact rfl | (and_intros <;> rfl)) | exact rfl | decide)))) | ((with_reducible refine o_nil ?_); dsimp only; try ((with_reducible apply o_draw); (focus (simp only [go_sem]; exact rfl)); (focus decide))) | ((with_reducible first | refine a_ret ?_ | refine a_skip ?_ | refine a_label ?_); dsimp only) | ((with_reducible refine a_exit ?_); dsimp only; simp only [if_true, if_false, Nat.reduceEqDiff]) | ((with_reducible apply a_if); (focus (simp only [go_sem, Nat.reduceBEq, Nat.reduceLT, hd, hrw, hg, List.length_map]; exact rfl)); dsimp only [cond_true, cond_false]) | ((with_reducible refine a_draw ?_ ?_); (focus exact rfl))))
     refine w7 (op_data [] hev) trivial ?_
     refine wRUN hb ?_
     exact wRet (ret_data []) Tryz.results65
   ·have hd : decide ((k : Int) < (l.length : Int)) = false := by simpa using hlt
    rw [List.drop_eq_nil_of_le (by omega)] at hr
    rw [hr]
    simp only [evsGo]
    (repeat (first | (with_reducible first | refine a_seq ?_ | refine a_region ?_ | refine a_block ?_ | refine a_scope ?_) | ((with_reducible apply op_any); (iterate 2 (focus (first | (simp only [go_sem, Nat.reduceEqDiff, Nat.reduceAdd, Nat.reduceSub, Nat.reduceLeDiff, Nat.reduceMul, Nat.reduceBEq, Nat.reduceLT, Int.reduceToNat, reduceCtorEq, hd, List.length_map]; first | done | exact rfl | (and_intros <;> rfl)) | exact rfl | decide)))) | ((with_reducible refine o_nil ?_); dsimp only; try ((with_reducible apply o_draw); (focus (simp only [go_sem]; exact rfl)); (focus decide))) | ((with_reducible first | refine a_ret ?_ | refine a_skip ?_ | refine a_label ?_); dsimp only) | ((with_reducible refine a_exit ?_); dsimp only; simp only [if_true, if_false, Nat.reduceEqDiff]) | ((with_reducible apply a_if); (focus (simp only [go_sem, Nat.reduceBEq, Nat.reduceLT, hd, List.length_map]; exact rfl)); dsimp only [cond_true, cond_false]) | ((with_reducible refine a_draw ?_ ?_); (focus exact rfl))))
    exact wRet (ret_data []) Tryz.results65
end Go.Proofs.YtlciedpfjhkkdaaGreatDoor
