/- impl.heights, by the engine (printed by gen_heights.py). -/
import Derived.Test.YtfmnoljflcpbgaaGreatDoorKG36
import Derived.Test.YtfmnoljflcpbgaaGreatDoorKG38
import Derived.Test.YtfmnoljflcpbgaaGreatDoorKG41
set_option linter.unusedSimpArgs false
set_option linter.unusedVariables false
set_option linter.unnecessarySimpa false
namespace Go.Proofs.YtfmnoljflcpbgaaGreatDoor
open Go.RowKit
set_option maxRecDepth 10000
theorem sizeIn_ac (l : List InD) : AC Tryz.prog 125 [insA l] [] (.c (.int .i64 l.length)) [] := by
  have hn : (l.map InD.cs).length = l.length := by simp
  refine wEnter Tryz.func125 Tryz.ntmps125 ?_
  refine wRUN trivial ?_
  exact wRet (ret_data []) Tryz.results125
set_option maxHeartbeats 16000000 in
theorem heights_bad (l : List InD) (hn : 1 ≤ l.length ∧ l.length ≤ 6000) (hj : jumpsOn l) (hres : 0 ≤ (heightsOf l).2) : AC Tryz.prog 127 [insA l] [] (.tup [.nils, .c (.int .i64 (heightsOf l).2)]) [] := by
  have hln : (l.map InD.cs).length = l.length := by simp
  have hrep := repeat_ac (-1) l.length (by omega)
  obtain ⟨R, hR⟩ : ∃ R, R = heightsOf l := ⟨_, rfl⟩
  rw [← hR] at hres ⊢
  have hll : (List.replicate l.length [C.int .i64 (-1)]).length = l.length := by simp
  have hr00 : rowsAt (List.replicate l.length [C.int .i64 (-1)]) 1 0 = true := by unfold rowsAt; rw [show (0 : Int).toNat = 0 from rfl, List.getElem?_replicate, if_pos (by omega)]; rfl
  have hg00 : (List.replicate l.length [C.int .i64 (-1)])[0]? = some [.int .i64 (-1)] := by rw [List.getElem?_replicate, if_pos (by omega)]
  have hs00 : (List.replicate l.length [C.int .i64 (-1)]).set 0 [.int .i64 1] = (startH l.length).map intCs := by unfold startH; rw [List.map_set]; simp [intCs]
  have hsz := sizeIn_ac l
  have hcl0 := closed_rep (-1) l.length
  generalize List.replicate l.length [C.int .i64 (-1)] = O0 at *
  refine wEnter Tryz.func127 Tryz.ntmps127 ?_
  refine wRUN hln ?_
  refine w12 (op_rowT [(13, 0)] hrep) hcl0 ?_
  (repeat (first | (with_reducible first | refine a_seq ?_ | refine a_region ?_ | refine a_block ?_ | refine a_scope ?_) | ((with_reducible apply op_any); (iterate 2 (focus (first | (simp only [go_sem, Nat.reduceEqDiff, Nat.reduceAdd, Nat.reduceSub, Nat.reduceLeDiff, Nat.reduceMul, Nat.reduceBEq, Nat.reduceLT, Int.reduceToNat, reduceCtorEq, hr00, hg00, putL_one_int, hs00, hln]; first | done | exact rfl | (and_intros <;> rfl)) | exact rfl | decide)))) | ((with_reducible refine o_nil ?_); dsimp only; try ((with_reducible apply o_draw); (focus (simp only [go_sem]; exact rfl)); (focus decide))) | ((with_reducible first | refine a_ret ?_ | refine a_skip ?_ | refine a_label ?_); dsimp only) | ((with_reducible refine a_exit ?_); dsimp only; simp only [if_true, if_false, Nat.reduceEqDiff]) | ((with_reducible apply a_if); (focus (simp only [go_sem, Nat.reduceBEq, Nat.reduceLT, hr00, hg00, putL_one_int, hs00, hln]; exact rfl)); dsimp only [cond_true, cond_false]) | ((with_reducible refine a_draw ?_ ?_); (focus exact rfl))))
  refine a_loop (κ := Nat × List Int) (fun x => ⟨mkS 0 87 [(0, insA l), (4, .own (99, 0)), (19, insA l), (20, .c (.int .i64 l.length)), (21, .c (.int .i64 x.1))], [((99, 0), .row false 1 2 (x.2.map intCs))]⟩)
    (fun x => x.1 ≤ l.length ∧ HInv l.length ((x.1 : Int) + 1) x.2 ∧ R = hGo l.length x.1 (l.drop x.1) x.2) (fun x => l.length - x.1) (0, startH l.length) ⟨Nat.zero_le _, startH_inv _, hR⟩ ?_ ?_
  · exact wSays (Says.of [((99, 0), (16, 0))] []) hs00
  · rintro ⟨k, out⟩ ⟨hk2, hI, hRk⟩
    dsimp only at hk2 hI hRk ⊢
    have hol : (out.map intCs).length = l.length := by rw [List.length_map]; exact hI.1
    by_cases hlt : k < l.length
    · have hdk : decide ((k : Int) < (l.length : Int)) = true := by simpa using hlt
      have hw := wrap_succ (k := k) (by omega)
      obtain ⟨hr0, hg0⟩ := ins_row hlt
      have hr1 := ints_rows (out := out) (m := k) (by rw [hI.1]; exact hlt)
      have hg1 := ints_get (out := out) (m := k) (by rw [hI.1]; exact hlt)
      have hb := hI.get (by omega) k
      obtain ⟨ho1, ho2, _⟩ := hj k hlt
      have hmv := effect_ac l[k] ho1 ho2
      have hbe := behind_ac l[k] k (by omega)
      obtain ⟨t1, t2, t3, t4, t5⟩ := takes_lays l[k].op
      have hnx := nexts_on hj hlt
      have hnl := nexts_len l[k] k
      rw [hGo_drop _ l hlt] at hRk
      generalize l[k] = d at *
      by_cases hneg : out.getD k 0 < 0
      · rw [if_pos hneg] at hRk
        have hdn : decide (out.getD k 0 < 0) = true := by simpa using hneg
        refine wRUN (j3 hdk hr0 hg0) ?_
        refine w7 (op_data [] hmv) trivial ?_
        refine wRUN (j4 hr1 hg1 hdn hw) ?_
        refine ⟨(k + 1, out), by dsimp only; omega, ⟨by dsimp only; omega, hI.up (by dsimp only; omega), hRk⟩, ?_⟩
        exact wSays (Says.of [((99, 0), (99, 0))] []) hw
      rw [if_neg hneg] at hRk
      have hdn : decide (out.getD k 0 < 0) = false := by simpa using hneg
      by_cases hlow : out.getD k 0 < takesOf d.op
      · rw [if_pos hlow] at hRk
        have hdl : decide (out.getD k 0 < takesOf d.op) = true := by simpa using hlow
        rw [hRk] at hres ⊢
        refine wRUN (j3 hdk hr0 hg0) ?_
        refine w7 (op_data [] hmv) trivial ?_
        refine wRUN (j4 hr1 hg1 hdn hdl) ?_
        exact wRet (ret_data []) Tryz.results127
      rw [if_neg hlow] at hRk
      have hdl : decide (out.getD k 0 < takesOf d.op) = false := by simpa using hlow
      have w1 : IntKind.i64.wrap (out.getD k 0 - takesOf d.op) = out.getD k 0 - takesOf d.op := IntWalk.i64_in _ (by omega)
      obtain ⟨H, hH⟩ : ∃ H, H = out.getD k 0 - takesOf d.op + laysOf d.op := ⟨_, rfl⟩
      have w2 : IntKind.i64.wrap (out.getD k 0 - takesOf d.op + laysOf d.op) = H := by rw [hH]; exact IntWalk.i64_in _ (by omega)
      have hHb : -1 ≤ H ∧ H ≤ ((k : Int) + 1) + 1 := by omega
      rw [← hH] at hRk
      generalize nexts d k = nx at *
      have hni : HInv l.length ((k : Int) + 1 + 1) out := hI.up (by omega)
      obtain ⟨L, hL⟩ : ∃ L, layAll l.length H nx out = L := ⟨_, rfl⟩
      rw [hL] at hRk
      obtain ⟨hk0, hk1⟩ : ∃ hk0, hk0 = out.getD k 0 := ⟨_, rfl⟩
      refine wRUN (j3 hdk hr0 hg0) ?_
      refine w7 (op_data [] hmv) trivial ?_
      refine wRUN (j4 hr1 hg1 hdn hdl) ?_
      refine w9 (op_shared [] hbe) trivial ?_
      refine wRUN trivial ?_
      refine a_loop (κ := Nat × List Int) (fun x => ⟨mkS 0 87 [(0, insA l), (4, .own (99, 0)), (5, .c (.int .i64 k)), (7, .c (.int .i64 k)), (8, .c (.int .i64 (takesOf d.op))), (9, .c (.int .i64 (laysOf d.op))), (19, insA l), (20, .c (.int .i64 l.length)), (21, .c (.int .i64 k)), (46, .c (.sl (nx.map intCs))), (47, .c (.int .i64 nx.length)), (48, .c (.int .i64 x.1))], [((99, 0), .row false 1 2 (x.2.map intCs))]⟩)
        (fun x => x.1 ≤ nx.length ∧ HInv l.length ((k : Int) + 1 + 1) x.2 ∧ x.2.getD k 0 = out.getD k 0 ∧ layAll l.length H (nx.drop x.1) x.2 = L) (fun x => nx.length - x.1) (0, out) ⟨Nat.zero_le _, hni, rfl, hL⟩ ?_ ?_
      · (apply (Says.of [((99, 0), (99, 0))] []); (iterate 2 ((focus (simp only [go_sem, Nat.reduceEqDiff, Nat.reduceAdd, Nat.reduceSub, Nat.reduceLeDiff, Nat.reduceMul, Nat.reduceBEq, Nat.reduceLT, Int.reduceToNat, reduceCtorEq, hnl, List.length_map]; try (and_intros <;> rfl))); (focus exact rfl))); (iterate 4 (focus (simp [go_sem, hnl, List.length_map]; done))))
      · rintro ⟨j, cur⟩ ⟨hj2, hJ, hcg, hLj⟩
        dsimp only at hj2 hJ hcg hLj ⊢
        by_cases hjl : j < nx.length
        · have hdj : decide ((j : Int) < (nx.length : Int)) = true := by simpa using hjl
          have hwj := wrap_succ (k := j) (by omega)
          have hr2 := ints_rows (out := nx) (m := j) hjl
          have hg2 : (nx.map intCs)[j]? = some [.int .i64 nx[j]] := by simp [hjl, intCs]
          have hr4 := ints_rows (out := cur) (m := k) (by rw [hJ.1]; exact hlt)
          have hg4 := ints_get (out := cur) (m := k) (by rw [hJ.1]; exact hlt)
          rw [hcg] at hg4
          obtain ⟨ht1, ht2⟩ := hnx _ (List.getElem_mem hjl)
          rw [layAll_drop _ _ _ hjl] at hLj
          obtain ⟨m, hm⟩ : ∃ m : Nat, nx[j] = (m : Int) := ⟨nx[j].toNat, by omega⟩
          rw [hm] at hg2 ht1 ht2 hLj
          rw [Int.toNat_natCast] at hLj
          by_cases hge : (l.length : Int) ≤ (m : Int)
          · rw [if_pos (.inl hge)] at hLj
            have hdg : decide ((m : Int) ≥ (l.length : Int)) = true := by simpa using hge
            rw [← hLj] at hRk
            rw [hRk] at hres ⊢
            refine wRUN (j7 hdj hr2 hg2 hr4 hg4 w1 w2) ?_
            refine w7 (op_data [] hsz) trivial ?_
            refine wRUN hdg ?_
            exact wRet (ret_data []) Tryz.results127
          · have hdg : decide ((m : Int) ≥ (l.length : Int)) = false := by simpa using hge
            have hr3 := ints_rows (out := cur) (m := m) (by rw [hJ.1]; omega)
            have hg3 := ints_get (out := cur) (m := m) (by rw [hJ.1]; omega)
            have hs3 := ints_set cur m H
            have hkm : (cur.set m H).getD k 0 = out.getD k 0 := by rw [getD_set_ne (by omega)]; exact hcg
            by_cases hpos : 0 ≤ cur.getD m 0
            · have hdp : decide (cur.getD m 0 ≥ 0) = true := by simpa using hpos
              by_cases hne : cur.getD m 0 ≠ H
              · rw [if_pos (.inr ⟨hpos, hne⟩)] at hLj
                have hbn : (cur.getD m 0 != H) = true := by simpa using hne
                rw [← hLj] at hRk
                rw [hRk] at hres ⊢
                refine wRUN (j7 hdj hr2 hg2 hr4 hg4 w1 w2) ?_
                refine w7 (op_data [] hsz) trivial ?_
                refine wRUN (j5 hdg hr3 hg3 hdp hbn) ?_
                exact wRet (ret_data []) Tryz.results127
              · rw [if_neg (by rintro (h | ⟨_, h⟩); exact hge h; exact hne h)] at hLj
                have hbn : (cur.getD m 0 != H) = false := by simpa using hne
                refine wRUN (j7 hdj hr2 hg2 hr4 hg4 w1 w2) ?_
                refine w7 (op_data [] hsz) trivial ?_
                (repeat (first | (with_reducible first | refine a_seq ?_ | refine a_region ?_ | refine a_block ?_ | refine a_scope ?_) | ((with_reducible apply op_any); (iterate 2 (focus (first | (simp only [go_sem, Nat.reduceEqDiff, Nat.reduceAdd, Nat.reduceSub, Nat.reduceLeDiff, Nat.reduceMul, Nat.reduceBEq, Nat.reduceLT, Int.reduceToNat, reduceCtorEq, hdg, hr3, hg3, hdp, hbn, putL_one_int, hwj]; first | done | exact rfl | (and_intros <;> rfl)) | exact rfl | decide)))) | ((with_reducible refine o_nil ?_); dsimp only; try ((with_reducible apply o_draw); (focus (simp only [go_sem]; exact rfl)); (focus decide))) | ((with_reducible first | refine a_ret ?_ | refine a_skip ?_ | refine a_label ?_); dsimp only) | ((with_reducible refine a_exit ?_); dsimp only; simp only [if_true, if_false, Nat.reduceEqDiff]) | ((with_reducible apply a_if); (focus (simp only [go_sem, Nat.reduceBEq, Nat.reduceLT, hdg, hr3, hg3, hdp, hbn, putL_one_int, hwj]; exact rfl)); dsimp only [cond_true, cond_false]) | ((with_reducible refine a_draw ?_ ?_); (focus exact rfl))))
                refine ⟨(j + 1, cur.set m H), by dsimp only; omega, ⟨by dsimp only; omega, hJ.set hHb, hkm, hLj⟩, ?_⟩
                (apply (Says.of [((99, 0), (99, 0))] []); (iterate 2 ((focus (simp only [go_sem, Nat.reduceEqDiff, Nat.reduceAdd, Nat.reduceSub, Nat.reduceLeDiff, Nat.reduceMul, Nat.reduceBEq, Nat.reduceLT, Int.reduceToNat, reduceCtorEq, List.map_set, intCs]; try (and_intros <;> rfl))); (focus exact rfl))); (iterate 4 (focus (simp [go_sem, List.map_set, intCs]; done))))
            · rw [if_neg (by rintro (h | ⟨h, _⟩); exact hge h; exact hpos h)] at hLj
              have hdp : decide (cur.getD m 0 ≥ 0) = false := by simpa using hpos
              refine wRUN (j7 hdj hr2 hg2 hr4 hg4 w1 w2) ?_
              refine w7 (op_data [] hsz) trivial ?_
              (repeat (first | (with_reducible first | refine a_seq ?_ | refine a_region ?_ | refine a_block ?_ | refine a_scope ?_) | ((with_reducible apply op_any); (iterate 2 (focus (first | (simp only [go_sem, Nat.reduceEqDiff, Nat.reduceAdd, Nat.reduceSub, Nat.reduceLeDiff, Nat.reduceMul, Nat.reduceBEq, Nat.reduceLT, Int.reduceToNat, reduceCtorEq, hdg, hr3, hg3, hdp, putL_one_int, hwj]; first | done | exact rfl | (and_intros <;> rfl)) | exact rfl | decide)))) | ((with_reducible refine o_nil ?_); dsimp only; try ((with_reducible apply o_draw); (focus (simp only [go_sem]; exact rfl)); (focus decide))) | ((with_reducible first | refine a_ret ?_ | refine a_skip ?_ | refine a_label ?_); dsimp only) | ((with_reducible refine a_exit ?_); dsimp only; simp only [if_true, if_false, Nat.reduceEqDiff]) | ((with_reducible apply a_if); (focus (simp only [go_sem, Nat.reduceBEq, Nat.reduceLT, hdg, hr3, hg3, hdp, putL_one_int, hwj]; exact rfl)); dsimp only [cond_true, cond_false]) | ((with_reducible refine a_draw ?_ ?_); (focus exact rfl))))
              refine ⟨(j + 1, cur.set m H), by dsimp only; omega, ⟨by dsimp only; omega, hJ.set hHb, hkm, hLj⟩, ?_⟩
              (apply (Says.of [((99, 0), (99, 0))] []); (iterate 2 ((focus (simp only [go_sem, Nat.reduceEqDiff, Nat.reduceAdd, Nat.reduceSub, Nat.reduceLeDiff, Nat.reduceMul, Nat.reduceBEq, Nat.reduceLT, Int.reduceToNat, reduceCtorEq, List.map_set, intCs]; try (and_intros <;> rfl))); (focus exact rfl))); (iterate 4 (focus (simp [go_sem, List.map_set, intCs]; done))))
        · have hdj : decide ((j : Int) < (nx.length : Int)) = false := by simpa using hjl
          rw [List.drop_eq_nil_of_le (by omega)] at hLj
          simp only [layAll] at hLj
          rw [← hLj] at hRk
          refine wRUN (j2 hdj hw) ?_
          refine ⟨(k + 1, cur), by dsimp only; omega, ⟨by dsimp only; omega, hJ.up (by dsimp only; omega), hRk⟩, ?_⟩
          exact wSays (Says.of [((99, 0), (99, 0))] []) hw
    · have hdk : decide ((k : Int) < (l.length : Int)) = false := by simpa using hlt
      rw [List.drop_eq_nil_of_le (by omega)] at hRk
      rw [hRk] at hres ⊢
      simp only [hGo] at hres ⊢
      exact absurd hres (by decide)
set_option maxHeartbeats 16000000 in
theorem heights_ac (l : List InD) (hn : 1 ≤ l.length ∧ l.length ≤ 6000) (hj : jumpsOn l) (hres : (heightsOf l).2 = -1) : AC Tryz.prog 127 [insA l] [] (.tup [.own (0, 0), .c (.int .i64 (-1))]) [((0, 0), .row false 1 2 ((heightsOf l).1.map intCs))] := by
  have hln : (l.map InD.cs).length = l.length := by simp
  have hrep := repeat_ac (-1) l.length (by omega)
  obtain ⟨R, hR⟩ : ∃ R, R = heightsOf l := ⟨_, rfl⟩
  rw [← hR] at hres ⊢
  have hll : (List.replicate l.length [C.int .i64 (-1)]).length = l.length := by simp
  have hr00 : rowsAt (List.replicate l.length [C.int .i64 (-1)]) 1 0 = true := by unfold rowsAt; rw [show (0 : Int).toNat = 0 from rfl, List.getElem?_replicate, if_pos (by omega)]; rfl
  have hg00 : (List.replicate l.length [C.int .i64 (-1)])[0]? = some [.int .i64 (-1)] := by rw [List.getElem?_replicate, if_pos (by omega)]
  have hs00 : (List.replicate l.length [C.int .i64 (-1)]).set 0 [.int .i64 1] = (startH l.length).map intCs := by unfold startH; rw [List.map_set]; simp [intCs]
  have hsz := sizeIn_ac l
  have hcl0 := closed_rep (-1) l.length
  generalize List.replicate l.length [C.int .i64 (-1)] = O0 at *
  refine wEnter Tryz.func127 Tryz.ntmps127 ?_
  refine wRUN hln ?_
  refine w12 (op_rowT [(13, 0)] hrep) hcl0 ?_
  (repeat (first | (with_reducible first | refine a_seq ?_ | refine a_region ?_ | refine a_block ?_ | refine a_scope ?_) | ((with_reducible apply op_any); (iterate 2 (focus (first | (simp only [go_sem, Nat.reduceEqDiff, Nat.reduceAdd, Nat.reduceSub, Nat.reduceLeDiff, Nat.reduceMul, Nat.reduceBEq, Nat.reduceLT, Int.reduceToNat, reduceCtorEq, hr00, hg00, putL_one_int, hs00, hln]; first | done | exact rfl | (and_intros <;> rfl)) | exact rfl | decide)))) | ((with_reducible refine o_nil ?_); dsimp only; try ((with_reducible apply o_draw); (focus (simp only [go_sem]; exact rfl)); (focus decide))) | ((with_reducible first | refine a_ret ?_ | refine a_skip ?_ | refine a_label ?_); dsimp only) | ((with_reducible refine a_exit ?_); dsimp only; simp only [if_true, if_false, Nat.reduceEqDiff]) | ((with_reducible apply a_if); (focus (simp only [go_sem, Nat.reduceBEq, Nat.reduceLT, hr00, hg00, putL_one_int, hs00, hln]; exact rfl)); dsimp only [cond_true, cond_false]) | ((with_reducible refine a_draw ?_ ?_); (focus exact rfl))))
  refine a_loop (κ := Nat × List Int) (fun x => ⟨mkS 0 87 [(0, insA l), (4, .own (99, 0)), (19, insA l), (20, .c (.int .i64 l.length)), (21, .c (.int .i64 x.1))], [((99, 0), .row false 1 2 (x.2.map intCs))]⟩)
    (fun x => x.1 ≤ l.length ∧ HInv l.length ((x.1 : Int) + 1) x.2 ∧ R = hGo l.length x.1 (l.drop x.1) x.2) (fun x => l.length - x.1) (0, startH l.length) ⟨Nat.zero_le _, startH_inv _, hR⟩ ?_ ?_
  · exact wSays (Says.of [((99, 0), (16, 0))] []) hs00
  · rintro ⟨k, out⟩ ⟨hk2, hI, hRk⟩
    dsimp only at hk2 hI hRk ⊢
    have hol : (out.map intCs).length = l.length := by rw [List.length_map]; exact hI.1
    by_cases hlt : k < l.length
    · have hdk : decide ((k : Int) < (l.length : Int)) = true := by simpa using hlt
      have hw := wrap_succ (k := k) (by omega)
      obtain ⟨hr0, hg0⟩ := ins_row hlt
      have hr1 := ints_rows (out := out) (m := k) (by rw [hI.1]; exact hlt)
      have hg1 := ints_get (out := out) (m := k) (by rw [hI.1]; exact hlt)
      have hb := hI.get (by omega) k
      obtain ⟨ho1, ho2, _⟩ := hj k hlt
      have hmv := effect_ac l[k] ho1 ho2
      have hbe := behind_ac l[k] k (by omega)
      obtain ⟨t1, t2, t3, t4, t5⟩ := takes_lays l[k].op
      have hnx := nexts_on hj hlt
      have hnl := nexts_len l[k] k
      rw [hGo_drop _ l hlt] at hRk
      generalize l[k] = d at *
      by_cases hneg : out.getD k 0 < 0
      · rw [if_pos hneg] at hRk
        have hdn : decide (out.getD k 0 < 0) = true := by simpa using hneg
        refine wRUN (j3 hdk hr0 hg0) ?_
        refine w7 (op_data [] hmv) trivial ?_
        refine wRUN (j4 hr1 hg1 hdn hw) ?_
        refine ⟨(k + 1, out), by dsimp only; omega, ⟨by dsimp only; omega, hI.up (by dsimp only; omega), hRk⟩, ?_⟩
        exact wSays (Says.of [((99, 0), (99, 0))] []) hw
      rw [if_neg hneg] at hRk
      have hdn : decide (out.getD k 0 < 0) = false := by simpa using hneg
      by_cases hlow : out.getD k 0 < takesOf d.op
      · rw [if_pos hlow] at hRk
        have hdl : decide (out.getD k 0 < takesOf d.op) = true := by simpa using hlow
        rw [hRk] at hres ⊢
        exfalso; dsimp only at hres; omega
      rw [if_neg hlow] at hRk
      have hdl : decide (out.getD k 0 < takesOf d.op) = false := by simpa using hlow
      have w1 : IntKind.i64.wrap (out.getD k 0 - takesOf d.op) = out.getD k 0 - takesOf d.op := IntWalk.i64_in _ (by omega)
      obtain ⟨H, hH⟩ : ∃ H, H = out.getD k 0 - takesOf d.op + laysOf d.op := ⟨_, rfl⟩
      have w2 : IntKind.i64.wrap (out.getD k 0 - takesOf d.op + laysOf d.op) = H := by rw [hH]; exact IntWalk.i64_in _ (by omega)
      have hHb : -1 ≤ H ∧ H ≤ ((k : Int) + 1) + 1 := by omega
      rw [← hH] at hRk
      generalize nexts d k = nx at *
      have hni : HInv l.length ((k : Int) + 1 + 1) out := hI.up (by omega)
      obtain ⟨L, hL⟩ : ∃ L, layAll l.length H nx out = L := ⟨_, rfl⟩
      rw [hL] at hRk
      obtain ⟨hk0, hk1⟩ : ∃ hk0, hk0 = out.getD k 0 := ⟨_, rfl⟩
      refine wRUN (j3 hdk hr0 hg0) ?_
      refine w7 (op_data [] hmv) trivial ?_
      refine wRUN (j4 hr1 hg1 hdn hdl) ?_
      refine w9 (op_shared [] hbe) trivial ?_
      refine wRUN trivial ?_
      refine a_loop (κ := Nat × List Int) (fun x => ⟨mkS 0 87 [(0, insA l), (4, .own (99, 0)), (5, .c (.int .i64 k)), (7, .c (.int .i64 k)), (8, .c (.int .i64 (takesOf d.op))), (9, .c (.int .i64 (laysOf d.op))), (19, insA l), (20, .c (.int .i64 l.length)), (21, .c (.int .i64 k)), (46, .c (.sl (nx.map intCs))), (47, .c (.int .i64 nx.length)), (48, .c (.int .i64 x.1))], [((99, 0), .row false 1 2 (x.2.map intCs))]⟩)
        (fun x => x.1 ≤ nx.length ∧ HInv l.length ((k : Int) + 1 + 1) x.2 ∧ x.2.getD k 0 = out.getD k 0 ∧ layAll l.length H (nx.drop x.1) x.2 = L) (fun x => nx.length - x.1) (0, out) ⟨Nat.zero_le _, hni, rfl, hL⟩ ?_ ?_
      · (apply (Says.of [((99, 0), (99, 0))] []); (iterate 2 ((focus (simp only [go_sem, Nat.reduceEqDiff, Nat.reduceAdd, Nat.reduceSub, Nat.reduceLeDiff, Nat.reduceMul, Nat.reduceBEq, Nat.reduceLT, Int.reduceToNat, reduceCtorEq, hnl, List.length_map]; try (and_intros <;> rfl))); (focus exact rfl))); (iterate 4 (focus (simp [go_sem, hnl, List.length_map]; done))))
      · rintro ⟨j, cur⟩ ⟨hj2, hJ, hcg, hLj⟩
        dsimp only at hj2 hJ hcg hLj ⊢
        by_cases hjl : j < nx.length
        · have hdj : decide ((j : Int) < (nx.length : Int)) = true := by simpa using hjl
          have hwj := wrap_succ (k := j) (by omega)
          have hr2 := ints_rows (out := nx) (m := j) hjl
          have hg2 : (nx.map intCs)[j]? = some [.int .i64 nx[j]] := by simp [hjl, intCs]
          have hr4 := ints_rows (out := cur) (m := k) (by rw [hJ.1]; exact hlt)
          have hg4 := ints_get (out := cur) (m := k) (by rw [hJ.1]; exact hlt)
          rw [hcg] at hg4
          obtain ⟨ht1, ht2⟩ := hnx _ (List.getElem_mem hjl)
          rw [layAll_drop _ _ _ hjl] at hLj
          obtain ⟨m, hm⟩ : ∃ m : Nat, nx[j] = (m : Int) := ⟨nx[j].toNat, by omega⟩
          rw [hm] at hg2 ht1 ht2 hLj
          rw [Int.toNat_natCast] at hLj
          by_cases hge : (l.length : Int) ≤ (m : Int)
          · rw [if_pos (.inl hge)] at hLj
            have hdg : decide ((m : Int) ≥ (l.length : Int)) = true := by simpa using hge
            rw [← hLj] at hRk
            rw [hRk] at hres ⊢
            exfalso; dsimp only at hres; omega
          · have hdg : decide ((m : Int) ≥ (l.length : Int)) = false := by simpa using hge
            have hr3 := ints_rows (out := cur) (m := m) (by rw [hJ.1]; omega)
            have hg3 := ints_get (out := cur) (m := m) (by rw [hJ.1]; omega)
            have hs3 := ints_set cur m H
            have hkm : (cur.set m H).getD k 0 = out.getD k 0 := by rw [getD_set_ne (by omega)]; exact hcg
            by_cases hpos : 0 ≤ cur.getD m 0
            · have hdp : decide (cur.getD m 0 ≥ 0) = true := by simpa using hpos
              by_cases hne : cur.getD m 0 ≠ H
              · rw [if_pos (.inr ⟨hpos, hne⟩)] at hLj
                have hbn : (cur.getD m 0 != H) = true := by simpa using hne
                rw [← hLj] at hRk
                rw [hRk] at hres ⊢
                exfalso; dsimp only at hres; omega
              · rw [if_neg (by rintro (h | ⟨_, h⟩); exact hge h; exact hne h)] at hLj
                have hbn : (cur.getD m 0 != H) = false := by simpa using hne
                refine wRUN (j7 hdj hr2 hg2 hr4 hg4 w1 w2) ?_
                refine w7 (op_data [] hsz) trivial ?_
                (repeat (first | (with_reducible first | refine a_seq ?_ | refine a_region ?_ | refine a_block ?_ | refine a_scope ?_) | ((with_reducible apply op_any); (iterate 2 (focus (first | (simp only [go_sem, Nat.reduceEqDiff, Nat.reduceAdd, Nat.reduceSub, Nat.reduceLeDiff, Nat.reduceMul, Nat.reduceBEq, Nat.reduceLT, Int.reduceToNat, reduceCtorEq, hdg, hr3, hg3, hdp, hbn, putL_one_int, hwj]; first | done | exact rfl | (and_intros <;> rfl)) | exact rfl | decide)))) | ((with_reducible refine o_nil ?_); dsimp only; try ((with_reducible apply o_draw); (focus (simp only [go_sem]; exact rfl)); (focus decide))) | ((with_reducible first | refine a_ret ?_ | refine a_skip ?_ | refine a_label ?_); dsimp only) | ((with_reducible refine a_exit ?_); dsimp only; simp only [if_true, if_false, Nat.reduceEqDiff]) | ((with_reducible apply a_if); (focus (simp only [go_sem, Nat.reduceBEq, Nat.reduceLT, hdg, hr3, hg3, hdp, hbn, putL_one_int, hwj]; exact rfl)); dsimp only [cond_true, cond_false]) | ((with_reducible refine a_draw ?_ ?_); (focus exact rfl))))
                refine ⟨(j + 1, cur.set m H), by dsimp only; omega, ⟨by dsimp only; omega, hJ.set hHb, hkm, hLj⟩, ?_⟩
                (apply (Says.of [((99, 0), (99, 0))] []); (iterate 2 ((focus (simp only [go_sem, Nat.reduceEqDiff, Nat.reduceAdd, Nat.reduceSub, Nat.reduceLeDiff, Nat.reduceMul, Nat.reduceBEq, Nat.reduceLT, Int.reduceToNat, reduceCtorEq, List.map_set, intCs]; try (and_intros <;> rfl))); (focus exact rfl))); (iterate 4 (focus (simp [go_sem, List.map_set, intCs]; done))))
            · rw [if_neg (by rintro (h | ⟨h, _⟩); exact hge h; exact hpos h)] at hLj
              have hdp : decide (cur.getD m 0 ≥ 0) = false := by simpa using hpos
              refine wRUN (j7 hdj hr2 hg2 hr4 hg4 w1 w2) ?_
              refine w7 (op_data [] hsz) trivial ?_
              (repeat (first | (with_reducible first | refine a_seq ?_ | refine a_region ?_ | refine a_block ?_ | refine a_scope ?_) | ((with_reducible apply op_any); (iterate 2 (focus (first | (simp only [go_sem, Nat.reduceEqDiff, Nat.reduceAdd, Nat.reduceSub, Nat.reduceLeDiff, Nat.reduceMul, Nat.reduceBEq, Nat.reduceLT, Int.reduceToNat, reduceCtorEq, hdg, hr3, hg3, hdp, putL_one_int, hwj]; first | done | exact rfl | (and_intros <;> rfl)) | exact rfl | decide)))) | ((with_reducible refine o_nil ?_); dsimp only; try ((with_reducible apply o_draw); (focus (simp only [go_sem]; exact rfl)); (focus decide))) | ((with_reducible first | refine a_ret ?_ | refine a_skip ?_ | refine a_label ?_); dsimp only) | ((with_reducible refine a_exit ?_); dsimp only; simp only [if_true, if_false, Nat.reduceEqDiff]) | ((with_reducible apply a_if); (focus (simp only [go_sem, Nat.reduceBEq, Nat.reduceLT, hdg, hr3, hg3, hdp, putL_one_int, hwj]; exact rfl)); dsimp only [cond_true, cond_false]) | ((with_reducible refine a_draw ?_ ?_); (focus exact rfl))))
              refine ⟨(j + 1, cur.set m H), by dsimp only; omega, ⟨by dsimp only; omega, hJ.set hHb, hkm, hLj⟩, ?_⟩
              (apply (Says.of [((99, 0), (99, 0))] []); (iterate 2 ((focus (simp only [go_sem, Nat.reduceEqDiff, Nat.reduceAdd, Nat.reduceSub, Nat.reduceLeDiff, Nat.reduceMul, Nat.reduceBEq, Nat.reduceLT, Int.reduceToNat, reduceCtorEq, List.map_set, intCs]; try (and_intros <;> rfl))); (focus exact rfl))); (iterate 4 (focus (simp [go_sem, List.map_set, intCs]; done))))
        · have hdj : decide ((j : Int) < (nx.length : Int)) = false := by simpa using hjl
          rw [List.drop_eq_nil_of_le (by omega)] at hLj
          simp only [layAll] at hLj
          rw [← hLj] at hRk
          refine wRUN (j2 hdj hw) ?_
          refine ⟨(k + 1, cur), by dsimp only; omega, ⟨by dsimp only; omega, hJ.up (by dsimp only; omega), hRk⟩, ?_⟩
          exact wSays (Says.of [((99, 0), (99, 0))] []) hw
    · have hdk : decide ((k : Int) < (l.length : Int)) = false := by simpa using hlt
      rw [List.drop_eq_nil_of_le (by omega)] at hRk
      rw [hRk] at hres ⊢
      simp only [hGo] at hres ⊢
      refine wRUN hdk ?_
      exact wRetOf (ret_of [((0, 0), (99, 0))] []) Tryz.results127 hol
end Go.Proofs.YtfmnoljflcpbgaaGreatDoor
