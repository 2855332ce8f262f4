/- spec.l8Heights, by the engine. -/
import Derived.Test.YtfmnoljflcpbgaaGreatDoorKG37
import Derived.Test.YtfmnoljflcpbgaaGreatDoorKM14
set_option linter.unusedSimpArgs false
set_option linter.unusedVariables false
set_option linter.unnecessarySimpa false
namespace Go.Proofs.YtfmnoljflcpbgaaGreatDoor
open Go.RowKit
set_option maxRecDepth 10000
theorem ints_rows {out : List Int} {m : Nat} (h : m < out.length) : rowsAt (out.map intCs) 1 m = true := by simp [rowsAt, h, intCs]
theorem ints_get {out : List Int} {m : Nat} (h : m < out.length) : (out.map intCs)[m]? = some [.int .i64 (out.getD m 0)] := by
  rw [List.getD_eq_getElem?_getD, List.getElem?_eq_getElem h, Option.getD_some]
  simp [h, intCs]
theorem ints_set (out : List Int) (m : Nat) (x : Int) : (out.map intCs).set m [.int .i64 x] = (out.set m x).map intCs := by rw [List.map_set]; rfl
theorem putL_one_int (x y : Int) : putL [C.int .i64 x] 0 [.int .i64 y] = [.int .i64 y] := rfl
theorem ins_row {l : List InD} {k : Nat} (h : k < l.length) : rowsAt (l.map InD.cs) 3 k = true ∧ (l.map InD.cs)[k]? = some [.int .i64 l[k].op, .int .i64 l[k].arg, .sl (l[k].val.map CellD.cs)] := ⟨by simp [rowsAt, h, InD.cs], by simp [h, InD.cs]⟩
theorem closed_nums (l : List Int) : closedLL (l.map intCs) = true := by
  induction l with
  | nil => rfl
  | cons x l ih => simp only [List.map_cons, closedLL, ih, Bool.and_true]; rfl
attribute [go_sem] closed_nums
def fillR (n k : Nat) : List Int := List.replicate k (-1 : Int) ++ List.replicate (n - k) 0
theorem fillR_len {n k : Nat} (h : k ≤ n) : (fillR n k).length = n := by simp [fillR]; omega
theorem fillR_zero (n : Nat) : (fillR n 0).map intCs = List.replicate n [C.int .i64 0] := by simp [fillR, intCs]
theorem fillR_full (n : Nat) : fillR n n = List.replicate n (-1) := by simp [fillR]
theorem fillR_set {n k : Nat} (h : k < n) : (fillR n k).set k (-1) = fillR n (k + 1) := by
  unfold fillR
  have : n - k = (n - (k + 1)) + 1 := by omega
  rw [this, List.replicate_succ, List.set_append_right _ _ (by simp), List.length_replicate, Nat.sub_self, List.set_cons_zero, List.replicate_succ', List.append_assoc]
  rfl
set_option maxHeartbeats 8000000 in
theorem l8Heights_ac (l : List InD) (hn : 1 ≤ l.length ∧ l.length ≤ 6000) (hj : jumpsOn l) : AC Tryz.prog 123 [insA l] [] (.tup [.own (0, 0), .c (.int .i64 (heightsOf l).2)]) [((0, 0), .row false 1 2 ((heightsOf l).1.map intCs))] := by
  have hln : (l.map InD.cs).length = l.length := by simp
  have h2 : (0 : Int) ≤ (l.length : Int) := by omega
  have h3 : (l.length : Int) ≤ 2000000 := by omega
  have hz := fillR_zero l.length
  obtain ⟨R, hR⟩ : ∃ R, R = heightsOf l := ⟨_, rfl⟩
  rw [← hR]
  refine wEnter Tryz.func123 Tryz.ntmps123 ?_
  refine wRUN (j3 hln h2 h3) ?_
  refine a_loop (κ := Nat) (fun k => ⟨mkS 0 132 [(0, insA l), (4, .own (99, 0)), (5, .c (.int .i64 k))], [((99, 0), .row false 1 2 ((fillR l.length k).map intCs))]⟩)
    (fun k => k ≤ l.length) (fun k => l.length - k) 0 (Nat.zero_le _) ?_ ?_
  · exact wSays (Says.of [((99, 0), (15, 0))] []) hz
  · intro k hk
    have hll : ((fillR l.length k).map intCs).length = l.length := by rw [List.length_map]; exact fillR_len hk
    by_cases hlt : k < l.length
    · have hdk : decide ((k : Int) < (l.length : Int)) = true := by simpa using hlt
      have hw := wrap_succ (k := k) (by omega)
      have hr := ints_rows (out := fillR l.length k) (m := k) (by rw [fillR_len hk]; exact hlt)
      have hg := ints_get (out := fillR l.length k) (m := k) (by rw [fillR_len hk]; exact hlt)
      have hs := ints_set (fillR l.length k) k (-1)
      rw [fillR_set hlt] at hs
      (repeat (first | (with_reducible first | refine a_seq ?_ | refine a_region ?_ | refine a_block ?_ | refine a_scope ?_) | ((with_reducible apply op_any); (iterate 2 (focus (first | (simp only [go_sem, Nat.reduceEqDiff, Nat.reduceAdd, Nat.reduceSub, Nat.reduceLeDiff, Nat.reduceMul, Nat.reduceBEq, Nat.reduceLT, Int.reduceToNat, reduceCtorEq, hll, hdk, hr, hg, putL_one_int, hw]; first | done | exact rfl | (and_intros <;> rfl)) | exact rfl | decide)))) | ((with_reducible refine o_nil ?_); dsimp only; try ((with_reducible apply o_draw); (focus (simp only [go_sem]; exact rfl)); (focus decide))) | ((with_reducible first | refine a_ret ?_ | refine a_skip ?_ | refine a_label ?_); dsimp only) | ((with_reducible refine a_exit ?_); dsimp only; simp only [if_true, if_false, Nat.reduceEqDiff]) | ((with_reducible apply a_if); (focus (simp only [go_sem, Nat.reduceBEq, Nat.reduceLT, hll, hdk, hr, hg, putL_one_int, hw]; exact rfl)); dsimp only [cond_true, cond_false]) | ((with_reducible refine a_draw ?_ ?_); (focus exact rfl))))
      refine ⟨k + 1, by omega, by omega, ?_⟩
      exact wSays (Says.of [((99, 0), (99, 0))] []) hs
    · have hdk : decide ((k : Int) < (l.length : Int)) = false := by simpa using hlt
      have hke : k = l.length := by omega
      subst hke
      rw [fillR_full] at hll ⊢
      have hr := ints_rows (out := List.replicate l.length (-1 : Int)) (m := 0) (by simp; omega)
      have hg := ints_get (out := List.replicate l.length (-1 : Int)) (m := 0) (by simp; omega)
      have hs := ints_set (List.replicate l.length (-1 : Int)) 0 1
      have hst : (List.replicate l.length (-1 : Int)).set 0 1 = startH l.length := rfl
      rw [hst] at hs
      have hcz : ((0 : Nat) : Int) = 0 := rfl
      rw [hcz] at hr
      generalize List.replicate l.length (-1 : Int) = o1 at *
      (repeat (first | (with_reducible first | refine a_seq ?_ | refine a_region ?_ | refine a_block ?_ | refine a_scope ?_) | ((with_reducible apply op_any); (iterate 2 (focus (first | (simp only [go_sem, Nat.reduceEqDiff, Nat.reduceAdd, Nat.reduceSub, Nat.reduceLeDiff, Nat.reduceMul, Nat.reduceBEq, Nat.reduceLT, Int.reduceToNat, reduceCtorEq, hll, hdk, hr, hg, putL_one_int]; first | done | exact rfl | (and_intros <;> rfl)) | exact rfl | decide)))) | ((with_reducible refine o_nil ?_); dsimp only; try ((with_reducible apply o_draw); (focus (simp only [go_sem]; exact rfl)); (focus decide))) | ((with_reducible first | refine a_ret ?_ | refine a_skip ?_ | refine a_label ?_); dsimp only) | ((with_reducible refine a_exit ?_); dsimp only; simp only [if_true, if_false, Nat.reduceEqDiff]) | ((with_reducible apply a_if); (focus (simp only [go_sem, Nat.reduceBEq, Nat.reduceLT, hll, hdk, hr, hg, putL_one_int]; exact rfl)); dsimp only [cond_true, cond_false]) | ((with_reducible refine a_draw ?_ ?_); (focus exact rfl))))
      refine a_loop (κ := Nat × List Int) (fun x => ⟨mkS 0 132 [(0, insA l), (4, .own (99, 0)), (6, .c (.int .i64 x.1))], [((99, 0), .row false 1 2 (x.2.map intCs))]⟩)
        (fun x => x.1 ≤ l.length ∧ HInv l.length ((x.1 : Int) + 1) x.2 ∧ R = hGo l.length x.1 (l.drop x.1) x.2) (fun x => l.length - x.1) (0, startH l.length) ⟨Nat.zero_le _, startH_inv _, hR⟩ ?_ ?_
      · exact wSays (Says.of [((99, 0), (99, 0))] []) hs
      · rintro ⟨k, out⟩ ⟨hk2, hI, hRk⟩
        dsimp only at hk2 hI hRk ⊢
        have hol : (out.map intCs).length = l.length := by rw [List.length_map]; exact hI.1
        by_cases hlt : k < l.length
        · have hdk : decide ((k : Int) < (l.length : Int)) = true := by simpa using hlt
          have hw := wrap_succ (k := k) (by omega)
          obtain ⟨hr0, hg0⟩ := ins_row hlt
          have hr1 := ints_rows (out := out) (m := k) (by rw [hI.1]; exact hlt)
          have hg1 := ints_get (out := out) (m := k) (by rw [hI.1]; exact hlt)
          have hb := hI.get (by omega) k
          obtain ⟨ho1, ho2, _⟩ := hj k hlt
          have hmv := l8Moves_ac l[k].op ho1 ho2
          have hjp := l8Jumps_ac l[k].op
          obtain ⟨t1, t2, t3, t4, t5⟩ := takes_lays l[k].op
          have hnx := nexts_on hj hlt
          rw [hGo_drop _ l hlt] at hRk
          generalize l[k] = d at *
          by_cases hneg : out.getD k 0 < 0
          · rw [if_pos hneg] at hRk
            have hdn : decide (out.getD k 0 < 0) = true := by simpa using hneg
            refine wRUN (j8 hln hdk hr0 hg0 hr1 hg1 hdn hw) ?_
            refine ⟨(k + 1, out), by dsimp only; omega, ⟨by dsimp only; omega, hI.up (by dsimp only; omega), hRk⟩, ?_⟩
            exact wSays (Says.of [((99, 0), (99, 0))] []) hw
          rw [if_neg hneg] at hRk
          have hdn : decide (out.getD k 0 < 0) = false := by simpa using hneg
          by_cases hlow : out.getD k 0 < takesOf d.op
          · rw [if_pos hlow] at hRk
            have hdl : decide (out.getD k 0 < takesOf d.op) = true := by simpa using hlow
            rw [hRk]
            refine wRUN (j7 hln hdk hr0 hg0 hr1 hg1 hdn) ?_
            refine w7 (op_data [] hmv) trivial ?_
            refine wRUN (j3 hr1 hg1 hdl) ?_
            exact wRetOf (ret_of [((0, 0), (99, 0))] []) Tryz.results123 hw
          rw [if_neg hlow] at hRk
          have hdl : decide (out.getD k 0 < takesOf d.op) = false := by simpa using hlow
          have w1 : IntKind.i64.wrap (out.getD k 0 - takesOf d.op) = out.getD k 0 - takesOf d.op := IntWalk.i64_in _ (by omega)
          obtain ⟨H, hH⟩ : ∃ H, H = out.getD k 0 - takesOf d.op + laysOf d.op := ⟨_, rfl⟩
          have w2 : IntKind.i64.wrap (out.getD k 0 - takesOf d.op + laysOf d.op) = H := by rw [hH]; exact IntWalk.i64_in _ (by omega)
          have hHb : -1 ≤ H ∧ H ≤ ((k : Int) + 1) + 1 := by omega
          rw [← hH] at hRk
          obtain ⟨nx, hnxe⟩ : ∃ nx, nexts d k = nx := ⟨_, rfl⟩
          rw [hnxe] at hRk hnx
          have hnl := nexts_len d k
          rw [hnxe] at hnl
          by_cases h15 : d.op = 15 ∨ d.op = 19
          · have hn0 : nx = [] := by rw [← hnxe]; unfold nexts; rw [if_pos h15]
            subst hn0
            simp only [layAll] at hRk
            cases h1 : (d.op == 15) <;> cases h2 : (d.op == 19)
            · exfalso
              rcases h15 with h | h
              · simp [h] at h1
              · simp [h] at h2
            all_goals
              refine wRUN (j7 hln hdk hr0 hg0 hr1 hg1 hdn) ?_
              refine w7 (op_data [] hmv) trivial ?_
              refine wRUN (j6 hr1 hg1 hdl h1 h2 hw) ?_
              refine ⟨(k + 1, out), by dsimp only; omega, ⟨by dsimp only; omega, hI.up (by dsimp only; omega), hRk⟩, ?_⟩
              exact wSays (Says.of [((99, 0), (99, 0))] []) hw
          have hb15 : (d.op == 15) = false := by
            cases hh : (d.op == 15)
            · rfl
            · exact absurd (.inl (by simpa using hh)) h15
          have hb19 : (d.op == 19) = false := by
            cases hh : (d.op == 19)
            · rfl
            · exact absurd (.inr (by simpa using hh)) h15
          have hni : HInv l.length ((k : Int) + 1 + 1) out := hI.up (by omega)
          obtain ⟨L, hL⟩ : ∃ L, layAll l.length H nx out = L := ⟨_, rfl⟩
          rw [hL] at hRk
          have ways : (d.op = 10 ∧ nx = [d.arg]) ∨ (d.op ≠ 10 ∧ inPlace d.op = true ∧ nx = [(k : Int) + 1, d.arg]) ∨ (d.op ≠ 10 ∧ inPlace d.op = false ∧ nx = [(k : Int) + 1]) := by
            rw [← hnxe]
            unfold nexts
            rw [if_neg h15]
            by_cases h10 : d.op = 10
            · rw [if_pos h10]; exact .inl ⟨h10, rfl⟩
            · rw [if_neg h10]
              cases hp : inPlace d.op
              · exact .inr (.inr ⟨h10, rfl, by simp⟩)
              · exact .inr (.inl ⟨h10, rfl, by simp⟩)
          have wk : IntKind.i64.wrap ((k : Int) + 1) = (k : Int) + 1 := IntWalk.i64_in _ (by omega)
          rcases ways with ⟨h10, hnx'⟩ | ⟨h10, hp, hnx'⟩ | ⟨h10, hp, hnx'⟩
          · have hb10 : (d.op != 10) = false := by simpa using h10
            have hp : inPlace d.op = true := by rw [h10]; rfl
            rw [hp] at hjp
            refine wRUN (j7 hln hdk hr0 hg0 hr1 hg1 hdn) ?_
            refine w7 (op_data [] hmv) trivial ?_
            refine wRUN (j8 hr1 hg1 hdl hb15 hb19 w1 w2 hb10) ?_
            refine w7 (op_data [] hjp) trivial ?_
            refine wRUN (j2 hr0 hg0) ?_
            refine a_loop (κ := Nat × List Int) (fun x => ⟨mkS 0 132 [(0, insA l), (4, .own (99, 0)), (6, .c (.int .i64 k)), (10, .c (.int .i64 H)), (11, .own (98, 0)), (12, .c (.int .i64 x.1))], [((99, 0), .row false 1 2 (x.2.map intCs)), ((98, 0), .row false 1 2 (nx.map intCs))]⟩)
              (fun x => x.1 ≤ nx.length ∧ HInv l.length ((k : Int) + 1 + 1) x.2 ∧ layAll l.length H (nx.drop x.1) x.2 = L) (fun x => nx.length - x.1) (0, out) ⟨Nat.zero_le _, hni, hL⟩ ?_ ?_
            · (apply (Says.of [((99, 0), (99, 0)), ((98, 0), (87, 0))] []); (iterate 2 ((focus (simp only [go_sem, Nat.reduceEqDiff, Nat.reduceAdd, Nat.reduceSub, Nat.reduceLeDiff, Nat.reduceMul, Nat.reduceBEq, Nat.reduceLT, Int.reduceToNat, reduceCtorEq, hnx', intCs]; try (and_intros <;> rfl))); (focus exact rfl))); (iterate 4 (focus (simp [go_sem, hnx', intCs]; done))))
            · rintro ⟨j, cur⟩ ⟨hj2, hJ, hLj⟩
              dsimp only at hj2 hJ hLj ⊢
              have hnn : (nx.map intCs).length = nx.length := by simp
              by_cases hjl : j < nx.length
              · have hdj : decide ((j : Int) < (nx.length : Int)) = true := by simpa using hjl
                have hwj := wrap_succ (k := j) (by omega)
                have hr2 := ints_rows (out := nx) (m := j) hjl
                have hg2 : (nx.map intCs)[j]? = some [.int .i64 nx[j]] := by simp [hjl, intCs]
                obtain ⟨ht1, ht2⟩ := hnx _ (List.getElem_mem hjl)
                rw [layAll_drop _ _ _ hjl] at hLj
                obtain ⟨m, hm⟩ : ∃ m : Nat, nx[j] = (m : Int) := ⟨nx[j].toNat, by omega⟩
                rw [hm] at hg2 ht1 ht2 hLj
                rw [Int.toNat_natCast] at hLj
                by_cases hge : (l.length : Int) ≤ (m : Int)
                · rw [if_pos (.inl hge)] at hLj
                  have hdg : decide ((m : Int) ≥ (l.length : Int)) = true := by simpa using hge
                  rw [← hLj] at hRk
                  rw [hRk]
                  refine wRUN (j6 hln hnn hdj hr2 hg2 hdg) ?_
                  exact wRetOf (ret_of [((0, 0), (99, 0))] []) Tryz.results123 hw
                · have hdg : decide ((m : Int) ≥ (l.length : Int)) = false := by simpa using hge
                  have hr3 := ints_rows (out := cur) (m := m) (by rw [hJ.1]; omega)
                  have hg3 := ints_get (out := cur) (m := m) (by rw [hJ.1]; omega)
                  have hs3 := ints_set cur m H
                  by_cases hpos : 0 ≤ cur.getD m 0
                  · have hdp : decide (cur.getD m 0 ≥ 0) = true := by simpa using hpos
                    by_cases hne : cur.getD m 0 ≠ H
                    · rw [if_pos (.inr ⟨hpos, hne⟩)] at hLj
                      have hbn : (cur.getD m 0 != H) = true := by simpa using hne
                      rw [← hLj] at hRk
                      rw [hRk]
                      refine wRUN (j10 hln hnn hdj hr2 hg2 hdg hr3 hg3 hdp hbn) ?_
                      exact wRetOf (ret_of [((0, 0), (99, 0))] []) Tryz.results123 hw
                    · rw [if_neg (by rintro (h | ⟨_, h⟩); exact hge h; exact hne h)] at hLj
                      have hbn : (cur.getD m 0 != H) = false := by simpa using hne
                      (repeat (first | (with_reducible first | refine a_seq ?_ | refine a_region ?_ | refine a_block ?_ | refine a_scope ?_) | ((with_reducible apply op_any); (iterate 2 (focus (first | (simp only [go_sem, Nat.reduceEqDiff, Nat.reduceAdd, Nat.reduceSub, Nat.reduceLeDiff, Nat.reduceMul, Nat.reduceBEq, Nat.reduceLT, Int.reduceToNat, reduceCtorEq, hln, hnn, hdj, hr2, hg2, hdg, hr3, hg3, hdp, hbn, putL_one_int, hwj]; first | done | exact rfl | (and_intros <;> rfl)) | exact rfl | decide)))) | ((with_reducible refine o_nil ?_); dsimp only; try ((with_reducible apply o_draw); (focus (simp only [go_sem]; exact rfl)); (focus decide))) | ((with_reducible first | refine a_ret ?_ | refine a_skip ?_ | refine a_label ?_); dsimp only) | ((with_reducible refine a_exit ?_); dsimp only; simp only [if_true, if_false, Nat.reduceEqDiff]) | ((with_reducible apply a_if); (focus (simp only [go_sem, Nat.reduceBEq, Nat.reduceLT, hln, hnn, hdj, hr2, hg2, hdg, hr3, hg3, hdp, hbn, putL_one_int, hwj]; exact rfl)); dsimp only [cond_true, cond_false]) | ((with_reducible refine a_draw ?_ ?_); (focus exact rfl))))
                      refine ⟨(j + 1, cur.set m H), by dsimp only; omega, ⟨by dsimp only; omega, hJ.set hHb, hLj⟩, ?_⟩
                      (apply (Says.of [((99, 0), (99, 0)), ((98, 0), (98, 0))] []); (iterate 2 ((focus (simp only [go_sem, Nat.reduceEqDiff, Nat.reduceAdd, Nat.reduceSub, Nat.reduceLeDiff, Nat.reduceMul, Nat.reduceBEq, Nat.reduceLT, Int.reduceToNat, reduceCtorEq, List.map_set, intCs]; try (and_intros <;> rfl))); (focus exact rfl))); (iterate 4 (focus (simp [go_sem, List.map_set, intCs]; done))))
                  · rw [if_neg (by rintro (h | ⟨h, _⟩); exact hge h; exact hpos h)] at hLj
                    have hdp : decide (cur.getD m 0 ≥ 0) = false := by simpa using hpos
                    (repeat (first | (with_reducible first | refine a_seq ?_ | refine a_region ?_ | refine a_block ?_ | refine a_scope ?_) | ((with_reducible apply op_any); (iterate 2 (focus (first | (simp only [go_sem, Nat.reduceEqDiff, Nat.reduceAdd, Nat.reduceSub, Nat.reduceLeDiff, Nat.reduceMul, Nat.reduceBEq, Nat.reduceLT, Int.reduceToNat, reduceCtorEq, hln, hnn, hdj, hr2, hg2, hdg, hr3, hg3, hdp, putL_one_int, hwj]; first | done | exact rfl | (and_intros <;> rfl)) | exact rfl | decide)))) | ((with_reducible refine o_nil ?_); dsimp only; try ((with_reducible apply o_draw); (focus (simp only [go_sem]; exact rfl)); (focus decide))) | ((with_reducible first | refine a_ret ?_ | refine a_skip ?_ | refine a_label ?_); dsimp only) | ((with_reducible refine a_exit ?_); dsimp only; simp only [if_true, if_false, Nat.reduceEqDiff]) | ((with_reducible apply a_if); (focus (simp only [go_sem, Nat.reduceBEq, Nat.reduceLT, hln, hnn, hdj, hr2, hg2, hdg, hr3, hg3, hdp, putL_one_int, hwj]; exact rfl)); dsimp only [cond_true, cond_false]) | ((with_reducible refine a_draw ?_ ?_); (focus exact rfl))))
                    refine ⟨(j + 1, cur.set m H), by dsimp only; omega, ⟨by dsimp only; omega, hJ.set hHb, hLj⟩, ?_⟩
                    (apply (Says.of [((99, 0), (99, 0)), ((98, 0), (98, 0))] []); (iterate 2 ((focus (simp only [go_sem, Nat.reduceEqDiff, Nat.reduceAdd, Nat.reduceSub, Nat.reduceLeDiff, Nat.reduceMul, Nat.reduceBEq, Nat.reduceLT, Int.reduceToNat, reduceCtorEq, List.map_set, intCs]; try (and_intros <;> rfl))); (focus exact rfl))); (iterate 4 (focus (simp [go_sem, List.map_set, intCs]; done))))
              · have hdj : decide ((j : Int) < (nx.length : Int)) = false := by simpa using hjl
                rw [List.drop_eq_nil_of_le (by omega)] at hLj
                simp only [layAll] at hLj
                rw [← hLj] at hRk
                refine wRUN (j3 hnn hdj hw) ?_
                refine ⟨(k + 1, cur), by dsimp only; omega, ⟨by dsimp only; omega, hJ.up (by dsimp only; omega), hRk⟩, ?_⟩
                exact wSays (Says.of [((99, 0), (99, 0))] []) hw
          · have hb10 : (d.op != 10) = true := by simpa using h10
            rw [hp] at hjp
            refine wRUN (j7 hln hdk hr0 hg0 hr1 hg1 hdn) ?_
            refine w7 (op_data [] hmv) trivial ?_
            refine wRUN (j9 hr1 hg1 hdl hb15 hb19 w1 w2 hb10 wk) ?_
            refine w7 (op_data [] hjp) trivial ?_
            refine wRUN (j2 hr0 hg0) ?_
            refine a_loop (κ := Nat × List Int) (fun x => ⟨mkS 0 132 [(0, insA l), (4, .own (99, 0)), (6, .c (.int .i64 k)), (10, .c (.int .i64 H)), (11, .own (98, 0)), (12, .c (.int .i64 x.1))], [((99, 0), .row false 1 2 (x.2.map intCs)), ((98, 0), .row false 1 2 (nx.map intCs))]⟩)
              (fun x => x.1 ≤ nx.length ∧ HInv l.length ((k : Int) + 1 + 1) x.2 ∧ layAll l.length H (nx.drop x.1) x.2 = L) (fun x => nx.length - x.1) (0, out) ⟨Nat.zero_le _, hni, hL⟩ ?_ ?_
            · (apply (Says.of [((99, 0), (99, 0)), ((98, 0), (87, 0))] []); (iterate 2 ((focus (simp only [go_sem, Nat.reduceEqDiff, Nat.reduceAdd, Nat.reduceSub, Nat.reduceLeDiff, Nat.reduceMul, Nat.reduceBEq, Nat.reduceLT, Int.reduceToNat, reduceCtorEq, hnx', intCs]; try (and_intros <;> rfl))); (focus exact rfl))); (iterate 4 (focus (simp [go_sem, hnx', intCs]; done))))
            · rintro ⟨j, cur⟩ ⟨hj2, hJ, hLj⟩
              dsimp only at hj2 hJ hLj ⊢
              have hnn : (nx.map intCs).length = nx.length := by simp
              by_cases hjl : j < nx.length
              · have hdj : decide ((j : Int) < (nx.length : Int)) = true := by simpa using hjl
                have hwj := wrap_succ (k := j) (by omega)
                have hr2 := ints_rows (out := nx) (m := j) hjl
                have hg2 : (nx.map intCs)[j]? = some [.int .i64 nx[j]] := by simp [hjl, intCs]
                obtain ⟨ht1, ht2⟩ := hnx _ (List.getElem_mem hjl)
                rw [layAll_drop _ _ _ hjl] at hLj
                obtain ⟨m, hm⟩ : ∃ m : Nat, nx[j] = (m : Int) := ⟨nx[j].toNat, by omega⟩
                rw [hm] at hg2 ht1 ht2 hLj
                rw [Int.toNat_natCast] at hLj
                by_cases hge : (l.length : Int) ≤ (m : Int)
                · rw [if_pos (.inl hge)] at hLj
                  have hdg : decide ((m : Int) ≥ (l.length : Int)) = true := by simpa using hge
                  rw [← hLj] at hRk
                  rw [hRk]
                  refine wRUN (j6 hln hnn hdj hr2 hg2 hdg) ?_
                  exact wRetOf (ret_of [((0, 0), (99, 0))] []) Tryz.results123 hw
                · have hdg : decide ((m : Int) ≥ (l.length : Int)) = false := by simpa using hge
                  have hr3 := ints_rows (out := cur) (m := m) (by rw [hJ.1]; omega)
                  have hg3 := ints_get (out := cur) (m := m) (by rw [hJ.1]; omega)
                  have hs3 := ints_set cur m H
                  by_cases hpos : 0 ≤ cur.getD m 0
                  · have hdp : decide (cur.getD m 0 ≥ 0) = true := by simpa using hpos
                    by_cases hne : cur.getD m 0 ≠ H
                    · rw [if_pos (.inr ⟨hpos, hne⟩)] at hLj
                      have hbn : (cur.getD m 0 != H) = true := by simpa using hne
                      rw [← hLj] at hRk
                      rw [hRk]
                      refine wRUN (j10 hln hnn hdj hr2 hg2 hdg hr3 hg3 hdp hbn) ?_
                      exact wRetOf (ret_of [((0, 0), (99, 0))] []) Tryz.results123 hw
                    · rw [if_neg (by rintro (h | ⟨_, h⟩); exact hge h; exact hne h)] at hLj
                      have hbn : (cur.getD m 0 != H) = false := by simpa using hne
                      (repeat (first | (with_reducible first | refine a_seq ?_ | refine a_region ?_ | refine a_block ?_ | refine a_scope ?_) | ((with_reducible apply op_any); (iterate 2 (focus (first | (simp only [go_sem, Nat.reduceEqDiff, Nat.reduceAdd, Nat.reduceSub, Nat.reduceLeDiff, Nat.reduceMul, Nat.reduceBEq, Nat.reduceLT, Int.reduceToNat, reduceCtorEq, hln, hnn, hdj, hr2, hg2, hdg, hr3, hg3, hdp, hbn, putL_one_int, hwj]; first | done | exact rfl | (and_intros <;> rfl)) | exact rfl | decide)))) | ((with_reducible refine o_nil ?_); dsimp only; try ((with_reducible apply o_draw); (focus (simp only [go_sem]; exact rfl)); (focus decide))) | ((with_reducible first | refine a_ret ?_ | refine a_skip ?_ | refine a_label ?_); dsimp only) | ((with_reducible refine a_exit ?_); dsimp only; simp only [if_true, if_false, Nat.reduceEqDiff]) | ((with_reducible apply a_if); (focus (simp only [go_sem, Nat.reduceBEq, Nat.reduceLT, hln, hnn, hdj, hr2, hg2, hdg, hr3, hg3, hdp, hbn, putL_one_int, hwj]; exact rfl)); dsimp only [cond_true, cond_false]) | ((with_reducible refine a_draw ?_ ?_); (focus exact rfl))))
                      refine ⟨(j + 1, cur.set m H), by dsimp only; omega, ⟨by dsimp only; omega, hJ.set hHb, hLj⟩, ?_⟩
                      (apply (Says.of [((99, 0), (99, 0)), ((98, 0), (98, 0))] []); (iterate 2 ((focus (simp only [go_sem, Nat.reduceEqDiff, Nat.reduceAdd, Nat.reduceSub, Nat.reduceLeDiff, Nat.reduceMul, Nat.reduceBEq, Nat.reduceLT, Int.reduceToNat, reduceCtorEq, List.map_set, intCs]; try (and_intros <;> rfl))); (focus exact rfl))); (iterate 4 (focus (simp [go_sem, List.map_set, intCs]; done))))
                  · rw [if_neg (by rintro (h | ⟨h, _⟩); exact hge h; exact hpos h)] at hLj
                    have hdp : decide (cur.getD m 0 ≥ 0) = false := by simpa using hpos
                    (repeat (first | (with_reducible first | refine a_seq ?_ | refine a_region ?_ | refine a_block ?_ | refine a_scope ?_) | ((with_reducible apply op_any); (iterate 2 (focus (first | (simp only [go_sem, Nat.reduceEqDiff, Nat.reduceAdd, Nat.reduceSub, Nat.reduceLeDiff, Nat.reduceMul, Nat.reduceBEq, Nat.reduceLT, Int.reduceToNat, reduceCtorEq, hln, hnn, hdj, hr2, hg2, hdg, hr3, hg3, hdp, putL_one_int, hwj]; first | done | exact rfl | (and_intros <;> rfl)) | exact rfl | decide)))) | ((with_reducible refine o_nil ?_); dsimp only; try ((with_reducible apply o_draw); (focus (simp only [go_sem]; exact rfl)); (focus decide))) | ((with_reducible first | refine a_ret ?_ | refine a_skip ?_ | refine a_label ?_); dsimp only) | ((with_reducible refine a_exit ?_); dsimp only; simp only [if_true, if_false, Nat.reduceEqDiff]) | ((with_reducible apply a_if); (focus (simp only [go_sem, Nat.reduceBEq, Nat.reduceLT, hln, hnn, hdj, hr2, hg2, hdg, hr3, hg3, hdp, putL_one_int, hwj]; exact rfl)); dsimp only [cond_true, cond_false]) | ((with_reducible refine a_draw ?_ ?_); (focus exact rfl))))
                    refine ⟨(j + 1, cur.set m H), by dsimp only; omega, ⟨by dsimp only; omega, hJ.set hHb, hLj⟩, ?_⟩
                    (apply (Says.of [((99, 0), (99, 0)), ((98, 0), (98, 0))] []); (iterate 2 ((focus (simp only [go_sem, Nat.reduceEqDiff, Nat.reduceAdd, Nat.reduceSub, Nat.reduceLeDiff, Nat.reduceMul, Nat.reduceBEq, Nat.reduceLT, Int.reduceToNat, reduceCtorEq, List.map_set, intCs]; try (and_intros <;> rfl))); (focus exact rfl))); (iterate 4 (focus (simp [go_sem, List.map_set, intCs]; done))))
              · have hdj : decide ((j : Int) < (nx.length : Int)) = false := by simpa using hjl
                rw [List.drop_eq_nil_of_le (by omega)] at hLj
                simp only [layAll] at hLj
                rw [← hLj] at hRk
                refine wRUN (j3 hnn hdj hw) ?_
                refine ⟨(k + 1, cur), by dsimp only; omega, ⟨by dsimp only; omega, hJ.up (by dsimp only; omega), hRk⟩, ?_⟩
                exact wSays (Says.of [((99, 0), (99, 0))] []) hw
          · have hb10 : (d.op != 10) = true := by simpa using h10
            rw [hp] at hjp
            refine wRUN (j7 hln hdk hr0 hg0 hr1 hg1 hdn) ?_
            refine w7 (op_data [] hmv) trivial ?_
            refine wRUN (j9 hr1 hg1 hdl hb15 hb19 w1 w2 hb10 wk) ?_
            refine w7 (op_data [] hjp) trivial ?_
            refine wRUN (j2 hr0 hg0) ?_
            refine a_loop (κ := Nat × List Int) (fun x => ⟨mkS 0 132 [(0, insA l), (4, .own (99, 0)), (6, .c (.int .i64 k)), (10, .c (.int .i64 H)), (11, .own (98, 0)), (12, .c (.int .i64 x.1))], [((99, 0), .row false 1 2 (x.2.map intCs)), ((98, 0), .row false 1 2 (nx.map intCs))]⟩)
              (fun x => x.1 ≤ nx.length ∧ HInv l.length ((k : Int) + 1 + 1) x.2 ∧ layAll l.length H (nx.drop x.1) x.2 = L) (fun x => nx.length - x.1) (0, out) ⟨Nat.zero_le _, hni, hL⟩ ?_ ?_
            · (apply (Says.of [((99, 0), (99, 0)), ((98, 0), (77, 0))] []); (iterate 2 ((focus (simp only [go_sem, Nat.reduceEqDiff, Nat.reduceAdd, Nat.reduceSub, Nat.reduceLeDiff, Nat.reduceMul, Nat.reduceBEq, Nat.reduceLT, Int.reduceToNat, reduceCtorEq, hnx', intCs]; try (and_intros <;> rfl))); (focus exact rfl))); (iterate 4 (focus (simp [go_sem, hnx', intCs]; done))))
            · rintro ⟨j, cur⟩ ⟨hj2, hJ, hLj⟩
              dsimp only at hj2 hJ hLj ⊢
              have hnn : (nx.map intCs).length = nx.length := by simp
              by_cases hjl : j < nx.length
              · have hdj : decide ((j : Int) < (nx.length : Int)) = true := by simpa using hjl
                have hwj := wrap_succ (k := j) (by omega)
                have hr2 := ints_rows (out := nx) (m := j) hjl
                have hg2 : (nx.map intCs)[j]? = some [.int .i64 nx[j]] := by simp [hjl, intCs]
                obtain ⟨ht1, ht2⟩ := hnx _ (List.getElem_mem hjl)
                rw [layAll_drop _ _ _ hjl] at hLj
                obtain ⟨m, hm⟩ : ∃ m : Nat, nx[j] = (m : Int) := ⟨nx[j].toNat, by omega⟩
                rw [hm] at hg2 ht1 ht2 hLj
                rw [Int.toNat_natCast] at hLj
                by_cases hge : (l.length : Int) ≤ (m : Int)
                · rw [if_pos (.inl hge)] at hLj
                  have hdg : decide ((m : Int) ≥ (l.length : Int)) = true := by simpa using hge
                  rw [← hLj] at hRk
                  rw [hRk]
                  refine wRUN (j6 hln hnn hdj hr2 hg2 hdg) ?_
                  exact wRetOf (ret_of [((0, 0), (99, 0))] []) Tryz.results123 hw
                · have hdg : decide ((m : Int) ≥ (l.length : Int)) = false := by simpa using hge
                  have hr3 := ints_rows (out := cur) (m := m) (by rw [hJ.1]; omega)
                  have hg3 := ints_get (out := cur) (m := m) (by rw [hJ.1]; omega)
                  have hs3 := ints_set cur m H
                  by_cases hpos : 0 ≤ cur.getD m 0
                  · have hdp : decide (cur.getD m 0 ≥ 0) = true := by simpa using hpos
                    by_cases hne : cur.getD m 0 ≠ H
                    · rw [if_pos (.inr ⟨hpos, hne⟩)] at hLj
                      have hbn : (cur.getD m 0 != H) = true := by simpa using hne
                      rw [← hLj] at hRk
                      rw [hRk]
                      refine wRUN (j10 hln hnn hdj hr2 hg2 hdg hr3 hg3 hdp hbn) ?_
                      exact wRetOf (ret_of [((0, 0), (99, 0))] []) Tryz.results123 hw
                    · rw [if_neg (by rintro (h | ⟨_, h⟩); exact hge h; exact hne h)] at hLj
                      have hbn : (cur.getD m 0 != H) = false := by simpa using hne
                      (repeat (first | (with_reducible first | refine a_seq ?_ | refine a_region ?_ | refine a_block ?_ | refine a_scope ?_) | ((with_reducible apply op_any); (iterate 2 (focus (first | (simp only [go_sem, Nat.reduceEqDiff, Nat.reduceAdd, Nat.reduceSub, Nat.reduceLeDiff, Nat.reduceMul, Nat.reduceBEq, Nat.reduceLT, Int.reduceToNat, reduceCtorEq, hln, hnn, hdj, hr2, hg2, hdg, hr3, hg3, hdp, hbn, putL_one_int, hwj]; first | done | exact rfl | (and_intros <;> rfl)) | exact rfl | decide)))) | ((with_reducible refine o_nil ?_); dsimp only; try ((with_reducible apply o_draw); (focus (simp only [go_sem]; exact rfl)); (focus decide))) | ((with_reducible first | refine a_ret ?_ | refine a_skip ?_ | refine a_label ?_); dsimp only) | ((with_reducible refine a_exit ?_); dsimp only; simp only [if_true, if_false, Nat.reduceEqDiff]) | ((with_reducible apply a_if); (focus (simp only [go_sem, Nat.reduceBEq, Nat.reduceLT, hln, hnn, hdj, hr2, hg2, hdg, hr3, hg3, hdp, hbn, putL_one_int, hwj]; exact rfl)); dsimp only [cond_true, cond_false]) | ((with_reducible refine a_draw ?_ ?_); (focus exact rfl))))
                      refine ⟨(j + 1, cur.set m H), by dsimp only; omega, ⟨by dsimp only; omega, hJ.set hHb, hLj⟩, ?_⟩
                      (apply (Says.of [((99, 0), (99, 0)), ((98, 0), (98, 0))] []); (iterate 2 ((focus (simp only [go_sem, Nat.reduceEqDiff, Nat.reduceAdd, Nat.reduceSub, Nat.reduceLeDiff, Nat.reduceMul, Nat.reduceBEq, Nat.reduceLT, Int.reduceToNat, reduceCtorEq, List.map_set, intCs]; try (and_intros <;> rfl))); (focus exact rfl))); (iterate 4 (focus (simp [go_sem, List.map_set, intCs]; done))))
                  · rw [if_neg (by rintro (h | ⟨h, _⟩); exact hge h; exact hpos h)] at hLj
                    have hdp : decide (cur.getD m 0 ≥ 0) = false := by simpa using hpos
                    (repeat (first | (with_reducible first | refine a_seq ?_ | refine a_region ?_ | refine a_block ?_ | refine a_scope ?_) | ((with_reducible apply op_any); (iterate 2 (focus (first | (simp only [go_sem, Nat.reduceEqDiff, Nat.reduceAdd, Nat.reduceSub, Nat.reduceLeDiff, Nat.reduceMul, Nat.reduceBEq, Nat.reduceLT, Int.reduceToNat, reduceCtorEq, hln, hnn, hdj, hr2, hg2, hdg, hr3, hg3, hdp, putL_one_int, hwj]; first | done | exact rfl | (and_intros <;> rfl)) | exact rfl | decide)))) | ((with_reducible refine o_nil ?_); dsimp only; try ((with_reducible apply o_draw); (focus (simp only [go_sem]; exact rfl)); (focus decide))) | ((with_reducible first | refine a_ret ?_ | refine a_skip ?_ | refine a_label ?_); dsimp only) | ((with_reducible refine a_exit ?_); dsimp only; simp only [if_true, if_false, Nat.reduceEqDiff]) | ((with_reducible apply a_if); (focus (simp only [go_sem, Nat.reduceBEq, Nat.reduceLT, hln, hnn, hdj, hr2, hg2, hdg, hr3, hg3, hdp, putL_one_int, hwj]; exact rfl)); dsimp only [cond_true, cond_false]) | ((with_reducible refine a_draw ?_ ?_); (focus exact rfl))))
                    refine ⟨(j + 1, cur.set m H), by dsimp only; omega, ⟨by dsimp only; omega, hJ.set hHb, hLj⟩, ?_⟩
                    (apply (Says.of [((99, 0), (99, 0)), ((98, 0), (98, 0))] []); (iterate 2 ((focus (simp only [go_sem, Nat.reduceEqDiff, Nat.reduceAdd, Nat.reduceSub, Nat.reduceLeDiff, Nat.reduceMul, Nat.reduceBEq, Nat.reduceLT, Int.reduceToNat, reduceCtorEq, List.map_set, intCs]; try (and_intros <;> rfl))); (focus exact rfl))); (iterate 4 (focus (simp [go_sem, List.map_set, intCs]; done))))
              · have hdj : decide ((j : Int) < (nx.length : Int)) = false := by simpa using hjl
                rw [List.drop_eq_nil_of_le (by omega)] at hLj
                simp only [layAll] at hLj
                rw [← hLj] at hRk
                refine wRUN (j3 hnn hdj hw) ?_
                refine ⟨(k + 1, cur), by dsimp only; omega, ⟨by dsimp only; omega, hJ.up (by dsimp only; omega), hRk⟩, ?_⟩
                exact wSays (Says.of [((99, 0), (99, 0))] []) hw
        · have hdk : decide ((k : Int) < (l.length : Int)) = false := by simpa using hlt
          rw [List.drop_eq_nil_of_le (by omega)] at hRk
          rw [hRk]
          simp only [hGo]
          refine wRUN (j2 hln hdk) ?_
          exact wRetOf (ret_of [((0, 0), (99, 0))] []) Tryz.results123 hol
end Go.Proofs.YtfmnoljflcpbgaaGreatDoor
