/- impl.ofTwo whose function has a number at hand, by the engine. -/
import Derived.Test.YtpaooephkpjkfaaGreatKG49uG52
set_option linter.unusedSimpArgs false
set_option linter.unusedVariables false
set_option linter.unnecessarySimpa false
namespace Go.Proofs.YtpaooephkpjkfaaGreat
open Go.RowKit
set_option maxRecDepth 10000
set_option maxHeartbeats 2000000 in
theorem ofTwoI1_ac (f : FuncId) (hcal : callable Tryz.prog f = true) (x y : V) {r : Int × Option V} (n : Int) (hf : AC Tryz.prog f [x.av, y.av, .ptr (0, 0) 0] [((0, 0), .box [.c (.int .i64 n)])] (resA r) [((0, 0), .box [.c (.int .i64 n)])]) :
    AC Tryz.prog 121 [y.av, .ptr (0, 0) 0, .ptr (0, 1) 0] [((0, 0), .box [.clo f [.ptr (0, 2) 0]]), ((0, 1), .box (boxV x)), ((0, 2), .box [.c (.int .i64 n)])] (resA r) [((0, 0), .box [.clo f [.ptr (0, 2) 0]]), ((0, 1), .box (boxV x)), ((0, 2), .box [.c (.int .i64 n)])] := by
  simp only [boxV]
  rcases r with ⟨c, _ | u⟩
  all_goals
    simp only [resA_some, resA_none] at hf ⊢
    refine wEnter Tryz.func121 Tryz.ntmps121 ?_
    refine wRUN trivial ?_
    refine wCall (op_any_call [((0, 0), (0, 2))] [((0, 0), (0, 2))] hf) hcal ?_
    refine wRUN trivial ?_
    exact wRetOf (ret_of [((0, 0), (0, 0)), ((0, 1), (0, 1)), ((0, 2), (0, 2))] []) Tryz.results121 hcal
set_option maxHeartbeats 2000000 in
theorem ofOneI_none (g f : FuncId) (x : V) (n : Int) (xs : List CellD) (hz : Sized xs) (hd : (dec xs).2 = none) (h0 : (dec xs).1 ≠ 0) :
    AC Tryz.prog 42 [cellsA xs, .clo g [.ptr (0, 0) 0, .ptr (0, 1) 0]] [((0, 0), .box [.clo f [.ptr (0, 2) 0]]), ((0, 1), .box (boxV x)), ((0, 2), .box [.c (.int .i64 n)])] (.agg [.c (.int .i64 (dec xs).1), .nils]) [((0, 0), .box [.clo f [.ptr (0, 2) 0]]), ((0, 1), .box (boxV x)), ((0, 2), .box [.c (.int .i64 n)])] := by
  have hb : ((dec xs).1 != 0) = true := by simpa using h0
  have hv := valOf_bad xs hz hd
  simp only [boxV] at *
  refine wEnter Tryz.func42 Tryz.ntmps42 ?_
  refine wRUN trivial ?_
  (apply (op_shared [] hv); (iterate 9 (focus (first | (simp only [go_sem, Nat.reduceEqDiff, Nat.reduceAdd, Nat.reduceSub, Nat.reduceLeDiff, Nat.reduceMul, Nat.reduceBEq, Nat.reduceLT, Int.reduceToNat, reduceCtorEq, noV]; first | done | exact rfl | (and_intros <;> rfl)) | exact rfl | decide))))
  (repeat (first | (with_reducible first | refine a_seq ?_ | refine a_region ?_ | refine a_block ?_ | refine a_scope ?_) | ((with_reducible apply op_any); (iterate 2 (focus (first | (simp only [go_sem, Nat.reduceEqDiff, Nat.reduceAdd, Nat.reduceSub, Nat.reduceLeDiff, Nat.reduceMul, Nat.reduceBEq, Nat.reduceLT, Int.reduceToNat, reduceCtorEq, hb, noV]; first | done | exact rfl | (and_intros <;> rfl)) | exact rfl | decide)))) | ((with_reducible refine o_nil ?_); dsimp only; try ((with_reducible apply o_draw); (focus (simp only [go_sem]; exact rfl)); (focus decide))) | ((with_reducible first | refine a_ret ?_ | refine a_skip ?_ | refine a_label ?_); dsimp only) | ((with_reducible refine a_exit ?_); dsimp only; simp only [if_true, if_false, Nat.reduceEqDiff]) | ((with_reducible apply a_if); (focus (simp only [go_sem, Nat.reduceBEq, Nat.reduceLT, hb, noV]; exact rfl)); dsimp only [cond_true, cond_false]) | ((with_reducible refine a_draw ?_ ?_); (focus exact rfl))))
  exact wRetOf (ret_of [((0, 0), (0, 0)), ((0, 1), (0, 1)), ((0, 2), (0, 2))] []) Tryz.results42 h0
set_option maxHeartbeats 2000000 in
theorem ofOneI_bad (g f : FuncId) (hcal : callable Tryz.prog g = true) (x : V) (n : Int) (xs : List CellD) (hz : Sized xs) {t : V} (hd : dec xs = (0, some t)) {c : Int} (hc : c ≠ 0)
    (hg : AC Tryz.prog g [t.av, .ptr (0, 0) 0, .ptr (0, 1) 0] [((0, 0), .box [.clo f [.ptr (0, 2) 0]]), ((0, 1), .box (boxV x)), ((0, 2), .box [.c (.int .i64 n)])] (outA c nullV) [((0, 0), .box [.clo f [.ptr (0, 2) 0]]), ((0, 1), .box (boxV x)), ((0, 2), .box [.c (.int .i64 n)])]) :
    AC Tryz.prog 42 [cellsA xs, .clo g [.ptr (0, 0) 0, .ptr (0, 1) 0]] [((0, 0), .box [.clo f [.ptr (0, 2) 0]]), ((0, 1), .box (boxV x)), ((0, 2), .box [.c (.int .i64 n)])] (.agg [.c (.int .i64 c), .nils]) [((0, 0), .box [.clo f [.ptr (0, 2) 0]]), ((0, 1), .box (boxV x)), ((0, 2), .box [.c (.int .i64 n)])] := by
  have h0 : ((0 : Int) != 0) = false := rfl
  have hv := valOf_ac xs hz (t := t) (by rw [hd])
  have hr := result_bad hc
  simp only [boxV] at *
  refine wEnter Tryz.func42 Tryz.ntmps42 ?_
  refine wRUN trivial ?_
  refine w9 (op_shared [] hv) trivial ?_
  refine wRUN h0 ?_
  refine wCall (op_any_call [((0, 0), (0, 0)), ((0, 1), (0, 1)), ((0, 2), (0, 2))] [((0, 0), (0, 0)), ((0, 1), (0, 1)), ((0, 2), (0, 2))] hg) hcal ?_
  refine w7 (op_data [] hr) trivial ?_
  refine wRUN trivial ?_
  exact wRetOf (ret_of [((0, 0), (0, 0)), ((0, 1), (0, 1)), ((0, 2), (0, 2))] []) Tryz.results42 h0
set_option maxHeartbeats 2000000 in
theorem ofOneI_ac (g f : FuncId) (hcal : callable Tryz.prog g = true) (x : V) (n : Int) (xs : List CellD) (hz : Sized xs) {t u : V} (hd : dec xs = (0, some t)) (hu : u.right)
    (hg : AC Tryz.prog g [t.av, .ptr (0, 0) 0, .ptr (0, 1) 0] [((0, 0), .box [.clo f [.ptr (0, 2) 0]]), ((0, 1), .box (boxV x)), ((0, 2), .box [.c (.int .i64 n)])] (outA 0 u) [((0, 0), .box [.clo f [.ptr (0, 2) 0]]), ((0, 1), .box (boxV x)), ((0, 2), .box [.c (.int .i64 n)])]) :
    AC Tryz.prog 42 [cellsA xs, .clo g [.ptr (0, 0) 0, .ptr (0, 1) 0]] [((0, 0), .box [.clo f [.ptr (0, 2) 0]]), ((0, 1), .box (boxV x)), ((0, 2), .box [.c (.int .i64 n)])] (.agg [.c (.int .i64 0), .own (1, 0)]) [((0, 0), .box [.clo f [.ptr (0, 2) 0]]), ((0, 1), .box (boxV x)), ((0, 2), .box [.c (.int .i64 n)]), ((1, 0), .row false 5 42 (u.enc.map CellD.cs))] := by
  have h0 : ((0 : Int) != 0) = false := rfl
  have hv := valOf_ac xs hz (t := t) (by rw [hd])
  have hr := result_ac hu
  simp only [boxV] at *
  refine wEnter Tryz.func42 Tryz.ntmps42 ?_
  refine wRUN trivial ?_
  refine w9 (op_shared [] hv) trivial ?_
  refine wRUN h0 ?_
  refine wCall (op_any_call [((0, 0), (0, 0)), ((0, 1), (0, 1)), ((0, 2), (0, 2))] [((0, 0), (0, 0)), ((0, 1), (0, 1)), ((0, 2), (0, 2))] hg) hcal ?_
  refine w12 (op_rowF [] hr) trivial ?_
  refine wRUN trivial ?_
  exact wRetOf (ret_of [((0, 0), (0, 0)), ((0, 1), (0, 1)), ((0, 2), (0, 2)), ((1, 0), (19, 0))] []) Tryz.results42 h0
set_option maxHeartbeats 1000000 in
theorem ofTwoI_none (n : Int) (f : FuncId) (xs ys : List CellD) (hz : Sized xs) (hd : (dec xs).2 = none) (h0 : (dec xs).1 ≠ 0) :
    AC Tryz.prog 61 [cellsA xs, cellsA ys, .clo f [.ptr (0, 0) 0]] [((0, 0), .box [.c (.int .i64 n)])] (.agg [.c (.int .i64 (dec xs).1), .nils]) [((0, 0), .box [.c (.int .i64 n)])] := by
  have hb : ((dec xs).1 != 0) = true := by simpa using h0
  have hv := valOf_bad xs hz hd
  refine wEnter Tryz.func61 Tryz.ntmps61 ?_
  refine wRUN trivial ?_
  (apply (op_shared [] hv); (iterate 9 (focus (first | (simp only [go_sem, Nat.reduceEqDiff, Nat.reduceAdd, Nat.reduceSub, Nat.reduceLeDiff, Nat.reduceMul, Nat.reduceBEq, Nat.reduceLT, Int.reduceToNat, reduceCtorEq, noV]; first | done | exact rfl | (and_intros <;> rfl)) | exact rfl | decide))))
  (repeat (first | (with_reducible first | refine a_seq ?_ | refine a_region ?_ | refine a_block ?_ | refine a_scope ?_) | ((with_reducible apply op_any); (iterate 2 (focus (first | (simp only [go_sem, Nat.reduceEqDiff, Nat.reduceAdd, Nat.reduceSub, Nat.reduceLeDiff, Nat.reduceMul, Nat.reduceBEq, Nat.reduceLT, Int.reduceToNat, reduceCtorEq, hb, noV]; first | done | exact rfl | (and_intros <;> rfl)) | exact rfl | decide)))) | ((with_reducible refine o_nil ?_); dsimp only; try ((with_reducible apply o_draw); (focus (simp only [go_sem]; exact rfl)); (focus decide))) | ((with_reducible first | refine a_ret ?_ | refine a_skip ?_ | refine a_label ?_); dsimp only) | ((with_reducible refine a_exit ?_); dsimp only; simp only [if_true, if_false, Nat.reduceEqDiff]) | ((with_reducible apply a_if); (focus (simp only [go_sem, Nat.reduceBEq, Nat.reduceLT, hb, noV]; exact rfl)); dsimp only [cond_true, cond_false]) | ((with_reducible refine a_draw ?_ ?_); (focus exact rfl))))
  exact wRetOf (ret_of [((0, 0), (0, 0))] []) Tryz.results61 hb
set_option maxHeartbeats 1000000 in
theorem ofTwoI_none2 (n : Int) (f : FuncId) (xs ys : List CellD) (hz : Sized xs) (hzy : Sized ys) {t : V} (hd : dec xs = (0, some t)) (hy : (dec ys).2 = none) (h0 : (dec ys).1 ≠ 0) :
    AC Tryz.prog 61 [cellsA xs, cellsA ys, .clo f [.ptr (0, 0) 0]] [((0, 0), .box [.c (.int .i64 n)])] (.agg [.c (.int .i64 (dec ys).1), .nils]) [((0, 0), .box [.c (.int .i64 n)])] := by
  have hv := valOf_ac xs hz (t := t) (by rw [hd])
  have hb : ((0 : Int) != 0) = false := rfl
  have ho := ofOneI_none 121 f t n ys hzy hy h0
  simp only [boxV] at ho
  refine wEnter Tryz.func61 Tryz.ntmps61 ?_
  refine wRUN trivial ?_
  refine w9 (op_shared [] hv) trivial ?_
  refine wRUN hb ?_
  refine wCall (op_any_call [((0, 0), (5, 0)), ((0, 1), (7, 0)), ((0, 2), (0, 0))] [((0, 0), (5, 0)), ((0, 1), (7, 0)), ((0, 2), (0, 0))] ho) trivial ?_
  refine wRUN trivial ?_
  exact wRetOf (ret_of [((0, 0), (0, 0))] []) Tryz.results61 hb
set_option maxHeartbeats 1000000 in
theorem ofTwoI_no (n : Int) (f : FuncId) (hcal : callable Tryz.prog f = true) (xs ys : List CellD) (hz : Sized xs) (hzy : Sized ys) {t u : V} (hd : dec xs = (0, some t)) (hy : dec ys = (0, some u)) {c : Int} (hc : c ≠ 0) (hf : AC Tryz.prog f [t.av, u.av, .ptr (0, 0) 0] [((0, 0), .box [.c (.int .i64 n)])] (outA c nullV) [((0, 0), .box [.c (.int .i64 n)])]) :
    AC Tryz.prog 61 [cellsA xs, cellsA ys, .clo f [.ptr (0, 0) 0]] [((0, 0), .box [.c (.int .i64 n)])] (.agg [.c (.int .i64 c), .nils]) [((0, 0), .box [.c (.int .i64 n)])] := by
  have hv := valOf_ac xs hz (t := t) (by rw [hd])
  have hb : ((0 : Int) != 0) = false := rfl
  have ho := ofOneI_bad 121 f (by simp only [go_sem]) t n ys hzy hy hc (ofTwoI1_ac f hcal t u (r := (c, none)) n hf)
  simp only [boxV] at ho
  refine wEnter Tryz.func61 Tryz.ntmps61 ?_
  refine wRUN trivial ?_
  refine w9 (op_shared [] hv) trivial ?_
  refine wRUN hb ?_
  refine wCall (op_any_call [((0, 0), (5, 0)), ((0, 1), (7, 0)), ((0, 2), (0, 0))] [((0, 0), (5, 0)), ((0, 1), (7, 0)), ((0, 2), (0, 0))] ho) trivial ?_
  refine wRUN trivial ?_
  exact wRetOf (ret_of [((0, 0), (0, 0))] []) Tryz.results61 hb
set_option maxHeartbeats 1000000 in
theorem ofTwoI_ac (n : Int) (f : FuncId) (hcal : callable Tryz.prog f = true) (xs ys : List CellD) (hz : Sized xs) (hzy : Sized ys) {t u v : V} (hd : dec xs = (0, some t)) (hy : dec ys = (0, some u)) (hv' : v.right) (hf : AC Tryz.prog f [t.av, u.av, .ptr (0, 0) 0] [((0, 0), .box [.c (.int .i64 n)])] (outA 0 v) [((0, 0), .box [.c (.int .i64 n)])]) :
    AC Tryz.prog 61 [cellsA xs, cellsA ys, .clo f [.ptr (0, 0) 0]] [((0, 0), .box [.c (.int .i64 n)])] (.agg [.c (.int .i64 0), .own (1, 0)]) [((0, 0), .box [.c (.int .i64 n)]), ((1, 0), .row false 5 42 (v.enc.map CellD.cs))] := by
  have hv := valOf_ac xs hz (t := t) (by rw [hd])
  have hb : ((0 : Int) != 0) = false := rfl
  have ho := ofOneI_ac 121 f (by simp only [go_sem]) t n ys hzy hy hv' (ofTwoI1_ac f hcal t u (r := (0, some v)) n hf)
  simp only [boxV] at ho
  refine wEnter Tryz.func61 Tryz.ntmps61 ?_
  refine wRUN trivial ?_
  refine w9 (op_shared [] hv) trivial ?_
  refine wRUN hb ?_
  refine wCall (op_any_call [((0, 0), (5, 0)), ((0, 1), (7, 0)), ((0, 2), (0, 0))] [((0, 0), (5, 0)), ((0, 1), (7, 0)), ((0, 2), (0, 0)), ((1, 0), (20, 0))] ho) trivial ?_
  refine wRUN trivial ?_
  exact wRetOf (ret_of [((0, 0), (0, 0)), ((1, 0), (20, 0))] []) Tryz.results61 hb
end Go.Proofs.YtpaooephkpjkfaaGreat
