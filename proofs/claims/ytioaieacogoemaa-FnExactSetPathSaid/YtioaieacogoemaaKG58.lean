/- impl.withPath whose function has a slice of cells more at hand, by the engine. -/
import Derived.Test.YtioaieacogoemaaKG24
set_option linter.unusedSimpArgs false
set_option linter.unusedVariables false
set_option linter.unnecessarySimpa false
namespace Go.Proofs.Ytioaieacogoemaa
open Go.RowKit
set_option maxRecDepth 10000
set_option maxHeartbeats 2000000 in
theorem withPath1c_ac (f : FuncId) (hcal : callable Try.prog f = true) (t : V) (ps ys : List CellD) (hz : Sized ps) {path : List V} {r : Int × Option V} (hp : pathDec ps = (0, some path)) (hf : AC Try.prog f [t.av, valsA path, .ptr (0, 0) 0] [((0, 0), .box [cellsA ys])] (resA r) [((0, 0), .box [cellsA ys])]) :
    AC Try.prog 121 [t.av, .ptr (0, 0) 0, .ptr (0, 1) 0] [((0, 0), .box [cellsA ps]), ((0, 1), .box [.clo f [.ptr (0, 2) 0]]), ((0, 2), .box [cellsA ys])] (resA r) [((0, 0), .box [cellsA ps]), ((0, 1), .box [.clo f [.ptr (0, 2) 0]]), ((0, 2), .box [cellsA ys])] := by
  have h1 := pathOf_ac ps hz hp
  have h0 : ((0 : Int) != 0) = false := rfl
  rcases r with ⟨c, _ | u⟩
  all_goals
    simp only [resA_some, resA_none] at hf ⊢
    refine wEnter Try.func121 Try.ntmps121 ?_
    refine wRUN trivial ?_
    refine w9 (op_shared [] h1) trivial ?_
    refine wRUN h0 ?_
    refine wCall (op_any_call [((0, 0), (0, 2))] [((0, 0), (0, 2))] hf) hcal ?_
    refine wRUN trivial ?_
    exact wRetOf (ret_of [((0, 0), (0, 0)), ((0, 1), (0, 1)), ((0, 2), (0, 2))] []) Try.results121 h0
set_option maxHeartbeats 2000000 in
theorem withPath1c_bad (f : FuncId) (t : V) (ps ys : List CellD) (hz : Sized ps) {c : Int} (hc : c ≠ 0) (hp : pathDec ps = (c, none)) :
    AC Try.prog 121 [t.av, .ptr (0, 0) 0, .ptr (0, 1) 0] [((0, 0), .box [cellsA ps]), ((0, 1), .box [.clo f [.ptr (0, 2) 0]]), ((0, 2), .box [cellsA ys])] (outA c nullV) [((0, 0), .box [cellsA ps]), ((0, 1), .box [.clo f [.ptr (0, 2) 0]]), ((0, 2), .box [cellsA ys])] := by
  have h1 := pathOf_bad ps hz hp
  have h2 := refuses_ac c
  have h0 : (c != 0) = true := by simpa using hc
  refine wEnter Try.func121 Try.ntmps121 ?_
  refine wRUN trivial ?_
  refine w9 (op_shared [] h1) trivial ?_
  refine wRUN h0 ?_
  refine w9 (op_shared [] h2) trivial ?_
  refine wRUN trivial ?_
  exact wRetOf (ret_of [((0, 0), (0, 0)), ((0, 1), (0, 1)), ((0, 2), (0, 2))] []) Try.results121 h0
set_option maxHeartbeats 2000000 in
theorem ofOne3_none (g f : FuncId) (ps ys xs : List CellD) (hz : Sized xs) (hd : (dec xs).2 = none) (h0 : (dec xs).1 ≠ 0) :
    AC Try.prog 105 [cellsA xs, .clo g [.ptr (0, 0) 0, .ptr (0, 1) 0]] [((0, 0), .box [cellsA ps]), ((0, 1), .box [.clo f [.ptr (0, 2) 0]]), ((0, 2), .box [cellsA ys])] (.agg [.c (.int .i64 (dec xs).1), .nils]) [((0, 0), .box [cellsA ps]), ((0, 1), .box [.clo f [.ptr (0, 2) 0]]), ((0, 2), .box [cellsA ys])] := by
  have hb : ((dec xs).1 != 0) = true := by simpa using h0
  have hv := valOf_bad xs hz hd
  refine wEnter Try.func105 Try.ntmps105 ?_
  refine wRUN trivial ?_
  (apply (op_shared [] hv); (iterate 9 (focus (first | (simp only [go_sem, Nat.reduceEqDiff, Nat.reduceAdd, Nat.reduceSub, Nat.reduceLeDiff, Nat.reduceMul, Nat.reduceBEq, Nat.reduceLT, Int.reduceToNat, reduceCtorEq, noV]; first | done | exact rfl | (and_intros <;> rfl)) | exact rfl | decide))))
  (repeat (first | (with_reducible first | refine a_seq ?_ | refine a_region ?_ | refine a_block ?_ | refine a_scope ?_) | ((with_reducible apply op_any); (iterate 2 (focus (first | (simp only [go_sem, Nat.reduceEqDiff, Nat.reduceAdd, Nat.reduceSub, Nat.reduceLeDiff, Nat.reduceMul, Nat.reduceBEq, Nat.reduceLT, Int.reduceToNat, reduceCtorEq, hb, noV]; first | done | exact rfl | (and_intros <;> rfl)) | exact rfl | decide)))) | ((with_reducible refine o_nil ?_); dsimp only; try ((with_reducible apply o_draw); (focus (simp only [go_sem]; exact rfl)); (focus decide))) | ((with_reducible first | refine a_ret ?_ | refine a_skip ?_ | refine a_label ?_); dsimp only) | ((with_reducible refine a_exit ?_); dsimp only; simp only [if_true, if_false, Nat.reduceEqDiff]) | ((with_reducible apply a_if); (focus (simp only [go_sem, Nat.reduceBEq, Nat.reduceLT, hb, noV]; exact rfl)); dsimp only [cond_true, cond_false]) | ((with_reducible refine a_draw ?_ ?_); (focus exact rfl))))
  exact wRetOf (ret_of [((0, 0), (0, 0)), ((0, 1), (0, 1)), ((0, 2), (0, 2))] []) Try.results105 h0
set_option maxHeartbeats 2000000 in
theorem ofOne3_bad (g f : FuncId) (hcal : callable Try.prog g = true) (ps ys xs : List CellD) (hz : Sized xs) {t : V} (hd : dec xs = (0, some t)) {c : Int} (hc : c ≠ 0)
    (hg : AC Try.prog g [t.av, .ptr (0, 0) 0, .ptr (0, 1) 0] [((0, 0), .box [cellsA ps]), ((0, 1), .box [.clo f [.ptr (0, 2) 0]]), ((0, 2), .box [cellsA ys])] (outA c nullV) [((0, 0), .box [cellsA ps]), ((0, 1), .box [.clo f [.ptr (0, 2) 0]]), ((0, 2), .box [cellsA ys])]) :
    AC Try.prog 105 [cellsA xs, .clo g [.ptr (0, 0) 0, .ptr (0, 1) 0]] [((0, 0), .box [cellsA ps]), ((0, 1), .box [.clo f [.ptr (0, 2) 0]]), ((0, 2), .box [cellsA ys])] (.agg [.c (.int .i64 c), .nils]) [((0, 0), .box [cellsA ps]), ((0, 1), .box [.clo f [.ptr (0, 2) 0]]), ((0, 2), .box [cellsA ys])] := by
  have h0 : ((0 : Int) != 0) = false := rfl
  have hv := valOf_ac xs hz (t := t) (by rw [hd])
  have hr := result_bad hc
  refine wEnter Try.func105 Try.ntmps105 ?_
  refine wRUN trivial ?_
  refine w9 (op_shared [] hv) trivial ?_
  refine wRUN h0 ?_
  refine wCall (op_any_call [((0, 0), (0, 0)), ((0, 1), (0, 1)), ((0, 2), (0, 2))] [((0, 0), (0, 0)), ((0, 1), (0, 1)), ((0, 2), (0, 2))] hg) hcal ?_
  refine w7 (op_data [] hr) trivial ?_
  refine wRUN trivial ?_
  exact wRetOf (ret_of [((0, 0), (0, 0)), ((0, 1), (0, 1)), ((0, 2), (0, 2))] []) Try.results105 h0
set_option maxHeartbeats 2000000 in
theorem ofOne3_ac (g f : FuncId) (hcal : callable Try.prog g = true) (ps ys xs : List CellD) (hz : Sized xs) {t u : V} (hd : dec xs = (0, some t)) (hu : u.right)
    (hg : AC Try.prog g [t.av, .ptr (0, 0) 0, .ptr (0, 1) 0] [((0, 0), .box [cellsA ps]), ((0, 1), .box [.clo f [.ptr (0, 2) 0]]), ((0, 2), .box [cellsA ys])] (outA 0 u) [((0, 0), .box [cellsA ps]), ((0, 1), .box [.clo f [.ptr (0, 2) 0]]), ((0, 2), .box [cellsA ys])]) :
    AC Try.prog 105 [cellsA xs, .clo g [.ptr (0, 0) 0, .ptr (0, 1) 0]] [((0, 0), .box [cellsA ps]), ((0, 1), .box [.clo f [.ptr (0, 2) 0]]), ((0, 2), .box [cellsA ys])] (.agg [.c (.int .i64 0), .own (1, 0)]) ([((0, 0), .box [cellsA ps]), ((0, 1), .box [.clo f [.ptr (0, 2) 0]]), ((0, 2), .box [cellsA ys])] ++ [((1, 0), .row false 5 66 (u.enc.map CellD.cs))]) := by
  have h0 : ((0 : Int) != 0) = false := rfl
  have hv := valOf_ac xs hz (t := t) (by rw [hd])
  have hr := result_ac hu
  simp only [List.cons_append, List.nil_append]
  refine wEnter Try.func105 Try.ntmps105 ?_
  refine wRUN trivial ?_
  refine w9 (op_shared [] hv) trivial ?_
  refine wRUN h0 ?_
  refine wCall (op_any_call [((0, 0), (0, 0)), ((0, 1), (0, 1)), ((0, 2), (0, 2))] [((0, 0), (0, 0)), ((0, 1), (0, 1)), ((0, 2), (0, 2))] hg) hcal ?_
  refine w12 (op_rowF [] hr) trivial ?_
  refine wRUN trivial ?_
  exact wRetOf (ret_of [((0, 0), (0, 0)), ((0, 1), (0, 1)), ((0, 2), (0, 2)), ((1, 0), (19, 0))] []) Try.results105 h0
set_option maxHeartbeats 1000000 in
theorem withPathC_none (f : FuncId) (xs ps ys : List CellD) (hz : Sized xs) (hd : (dec xs).2 = none) (h0 : (dec xs).1 ≠ 0) :
    AC Try.prog 63 [cellsA xs, cellsA ps, .clo f [.ptr (0, 0) 0]] [((0, 0), .box [cellsA ys])] (.agg [.c (.int .i64 (dec xs).1), .nils]) [((0, 0), .box [cellsA ys])] := by
  have ho := ofOne3_none 121 f ps ys xs hz hd h0
  refine wEnter Try.func63 Try.ntmps63 ?_
  refine wRUN trivial ?_
  refine wCall (op_any_call [((0, 0), (4, 0)), ((0, 1), (5, 0)), ((0, 2), (0, 0))] [((0, 0), (4, 0)), ((0, 1), (5, 0)), ((0, 2), (0, 0))] ho) trivial ?_
  refine wRUN trivial ?_
  exact wRetOf (ret_of [((0, 0), (0, 0))] []) Try.results63 h0
set_option maxHeartbeats 1000000 in
theorem withPathC_bad (f : FuncId) (xs ps ys : List CellD) (hz : Sized xs) (hzp : Sized ps) {t : V} (hd : dec xs = (0, some t)) {c : Int} (hc : c ≠ 0) (hp : pathDec ps = (c, none)) :
    AC Try.prog 63 [cellsA xs, cellsA ps, .clo f [.ptr (0, 0) 0]] [((0, 0), .box [cellsA ys])] (.agg [.c (.int .i64 c), .nils]) [((0, 0), .box [cellsA ys])] := by
  have ho := ofOne3_bad 121 f (by simp only [go_sem]) ps ys xs hz hd hc (withPath1c_bad f t ps ys hzp hc hp)
  refine wEnter Try.func63 Try.ntmps63 ?_
  refine wRUN trivial ?_
  refine wCall (op_any_call [((0, 0), (4, 0)), ((0, 1), (5, 0)), ((0, 2), (0, 0))] [((0, 0), (4, 0)), ((0, 1), (5, 0)), ((0, 2), (0, 0))] ho) trivial ?_
  refine wRUN trivial ?_
  exact wRetOf (ret_of [((0, 0), (0, 0))] []) Try.results63 hc
set_option maxHeartbeats 1000000 in
theorem withPathC_no (f : FuncId) (hcal : callable Try.prog f = true) (xs ps ys : List CellD) (hz : Sized xs) (hzp : Sized ps) {t : V} (hd : dec xs = (0, some t)) {path : List V} (hp : pathDec ps = (0, some path)) {c : Int} (hc : c ≠ 0)
    (hf : AC Try.prog f [t.av, valsA path, .ptr (0, 0) 0] [((0, 0), .box [cellsA ys])] (outA c nullV) [((0, 0), .box [cellsA ys])]) : AC Try.prog 63 [cellsA xs, cellsA ps, .clo f [.ptr (0, 0) 0]] [((0, 0), .box [cellsA ys])] (.agg [.c (.int .i64 c), .nils]) [((0, 0), .box [cellsA ys])] := by
  have ho := ofOne3_bad 121 f (by simp only [go_sem]) ps ys xs hz hd hc (withPath1c_ac f hcal t ps ys hzp (r := (c, none)) hp hf)
  refine wEnter Try.func63 Try.ntmps63 ?_
  refine wRUN trivial ?_
  refine wCall (op_any_call [((0, 0), (4, 0)), ((0, 1), (5, 0)), ((0, 2), (0, 0))] [((0, 0), (4, 0)), ((0, 1), (5, 0)), ((0, 2), (0, 0))] ho) trivial ?_
  refine wRUN trivial ?_
  exact wRetOf (ret_of [((0, 0), (0, 0))] []) Try.results63 hc
set_option maxHeartbeats 1000000 in
theorem withPathC_ac (f : FuncId) (hcal : callable Try.prog f = true) (xs ps ys : List CellD) (hz : Sized xs) (hzp : Sized ps) {t u : V} (hd : dec xs = (0, some t)) {path : List V} (hp : pathDec ps = (0, some path)) (hu : u.right)
    (hf : AC Try.prog f [t.av, valsA path, .ptr (0, 0) 0] [((0, 0), .box [cellsA ys])] (outA 0 u) [((0, 0), .box [cellsA ys])]) : AC Try.prog 63 [cellsA xs, cellsA ps, .clo f [.ptr (0, 0) 0]] [((0, 0), .box [cellsA ys])] (.agg [.c (.int .i64 0), .own (1, 0)]) [((0, 0), .box [cellsA ys]), ((1, 0), .row false 5 66 (u.enc.map CellD.cs))] := by
  have ho := ofOne3_ac 121 f (by simp only [go_sem]) ps ys xs hz hd hu (withPath1c_ac f hcal t ps ys hzp (r := (0, some u)) hp hf)
  simp only [List.cons_append, List.nil_append] at ho
  refine wEnter Try.func63 Try.ntmps63 ?_
  refine wRUN trivial ?_
  refine wCall (op_any_call [((0, 0), (4, 0)), ((0, 1), (5, 0)), ((0, 2), (0, 0))] [((0, 0), (4, 0)), ((0, 1), (5, 0)), ((0, 2), (0, 0)), ((1, 0), (9, 0))] ho) trivial ?_
  refine wRUN trivial ?_
  exact wRetOf (ret_of [((0, 0), (0, 0)), ((1, 0), (9, 0))] []) Try.results63 hd
end Go.Proofs.Ytioaieacogoemaa
