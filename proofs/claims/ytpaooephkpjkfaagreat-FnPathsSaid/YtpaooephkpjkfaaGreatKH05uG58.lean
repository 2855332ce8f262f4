/- Texts of this proof: H05 G58. -/
import Derived.Test.YtpaooephkpjkfaaGreatKG24uG52
import Derived.Test.YtpaooephkpjkfaaGreatKG11uS02
set_option linter.unusedSimpArgs false
set_option linter.unusedVariables false
set_option linter.unnecessarySimpa false
namespace Go.Proofs.YtpaooephkpjkfaaGreat
open Go.RowKit
set_option maxRecDepth 10000
theorem implGetPath_ok (xs ps : List CellD) (hz : Sized xs) (hzp : Sized ps) {u : V} (h : askPath xs ps getPathV = (0, some u)) (hu : u.right) :
    AC Tryz.prog 29 [cellsA xs, cellsA ps] [] (.agg [.c (.int .i64 0), .own (0, 0)]) [((0, 0), .row false 5 42 (u.enc.map CellD.cs))] := by
  rcases ask_way xs ps getPathV with ⟨_, _, h3⟩ | ⟨t, hd, hx, ht, ⟨c, _, _, h3⟩ | ⟨s, hs, hps, _, _, hp, h3⟩⟩
  · rw [h3] at h; simp at h
  · rw [h3] at h; simp at h
  · rw [h3] at h
    have hkl := kids_len_le hs.2.1
    have hg := getPath_ac ht s.kids (by omega) (fun k hk => right_mem hs hk)
    rw [h, resA_some] at hg
    have hw := withPath_ac 85 (by simp only [go_sem]) xs ps hz hzp hd hp hu hg
    refine wEnter Tryz.func29 Tryz.ntmps29 ?_
    refine wRUN trivial ?_
    refine w12 (op_rowT [] hw) trivial ?_
    refine wRUN trivial ?_
    exact wRetOf (ret_of [((0, 0), (7, 0))] []) Tryz.results29 hd
theorem implGetPath_bad (xs ps : List CellD) (hz : Sized xs) (hzp : Sized ps) {c : Int} (hc : c ≠ 0) (h : askPath xs ps getPathV = (c, none)) :
    AC Tryz.prog 29 [cellsA xs, cellsA ps] [] (.agg [.c (.int .i64 c), .nils]) [] := by
  have key : AC Tryz.prog 78 [cellsA xs, cellsA ps, .clo 85 []] [] (.agg [.c (.int .i64 c), .nils]) [] := by
    rcases ask_way xs ps getPathV with ⟨h1, h2, h3⟩ | ⟨t, hd, hx, ht, ⟨c', hc', hp, h3⟩ | ⟨s, hs, hps, _, _, hp, h3⟩⟩
    · rw [h3] at h
      simp only [Prod.mk.injEq, and_true] at h
      subst h
      exact withPath_none 85 xs ps hz h1 h2
    · rw [h3] at h
      simp only [Prod.mk.injEq, and_true] at h
      subst h
      exact withPath_bad 85 xs ps hz hzp hd hc hp
    · rw [h3] at h
      have hkl := kids_len_le hs.2.1
      have hg := getPath_ac ht s.kids (by omega) (fun k hk => right_mem hs hk)
      rw [h, resA_none] at hg
      exact withPath_no 85 (by simp only [go_sem]) xs ps hz hzp hd hp hc hg
  refine wEnter Tryz.func29 Tryz.ntmps29 ?_
  refine wRUN trivial ?_
  refine w7 (op_data [] key) trivial ?_
  refine wRUN trivial ?_
  exact wRet (ret_data []) Tryz.results29
end Go.Proofs.YtpaooephkpjkfaaGreat

/- impl.withPath whose function has a slice of cells more at hand, by the engine. -/
namespace Go.Proofs.YtpaooephkpjkfaaGreat
open Go.RowKit
set_option maxRecDepth 10000
set_option maxHeartbeats 2000000 in
theorem withPath1c_ac (f : FuncId) (hcal : callable Tryz.prog f = true) (t : V) (ps ys : List CellD) (hz : Sized ps) {path : List V} {r : Int × Option V} (hp : pathDec ps = (0, some path)) (hf : AC Tryz.prog f [t.av, valsA path, .ptr (0, 0) 0] [((0, 0), .box [cellsA ys])] (resA r) [((0, 0), .box [cellsA ys])]) :
    AC Tryz.prog 142 [t.av, .ptr (0, 0) 0, .ptr (0, 1) 0] [((0, 0), .box [cellsA ps]), ((0, 1), .box [.clo f [.ptr (0, 2) 0]]), ((0, 2), .box [cellsA ys])] (resA r) [((0, 0), .box [cellsA ps]), ((0, 1), .box [.clo f [.ptr (0, 2) 0]]), ((0, 2), .box [cellsA ys])] := by
  have h1 := pathOf_ac ps hz hp
  have h0 : ((0 : Int) != 0) = false := rfl
  rcases r with ⟨c, _ | u⟩
  all_goals
    simp only [resA_some, resA_none] at hf ⊢
    refine wEnter Tryz.func142 Tryz.ntmps142 ?_
    refine wRUN trivial ?_
    refine w9 (op_shared [] h1) trivial ?_
    refine wRUN h0 ?_
    refine wCall (op_any_call [((0, 0), (0, 2))] [((0, 0), (0, 2))] hf) hcal ?_
    refine wRUN trivial ?_
    exact wRetOf (ret_of [((0, 0), (0, 0)), ((0, 1), (0, 1)), ((0, 2), (0, 2))] []) Tryz.results142 h0
set_option maxHeartbeats 2000000 in
theorem withPath1c_bad (f : FuncId) (t : V) (ps ys : List CellD) (hz : Sized ps) {c : Int} (hc : c ≠ 0) (hp : pathDec ps = (c, none)) :
    AC Tryz.prog 142 [t.av, .ptr (0, 0) 0, .ptr (0, 1) 0] [((0, 0), .box [cellsA ps]), ((0, 1), .box [.clo f [.ptr (0, 2) 0]]), ((0, 2), .box [cellsA ys])] (outA c nullV) [((0, 0), .box [cellsA ps]), ((0, 1), .box [.clo f [.ptr (0, 2) 0]]), ((0, 2), .box [cellsA ys])] := by
  have h1 := pathOf_bad ps hz hp
  have h2 := refuses_ac c
  have h0 : (c != 0) = true := by simpa using hc
  refine wEnter Tryz.func142 Tryz.ntmps142 ?_
  refine wRUN trivial ?_
  refine w9 (op_shared [] h1) trivial ?_
  refine wRUN h0 ?_
  refine w9 (op_shared [] h2) trivial ?_
  refine wRUN trivial ?_
  exact wRetOf (ret_of [((0, 0), (0, 0)), ((0, 1), (0, 1)), ((0, 2), (0, 2))] []) Tryz.results142 h0
set_option maxHeartbeats 2000000 in
theorem ofOne3_none (g f : FuncId) (ps ys xs : List CellD) (hz : Sized xs) (hd : (dec xs).2 = none) (h0 : (dec xs).1 ≠ 0) :
    AC Tryz.prog 42 [cellsA xs, .clo g [.ptr (0, 0) 0, .ptr (0, 1) 0]] [((0, 0), .box [cellsA ps]), ((0, 1), .box [.clo f [.ptr (0, 2) 0]]), ((0, 2), .box [cellsA ys])] (.agg [.c (.int .i64 (dec xs).1), .nils]) [((0, 0), .box [cellsA ps]), ((0, 1), .box [.clo f [.ptr (0, 2) 0]]), ((0, 2), .box [cellsA ys])] := by
  have hb : ((dec xs).1 != 0) = true := by simpa using h0
  have hv := valOf_bad xs hz hd
  refine wEnter Tryz.func42 Tryz.ntmps42 ?_
  refine wRUN trivial ?_
  (apply (op_shared [] hv); (iterate 9 (focus (first | (simp only [go_sem, Nat.reduceEqDiff, Nat.reduceAdd, Nat.reduceSub, Nat.reduceLeDiff, Nat.reduceMul, Nat.reduceBEq, Nat.reduceLT, Int.reduceToNat, reduceCtorEq, noV]; first | done | exact rfl | (and_intros <;> rfl)) | exact rfl | decide))))
  (repeat (first | (with_reducible first | refine a_seq ?_ | refine a_region ?_ | refine a_block ?_ | refine a_scope ?_) | ((with_reducible apply op_any); (iterate 2 (focus (first | (simp only [go_sem, Nat.reduceEqDiff, Nat.reduceAdd, Nat.reduceSub, Nat.reduceLeDiff, Nat.reduceMul, Nat.reduceBEq, Nat.reduceLT, Int.reduceToNat, reduceCtorEq, hb, noV]; first | done | exact rfl | (and_intros <;> rfl)) | exact rfl | decide)))) | ((with_reducible refine o_nil ?_); dsimp only; try ((with_reducible apply o_draw); (focus (simp only [go_sem]; exact rfl)); (focus decide))) | ((with_reducible first | refine a_ret ?_ | refine a_skip ?_ | refine a_label ?_); dsimp only) | ((with_reducible refine a_exit ?_); dsimp only; simp only [if_true, if_false, Nat.reduceEqDiff]) | ((with_reducible apply a_if); (focus (simp only [go_sem, Nat.reduceBEq, Nat.reduceLT, hb, noV]; exact rfl)); dsimp only [cond_true, cond_false]) | ((with_reducible refine a_draw ?_ ?_); (focus exact rfl))))
  exact wRetOf (ret_of [((0, 0), (0, 0)), ((0, 1), (0, 1)), ((0, 2), (0, 2))] []) Tryz.results42 h0
set_option maxHeartbeats 2000000 in
theorem ofOne3_bad (g f : FuncId) (hcal : callable Tryz.prog g = true) (ps ys xs : List CellD) (hz : Sized xs) {t : V} (hd : dec xs = (0, some t)) {c : Int} (hc : c ≠ 0)
    (hg : AC Tryz.prog g [t.av, .ptr (0, 0) 0, .ptr (0, 1) 0] [((0, 0), .box [cellsA ps]), ((0, 1), .box [.clo f [.ptr (0, 2) 0]]), ((0, 2), .box [cellsA ys])] (outA c nullV) [((0, 0), .box [cellsA ps]), ((0, 1), .box [.clo f [.ptr (0, 2) 0]]), ((0, 2), .box [cellsA ys])]) :
    AC Tryz.prog 42 [cellsA xs, .clo g [.ptr (0, 0) 0, .ptr (0, 1) 0]] [((0, 0), .box [cellsA ps]), ((0, 1), .box [.clo f [.ptr (0, 2) 0]]), ((0, 2), .box [cellsA ys])] (.agg [.c (.int .i64 c), .nils]) [((0, 0), .box [cellsA ps]), ((0, 1), .box [.clo f [.ptr (0, 2) 0]]), ((0, 2), .box [cellsA ys])] := by
  have h0 : ((0 : Int) != 0) = false := rfl
  have hv := valOf_ac xs hz (t := t) (by rw [hd])
  have hr := result_bad hc
  refine wEnter Tryz.func42 Tryz.ntmps42 ?_
  refine wRUN trivial ?_
  refine w9 (op_shared [] hv) trivial ?_
  refine wRUN h0 ?_
  refine wCall (op_any_call [((0, 0), (0, 0)), ((0, 1), (0, 1)), ((0, 2), (0, 2))] [((0, 0), (0, 0)), ((0, 1), (0, 1)), ((0, 2), (0, 2))] hg) hcal ?_
  refine w7 (op_data [] hr) trivial ?_
  refine wRUN trivial ?_
  exact wRetOf (ret_of [((0, 0), (0, 0)), ((0, 1), (0, 1)), ((0, 2), (0, 2))] []) Tryz.results42 h0
set_option maxHeartbeats 2000000 in
theorem ofOne3_ac (g f : FuncId) (hcal : callable Tryz.prog g = true) (ps ys xs : List CellD) (hz : Sized xs) {t u : V} (hd : dec xs = (0, some t)) (hu : u.right)
    (hg : AC Tryz.prog g [t.av, .ptr (0, 0) 0, .ptr (0, 1) 0] [((0, 0), .box [cellsA ps]), ((0, 1), .box [.clo f [.ptr (0, 2) 0]]), ((0, 2), .box [cellsA ys])] (outA 0 u) [((0, 0), .box [cellsA ps]), ((0, 1), .box [.clo f [.ptr (0, 2) 0]]), ((0, 2), .box [cellsA ys])]) :
    AC Tryz.prog 42 [cellsA xs, .clo g [.ptr (0, 0) 0, .ptr (0, 1) 0]] [((0, 0), .box [cellsA ps]), ((0, 1), .box [.clo f [.ptr (0, 2) 0]]), ((0, 2), .box [cellsA ys])] (.agg [.c (.int .i64 0), .own (1, 0)]) ([((0, 0), .box [cellsA ps]), ((0, 1), .box [.clo f [.ptr (0, 2) 0]]), ((0, 2), .box [cellsA ys])] ++ [((1, 0), .row false 5 42 (u.enc.map CellD.cs))]) := by
  have h0 : ((0 : Int) != 0) = false := rfl
  have hv := valOf_ac xs hz (t := t) (by rw [hd])
  have hr := result_ac hu
  simp only [List.cons_append, List.nil_append]
  refine wEnter Tryz.func42 Tryz.ntmps42 ?_
  refine wRUN trivial ?_
  refine w9 (op_shared [] hv) trivial ?_
  refine wRUN h0 ?_
  refine wCall (op_any_call [((0, 0), (0, 0)), ((0, 1), (0, 1)), ((0, 2), (0, 2))] [((0, 0), (0, 0)), ((0, 1), (0, 1)), ((0, 2), (0, 2))] hg) hcal ?_
  refine w12 (op_rowF [] hr) trivial ?_
  refine wRUN trivial ?_
  exact wRetOf (ret_of [((0, 0), (0, 0)), ((0, 1), (0, 1)), ((0, 2), (0, 2)), ((1, 0), (19, 0))] []) Tryz.results42 h0
set_option maxHeartbeats 1000000 in
theorem withPathC_none (f : FuncId) (xs ps ys : List CellD) (hz : Sized xs) (hd : (dec xs).2 = none) (h0 : (dec xs).1 ≠ 0) :
    AC Tryz.prog 78 [cellsA xs, cellsA ps, .clo f [.ptr (0, 0) 0]] [((0, 0), .box [cellsA ys])] (.agg [.c (.int .i64 (dec xs).1), .nils]) [((0, 0), .box [cellsA ys])] := by
  have ho := ofOne3_none 142 f ps ys xs hz hd h0
  refine wEnter Tryz.func78 Tryz.ntmps78 ?_
  refine wRUN trivial ?_
  refine wCall (op_any_call [((0, 0), (4, 0)), ((0, 1), (5, 0)), ((0, 2), (0, 0))] [((0, 0), (4, 0)), ((0, 1), (5, 0)), ((0, 2), (0, 0))] ho) trivial ?_
  refine wRUN trivial ?_
  exact wRetOf (ret_of [((0, 0), (0, 0))] []) Tryz.results78 h0
set_option maxHeartbeats 1000000 in
theorem withPathC_bad (f : FuncId) (xs ps ys : List CellD) (hz : Sized xs) (hzp : Sized ps) {t : V} (hd : dec xs = (0, some t)) {c : Int} (hc : c ≠ 0) (hp : pathDec ps = (c, none)) :
    AC Tryz.prog 78 [cellsA xs, cellsA ps, .clo f [.ptr (0, 0) 0]] [((0, 0), .box [cellsA ys])] (.agg [.c (.int .i64 c), .nils]) [((0, 0), .box [cellsA ys])] := by
  have ho := ofOne3_bad 142 f (by simp only [go_sem]) ps ys xs hz hd hc (withPath1c_bad f t ps ys hzp hc hp)
  refine wEnter Tryz.func78 Tryz.ntmps78 ?_
  refine wRUN trivial ?_
  refine wCall (op_any_call [((0, 0), (4, 0)), ((0, 1), (5, 0)), ((0, 2), (0, 0))] [((0, 0), (4, 0)), ((0, 1), (5, 0)), ((0, 2), (0, 0))] ho) trivial ?_
  refine wRUN trivial ?_
  exact wRetOf (ret_of [((0, 0), (0, 0))] []) Tryz.results78 hc
set_option maxHeartbeats 1000000 in
theorem withPathC_no (f : FuncId) (hcal : callable Tryz.prog f = true) (xs ps ys : List CellD) (hz : Sized xs) (hzp : Sized ps) {t : V} (hd : dec xs = (0, some t)) {path : List V} (hp : pathDec ps = (0, some path)) {c : Int} (hc : c ≠ 0)
    (hf : AC Tryz.prog f [t.av, valsA path, .ptr (0, 0) 0] [((0, 0), .box [cellsA ys])] (outA c nullV) [((0, 0), .box [cellsA ys])]) : AC Tryz.prog 78 [cellsA xs, cellsA ps, .clo f [.ptr (0, 0) 0]] [((0, 0), .box [cellsA ys])] (.agg [.c (.int .i64 c), .nils]) [((0, 0), .box [cellsA ys])] := by
  have ho := ofOne3_bad 142 f (by simp only [go_sem]) ps ys xs hz hd hc (withPath1c_ac f hcal t ps ys hzp (r := (c, none)) hp hf)
  refine wEnter Tryz.func78 Tryz.ntmps78 ?_
  refine wRUN trivial ?_
  refine wCall (op_any_call [((0, 0), (4, 0)), ((0, 1), (5, 0)), ((0, 2), (0, 0))] [((0, 0), (4, 0)), ((0, 1), (5, 0)), ((0, 2), (0, 0))] ho) trivial ?_
  refine wRUN trivial ?_
  exact wRetOf (ret_of [((0, 0), (0, 0))] []) Tryz.results78 hc
set_option maxHeartbeats 1000000 in
theorem withPathC_ac (f : FuncId) (hcal : callable Tryz.prog f = true) (xs ps ys : List CellD) (hz : Sized xs) (hzp : Sized ps) {t u : V} (hd : dec xs = (0, some t)) {path : List V} (hp : pathDec ps = (0, some path)) (hu : u.right)
    (hf : AC Tryz.prog f [t.av, valsA path, .ptr (0, 0) 0] [((0, 0), .box [cellsA ys])] (outA 0 u) [((0, 0), .box [cellsA ys])]) : AC Tryz.prog 78 [cellsA xs, cellsA ps, .clo f [.ptr (0, 0) 0]] [((0, 0), .box [cellsA ys])] (.agg [.c (.int .i64 0), .own (1, 0)]) [((0, 0), .box [cellsA ys]), ((1, 0), .row false 5 42 (u.enc.map CellD.cs))] := by
  have ho := ofOne3_ac 142 f (by simp only [go_sem]) ps ys xs hz hd hu (withPath1c_ac f hcal t ps ys hzp (r := (0, some u)) hp hf)
  simp only [List.cons_append, List.nil_append] at ho
  refine wEnter Tryz.func78 Tryz.ntmps78 ?_
  refine wRUN trivial ?_
  refine wCall (op_any_call [((0, 0), (4, 0)), ((0, 1), (5, 0)), ((0, 2), (0, 0))] [((0, 0), (4, 0)), ((0, 1), (5, 0)), ((0, 2), (0, 0)), ((1, 0), (9, 0))] ho) trivial ?_
  refine wRUN trivial ?_
  exact wRetOf (ret_of [((0, 0), (0, 0)), ((1, 0), (9, 0))] []) Tryz.results78 hd
end Go.Proofs.YtpaooephkpjkfaaGreat
