/- impl.pathOf, withPath, ofOne, by the engine. -/
import Derived.Test.YtpaooephkpjkfaaGreatKG22
set_option linter.unusedSimpArgs false
set_option linter.unusedVariables false
set_option linter.unnecessarySimpa false
namespace Go.Proofs.YtpaooephkpjkfaaGreat
open Go.RowKit
set_option maxRecDepth 10000
theorem ar_trees {w : World} {S : Nat → Prop} {m : Mem} {κ : Id → Value} {ks : List V} {kvs : List (List Value)} {A : Option Addr} {cv : Nat} (hc : ks.length ≤ cv) (hr : Row w S 5 A kvs) (hv : VReps w S ks kvs) : AR w S m κ (valsA ks) (.slice A ks.length cv) := by
  have h7 := crss_trees hv
  rw [csL_eq] at h7
  exact ⟨5, A, cv, kvs, by rw [List.length_map], by rw [List.length_map]; exact hc, trivial, hr, h7, rfl⟩
theorem pathOf_ac (xs : List CellD) (hz : Sized xs) {ks : List V} (h : pathDec xs = (0, some ks)) : AC Tryz.prog 87 [cellsA xs] [] (.tup [valsA ks, .c (.int .i64 0)]) [] := by
  refine AC.of_calls fun S w κ vs hv => ?_
  obtain ⟨v, vs', rfl, h1, rfl⟩ := hv
  obtain ⟨A, cap, rfl, _, hc⟩ := cr_cells.1 h1
  refine (pathOf_any xs hz A cap S w hc).mono ?_
  rintro e w' ⟨hb, he⟩
  rw [h] at he
  obtain ⟨Av, cv, kvs, rfl, h2, h3, h4⟩ := he
  exact ⟨hb, _, rfl, fun T _ hT => ⟨[_, _], rfl, _, _, rfl, ar_trees h2 (h3.weaken fun b hb _ => hT b hb) (h4.weaken fun b hb _ => hT b hb), _, _, rfl, ⟨rfl, rfl⟩, rfl⟩⟩
theorem pathOf_bad (xs : List CellD) (hz : Sized xs) {c : Int} (h : pathDec xs = (c, none)) : AC Tryz.prog 87 [cellsA xs] [] (.tup [.nils, .c (.int .i64 c)]) [] := by
  refine AC.of_calls fun S w κ vs hv => ?_
  obtain ⟨v, vs', rfl, h1, rfl⟩ := hv
  obtain ⟨A, cap, rfl, _, hc⟩ := cr_cells.1 h1
  refine (pathOf_any xs hz A cap S w hc).mono ?_
  rintro e w' ⟨hb, he⟩
  rw [h] at he
  have he' : e = .returned (.tuple #[.slice none 0 0, .int .i64 c]) := he
  subst he'
  exact ⟨hb, _, rfl, fun T _ hT => ⟨[_, _], rfl, _, _, rfl, rfl, _, _, rfl, ⟨rfl, rfl⟩, rfl⟩⟩
set_option maxHeartbeats 2000000 in
theorem withPath1_ac (f : FuncId) (hcal : callable Tryz.prog f = true) (t : V) (ps : List CellD) (hz : Sized ps) {path : List V} {r : Int × Option V} (hp : pathDec ps = (0, some path)) (hf : AC Tryz.prog f [t.av, valsA path] [] (resA r) []) :
    AC Tryz.prog 142 [t.av, .ptr (0, 0) 0, .ptr (0, 1) 0] [((0, 0), .box [cellsA ps]), ((0, 1), .box [.clo f []])] (resA r) [((0, 0), .box [cellsA ps]), ((0, 1), .box [.clo f []])] := by
  have h1 := pathOf_ac ps hz hp
  have h0 : ((0 : Int) != 0) = false := rfl
  rcases r with ⟨c, _ | u⟩
  all_goals
    simp only [resA_some, resA_none] at hf ⊢
    refine wEnter Tryz.func142 Tryz.ntmps142 ?_
    refine wRUN trivial ?_
    refine w9 (op_shared [] h1) trivial ?_
    refine wRUN h0 ?_
    refine w9 (op_shared [] hf) hcal ?_
    refine wRUN trivial ?_
    exact wRetOf (ret_of [((0, 0), (0, 0)), ((0, 1), (0, 1))] []) Tryz.results142 h0
set_option maxHeartbeats 2000000 in
theorem withPath1_bad (f : FuncId) (t : V) (ps : List CellD) (hz : Sized ps) {c : Int} (hc : c ≠ 0) (hp : pathDec ps = (c, none)) :
    AC Tryz.prog 142 [t.av, .ptr (0, 0) 0, .ptr (0, 1) 0] [((0, 0), .box [cellsA ps]), ((0, 1), .box [.clo f []])] (outA c nullV) [((0, 0), .box [cellsA ps]), ((0, 1), .box [.clo f []])] := by
  have h1 := pathOf_bad ps hz hp
  have h2 := refuses_ac c
  have h0 : (c != 0) = true := by simpa using hc
  refine wEnter Tryz.func142 Tryz.ntmps142 ?_
  refine wRUN trivial ?_
  refine w9 (op_shared [] h1) trivial ?_
  refine wRUN h0 ?_
  refine w9 (op_shared [] h2) trivial ?_
  refine wRUN trivial ?_
  exact wRetOf (ret_of [((0, 0), (0, 0)), ((0, 1), (0, 1))] []) Tryz.results142 h0
set_option maxHeartbeats 2000000 in
theorem ofOne2_none (g f : FuncId) (x : C) (xs : List CellD) (hz : Sized xs) (hd : (dec xs).2 = none) (h0 : (dec xs).1 ≠ 0) :
    AC Tryz.prog 42 [cellsA xs, .clo g [.ptr (0, 0) 0, .ptr (0, 1) 0]] [((0, 0), .box [.c x]), ((0, 1), .box [.clo f []])] (.agg [.c (.int .i64 (dec xs).1), .nils]) [((0, 0), .box [.c x]), ((0, 1), .box [.clo f []])] := by
  have hb : ((dec xs).1 != 0) = true := by simpa using h0
  have hv := valOf_bad xs hz hd
  refine wEnter Tryz.func42 Tryz.ntmps42 ?_
  refine wRUN trivial ?_
  (apply (op_shared [] hv); (iterate 9 (focus (first | (simp only [go_sem, Nat.reduceEqDiff, Nat.reduceAdd, Nat.reduceSub, Nat.reduceLeDiff, Nat.reduceMul, Nat.reduceBEq, Nat.reduceLT, Int.reduceToNat, reduceCtorEq, noV]; first | done | exact rfl | (and_intros <;> rfl)) | exact rfl | decide))))
  (repeat (first | (with_reducible first | refine a_seq ?_ | refine a_region ?_ | refine a_block ?_ | refine a_scope ?_) | ((with_reducible apply op_any); (iterate 2 (focus (first | (simp only [go_sem, Nat.reduceEqDiff, Nat.reduceAdd, Nat.reduceSub, Nat.reduceLeDiff, Nat.reduceMul, Nat.reduceBEq, Nat.reduceLT, Int.reduceToNat, reduceCtorEq, hb, noV]; first | done | exact rfl | (and_intros <;> rfl)) | exact rfl | decide)))) | ((with_reducible refine o_nil ?_); dsimp only; try ((with_reducible apply o_draw); (focus (simp only [go_sem]; exact rfl)); (focus decide))) | ((with_reducible first | refine a_ret ?_ | refine a_skip ?_ | refine a_label ?_); dsimp only) | ((with_reducible refine a_exit ?_); dsimp only; simp only [if_true, if_false, Nat.reduceEqDiff]) | ((with_reducible apply a_if); (focus (simp only [go_sem, Nat.reduceBEq, Nat.reduceLT, hb, noV]; exact rfl)); dsimp only [cond_true, cond_false]) | ((with_reducible refine a_draw ?_ ?_); (focus exact rfl))))
  exact wRetOf (ret_of [((0, 0), (0, 0)), ((0, 1), (0, 1))] []) Tryz.results42 h0
set_option maxHeartbeats 2000000 in
theorem ofOne2_bad (g f : FuncId) (hcal : callable Tryz.prog g = true) (x : C) (xs : List CellD) (hz : Sized xs) {t : V} (hd : dec xs = (0, some t)) {c : Int} (hc : c ≠ 0)
    (hg : AC Tryz.prog g [t.av, .ptr (0, 0) 0, .ptr (0, 1) 0] [((0, 0), .box [.c x]), ((0, 1), .box [.clo f []])] (outA c nullV) [((0, 0), .box [.c x]), ((0, 1), .box [.clo f []])]) :
    AC Tryz.prog 42 [cellsA xs, .clo g [.ptr (0, 0) 0, .ptr (0, 1) 0]] [((0, 0), .box [.c x]), ((0, 1), .box [.clo f []])] (.agg [.c (.int .i64 c), .nils]) [((0, 0), .box [.c x]), ((0, 1), .box [.clo f []])] := by
  have h0 : ((0 : Int) != 0) = false := rfl
  have hv := valOf_ac xs hz (t := t) (by rw [hd])
  have hr := result_bad hc
  refine wEnter Tryz.func42 Tryz.ntmps42 ?_
  refine wRUN trivial ?_
  refine w9 (op_shared [] hv) trivial ?_
  refine wRUN h0 ?_
  refine wCall (op_any_call [((0, 0), (0, 0)), ((0, 1), (0, 1))] [((0, 0), (0, 0)), ((0, 1), (0, 1))] hg) hcal ?_
  refine w7 (op_data [] hr) trivial ?_
  refine wRUN trivial ?_
  exact wRetOf (ret_of [((0, 0), (0, 0)), ((0, 1), (0, 1))] []) Tryz.results42 h0
set_option maxHeartbeats 2000000 in
theorem ofOne2_ac (g f : FuncId) (hcal : callable Tryz.prog g = true) (x : C) (xs : List CellD) (hz : Sized xs) {t u : V} (hd : dec xs = (0, some t)) (hu : u.right)
    (hg : AC Tryz.prog g [t.av, .ptr (0, 0) 0, .ptr (0, 1) 0] [((0, 0), .box [.c x]), ((0, 1), .box [.clo f []])] (outA 0 u) [((0, 0), .box [.c x]), ((0, 1), .box [.clo f []])]) :
    AC Tryz.prog 42 [cellsA xs, .clo g [.ptr (0, 0) 0, .ptr (0, 1) 0]] [((0, 0), .box [.c x]), ((0, 1), .box [.clo f []])] (.agg [.c (.int .i64 0), .own (1, 0)]) [((0, 0), .box [.c x]), ((0, 1), .box [.clo f []]), ((1, 0), .row false 5 42 (u.enc.map CellD.cs))] := by
  have h0 : ((0 : Int) != 0) = false := rfl
  have hv := valOf_ac xs hz (t := t) (by rw [hd])
  have hr := result_ac hu
  refine wEnter Tryz.func42 Tryz.ntmps42 ?_
  refine wRUN trivial ?_
  refine w9 (op_shared [] hv) trivial ?_
  refine wRUN h0 ?_
  refine wCall (op_any_call [((0, 0), (0, 0)), ((0, 1), (0, 1))] [((0, 0), (0, 0)), ((0, 1), (0, 1))] hg) hcal ?_
  refine w12 (op_rowF [] hr) trivial ?_
  refine wRUN trivial ?_
  exact wRetOf (ret_of [((0, 0), (0, 0)), ((0, 1), (0, 1)), ((1, 0), (19, 0))] []) Tryz.results42 h0
end Go.Proofs.YtpaooephkpjkfaaGreat
