/- Texts of this proof: H99 G82. -/
import Derived.Test.YtlciedpfjhkkdaaGreatDoorKG06uS02
import Derived.Test.YtlciedpfjhkkdaaGreatDoorKG80uG81
set_option linter.unusedSimpArgs false
set_option linter.unusedVariables false
set_option linter.unnecessarySimpa false
set_option maxHeartbeats 8000000
namespace Go.Proofs.YtlciedpfjhkkdaaGreatDoor
open Go.RowKit
theorem closed_osl (l : List (List CellD)) : closedLL (l.map oslCs) = true := by
 induction l with
 | nil => rfl
 | cons c l ih => simp only [List.map_cons, closedLL, ih, Bool.and_true, oslCs, closedL, C.closed, closed_cells]
theorem forget_osl (l : List (List CellD)) : forgetLL (l.map oslCs) = l.map encCs := by
 induction l with
 | nil => rfl
 | cons c l ih => simp only [List.map_cons, forgetLL, ih, oslCs, forgetL, C.forget, forget_cells, encCs]
attribute [go_sem] closed_osl forget_osl
theorem dec_way (xs : List CellD) : ((dec xs).2 = none ∧ (dec xs).1 ≠ 0) ∨ ∃ t, dec xs = (0, some t) ∧ xs = t.enc ∧ t.wf ∧ t.count ≤ 200 ∧ t.depth ≤ 20 := by
 rcases dec_cases xs with ⟨t, ht⟩ | ⟨c, hc, hd⟩
 ·exact .inr ⟨t, ht, dec_ok ht⟩
 ·exact .inl ⟨by rw [hd], by rw [hd]; exact hc⟩
set_option maxRecDepth 10000
def ValAC (bs : List Nat) (d : Nat) : Prop := ∀ a, a + capB d ≤ 900000 → AC Tryz.prog 85 [.ptr (0, 0) 0, .c (.int .i64 ((d + 1 : Nat) : Int))] (srcM bs a) (.own (0, 1)) (valM bs (valD bs d a))
theorem l1Value_arr (bs : List Nat) (hb : BytesOk bs) {d : Nat} (hd : d ≤ 4) (ih : ValAC bs d) (a : Nat) (ha : a + capB (d + 1) ≤ 900000) (hk : nextN bs a 10 = 7 ∨ nextN bs a 10 = 8) :
  AC Tryz.prog 85 [.ptr (0, 0) 0, .c (.int .i64 ((d + 2 : Nat) : Int))] (srcM bs a) (.own (0, 1)) (valM bs (arrV (drawL (valD bs d) (nextN bs (a + 1) 4) (a + 2)).1, (drawL (valD bs d) (nextN bs (a + 1) 4) (a + 2)).2)) := by
 have hb1 : capB (d + 1) = 5 + 3 * (1 + capB d) := rfl
 have hc := l1Next_ac bs hb a 10 (by omega) (by omega)
 have n1 := l1Next_ac bs hb (a + 1) 4 (by omega) (by omega)
 have hn := nextN_lt bs (a + 1) (n := 4) (by omega)
 have hok := valD_ok bs d
 have hcc : capC d ≤ 400 := by
  have : d = 0 ∨ d = 1 ∨ d = 2 ∨ d = 3 ∨ d = 4 := by omega
  rcases this with rfl | rfl | rfl | rfl | rfl <;> decide
 obtain ⟨g1, g2, g3, g4, g5, g6⟩ := drawL_ok hok (nextN bs (a + 1) 4) (a + 2)
 have hdp : decide (((d + 2 : Nat) : Int) ≤ 1) = false := decide_eq_false (by omega)
 have hdw : IntKind.i64.wrap (((d + 2 : Nat) : Int) - 1) = ((d + 1 : Nat) : Int) := wrapN (by omega) (by omega)
 have hm1 : nextN bs (a + 1) 4 * capC d ≤ 3 * capC d := Nat.mul_le_mul_right _ (by omega)
 obtain ⟨q, hq⟩ : ∃ q, drawL (valD bs d) (nextN bs (a + 1) 4) (a + 2) = q := ⟨_, rfl⟩
 rw [hq] at g1 g2 g3 g4 g5 g6 ⊢
 have har := l1Array_ac q.1 (by simp only [arrV, V.count]; omega)
 generalize nextN bs (a + 1) 4 = n at *
 have hz : (([] : List V).map V.enc).map oslCs = [] := rfl
 obtain ⟨z, hzr⟩ : ∃ z : Int, ((nextN bs a 10 : Nat) : Int) = z := ⟨_, rfl⟩
 rw [hzr] at hc
 have hzz : z = 7 ∨ z = 8 := by omega
 rcases hzz with rfl | rfl
 all_goals
  refine wEnter Tryz.func85 Tryz.ntmps85 ?_
  refine wRUN trivial ?_
  refine wCall (op_any_call [((0, 0), (0, 0))] [((0, 0), (0, 0))] hc) trivial ?_
  (repeat (first | (with_reducible first | refine a_seq ?_ | refine a_region ?_ | refine a_block ?_ | refine a_scope ?_) | ((with_reducible apply op_any); (iterate 2 (focus (first | (simp only [go_sem, Nat.reduceEqDiff, Nat.reduceAdd, Nat.reduceSub, Nat.reduceLeDiff, Nat.reduceMul, Nat.reduceBEq, Nat.reduceLT, Int.reduceToNat, reduceCtorEq, hdp, Int.reduceBEq, Int.reduceGT, Int.reduceLT, decide_true, decide_false]; first | done | exact rfl | (and_intros <;> rfl)) | exact rfl | decide)))) | ((with_reducible refine o_nil ?_); dsimp only; try ((with_reducible apply o_draw); (focus (simp only [go_sem]; exact rfl)); (focus decide))) | ((with_reducible first | refine a_ret ?_ | refine a_skip ?_ | refine a_label ?_); dsimp only) | ((with_reducible refine a_exit ?_); dsimp only; simp only [if_true, if_false, Nat.reduceEqDiff]) | ((with_reducible apply a_if); (focus (simp only [go_sem, Nat.reduceBEq, Nat.reduceLT, hdp, Int.reduceBEq, Int.reduceGT, Int.reduceLT, decide_true, decide_false]; exact rfl)); dsimp only [cond_true, cond_false]) | ((with_reducible refine a_draw ?_ ?_); (focus exact rfl))))
  refine wCall (op_any_call [((0, 0), (0, 0))] [((0, 0), (0, 0))] n1) trivial ?_
  refine wRUN trivial ?_
  refine a_loop (κ := List V × Nat × Nat) (fun x => ⟨mkS 0 91 [(0, .ptr (0, 0) 0), (1, .c (.int .i64 ((d + 2 : Nat) : Int))), (6, .own (99, 0)), (7, .c (.int .i64 (x.2.1 : Int)))],
    [((0, 0), srcO bs x.2.2), ((99, 0), .row true 1 22 ((x.1.map V.enc).map oslCs))]⟩)
   (fun x => x.1.length + x.2.1 ≤ 3 ∧ x.2.2 + x.2.1 * capB d ≤ a + 2 + 3 * capB d ∧ x.1 ++ (drawL (valD bs d) x.2.1 x.2.2).1 = q.1 ∧ (drawL (valD bs d) x.2.1 x.2.2).2 = q.2) (fun x => x.2.1) ([], n, a + 2) ⟨by show 0 + n ≤ 3; omega, Nat.add_le_add_left (Nat.mul_le_mul_right _ (show n ≤ 3 by omega)) _, by rw [List.nil_append, hq], by rw [hq]⟩ ?_ ?_
  ·exact wSays (Says.of [((0, 0), (0, 0)), ((99, 0), (52, 0))] []) hz
  ·rintro ⟨vs, m, a1⟩ ⟨i1, i2, i3, i4⟩
   dsimp only at i1 i2 i3 i4 ⊢
   cases m with
   | zero =>
    have e1 : vs = q.1 := by rw [← i3]; simp [drawL]
    have e2 : a1 = q.2 := i4
    rw [e1, e2]
    have h0 : decide (((0 : Nat) : Int) > 0) = false := rfl
    generalize q.1 = qs at *
    generalize q.2 = q2 at *
    refine wRUN h0 ?_
    refine w12 (op_rowF [(99, 0)] har) trivial ?_
    refine wRUN trivial ?_
    exact wRetOf (ret_of [((0, 0), (0, 0)), ((0, 1), (67, 0))] []) Tryz.results85 hdp
   | succ m =>
    rw [Nat.succ_mul] at i2
    have ihc := ih a1 (by omega)
    obtain ⟨o1, o2, o3, o4, o5⟩ := hok a1
    have h0 : decide (((m + 1 : Nat) : Int) > 0) = true := decide_eq_true (by omega)
    have hw : IntKind.i64.wrap (((m + 1 : Nat) : Int) - 1) = (m : Int) := wrapN (by omega) (by omega)
    have hol : vs.length + 1 ≤ 1000000 := by omega
    have i3' : (vs ++ [(valD bs d a1).1]) ++ (drawL (valD bs d) m (valD bs d a1).2).1 = q.1 := by rw [List.append_assoc]; exact i3
    have i4' : (drawL (valD bs d) m (valD bs d a1).2).2 = q.2 := i4
    generalize valD bs d a1 = v at *
    have hrow : (vs.map V.enc).map oslCs ++ [[C.osl (v.1.enc.map CellD.cs)]] = ((vs ++ [v.1]).map V.enc).map oslCs := by rw [List.map_append, List.map_append]; rfl
    refine wRUN (j2 h0 hdw) ?_
    refine wCall (op_any_call [((0, 0), (0, 0))] [((0, 0), (0, 0)), ((0, 1), (63, 0))] ihc) trivial ?_
    refine wRUN (j2 hol hw) ?_
    refine ⟨(vs ++ [v.1], m, v.2), by dsimp only; omega, ⟨by dsimp only; simp; omega, by dsimp only; omega, i3', i4'⟩, ?_⟩
    dsimp only
    rw [← hrow]
    exact wSays (Says.of [((0, 0), (0, 0)), ((99, 0), (65, 0))] []) hol
theorem l1Value_obj (bs : List Nat) (hb : BytesOk bs) {d : Nat} (hd : d ≤ 4) (ih : ValAC bs d) (a : Nat) (ha : a + capB (d + 1) ≤ 900000) (hk : nextN bs a 10 = 9) :
  AC Tryz.prog 85 [.ptr (0, 0) 0, .c (.int .i64 ((d + 2 : Nat) : Int))] (srcM bs a) (.own (0, 1)) (valM bs (objV (drawK bs (valD bs d) (nextN bs (a + 1) 4) (a + 2)).1 (drawK bs (valD bs d) (nextN bs (a + 1) 4) (a + 2)).2.1, (drawK bs (valD bs d) (nextN bs (a + 1) 4) (a + 2)).2.2)) := by
 have hb1 : capB (d + 1) = 5 + 3 * (1 + capB d) := rfl
 have hc := l1Next_ac bs hb a 10 (by omega) (by omega)
 have n1 := l1Next_ac bs hb (a + 1) 4 (by omega) (by omega)
 have hn := nextN_lt bs (a + 1) (n := 4) (by omega)
 have hok := valD_ok bs d
 have hcc : capC d ≤ 400 := by
  have : d = 0 ∨ d = 1 ∨ d = 2 ∨ d = 3 ∨ d = 4 := by omega
  rcases this with rfl | rfl | rfl | rfl | rfl <;> decide
 obtain ⟨g1, g0, g7, g2, g3, g4, g5, g6⟩ := drawK_ok bs hok (nextN bs (a + 1) 4) (a + 2)
 have hdp : decide (((d + 2 : Nat) : Int) ≤ 1) = false := decide_eq_false (by omega)
 have hdw : IntKind.i64.wrap (((d + 2 : Nat) : Int) - 1) = ((d + 1 : Nat) : Int) := wrapN (by omega) (by omega)
 have hm1 : nextN bs (a + 1) 4 * capC d ≤ 3 * capC d := Nat.mul_le_mul_right _ (by omega)
 obtain ⟨q, hq⟩ : ∃ q, drawK bs (valD bs d) (nextN bs (a + 1) 4) (a + 2) = q := ⟨_, rfl⟩
 rw [hq] at g1 g0 g7 g2 g3 g4 g5 g6 ⊢
 have har := l1Object_ac q.1 q.2.1 (by omega) (by omega)
 generalize nextN bs (a + 1) 4 = n at *
 have hz : (([] : List V).map V.enc).map oslCs = [] := rfl
 have hz1 : ([] : List ByteArray).map strCs = [] := rfl
 have hzr : ((nextN bs a 10 : Nat) : Int) = 9 := by omega
 rw [hzr] at hc
 refine wEnter Tryz.func85 Tryz.ntmps85 ?_
 refine wRUN trivial ?_
 refine wCall (op_any_call [((0, 0), (0, 0))] [((0, 0), (0, 0))] hc) trivial ?_
 (repeat (first | (with_reducible first | refine a_seq ?_ | refine a_region ?_ | refine a_block ?_ | refine a_scope ?_) | ((with_reducible apply op_any); (iterate 2 (focus (first | (simp only [go_sem, Nat.reduceEqDiff, Nat.reduceAdd, Nat.reduceSub, Nat.reduceLeDiff, Nat.reduceMul, Nat.reduceBEq, Nat.reduceLT, Int.reduceToNat, reduceCtorEq, hdp, Int.reduceBEq, Int.reduceGT, Int.reduceLT, decide_true, decide_false]; first | done | exact rfl | (and_intros <;> rfl)) | exact rfl | decide)))) | ((with_reducible refine o_nil ?_); dsimp only; try ((with_reducible apply o_draw); (focus (simp only [go_sem]; exact rfl)); (focus decide))) | ((with_reducible first | refine a_ret ?_ | refine a_skip ?_ | refine a_label ?_); dsimp only) | ((with_reducible refine a_exit ?_); dsimp only; simp only [if_true, if_false, Nat.reduceEqDiff]) | ((with_reducible apply a_if); (focus (simp only [go_sem, Nat.reduceBEq, Nat.reduceLT, hdp, Int.reduceBEq, Int.reduceGT, Int.reduceLT, decide_true, decide_false]; exact rfl)); dsimp only [cond_true, cond_false]) | ((with_reducible refine a_draw ?_ ?_); (focus exact rfl))))
 refine wCall (op_any_call [((0, 0), (0, 0))] [((0, 0), (0, 0))] n1) trivial ?_
 refine wRUN trivial ?_
 refine a_loop (κ := List ByteArray × List V × Nat × Nat) (fun x => ⟨mkS 0 91 [(0, .ptr (0, 0) 0), (1, .c (.int .i64 ((d + 2 : Nat) : Int))), (8, .own (98, 0)), (9, .own (99, 0)), (10, .c (.int .i64 (x.2.2.1 : Int)))],
   [((0, 0), srcO bs x.2.2.2), ((98, 0), .row false 1 9 (x.1.map strCs)), ((99, 0), .row true 1 22 ((x.2.1.map V.enc).map oslCs))]⟩)
  (fun x => x.1.length + x.2.2.1 ≤ 3 ∧ x.2.1.length = x.1.length ∧ x.2.2.2 + x.2.2.1 * (capB d + 1) ≤ a + 2 + 3 * (capB d + 1) ∧ x.1 ++ (drawK bs (valD bs d) x.2.2.1 x.2.2.2).1 = q.1 ∧ x.2.1 ++ (drawK bs (valD bs d) x.2.2.1 x.2.2.2).2.1 = q.2.1 ∧ (drawK bs (valD bs d) x.2.2.1 x.2.2.2).2.2 = q.2.2) (fun x => x.2.2.1) ([], [], n, a + 2) ⟨by show 0 + n ≤ 3; omega, rfl, Nat.add_le_add_left (Nat.mul_le_mul_right _ (show n ≤ 3 by omega)) _, by rw [List.nil_append, hq], by rw [List.nil_append, hq], by rw [hq]⟩ ?_ ?_
 ·exact wSays (Says.of [((0, 0), (0, 0)), ((98, 0), (68, 0)), ((99, 0), (69, 0))] []) (j2 hz hz1)
 ·rintro ⟨ks, vs, m, a1⟩ ⟨i1, i0, i2, i3, i5, i4⟩
  dsimp only at i1 i0 i2 i3 i4 i5 ⊢
  cases m with
  | zero =>
   have e1 : ks = q.1 := by rw [← i3]; simp [drawK]
   have e3 : vs = q.2.1 := by rw [← i5]; simp [drawK]
   have e2 : a1 = q.2.2 := i4
   rw [e1, e2, e3]
   have h0 : decide (((0 : Nat) : Int) > 0) = false := rfl
   generalize q.1 = qk at *
   generalize q.2.1 = qs at *
   generalize q.2.2 = q2 at *
   refine wRUN h0 ?_
   refine w12 (op_rowF [(98, 0), (99, 0)] har) trivial ?_
   refine wRUN trivial ?_
   exact wRetOf (ret_of [((0, 0), (0, 0)), ((0, 1), (90, 0))] []) Tryz.results85 hdp
  | succ m =>
   rw [Nat.succ_mul] at i2
   have kc := l1Key_ac bs hb a1 (by omega)
   have ihc := ih (a1 + 1) (by omega)
   obtain ⟨o1, o2, o3, o4, o5⟩ := hok (a1 + 1)
   have h0 : decide (((m + 1 : Nat) : Int) > 0) = true := decide_eq_true (by omega)
   have hw : IntKind.i64.wrap (((m + 1 : Nat) : Int) - 1) = (m : Int) := wrapN (by omega) (by omega)
   have hol : vs.length + 1 ≤ 1000000 := by omega
   have hol2 : ks.length + 1 ≤ 1000000 := by omega
   have i3' : (ks ++ [keyN bs a1]) ++ (drawK bs (valD bs d) m (valD bs d (a1 + 1)).2).1 = q.1 := by rw [List.append_assoc]; exact i3
   have i5' : (vs ++ [(valD bs d (a1 + 1)).1]) ++ (drawK bs (valD bs d) m (valD bs d (a1 + 1)).2).2.1 = q.2.1 := by rw [List.append_assoc]; exact i5
   have i4' : (drawK bs (valD bs d) m (valD bs d (a1 + 1)).2).2.2 = q.2.2 := i4
   generalize valD bs d (a1 + 1) = v at *
   generalize keyN bs a1 = kn at *
   have hrow : (vs.map V.enc).map oslCs ++ [[C.osl (v.1.enc.map CellD.cs)]] = ((vs ++ [v.1]).map V.enc).map oslCs := by rw [List.map_append, List.map_append]; rfl
   have hrow2 : ks.map strCs ++ [[C.str kn]] = (ks ++ [kn]).map strCs := by rw [List.map_append]; rfl
   refine wRUN (j2 h0 hdw) ?_
   refine wCall (op_any_call [((0, 0), (0, 0))] [((0, 0), (0, 0))] kc) trivial ?_
   refine wRUN (j2 hol2 hdw) ?_
   refine wCall (op_any_call [((0, 0), (0, 0))] [((0, 0), (0, 0)), ((0, 1), (85, 0))] ihc) trivial ?_
   refine wRUN (j2 hol hw) ?_
   refine ⟨(ks ++ [kn], vs ++ [v.1], m, v.2), by dsimp only; omega, ⟨by dsimp only; simp; omega, by dsimp only; simp [i0], by dsimp only; omega, i3', i5', i4'⟩, ?_⟩
   dsimp only
   rw [← hrow, ← hrow2]
   exact wSays (Says.of [((0, 0), (0, 0)), ((98, 0), (80, 0)), ((99, 0), (87, 0))] []) hol
theorem l1Value_ac (bs : List Nat) (hb : BytesOk bs) : ∀ d, d ≤ 4 → ValAC bs d
 | 0, _ => fun a ha => by
  have hk := (kindD_le bs 0 a).2 rfl
  unfold valD
  have hb1 : capB 0 = 5 := rfl
  exact l1Value_leaf bs hb a (by omega) _ true (by decide) _ (by unfold kindD; simp) hk
 | d + 1, hd => fun a ha => by
  have ih := l1Value_ac bs hb d (by omega)
  have hk := (kindD_le bs (d + 1) a).1
  have hkr : kindD bs (d + 1) a = nextN bs a 10 := by unfold kindD; simp
  have hb1 : capB (d + 1) = 5 + 3 * (1 + capB d) := rfl
  unfold valD
  rw [hkr] at hk ⊢
  split
  ·rename_i h6
   exact l1Value_leaf bs hb a (by omega) _ false (decide_eq_false (by omega)) _ (by simp) h6
  ·split
   ·exact l1Value_arr bs hb (by omega) ih a ha (by omega)
   ·exact l1Value_obj bs hb (by omega) ih a ha (by omega)
end Go.Proofs.YtlciedpfjhkkdaaGreatDoor
