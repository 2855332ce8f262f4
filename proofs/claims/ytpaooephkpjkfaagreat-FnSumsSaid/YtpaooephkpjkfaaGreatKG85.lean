/- spec.DrawBinary, laws.lwAt, laws.lwBig, impl.Truthy, by the engine. -/
import Derived.Test.YtpaooephkpjkfaaGreatKG84
set_option linter.unusedSimpArgs false
set_option linter.unusedVariables false
set_option linter.unnecessarySimpa false
namespace Go.Proofs.YtpaooephkpjkfaaGreat
open Go.RowKit
set_option maxRecDepth 10000
theorem lwBig_ac (bs : List Nat) : AC Tryz.prog 8 [.c (.sl (bs.map byteCs))] [] (.c (.bool (decide ((bs.length : Int) > 1048576)))) [] := by
  have hln : (bs.map byteCs).length = bs.length := by simp
  refine wEnter Tryz.func8 Tryz.ntmps8 ?_
  refine wRUN hln ?_
  exact wRet (ret_data []) Tryz.results8
/-- The i-th choice out of n. -/
def lwN (bs : List Nat) (i n : Nat) : Nat :=
  if n ≤ 1 then 0 else if bs = [] then (i * 7) % n
  else if n ≤ 200 then (bs.getD (i % bs.length) 0 + i / bs.length * 3) % n
  else ((bs.getD (i % bs.length) 0 + i / bs.length * 3) * 251 + bs.getD ((i + 1) % bs.length) 0) % n
theorem lwN_lt (bs : List Nat) (i : Nat) {n : Nat} (h : 0 < n) : lwN bs i n < n := by
  unfold lwN
  split
  · exact h
  · split
    · exact Nat.mod_lt _ h
    · split
      · exact Nat.mod_lt _ h
      · exact Nat.mod_lt _ h
set_option maxHeartbeats 4000000 in
theorem lwAt_ac (bs : List Nat) (hb : BytesOk bs) (i n : Nat) (hi : i ≤ 1000000) (hn : n ≤ 1000000) : AC Tryz.prog 19 [.c (.sl (bs.map byteCs)), .c (.int .i64 (i : Int)), .c (.int .i64 (n : Int))] [] (.c (.int .i64 (lwN bs i n))) [] := by
  have hln : (bs.map byteCs).length = bs.length := by simp
  unfold lwN
  by_cases h1 : n ≤ 1
  · rw [if_pos h1]
    have hd : decide ((n : Int) ≤ 1) = true := decide_eq_true (by omega)
    rw [show ((0 : Nat) : Int) = 0 from rfl]
    refine wEnter Tryz.func19 Tryz.ntmps19 ?_
    refine wRUN (j2 hln hd) ?_
    exact wRet (ret_data []) Tryz.results19
  · rw [if_neg h1]
    have hd : decide ((n : Int) ≤ 1) = false := decide_eq_false (by omega)
    have hn0 : ((n : Int) = 0) = False := by simp; omega
    by_cases h2 : bs = []
    · rw [if_pos h2]
      have hk : ((bs.length : Int) == 0) = true := by rw [h2]; rfl
      have hm : IntKind.i64.wrap ((i : Int) * 7) = ((i * 7 : Nat) : Int) := wrapN (by omega) (by omega)
      have ht := tmodN (i * 7) n
      generalize i * 7 % n = x at *
      refine wEnter Tryz.func19 Tryz.ntmps19 ?_
      refine wRUN (j6 hln hd hk hm hn0 ht) ?_
      exact wRet (ret_data []) Tryz.results19
    · rw [if_neg h2]
      have hlp : 0 < bs.length := List.length_pos_iff.2 h2
      have hk : ((bs.length : Int) == 0) = false := by simp; exact h2
      have hk0 : ((bs.length : Int) = 0) = False := by simp; exact h2
      obtain ⟨u, r1, g1, d1, b1⟩ := bytes_at hb (Nat.mod_lt i hlp)
      obtain ⟨v, r2, g2, d2, b2⟩ := bytes_at hb (Nat.mod_lt (i + 1) hlp)
      have t1 := tmodN i bs.length
      have t2 := tmodN (i + 1) bs.length
      have q1 := tdivN i bs.length
      have q2 : IntKind.i64.wrap (((i / bs.length : Nat) : Int)) = ((i / bs.length : Nat) : Int) := wrapN rfl (by have := Nat.div_le_self i bs.length; omega)
      have hq := Nat.div_le_self i bs.length
      have hw1 := wrap_succ (k := i) (by omega)
      rw [d1, d2]
      generalize i / bs.length = e at *
      generalize i % bs.length = i1 at *
      generalize (i + 1) % bs.length = i2 at *
      have c1 : IntKind.i64.wrap (u : Int) = (u : Int) := wrapN rfl (by omega)
      have c2 : IntKind.i64.wrap (v : Int) = (v : Int) := wrapN rfl (by omega)
      have m1 : IntKind.i64.wrap ((e : Int) * 3) = ((e * 3 : Nat) : Int) := wrapN (by omega) (by omega)
      have p1 : IntKind.i64.wrap ((u : Int) + ((e * 3 : Nat) : Int)) = ((u + e * 3 : Nat) : Int) := wrapN (by omega) (by omega)
      by_cases h3 : n ≤ 200
      · rw [if_pos h3]
        have hg : decide ((n : Int) > 200) = false := decide_eq_false (by omega)
        have ht := tmodN (u + e * 3) n
        generalize u + e * 3 = y at *
        generalize y % n = x at *
        refine wEnter Tryz.func19 Tryz.ntmps19 ?_
        (repeat (first | (with_reducible first | refine a_seq ?_ | refine a_region ?_ | refine a_block ?_ | refine a_scope ?_) | ((with_reducible apply op_any); (iterate 2 (focus (first | (simp only [go_sem, Nat.reduceEqDiff, Nat.reduceAdd, Nat.reduceSub, Nat.reduceLeDiff, Nat.reduceMul, Nat.reduceBEq, Nat.reduceLT, Int.reduceToNat, reduceCtorEq, hd, hln, hk, hk0, t1, r1, g1, c1, q1, q2, m1, p1, hg, hn0, ht]; first | done | exact rfl | (and_intros <;> rfl)) | exact rfl | decide)))) | ((with_reducible refine o_nil ?_); dsimp only; try ((with_reducible apply o_draw); (focus (simp only [go_sem]; exact rfl)); (focus decide))) | ((with_reducible first | refine a_ret ?_ | refine a_skip ?_ | refine a_label ?_); dsimp only) | ((with_reducible refine a_exit ?_); dsimp only; simp only [if_true, if_false, Nat.reduceEqDiff]) | ((with_reducible apply a_if); (focus (simp only [go_sem, Nat.reduceBEq, Nat.reduceLT, hd, hln, hk, hk0, t1, r1, g1, c1, q1, q2, m1, p1, hg, hn0, ht]; exact rfl)); dsimp only [cond_true, cond_false]) | ((with_reducible refine a_draw ?_ ?_); (focus exact rfl))))
        exact wRet (ret_data []) Tryz.results19
      · rw [if_neg h3]
        have hg : decide ((n : Int) > 200) = true := decide_eq_true (by omega)
        have m2 : IntKind.i64.wrap (((u + e * 3 : Nat) : Int) * 251) = (((u + e * 3) * 251 : Nat) : Int) := wrapN (by omega) (by omega)
        have p2 : IntKind.i64.wrap ((((u + e * 3) * 251 : Nat) : Int) + (v : Int)) = (((u + e * 3) * 251 + v : Nat) : Int) := wrapN (by omega) (by omega)
        have ht := tmodN ((u + e * 3) * 251 + v) n
        generalize ((u + e * 3) * 251 + v) % n = x at *
        refine wEnter Tryz.func19 Tryz.ntmps19 ?_
        (repeat (first | (with_reducible first | refine a_seq ?_ | refine a_region ?_ | refine a_block ?_ | refine a_scope ?_) | ((with_reducible apply op_any); (iterate 2 (focus (first | (simp only [go_sem, Nat.reduceEqDiff, Nat.reduceAdd, Nat.reduceSub, Nat.reduceLeDiff, Nat.reduceMul, Nat.reduceBEq, Nat.reduceLT, Int.reduceToNat, reduceCtorEq, hd, hln, hk, hk0, t1, r1, g1, c1, q1, q2, m1, p1, hg, hw1, t2, r2, g2, c2, m2, p2, hn0, ht]; first | done | exact rfl | (and_intros <;> rfl)) | exact rfl | decide)))) | ((with_reducible refine o_nil ?_); dsimp only; try ((with_reducible apply o_draw); (focus (simp only [go_sem]; exact rfl)); (focus decide))) | ((with_reducible first | refine a_ret ?_ | refine a_skip ?_ | refine a_label ?_); dsimp only) | ((with_reducible refine a_exit ?_); dsimp only; simp only [if_true, if_false, Nat.reduceEqDiff]) | ((with_reducible apply a_if); (focus (simp only [go_sem, Nat.reduceBEq, Nat.reduceLT, hd, hln, hk, hk0, t1, r1, g1, c1, q1, q2, m1, p1, hg, hw1, t2, r2, g2, c2, m2, p2, hn0, ht]; exact rfl)); dsimp only [cond_true, cond_false]) | ((with_reducible refine a_draw ?_ ?_); (focus exact rfl))))
        exact wRet (ret_data []) Tryz.results19
theorem implTruthy_ac {t : V} (h : t.right) : AC Tryz.prog 22 [cellsA t.enc] [] (.c (.bool (t.kind != 0 && t.kind != 1))) [] := by
  have hv := valOf_ac t.enc (right_sized h) (t := t) (by rw [right_dec h])
  have h00 : ((0 : Int) == 0) = true := rfl
  have hk : AC Tryz.prog 70 [t.av] [] (.c (.bool (t.kind != 0 && t.kind != 1))) [] := by
    cases h0 : t.kind != 0 with
    | false =>
      refine wEnter Tryz.func70 Tryz.ntmps70 ?_
      refine wRUN h0 ?_
      exact wRet (ret_data []) Tryz.results70
    | true =>
      refine wEnter Tryz.func70 Tryz.ntmps70 ?_
      (repeat (first | (with_reducible first | refine a_seq ?_ | refine a_region ?_ | refine a_block ?_ | refine a_scope ?_) | ((with_reducible apply op_any); (iterate 2 (focus (first | (simp only [go_sem, Nat.reduceEqDiff, Nat.reduceAdd, Nat.reduceSub, Nat.reduceLeDiff, Nat.reduceMul, Nat.reduceBEq, Nat.reduceLT, Int.reduceToNat, reduceCtorEq, h0, Bool.true_and]; first | done | exact rfl | (and_intros <;> rfl)) | exact rfl | decide)))) | ((with_reducible refine o_nil ?_); dsimp only; try ((with_reducible apply o_draw); (focus (simp only [go_sem]; exact rfl)); (focus decide))) | ((with_reducible first | refine a_ret ?_ | refine a_skip ?_ | refine a_label ?_); dsimp only) | ((with_reducible refine a_exit ?_); dsimp only; simp only [if_true, if_false, Nat.reduceEqDiff]) | ((with_reducible apply a_if); (focus (simp only [go_sem, Nat.reduceBEq, Nat.reduceLT, h0, Bool.true_and]; exact rfl)); dsimp only [cond_true, cond_false]) | ((with_reducible refine a_draw ?_ ?_); (focus exact rfl))))
      exact wRet (ret_data []) Tryz.results70
  refine wEnter Tryz.func22 Tryz.ntmps22 ?_
  refine wRUN trivial ?_
  refine w9 (op_shared [] hv) trivial ?_
  refine wRUN h00 ?_
  refine w7 (op_data [] hk) trivial ?_
  refine wRUN trivial ?_
  exact wRet (ret_data []) Tryz.results22
theorem num_sized (n : Int) : Sized (numV n).enc := fun d hd => by
  have : d = ⟨3, n, ByteArray.empty, ByteArray.empty, 0⟩ := by simpa [numV, V.enc, V.cells, cellsL] using hd
  rw [this]
  exact ⟨empty_size, empty_size⟩
set_option maxHeartbeats 16000000 in
theorem drawBinary_ac (bs : List Nat) (hb : BytesOk bs) : ∃ op xs ys, Sized xs ∧ Sized ys ∧ AC Tryz.prog 16 [.c (.sl (bs.map byteCs))] [] (.tup [.c (.int .i64 op), cellsA xs, cellsA ys]) [] := by
  have s0 := l1Source_ac bs
  have n1 := l1Next_ac bs hb 0 11 (by omega) (by omega)
  have n2 := l1Next_ac bs hb 1 11 (by omega) (by omega)
  have n3 := l1Next_ac bs hb 2 11 (by omega) (by omega)
  have n4 := l1Next_ac bs hb 3 11 (by omega) (by omega)
  have n5 := l1Pick_ac bs hb 4 [IntKind.i64.wrap (1 + (nextN bs 0 11 : Nat)), IntKind.i64.wrap (1 + (nextN bs 1 11 : Nat)), IntKind.i64.wrap (1 + (nextN bs 2 11 : Nat)), IntKind.i64.wrap (1 + (nextN bs 3 11 : Nat)), 0, 12] (by simp) (by simp) (by omega)
  have n6 := l1Next_ac bs hb 5 4 (by omega) (by omega)
  have hz4 := nextN_lt bs 5 (n := 4) (by omega)
  generalize nextN bs 0 11 = x1 at *
  generalize nextN bs 1 11 = x2 at *
  generalize nextN bs 2 11 = x3 at *
  generalize nextN bs 3 11 = x4 at *
  generalize pickN bs 4 _ = op at *
  obtain ⟨z, hz⟩ : ∃ z : Int, ((nextN bs 5 4 : Nat) : Int) = z := ⟨_, rfl⟩
  rw [hz] at n6
  have hcase : z = 0 ∨ z = 1 ∨ z = 2 ∨ z = 3 := by omega
  have sv : ∀ t : V, t.wf → t.count ≤ 200 → t.depth ≤ 20 → Sized t.enc := fun t h1 h2 h3 => right_sized ⟨h1, h2, h3⟩
  have hB1 : capB 1 = 23 := rfl
  have hC1 : capC 1 = 4 := rfl
  have hv := l1Value_ac bs hb 1 (by omega)
  have ho := valD_ok bs 1
  rcases hcase with rfl | rfl | rfl | rfl
  · have m1 := l1Next_ac bs hb 6 90 (by omega) (by omega)
    have m2 := l1Pick_ac bs hb 7 [((nextN bs 6 90 : Nat) : Int), 1000000000000000, -7, 40000000] (by simp) (by simp) (by omega)
    have m3 := l1Next_ac bs hb 8 9 (by omega) (by omega)
    have m4 := l1Pick_ac bs hb 9 [((nextN bs 8 9 : Nat) : Int), 0, -3, 1000000000000000, 40000000] (by simp) (by simp) (by omega)
    have q1 := l1NumberO_ac (pickN bs 7 [((nextN bs 6 90 : Nat) : Int), 1000000000000000, -7, 40000000])
    have q2 := l1NumberO_ac (pickN bs 9 [((nextN bs 8 9 : Nat) : Int), 0, -3, 1000000000000000, 40000000])
    generalize nextN bs 6 90 = y1 at *
    generalize nextN bs 8 9 = y2 at *
    generalize pickN bs 7 _ = p1 at *
    generalize pickN bs 9 _ = p2 at *
    refine ⟨op, _, _, num_sized p1, num_sized p2, ?_⟩
    generalize (numV p1).enc = e1 at *
    generalize (numV p2).enc = e2 at *
    refine wEnter Tryz.func16 Tryz.ntmps16 ?_
    refine wRUN trivial ?_
    refine w12 (op_rowF [] s0) trivial ?_
    refine wRUN trivial ?_
    refine wCall (op_any_call [((0, 0), (11, 0))] [((0, 0), (11, 0))] n1) trivial ?_
    refine wRUN trivial ?_
    refine wCall (op_any_call [((0, 0), (11, 0))] [((0, 0), (11, 0))] n2) trivial ?_
    refine wRUN trivial ?_
    refine wCall (op_any_call [((0, 0), (11, 0))] [((0, 0), (11, 0))] n3) trivial ?_
    refine wRUN trivial ?_
    refine wCall (op_any_call [((0, 0), (11, 0))] [((0, 0), (11, 0))] n4) trivial ?_
    refine wRUN trivial ?_
    refine wCallB (op_callB [(25, 0)] [((0, 0), (11, 0))] [((0, 0), (11, 0))] n5) trivial ?_
    refine wRUN trivial ?_
    refine wCall (op_any_call [((0, 0), (11, 0))] [((0, 0), (11, 0))] n6) trivial ?_
    (repeat (first | (with_reducible first | refine a_seq ?_ | refine a_region ?_ | refine a_block ?_ | refine a_scope ?_) | ((with_reducible apply op_any); (iterate 2 (focus (first | (simp only [go_sem, Nat.reduceEqDiff, Nat.reduceAdd, Nat.reduceSub, Nat.reduceLeDiff, Nat.reduceMul, Nat.reduceBEq, Nat.reduceLT, Int.reduceToNat, reduceCtorEq, Int.reduceBEq]; first | done | exact rfl | (and_intros <;> rfl)) | exact rfl | decide)))) | ((with_reducible refine o_nil ?_); dsimp only; try ((with_reducible apply o_draw); (focus (simp only [go_sem]; exact rfl)); (focus decide))) | ((with_reducible first | refine a_ret ?_ | refine a_skip ?_ | refine a_label ?_); dsimp only) | ((with_reducible refine a_exit ?_); dsimp only; simp only [if_true, if_false, Nat.reduceEqDiff]) | ((with_reducible apply a_if); (focus (simp only [go_sem, Nat.reduceBEq, Nat.reduceLT, Int.reduceBEq]; exact rfl)); dsimp only [cond_true, cond_false]) | ((with_reducible refine a_draw ?_ ?_); (focus exact rfl))))
    refine wCall (op_any_call [((0, 0), (11, 0))] [((0, 0), (11, 0))] m1) trivial ?_
    refine wRUN trivial ?_
    refine wCallB (op_callB [(35, 0)] [((0, 0), (11, 0))] [((0, 0), (11, 0))] m2) trivial ?_
    refine wRUN trivial ?_
    refine w12 (op_rowF [] q1) trivial ?_
    refine wRUN trivial ?_
    refine wCall (op_any_call [((0, 0), (11, 0))] [((0, 0), (11, 0))] m3) trivial ?_
    refine wRUN trivial ?_
    refine wCallB (op_callB [(41, 0)] [((0, 0), (11, 0))] [((0, 0), (11, 0))] m4) trivial ?_
    refine wRUN trivial ?_
    refine w12 (op_rowF [] q2) trivial ?_
    refine wRUN trivial ?_
    exact wRetOf (ret_of [] [(37, 0), (43, 0)]) Tryz.results16 hB1
  · obtain ⟨v1, v2, v3, v4, v5⟩ := ho 6
    have c1 : AC Tryz.prog 59 [.ptr (0, 0) 0, .c (.int .i64 2)] (srcM bs 6) (.own (0, 1)) (bentM bs (valD bs 1 6).1.enc (valD bs 1 6).2) := hv 6 (by omega)
    obtain ⟨w1, w2, w3, w4, w5⟩ := ho (valD bs 1 6).2
    have c2 : AC Tryz.prog 59 [.ptr (0, 0) 0, .c (.int .i64 2)] (srcM bs (valD bs 1 6).2) (.own (0, 1)) (bentM bs (valD bs 1 (valD bs 1 6).2).1.enc (valD bs 1 (valD bs 1 6).2).2) := hv _ (by omega)
    refine ⟨op, _, _, sv _ v1 (by omega) (by omega), sv _ w1 (by omega) (by omega), ?_⟩
    generalize (valD bs 1 (valD bs 1 6).2).1.enc = ys at *
    generalize (valD bs 1 (valD bs 1 6).2).2 = a2 at *
    generalize (valD bs 1 6).1.enc = xs at *
    generalize (valD bs 1 6).2 = a1 at *
    refine wEnter Tryz.func16 Tryz.ntmps16 ?_
    refine wRUN trivial ?_
    refine w12 (op_rowF [] s0) trivial ?_
    refine wRUN trivial ?_
    refine wCall (op_any_call [((0, 0), (11, 0))] [((0, 0), (11, 0))] n1) trivial ?_
    refine wRUN trivial ?_
    refine wCall (op_any_call [((0, 0), (11, 0))] [((0, 0), (11, 0))] n2) trivial ?_
    refine wRUN trivial ?_
    refine wCall (op_any_call [((0, 0), (11, 0))] [((0, 0), (11, 0))] n3) trivial ?_
    refine wRUN trivial ?_
    refine wCall (op_any_call [((0, 0), (11, 0))] [((0, 0), (11, 0))] n4) trivial ?_
    refine wRUN trivial ?_
    refine wCallB (op_callB [(25, 0)] [((0, 0), (11, 0))] [((0, 0), (11, 0))] n5) trivial ?_
    refine wRUN trivial ?_
    refine wCall (op_any_call [((0, 0), (11, 0))] [((0, 0), (11, 0))] n6) trivial ?_
    (repeat (first | (with_reducible first | refine a_seq ?_ | refine a_region ?_ | refine a_block ?_ | refine a_scope ?_) | ((with_reducible apply op_any); (iterate 2 (focus (first | (simp only [go_sem, Nat.reduceEqDiff, Nat.reduceAdd, Nat.reduceSub, Nat.reduceLeDiff, Nat.reduceMul, Nat.reduceBEq, Nat.reduceLT, Int.reduceToNat, reduceCtorEq, Int.reduceBEq]; first | done | exact rfl | (and_intros <;> rfl)) | exact rfl | decide)))) | ((with_reducible refine o_nil ?_); dsimp only; try ((with_reducible apply o_draw); (focus (simp only [go_sem]; exact rfl)); (focus decide))) | ((with_reducible first | refine a_ret ?_ | refine a_skip ?_ | refine a_label ?_); dsimp only) | ((with_reducible refine a_exit ?_); dsimp only; simp only [if_true, if_false, Nat.reduceEqDiff]) | ((with_reducible apply a_if); (focus (simp only [go_sem, Nat.reduceBEq, Nat.reduceLT, Int.reduceBEq]; exact rfl)); dsimp only [cond_true, cond_false]) | ((with_reducible refine a_draw ?_ ?_); (focus exact rfl))))
    refine wCall (op_any_call [((0, 0), (11, 0))] [((0, 0), (11, 0)), ((0, 1), (47, 0))] c1) trivial ?_
    refine wRUN trivial ?_
    refine wCall (op_any_call [((0, 0), (11, 0))] [((0, 0), (11, 0)), ((0, 1), (51, 0))] c2) trivial ?_
    refine wRUN trivial ?_
    exact wRetOf (ret_of [] [(47, 0), (51, 0)]) Tryz.results16 hB1
  · obtain ⟨v1, v2, v3, v4, v5⟩ := ho 6
    have c1 : AC Tryz.prog 59 [.ptr (0, 0) 0, .c (.int .i64 2)] (srcM bs 6) (.own (0, 1)) (bentM bs (valD bs 1 6).1.enc (valD bs 1 6).2) := hv 6 (by omega)
    obtain ⟨w1, w2, w3, w4, w5⟩ := ho (valD bs 1 6).2
    have c2 : AC Tryz.prog 59 [.ptr (0, 0) 0, .c (.int .i64 2)] (srcM bs (valD bs 1 6).2) (.own (0, 1)) (bentM bs (valD bs 1 (valD bs 1 6).2).1.enc (valD bs 1 (valD bs 1 6).2).2) := hv _ (by omega)
    generalize valD bs 1 (valD bs 1 6).2 = r2 at *
    generalize valD bs 1 6 = r1 at *
    obtain ⟨t1, a1⟩ := r1
    obtain ⟨t2, a2⟩ := r2
    dsimp only at v1 v2 v3 v4 v5 w1 w2 w3 w4 w5 c1 c2
    obtain ⟨u1, u2, u3, u4, u5⟩ := ho a2
    have c3 : AC Tryz.prog 59 [.ptr (0, 0) 0, .c (.int .i64 2)] (srcM bs a2) (.own (0, 1)) (bentM bs (valD bs 1 a2).1.enc (valD bs 1 a2).2) := hv _ (by omega)
    generalize valD bs 1 a2 = r3 at *
    obtain ⟨t3, a3⟩ := r3
    dsimp only at u1 u2 u3 u4 u5 c3
    have hn1 := numV_right (n := 1) (by omega)
    have k1 := l1Array_ac [t1, t2] (by simp only [arrV, V.count, countL]; omega)
    have k2 := l1Array_ac [t3, numV 1] (by simp only [arrV, V.count, countL]; have := hn1.2.1; omega)
    have kn := l1NumberO_ac 1
    have z1 := sv (arrV [t1, t2]) (arr_wf ⟨v1, w1, trivial⟩ (by simp)) (by simp only [arrV, V.count, countL]; omega) (by simp only [arrV, V.depth, depthL]; omega)
    have z2 := sv (arrV [t3, numV 1]) (arr_wf ⟨u1, hn1.1, trivial⟩ (by simp)) (by simp only [arrV, V.count, countL, numV]; omega) (by simp only [arrV, V.depth, depthL, numV]; omega)
    refine ⟨op, _, _, z1, z2, ?_⟩
    generalize (arrV [t1, t2]).enc = e1 at *
    generalize (arrV [t3, numV 1]).enc = e2 at *
    have hz1 : ([t1, t2].map V.enc).map encCs = [[.sl (t1.enc.map CellD.cs)], [.sl (t2.enc.map CellD.cs)]] := rfl
    have hz2 : ([t3, numV 1].map V.enc).map encCs = [[.sl (t3.enc.map CellD.cs)], [.sl ((numV 1).enc.map CellD.cs)]] := rfl
    rw [hz1] at k1
    rw [hz2] at k2
    generalize t1.enc = w1 at *
    generalize t2.enc = w2 at *
    generalize t3.enc = w3 at *
    generalize (numV 1).enc = w4 at *
    refine wEnter Tryz.func16 Tryz.ntmps16 ?_
    refine wRUN trivial ?_
    refine w12 (op_rowF [] s0) trivial ?_
    refine wRUN trivial ?_
    refine wCall (op_any_call [((0, 0), (11, 0))] [((0, 0), (11, 0))] n1) trivial ?_
    refine wRUN trivial ?_
    refine wCall (op_any_call [((0, 0), (11, 0))] [((0, 0), (11, 0))] n2) trivial ?_
    refine wRUN trivial ?_
    refine wCall (op_any_call [((0, 0), (11, 0))] [((0, 0), (11, 0))] n3) trivial ?_
    refine wRUN trivial ?_
    refine wCall (op_any_call [((0, 0), (11, 0))] [((0, 0), (11, 0))] n4) trivial ?_
    refine wRUN trivial ?_
    refine wCallB (op_callB [(25, 0)] [((0, 0), (11, 0))] [((0, 0), (11, 0))] n5) trivial ?_
    refine wRUN trivial ?_
    refine wCall (op_any_call [((0, 0), (11, 0))] [((0, 0), (11, 0))] n6) trivial ?_
    (repeat (first | (with_reducible first | refine a_seq ?_ | refine a_region ?_ | refine a_block ?_ | refine a_scope ?_) | ((with_reducible apply op_any); (iterate 2 (focus (first | (simp only [go_sem, Nat.reduceEqDiff, Nat.reduceAdd, Nat.reduceSub, Nat.reduceLeDiff, Nat.reduceMul, Nat.reduceBEq, Nat.reduceLT, Int.reduceToNat, reduceCtorEq, Int.reduceBEq]; first | done | exact rfl | (and_intros <;> rfl)) | exact rfl | decide)))) | ((with_reducible refine o_nil ?_); dsimp only; try ((with_reducible apply o_draw); (focus (simp only [go_sem]; exact rfl)); (focus decide))) | ((with_reducible first | refine a_ret ?_ | refine a_skip ?_ | refine a_label ?_); dsimp only) | ((with_reducible refine a_exit ?_); dsimp only; simp only [if_true, if_false, Nat.reduceEqDiff]) | ((with_reducible apply a_if); (focus (simp only [go_sem, Nat.reduceBEq, Nat.reduceLT, Int.reduceBEq]; exact rfl)); dsimp only [cond_true, cond_false]) | ((with_reducible refine a_draw ?_ ?_); (focus exact rfl))))
    refine wCall (op_any_call [((0, 0), (11, 0))] [((0, 0), (11, 0)), ((0, 1), (55, 0))] c1) trivial ?_
    refine wRUN trivial ?_
    refine wCall (op_any_call [((0, 0), (11, 0))] [((0, 0), (11, 0)), ((0, 1), (57, 0))] c2) trivial ?_
    refine wRUN trivial ?_
    refine w12 (op_rowF [(58, 0)] k1) trivial ?_
    refine wRUN trivial ?_
    refine wCall (op_any_call [((0, 0), (11, 0))] [((0, 0), (11, 0)), ((0, 1), (63, 0))] c3) trivial ?_
    refine wRUN trivial ?_
    refine w12 (op_rowF [] kn) trivial ?_
    refine wRUN trivial ?_
    refine w12 (op_rowF [(65, 0)] k2) trivial ?_
    refine wRUN trivial ?_
    exact wRetOf (ret_of [] [(59, 0), (66, 0)]) Tryz.results16 hB1
  · obtain ⟨e1, a1, ⟨g1, g2, g3, g4⟩, c1⟩ := l1Bent_ac bs hb 6 (by omega)
    obtain ⟨e2, a2, ⟨f1, f2, f3, f4⟩, c2⟩ := l1Bent_ac bs hb a1 (by omega)
    refine ⟨op, e1, e2, g2, f2, ?_⟩
    refine wEnter Tryz.func16 Tryz.ntmps16 ?_
    refine wRUN trivial ?_
    refine w12 (op_rowF [] s0) trivial ?_
    refine wRUN trivial ?_
    refine wCall (op_any_call [((0, 0), (11, 0))] [((0, 0), (11, 0))] n1) trivial ?_
    refine wRUN trivial ?_
    refine wCall (op_any_call [((0, 0), (11, 0))] [((0, 0), (11, 0))] n2) trivial ?_
    refine wRUN trivial ?_
    refine wCall (op_any_call [((0, 0), (11, 0))] [((0, 0), (11, 0))] n3) trivial ?_
    refine wRUN trivial ?_
    refine wCall (op_any_call [((0, 0), (11, 0))] [((0, 0), (11, 0))] n4) trivial ?_
    refine wRUN trivial ?_
    refine wCallB (op_callB [(25, 0)] [((0, 0), (11, 0))] [((0, 0), (11, 0))] n5) trivial ?_
    refine wRUN trivial ?_
    refine wCall (op_any_call [((0, 0), (11, 0))] [((0, 0), (11, 0))] n6) trivial ?_
    (repeat (first | (with_reducible first | refine a_seq ?_ | refine a_region ?_ | refine a_block ?_ | refine a_scope ?_) | ((with_reducible apply op_any); (iterate 2 (focus (first | (simp only [go_sem, Nat.reduceEqDiff, Nat.reduceAdd, Nat.reduceSub, Nat.reduceLeDiff, Nat.reduceMul, Nat.reduceBEq, Nat.reduceLT, Int.reduceToNat, reduceCtorEq, Int.reduceBEq]; first | done | exact rfl | (and_intros <;> rfl)) | exact rfl | decide)))) | ((with_reducible refine o_nil ?_); dsimp only; try ((with_reducible apply o_draw); (focus (simp only [go_sem]; exact rfl)); (focus decide))) | ((with_reducible first | refine a_ret ?_ | refine a_skip ?_ | refine a_label ?_); dsimp only) | ((with_reducible refine a_exit ?_); dsimp only; simp only [if_true, if_false, Nat.reduceEqDiff]) | ((with_reducible apply a_if); (focus (simp only [go_sem, Nat.reduceBEq, Nat.reduceLT, Int.reduceBEq]; exact rfl)); dsimp only [cond_true, cond_false]) | ((with_reducible refine a_draw ?_ ?_); (focus exact rfl))))
    refine wCall (op_any_call [((0, 0), (11, 0))] [((0, 0), (11, 0)), ((0, 1), (68, 0))] c1) trivial ?_
    refine wRUN trivial ?_
    refine wCall (op_any_call [((0, 0), (11, 0))] [((0, 0), (11, 0)), ((0, 1), (72, 0))] c2) trivial ?_
    refine wRUN trivial ?_
    exact wRetOf (ret_of [] [(68, 0), (72, 0)]) Tryz.results16 hB1
end Go.Proofs.YtpaooephkpjkfaaGreat
