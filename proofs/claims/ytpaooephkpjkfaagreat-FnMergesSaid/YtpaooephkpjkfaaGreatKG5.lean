/- Texts of this proof: G50 G51. -/
import Derived.Test.YtpaooephkpjkfaaGreatKG49uG22
import Derived.Test.YtpaooephkpjkfaaGreatKM2
set_option linter.unusedSimpArgs false
set_option linter.unusedVariables false
set_option linter.unnecessarySimpa false
namespace Go.Proofs.YtpaooephkpjkfaaGreat
open Go.RowKit
set_option maxRecDepth 10000
set_option maxHeartbeats 1000000 in
theorem vfault_any {t : V} (h : t.fit) (hc : t.count ≤ 500000) : AC Tryz.prog 131 [t.av] [] (.c (.int .i64 (dec t.enc).1)) [] := by
  have h1 := count_ac t.count t (Nat.le_refl _) (by omega)
  have h2 := cells_ac t.count t (Nat.le_refl _) (by omega) (fit_neat t h)
  by_cases hb : t.count ≤ 200
  · have hd : decide ((t.count : Int) > 200) = false := by simp; omega
    rcases dec_cases t.enc with ⟨u, hu⟩ | ⟨c, hc0, hu⟩
    · have h3 := valOf_ac t.enc (fit_sized h) (t := u) (by rw [hu])
      rw [hu]
      refine wEnter Tryz.func131 Tryz.ntmps131 ?_
      refine wRUN trivial ?_
      refine w7 (op_data [] h1) trivial ?_
      refine wRUN hd ?_
      refine w12 (op_rowF [] h2) trivial ?_
      refine w9 (op_shared [(10, 0)] h3) trivial ?_
      refine wRUN trivial ?_
      exact wRet (ret_data []) Tryz.results131
    · have h3 := valOf_bad t.enc (fit_sized h) (by rw [hu])
      refine wEnter Tryz.func131 Tryz.ntmps131 ?_
      refine wRUN trivial ?_
      refine w7 (op_data [] h1) trivial ?_
      refine wRUN hd ?_
      refine w12 (op_rowF [] h2) trivial ?_
      (apply (op_shared [(10, 0)] h3); (iterate 9 (focus (first | (simp only [go_sem, Nat.reduceEqDiff, Nat.reduceAdd, Nat.reduceSub, Nat.reduceLeDiff, Nat.reduceMul, Nat.reduceBEq, Nat.reduceLT, Int.reduceToNat, reduceCtorEq, noV]; first | done | exact rfl | (and_intros <;> rfl)) | exact rfl | decide))))
      (repeat (first | (with_reducible first | refine a_seq ?_ | refine a_region ?_ | refine a_block ?_ | refine a_scope ?_) | ((with_reducible apply op_any); (iterate 2 (focus (first | (simp only [go_sem, Nat.reduceEqDiff, Nat.reduceAdd, Nat.reduceSub, Nat.reduceLeDiff, Nat.reduceMul, Nat.reduceBEq, Nat.reduceLT, Int.reduceToNat, reduceCtorEq, noV]; first | done | exact rfl | (and_intros <;> rfl)) | exact rfl | decide)))) | ((with_reducible refine o_nil ?_); dsimp only; try ((with_reducible apply o_draw); (focus (simp only [go_sem]; exact rfl)); (focus decide))) | ((with_reducible first | refine a_ret ?_ | refine a_skip ?_ | refine a_label ?_); dsimp only) | ((with_reducible refine a_exit ?_); dsimp only; simp only [if_true, if_false, Nat.reduceEqDiff]) | ((with_reducible apply a_if); (focus (simp only [go_sem, Nat.reduceBEq, Nat.reduceLT, noV]; exact rfl)); dsimp only [cond_true, cond_false]) | ((with_reducible refine a_draw ?_ ?_); (focus exact rfl))))
      exact wRet (ret_data []) Tryz.results131
  · have hd : decide ((t.count : Int) > 200) = true := by simp; omega
    have hr : (dec t.enc).1 = 2 := by
      unfold dec
      rw [if_pos (by rw [enc_len]; omega)]
    rw [hr]
    refine wEnter Tryz.func131 Tryz.ntmps131 ?_
    refine wRUN trivial ?_
    refine w7 (op_data [] h1) trivial ?_
    refine wRUN hd ?_
    exact wRet (ret_data []) Tryz.results131
theorem gives_any {t : V} (h : t.fit) (hc : t.count ≤ 500000) : AC Tryz.prog 72 [t.av] [] (resA (giveR t)) [] := by
  have h1 := vfault_any h hc
  unfold giveR
  by_cases h0 : (dec t.enc).1 = 0
  · rw [if_pos h0]
    have hb : ((0 : Int) != 0) = false := rfl
    rw [h0] at h1
    show AC _ _ _ _ (outA 0 t) _
    refine wEnter Tryz.func72 Tryz.ntmps72 ?_
    refine wRUN trivial ?_
    refine w7 (op_data [] h1) trivial ?_
    refine wRUN hb ?_
    exact wRet (ret_data []) Tryz.results72
  · rw [if_neg h0]
    have hb : ((dec t.enc).1 != 0) = true := by simpa using h0
    show AC _ _ _ _ (outA (dec t.enc).1 nullV) _
    rw [outA_null]
    refine wEnter Tryz.func72 Tryz.ntmps72 ?_
    refine wRUN trivial ?_
    refine w7 (op_data [] h1) trivial ?_
    refine wRUN hb ?_
    exact wRet (ret_data []) Tryz.results72
/-! ### impl.ofTwo -/
def boxV (x : V) : List AV := [.c (.int .i64 x.kind), .c (.int .i64 x.num), .c (.str x.text), .c (.sl (x.keys.map strCs)), .c (.sl (x.kids.map V.cs))]
set_option maxHeartbeats 2000000 in
theorem ofTwo1_ac (f : FuncId) (hcal : callable Tryz.prog f = true) (x y : V) {r : Int × Option V} (hf : AC Tryz.prog f [x.av, y.av] [] (resA r) []) :
    AC Tryz.prog 121 [y.av, .ptr (0, 0) 0, .ptr (0, 1) 0] [((0, 0), .box [.clo f []]), ((0, 1), .box (boxV x))] (resA r) [((0, 0), .box [.clo f []]), ((0, 1), .box (boxV x))] := by
  simp only [boxV]
  rcases r with ⟨c, _ | u⟩
  all_goals
    simp only [resA_some, resA_none] at hf ⊢
    refine wEnter Tryz.func121 Tryz.ntmps121 ?_
    refine wRUN trivial ?_
    refine w9 (op_shared [] hf) hcal ?_
    refine wRUN trivial ?_
    exact wRetOf (ret_of [((0, 0), (0, 0)), ((0, 1), (0, 1))] []) Tryz.results121 hcal
set_option maxHeartbeats 2000000 in
theorem ofOneT_none (g f : FuncId) (x : V) (xs : List CellD) (hz : Sized xs) (hd : (dec xs).2 = none) (h0 : (dec xs).1 ≠ 0) :
    AC Tryz.prog 42 [cellsA xs, .clo g [.ptr (0, 0) 0, .ptr (0, 1) 0]] [((0, 0), .box [.clo f []]), ((0, 1), .box (boxV x))] (.agg [.c (.int .i64 (dec xs).1), .nils]) [((0, 0), .box [.clo f []]), ((0, 1), .box (boxV x))] := by
  have hb : ((dec xs).1 != 0) = true := by simpa using h0
  have hv := valOf_bad xs hz hd
  simp only [boxV] at *
  refine wEnter Tryz.func42 Tryz.ntmps42 ?_
  refine wRUN trivial ?_
  (apply (op_shared [] hv); (iterate 9 (focus (first | (simp only [go_sem, Nat.reduceEqDiff, Nat.reduceAdd, Nat.reduceSub, Nat.reduceLeDiff, Nat.reduceMul, Nat.reduceBEq, Nat.reduceLT, Int.reduceToNat, reduceCtorEq, noV]; first | done | exact rfl | (and_intros <;> rfl)) | exact rfl | decide))))
  (repeat (first | (with_reducible first | refine a_seq ?_ | refine a_region ?_ | refine a_block ?_ | refine a_scope ?_) | ((with_reducible apply op_any); (iterate 2 (focus (first | (simp only [go_sem, Nat.reduceEqDiff, Nat.reduceAdd, Nat.reduceSub, Nat.reduceLeDiff, Nat.reduceMul, Nat.reduceBEq, Nat.reduceLT, Int.reduceToNat, reduceCtorEq, hb, noV]; first | done | exact rfl | (and_intros <;> rfl)) | exact rfl | decide)))) | ((with_reducible refine o_nil ?_); dsimp only; try ((with_reducible apply o_draw); (focus (simp only [go_sem]; exact rfl)); (focus decide))) | ((with_reducible first | refine a_ret ?_ | refine a_skip ?_ | refine a_label ?_); dsimp only) | ((with_reducible refine a_exit ?_); dsimp only; simp only [if_true, if_false, Nat.reduceEqDiff]) | ((with_reducible apply a_if); (focus (simp only [go_sem, Nat.reduceBEq, Nat.reduceLT, hb, noV]; exact rfl)); dsimp only [cond_true, cond_false]) | ((with_reducible refine a_draw ?_ ?_); (focus exact rfl))))
  exact wRetOf (ret_of [((0, 0), (0, 0)), ((0, 1), (0, 1))] []) Tryz.results42 h0
set_option maxHeartbeats 2000000 in
theorem ofOneT_bad (g f : FuncId) (hcal : callable Tryz.prog g = true) (x : V) (xs : List CellD) (hz : Sized xs) {t : V} (hd : dec xs = (0, some t)) {c : Int} (hc : c ≠ 0)
    (hg : AC Tryz.prog g [t.av, .ptr (0, 0) 0, .ptr (0, 1) 0] [((0, 0), .box [.clo f []]), ((0, 1), .box (boxV x))] (outA c nullV) [((0, 0), .box [.clo f []]), ((0, 1), .box (boxV x))]) :
    AC Tryz.prog 42 [cellsA xs, .clo g [.ptr (0, 0) 0, .ptr (0, 1) 0]] [((0, 0), .box [.clo f []]), ((0, 1), .box (boxV x))] (.agg [.c (.int .i64 c), .nils]) [((0, 0), .box [.clo f []]), ((0, 1), .box (boxV x))] := by
  have h0 : ((0 : Int) != 0) = false := rfl
  have hv := valOf_ac xs hz (t := t) (by rw [hd])
  have hr := result_bad hc
  simp only [boxV] at *
  refine wEnter Tryz.func42 Tryz.ntmps42 ?_
  refine wRUN trivial ?_
  refine w9 (op_shared [] hv) trivial ?_
  refine wRUN h0 ?_
  refine wCall (op_any_call [((0, 0), (0, 0)), ((0, 1), (0, 1))] [((0, 0), (0, 0)), ((0, 1), (0, 1))] hg) hcal ?_
  refine w7 (op_data [] hr) trivial ?_
  refine wRUN trivial ?_
  exact wRetOf (ret_of [((0, 0), (0, 0)), ((0, 1), (0, 1))] []) Tryz.results42 h0
set_option maxHeartbeats 2000000 in
theorem ofOneT_ac (g f : FuncId) (hcal : callable Tryz.prog g = true) (x : V) (xs : List CellD) (hz : Sized xs) {t u : V} (hd : dec xs = (0, some t)) (hu : u.right)
    (hg : AC Tryz.prog g [t.av, .ptr (0, 0) 0, .ptr (0, 1) 0] [((0, 0), .box [.clo f []]), ((0, 1), .box (boxV x))] (outA 0 u) [((0, 0), .box [.clo f []]), ((0, 1), .box (boxV x))]) :
    AC Tryz.prog 42 [cellsA xs, .clo g [.ptr (0, 0) 0, .ptr (0, 1) 0]] [((0, 0), .box [.clo f []]), ((0, 1), .box (boxV x))] (.agg [.c (.int .i64 0), .own (1, 0)]) [((0, 0), .box [.clo f []]), ((0, 1), .box (boxV x)), ((1, 0), .row false 5 42 (u.enc.map CellD.cs))] := by
  have h0 : ((0 : Int) != 0) = false := rfl
  have hv := valOf_ac xs hz (t := t) (by rw [hd])
  have hr := result_ac hu
  simp only [boxV] at *
  refine wEnter Tryz.func42 Tryz.ntmps42 ?_
  refine wRUN trivial ?_
  refine w9 (op_shared [] hv) trivial ?_
  refine wRUN h0 ?_
  refine wCall (op_any_call [((0, 0), (0, 0)), ((0, 1), (0, 1))] [((0, 0), (0, 0)), ((0, 1), (0, 1))] hg) hcal ?_
  refine w12 (op_rowF [] hr) trivial ?_
  refine wRUN trivial ?_
  exact wRetOf (ret_of [((0, 0), (0, 0)), ((0, 1), (0, 1)), ((1, 0), (19, 0))] []) Tryz.results42 h0
set_option maxHeartbeats 1000000 in
theorem ofTwo_none (f : FuncId) (xs ys : List CellD) (hz : Sized xs) (hd : (dec xs).2 = none) (h0 : (dec xs).1 ≠ 0) :
    AC Tryz.prog 61 [cellsA xs, cellsA ys, .clo f []] [] (.agg [.c (.int .i64 (dec xs).1), .nils]) [] := by
  have hb : ((dec xs).1 != 0) = true := by simpa using h0
  have hv := valOf_bad xs hz hd
  refine wEnter Tryz.func61 Tryz.ntmps61 ?_
  refine wRUN trivial ?_
  (apply (op_shared [] hv); (iterate 9 (focus (first | (simp only [go_sem, Nat.reduceEqDiff, Nat.reduceAdd, Nat.reduceSub, Nat.reduceLeDiff, Nat.reduceMul, Nat.reduceBEq, Nat.reduceLT, Int.reduceToNat, reduceCtorEq, noV]; first | done | exact rfl | (and_intros <;> rfl)) | exact rfl | decide))))
  (repeat (first | (with_reducible first | refine a_seq ?_ | refine a_region ?_ | refine a_block ?_ | refine a_scope ?_) | ((with_reducible apply op_any); (iterate 2 (focus (first | (simp only [go_sem, Nat.reduceEqDiff, Nat.reduceAdd, Nat.reduceSub, Nat.reduceLeDiff, Nat.reduceMul, Nat.reduceBEq, Nat.reduceLT, Int.reduceToNat, reduceCtorEq, hb, noV]; first | done | exact rfl | (and_intros <;> rfl)) | exact rfl | decide)))) | ((with_reducible refine o_nil ?_); dsimp only; try ((with_reducible apply o_draw); (focus (simp only [go_sem]; exact rfl)); (focus decide))) | ((with_reducible first | refine a_ret ?_ | refine a_skip ?_ | refine a_label ?_); dsimp only) | ((with_reducible refine a_exit ?_); dsimp only; simp only [if_true, if_false, Nat.reduceEqDiff]) | ((with_reducible apply a_if); (focus (simp only [go_sem, Nat.reduceBEq, Nat.reduceLT, hb, noV]; exact rfl)); dsimp only [cond_true, cond_false]) | ((with_reducible refine a_draw ?_ ?_); (focus exact rfl))))
  exact wRet (ret_data []) Tryz.results61
set_option maxHeartbeats 1000000 in
theorem ofTwo_none2 (f : FuncId) (xs ys : List CellD) (hz : Sized xs) (hzy : Sized ys) {t : V} (hd : dec xs = (0, some t)) (hy : (dec ys).2 = none) (h0 : (dec ys).1 ≠ 0) :
    AC Tryz.prog 61 [cellsA xs, cellsA ys, .clo f []] [] (.agg [.c (.int .i64 (dec ys).1), .nils]) [] := by
  have hv := valOf_ac xs hz (t := t) (by rw [hd])
  have hb : ((0 : Int) != 0) = false := rfl
  have ho := ofOneT_none 121 f t ys hzy hy h0
  simp only [boxV] at ho
  refine wEnter Tryz.func61 Tryz.ntmps61 ?_
  refine wRUN trivial ?_
  refine w9 (op_shared [] hv) trivial ?_
  refine wRUN hb ?_
  refine wCall (op_any_call [((0, 0), (5, 0)), ((0, 1), (7, 0))] [((0, 0), (5, 0)), ((0, 1), (7, 0))] ho) trivial ?_
  refine wRUN trivial ?_
  exact wRet (ret_data []) Tryz.results61
set_option maxHeartbeats 1000000 in
theorem ofTwo_no (f : FuncId) (hcal : callable Tryz.prog f = true) (xs ys : List CellD) (hz : Sized xs) (hzy : Sized ys) {t u : V} (hd : dec xs = (0, some t)) (hy : dec ys = (0, some u)) {c : Int} (hc : c ≠ 0) (hf : AC Tryz.prog f [t.av, u.av] [] (outA c nullV) []) :
    AC Tryz.prog 61 [cellsA xs, cellsA ys, .clo f []] [] (.agg [.c (.int .i64 c), .nils]) [] := by
  have hv := valOf_ac xs hz (t := t) (by rw [hd])
  have hb : ((0 : Int) != 0) = false := rfl
  have ho := ofOneT_bad 121 f (by simp only [go_sem]) t ys hzy hy hc (ofTwo1_ac f hcal t u (r := (c, none)) hf)
  simp only [boxV] at ho
  refine wEnter Tryz.func61 Tryz.ntmps61 ?_
  refine wRUN trivial ?_
  refine w9 (op_shared [] hv) trivial ?_
  refine wRUN hb ?_
  refine wCall (op_any_call [((0, 0), (5, 0)), ((0, 1), (7, 0))] [((0, 0), (5, 0)), ((0, 1), (7, 0))] ho) trivial ?_
  refine wRUN trivial ?_
  exact wRet (ret_data []) Tryz.results61
set_option maxHeartbeats 1000000 in
theorem ofTwo_ac (f : FuncId) (hcal : callable Tryz.prog f = true) (xs ys : List CellD) (hz : Sized xs) (hzy : Sized ys) {t u v : V} (hd : dec xs = (0, some t)) (hy : dec ys = (0, some u)) (hv' : v.right) (hf : AC Tryz.prog f [t.av, u.av] [] (outA 0 v) []) :
    AC Tryz.prog 61 [cellsA xs, cellsA ys, .clo f []] [] (.agg [.c (.int .i64 0), .own (0, 0)]) [((0, 0), .row false 5 42 (v.enc.map CellD.cs))] := by
  have hv := valOf_ac xs hz (t := t) (by rw [hd])
  have hb : ((0 : Int) != 0) = false := rfl
  have ho := ofOneT_ac 121 f (by simp only [go_sem]) t ys hzy hy hv' (ofTwo1_ac f hcal t u (r := (0, some v)) hf)
  simp only [boxV] at ho
  refine wEnter Tryz.func61 Tryz.ntmps61 ?_
  refine wRUN trivial ?_
  refine w9 (op_shared [] hv) trivial ?_
  refine wRUN hb ?_
  refine wCall (op_any_call [((0, 0), (5, 0)), ((0, 1), (7, 0))] [((0, 0), (5, 0)), ((0, 1), (7, 0)), ((1, 0), (20, 0))] ho) trivial ?_
  refine wRUN trivial ?_
  exact wRetOf (ret_of [((0, 0), (20, 0))] []) Tryz.results61 hb
end Go.Proofs.YtpaooephkpjkfaaGreat

/- impl.object, whose members are the caller's own; impl.merge, by the engine. -/
namespace Go.Proofs.YtpaooephkpjkfaaGreat
open Go.RowKit
set_option maxRecDepth 10000
set_option maxHeartbeats 8000000 in
theorem object_own (keys : List ByteArray) (kids : List V) (hl : keys.length = kids.length) (hb : keys.length ≤ 900000) (hs : ∀ k ∈ keys, k.size ≤ 9223372036854775807) : AC Tryz.prog 132 [.c (.sl (keys.map strCs)), .c (.sl (kids.map V.cs))] [] (.agg [.c (.int .i64 6), .c (.int .i64 0), .c (.str ByteArray.empty), .own (0, 0), .own (0, 1)]) [((0, 0), .row false 1 9 ((objKeys keys).map strCs)), ((0, 1), .row false 5 73 (((objKeys keys).map (lastKid keys kids)).map V.cs))] := by
  have hlk : (keys.map strCs).length = keys.length := by simp
  have ht := Tryz.underlying188
  have hk := Tryz.underlying9
  have hz : ∃ z, ∀ w, (zeroValue 73).run Tryz.prog w = .ok z w := ⟨_, Tryz.zeroValue73⟩
  refine wEnter Tryz.func132 Tryz.ntmps132 ?_
  refine wRUN1 trivial ?_
  refine a_region ?_
  refine wRUN1 trivial ?_
  refine a_region ?_
  (apply (op_newMap hk); (iterate 4 (focus (first | (simp only [go_sem, Nat.reduceEqDiff, Nat.reduceAdd, Nat.reduceSub, Nat.reduceLeDiff, Nat.reduceMul, Nat.reduceBEq, Nat.reduceLT, Int.reduceToNat, reduceCtorEq]; first | done | exact rfl | (and_intros <;> rfl)) | exact rfl | decide))))
  refine wRUN1 trivial ?_
  refine a_region ?_
  refine wRUN1 hlk ?_
  refine a_loop (κ := Nat) (fun k => ⟨mkS 0 60 [(1, .c (.sl (kids.map V.cs))), (4, .ptr (4, 0) 0), (5, .own (99, 0)), (13, .c (.sl (keys.map strCs))), (14, .c (.int .i64 keys.length)), (15, .c (.int .i64 k))],
      [((4, 0), .box [.c (.int .i64 0), .c (.int .i64 0), .c (.str ByteArray.empty), .nils, .nils]), ((99, 0), .blk (mapR Tryz.prog 9 (keys.take k)) ((kids.take k).map V.cs))]⟩)
    (fun k => k ≤ keys.length) (fun k => keys.length - k) 0 (Nat.zero_le _) ?_ ?_
  · (apply (Says.of [((4, 0), (4, 0)), ((99, 0), (12, 0))] []); (iterate 2 ((focus (simp only [go_sem, Nat.reduceEqDiff, Nat.reduceAdd, Nat.reduceSub, Nat.reduceLeDiff, Nat.reduceMul, Nat.reduceBEq, Nat.reduceLT, Int.reduceToNat, reduceCtorEq, List.take_zero]; try (and_intros <;> rfl))); (focus exact rfl))); (iterate 4 (focus (simp [go_sem, List.take_zero]; done))))
  · intro k hk1
    by_cases hlt : k < keys.length
    · have hdk : decide ((k : Int) < (keys.length : Int)) = true := by simpa using hlt
      have hlt2 : k < kids.length := by omega
      have hw := wrap_succ (k := k) (by omega)
      have hr : rowsAt (keys.map strCs) 1 k = true := by simp [rowsAt, hlt, strCs]
      have hg : (keys.map strCs)[k]? = some [.str keys[k]] := by simp [hlt, strCs]
      have hr2 : rowsAt (kids.map V.cs) 5 k = true := by simp [rowsAt, hlt2, V.cs_eq]
      have hg2 : (kids.map V.cs)[k]? = some [.int .i64 kids[k].kind, .int .i64 kids[k].num, .str kids[k].text, .sl (kids[k].keys.map strCs), .sl (kids[k].kids.map V.cs)] := by simp [hlt2, V.cs_eq]
      have hsk := hs keys[k] (List.getElem_mem hlt)
      have hkn : (keys.take k).length < 9223372036854775807 := by rw [List.length_take]; omega
      have e1 : keys.take k ++ [keys[k]] = keys.take (k + 1) := by rw [List.take_succ_eq_append_getElem hlt]
      have e2 : (kids.take k).map V.cs ++ [[.int .i64 kids[k].kind, .int .i64 kids[k].num, .str kids[k].text, .sl (kids[k].keys.map strCs), .sl (kids[k].kids.map V.cs)]] = (kids.take (k + 1)).map V.cs := by rw [List.take_succ_eq_append_getElem hlt2, List.map_append, List.map_cons, List.map_nil, V.cs_eq]
      generalize keys[k] = s at *
      generalize kids[k] = v at *
      refine wRUN (j5 hdk hr hg hr2 hg2) ?_
      (apply (op_mapPut ht hk hkn hsk); (iterate 8 (focus (first | (simp only [go_sem, Nat.reduceEqDiff, Nat.reduceAdd, Nat.reduceSub, Nat.reduceLeDiff, Nat.reduceMul, Nat.reduceBEq, Nat.reduceLT, Int.reduceToNat, reduceCtorEq]; first | done | exact rfl | (and_intros <;> rfl)) | exact rfl | decide))))
      refine wRUN hw ?_
      refine ⟨k + 1, by omega, by omega, ?_⟩
      exact wSays (Says.of [((4, 0), (4, 0)), ((99, 0), (99, 0))] []) (j2 e1 e2)
    · have hdk : decide ((k : Int) < (keys.length : Int)) = false := by simpa using hlt
      have hke : k = keys.length := by omega
      have e1 : keys.take k = keys := by rw [hke, List.take_length]
      have e2 : kids.take k = kids := by rw [hke, hl, List.take_length]
      rw [e1, e2]
      refine wRUN1 trivial ?_
      refine a_region ?_
      refine wRUN1 hdk ?_
      refine a_region ?_
      refine wRUN1 trivial ?_
      refine a_regionN ?_
      (repeat ((with_reducible apply n_eff); (iterate 2 (focus (first | (simp only [go_sem, Nat.reduceEqDiff, Nat.reduceAdd, Nat.reduceSub, Nat.reduceLeDiff, Nat.reduceMul, Nat.reduceBEq, Nat.reduceLT, Int.reduceToNat, reduceCtorEq]; first | done | exact rfl | (and_intros <;> rfl)) | exact rfl | decide)))))
      (apply (n_range ht hk); (focus (first | (simp only [go_sem, Nat.reduceEqDiff, Nat.reduceAdd, Nat.reduceSub, Nat.reduceLeDiff, Nat.reduceMul, Nat.reduceBEq, Nat.reduceLT, Int.reduceToNat, reduceCtorEq]; first | done | exact rfl | (and_intros <;> rfl)) | exact rfl | decide)); (focus (first | (simp only [go_sem, Nat.reduceEqDiff, Nat.reduceAdd, Nat.reduceSub, Nat.reduceLeDiff, Nat.reduceMul, Nat.reduceBEq, Nat.reduceLT, Int.reduceToNat, reduceCtorEq]; first | done | exact rfl | (and_intros <;> rfl)) | exact rfl | decide)); (focus (first | (simp only [go_sem, Nat.reduceEqDiff, Nat.reduceAdd, Nat.reduceSub, Nat.reduceLeDiff, Nat.reduceMul, Nat.reduceBEq, Nat.reduceLT, Int.reduceToNat, reduceCtorEq]; first | done | exact rfl | (and_intros <;> rfl)) | exact rfl | decide)); (focus (intro es clock b; (focus (first | (simp only [go_sem, Nat.reduceEqDiff, Nat.reduceAdd, Nat.reduceSub, Nat.reduceLeDiff, Nat.reduceMul, Nat.reduceBEq, Nat.reduceLT, Int.reduceToNat, reduceCtorEq]; first | done | exact rfl | (and_intros <;> rfl)) | exact rfl | decide)))))
      intro es clock b G
      refine n_nil ?_
      dsimp only
      have hz0 : ([] : List ByteArray).map strCs = [] := rfl
      refine a_loop (κ := List ByteArray) (fun vis => ⟨mkS 0 60 [(4, .ptr (4, 0) 0), (5, .own (99, 0)), (8, .ptr (8, 0) 0), (29, .own (97, 0))],
          [((4, 0), .box [.c (.int .i64 0), .c (.int .i64 0), .c (.str ByteArray.empty), .nils, .nils]), ((99, 0), .blk (mapG Tryz.prog 9 keys es clock b) (kids.map V.cs)), ((8, 0), .box [.c (.int .i64 6), .c (.int .i64 0), .c (.str ByteArray.empty), .own (98, 0), .nils]), ((98, 0), .row false 1 9 (vis.map strCs)), ((97, 0), .blk (iterG es clock b vis) [])]⟩)
        (fun vis => vis.Nodup ∧ (∀ k ∈ vis, k ∈ keys) ∧ vis.length + toCome keys vis ≤ keys.length) (fun vis => toCome keys vis) [] ⟨by simp, by simp, by rw [toCome_nil]; simp⟩ ?_ ?_
      · exact wSays (Says.of [((4, 0), (4, 0)), ((99, 0), (99, 0)), ((8, 0), (8, 0)), ((97, 0), (29, 0))] []) hz0
      · rintro vis ⟨hnd, hsub, hcnt⟩
        refine wRUN1 trivial ?_
        refine a_regionN ?_
        (apply (n_next (99, 0) hk G); (focus (first | (simp only [go_sem, Nat.reduceEqDiff, Nat.reduceAdd, Nat.reduceSub, Nat.reduceLeDiff, Nat.reduceMul, Nat.reduceBEq, Nat.reduceLT, Int.reduceToNat, reduceCtorEq]; first | done | exact rfl | (and_intros <;> rfl)) | exact rfl | decide)); (focus (first | (simp only [go_sem, Nat.reduceEqDiff, Nat.reduceAdd, Nat.reduceSub, Nat.reduceLeDiff, Nat.reduceMul, Nat.reduceBEq, Nat.reduceLT, Int.reduceToNat, reduceCtorEq]; first | done | exact rfl | (and_intros <;> rfl)) | exact rfl | decide)); (focus (first | (simp only [go_sem, Nat.reduceEqDiff, Nat.reduceAdd, Nat.reduceSub, Nat.reduceLeDiff, Nat.reduceMul, Nat.reduceBEq, Nat.reduceLT, Int.reduceToNat, reduceCtorEq]; first | done | exact rfl | (and_intros <;> rfl)) | exact rfl | decide)); (focus (first | (simp only [go_sem, Nat.reduceEqDiff, Nat.reduceAdd, Nat.reduceSub, Nat.reduceLeDiff, Nat.reduceMul, Nat.reduceBEq, Nat.reduceLT, Int.reduceToNat, reduceCtorEq]; first | done | exact rfl | (and_intros <;> rfl)) | exact rfl | decide)); (focus (intro k; (focus (first | (simp only [go_sem, Nat.reduceEqDiff, Nat.reduceAdd, Nat.reduceSub, Nat.reduceLeDiff, Nat.reduceMul, Nat.reduceBEq, Nat.reduceLT, Int.reduceToNat, reduceCtorEq]; first | done | exact rfl | (and_intros <;> rfl)) | exact rfl | decide)))))
        · intro hall
          (repeat ((with_reducible apply n_eff); (iterate 2 (focus (first | (simp only [go_sem, Nat.reduceEqDiff, Nat.reduceAdd, Nat.reduceSub, Nat.reduceLeDiff, Nat.reduceMul, Nat.reduceBEq, Nat.reduceLT, Int.reduceToNat, reduceCtorEq]; first | done | exact rfl | (and_intros <;> rfl)) | exact rfl | decide)))))
          refine n_nil ?_
          dsimp only
          have hsv := sortB_keys hnd fun x => ⟨hsub x, hall x⟩
          have hso := sortStrs_ac vis (by omega)
          rw [hsv] at hso
          have hkl := objKeys_len keys
          have hkm := fun x => objKeys_mem (keys := keys) (x := x)
          obtain ⟨ks, hks⟩ : ∃ ks, objKeys keys = ks := ⟨_, rfl⟩
          rw [hks] at hso hkl hkm ⊢
          have hlks : (ks.map strCs).length = ks.length := by simp
          have hz1 : ((ks.take 0).map (lastKid keys kids)).map V.cs = [] := rfl
          refine wRUN1 trivial ?_
          refine a_region ?_
          refine wRUN trivial ?_
          refine w9 (op_own (98, 0) hso) trivial ?_
          refine wRUN hlks ?_
          refine a_loop (κ := Nat) (fun k => ⟨mkS 0 60 [(4, .ptr (4, 0) 0), (5, .own (99, 0)), (8, .ptr (8, 0) 0), (44, .own (98, 0)), (45, .c (.int .i64 ks.length)), (46, .c (.int .i64 k))],
              [((4, 0), .box [.c (.int .i64 0), .c (.int .i64 0), .c (.str ByteArray.empty), .nils, .nils]), ((99, 0), .blk (mapG Tryz.prog 9 keys es clock b) (kids.map V.cs)), ((8, 0), .box [.c (.int .i64 6), .c (.int .i64 0), .c (.str ByteArray.empty), .own (98, 0), .own (96, 0)]), ((98, 0), .row false 1 9 (ks.map strCs)), ((96, 0), .row false 5 73 (((ks.take k).map (lastKid keys kids)).map V.cs))]⟩)
            (fun k => k ≤ ks.length) (fun k => ks.length - k) 0 (Nat.zero_le _) ?_ ?_
          · exact wSays (Says.of [((4, 0), (4, 0)), ((99, 0), (99, 0)), ((8, 0), (8, 0)), ((98, 0), (98, 0))] []) hz1
          · intro k hk1
            by_cases hlt : k < ks.length
            · have hdk : decide ((k : Int) < (ks.length : Int)) = true := by simpa using hlt
              have hw := wrap_succ (k := k) (by omega)
              have hr : rowsAt (ks.map strCs) 1 k = true := by simp [rowsAt, hlt, strCs]
              have hg : (ks.map strCs)[k]? = some [.str ks[k]] := by simp [hlt, strCs]
              have hmem := (hkm ks[k]).1 (List.getElem_mem hlt)
              have hsk := hs _ hmem
              obtain ⟨j, hj1, hj2, hj3⟩ := lastKid_at hl hmem
              have hol : (ks.take k).length + 1 ≤ 1000000 := by rw [List.length_take]; omega
              have e2 : ((ks.take k).map (lastKid keys kids)).map V.cs ++ [[.int .i64 (lastKid keys kids ks[k]).kind, .int .i64 (lastKid keys kids ks[k]).num, .str (lastKid keys kids ks[k]).text, .sl ((lastKid keys kids ks[k]).keys.map strCs), .sl ((lastKid keys kids ks[k]).kids.map V.cs)]] = ((ks.take (k + 1)).map (lastKid keys kids)).map V.cs := by
                rw [List.take_succ_eq_append_getElem hlt, List.map_append, List.map_append, List.map_cons, List.map_cons, List.map_nil, List.map_nil, V.cs_eq]
              generalize lastKid keys kids ks[k] = v at *
              have hg2 : (kids.map V.cs)[j]? = some [.int .i64 v.kind, .int .i64 v.num, .str v.text, .sl (v.keys.map strCs), .sl (v.kids.map V.cs)] := by rw [List.getElem?_map, hj3, Option.map_some, V.cs_eq]
              generalize ks[k] = s at *
              refine wRUN (j3 hdk hr hg) ?_
              (apply (op_mapGet j (mapG_mapR G) ht hk hz hsk hj1 hj2 hg2); (iterate 6 (focus (first | (simp only [go_sem, Nat.reduceEqDiff, Nat.reduceAdd, Nat.reduceSub, Nat.reduceLeDiff, Nat.reduceMul, Nat.reduceBEq, Nat.reduceLT, Int.reduceToNat, reduceCtorEq]; first | done | exact rfl | (and_intros <;> rfl)) | exact rfl | decide))))
              refine wRUN (j2 hol hw) ?_
              refine ⟨k + 1, by omega, by omega, ?_⟩
              exact wSays (Says.of [((4, 0), (4, 0)), ((99, 0), (99, 0)), ((8, 0), (8, 0)), ((98, 0), (98, 0)), ((96, 0), (56, 0))] []) e2
            · have hdk : decide ((k : Int) < (ks.length : Int)) = false := by simpa using hlt
              have hke : ks.take k = ks := List.take_of_length_le (by omega)
              rw [hke]
              refine wRUN hdk ?_
              exact wRetOf (ret_of [((0, 0), (98, 0)), ((0, 1), (96, 0))] []) Tryz.results132 hdk
        · intro k hkk hnv
          (repeat ((with_reducible apply n_eff); (iterate 2 (focus (first | (simp only [go_sem, Nat.reduceEqDiff, Nat.reduceAdd, Nat.reduceSub, Nat.reduceLeDiff, Nat.reduceMul, Nat.reduceBEq, Nat.reduceLT, Int.reduceToNat, reduceCtorEq]; first | done | exact rfl | (and_intros <;> rfl)) | exact rfl | decide)))))
          refine n_nil ?_
          dsimp only
          have hlen : vis.length + 1 ≤ 1000000 := by omega
          have hless := toCome_less hkk hnv
          refine wRUN1 trivial ?_
          refine a_regionN ?_
          (apply (n_entry (99, 0) G); (focus (first | (simp only [go_sem, Nat.reduceEqDiff, Nat.reduceAdd, Nat.reduceSub, Nat.reduceLeDiff, Nat.reduceMul, Nat.reduceBEq, Nat.reduceLT, Int.reduceToNat, reduceCtorEq]; first | done | exact rfl | (and_intros <;> rfl)) | exact rfl | decide)); (focus (first | (simp only [go_sem, Nat.reduceEqDiff, Nat.reduceAdd, Nat.reduceSub, Nat.reduceLeDiff, Nat.reduceMul, Nat.reduceBEq, Nat.reduceLT, Int.reduceToNat, reduceCtorEq]; first | done | exact rfl | (and_intros <;> rfl)) | exact rfl | decide)); (focus (first | (simp only [go_sem, Nat.reduceEqDiff, Nat.reduceAdd, Nat.reduceSub, Nat.reduceLeDiff, Nat.reduceMul, Nat.reduceBEq, Nat.reduceLT, Int.reduceToNat, reduceCtorEq]; first | done | exact rfl | (and_intros <;> rfl)) | exact rfl | decide)); (focus (first | (simp only [go_sem, Nat.reduceEqDiff, Nat.reduceAdd, Nat.reduceSub, Nat.reduceLeDiff, Nat.reduceMul, Nat.reduceBEq, Nat.reduceLT, Int.reduceToNat, reduceCtorEq]; first | done | exact rfl | (and_intros <;> rfl)) | exact rfl | decide)))
          (repeat ((with_reducible apply n_eff); (iterate 2 (focus (first | (simp only [go_sem, Nat.reduceEqDiff, Nat.reduceAdd, Nat.reduceSub, Nat.reduceLeDiff, Nat.reduceMul, Nat.reduceBEq, Nat.reduceLT, Int.reduceToNat, reduceCtorEq]; first | done | exact rfl | (and_intros <;> rfl)) | exact rfl | decide)))))
          refine n_nil ?_
          dsimp only
          refine wRUN hlen ?_
          refine ⟨vis ++ [k], hless, ⟨?_, ?_, ?_⟩, ?_⟩
          · rw [List.nodup_append]
            exact ⟨hnd, by simp, fun a ha b hb' => by have : b = k := by simpa using hb'
                                                      subst this
                                                      exact fun e => hnv (e ▸ ha)⟩
          · intro x hx
            rcases List.mem_append.1 hx with hx | hx
            · exact hsub x hx
            · have : x = k := by simpa using hx
              subst this
              exact hkk
          · rw [List.length_append, List.length_singleton]
            omega
          · (apply (Says.of [((4, 0), (4, 0)), ((99, 0), (99, 0)), ((8, 0), (8, 0)), ((98, 0), (38, 0)), ((97, 0), (97, 0))] []); (iterate 2 ((focus (simp only [go_sem, Nat.reduceEqDiff, Nat.reduceAdd, Nat.reduceSub, Nat.reduceLeDiff, Nat.reduceMul, Nat.reduceBEq, Nat.reduceLT, Int.reduceToNat, reduceCtorEq, List.map_append, strCs]; try (and_intros <;> rfl))); (focus exact rfl))); (iterate 4 (focus (simp [go_sem, List.map_append, strCs]; done))))
end Go.Proofs.YtpaooephkpjkfaaGreat
