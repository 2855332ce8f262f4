/- spec.l13Two, DrawSetPath; impl.EachOf, PathFault, SetPath, GetPath, DropPath with shared results, by the engine. -/
import Derived.Test.YtpaooephkpjkfaaGreatKG87
import Derived.Test.YtpaooephkpjkfaaGreatKG84uM26
import Derived.Test.YtpaooephkpjkfaaGreatKM30
import Derived.Test.YtpaooephkpjkfaaGreatKH05uG58
import Derived.Test.YtpaooephkpjkfaaGreatKH15uG31
set_option linter.unusedSimpArgs false
set_option linter.unusedVariables false
set_option linter.unnecessarySimpa false
namespace Go.Proofs.YtpaooephkpjkfaaGreat
open Go.RowKit
set_option maxRecDepth 10000
set_option maxHeartbeats 4000000 in
theorem l13Two_ac (bs : List Nat) (hb : BytesOk bs) : ∃ xs ps a', Sized xs ∧ Sized ps ∧ a' ≤ 1000 ∧ AC Tryz.prog 76 [.c (.sl (bs.map byteCs))] [] (.tup [cellsA xs, cellsA ps, .ptr (0, 0) 0]) (srcM bs a') := by
  have s0 := l1Source_ac bs
  obtain ⟨xs, a1, ⟨g1, g2, g3, g4⟩, c1⟩ := l1Bent_ac bs hb 0 (by omega)
  obtain ⟨P, a2, p1, p2, p3, pc⟩ := l13DrawPath_ac bs hb a1 (by omega) xs
  unfold DrawPathAC at pc
  have hpr := right_sized (path_right p1.2 (by have := p1.1; omega))
  have c12 := l1Chance_ac bs hb a2 12 (by omega) (by omega)
  generalize (arrV P).enc = PE at *
  cases hb3 : nextN bs a2 12 == 0 with
  | false =>
    rw [hb3] at c12
    refine ⟨xs, PE, a2 + 1, g2, hpr, by omega, ?_⟩
    refine wEnter Tryz.func76 Tryz.ntmps76 ?_
    refine wRUN trivial ?_
    refine w12 (op_rowF [] s0) trivial ?_
    refine wRUN trivial ?_
    refine wCall (op_any_call [((0, 0), (9, 0))] [((0, 0), (9, 0)), ((0, 1), (11, 0))] c1) trivial ?_
    refine wRUN trivial ?_
    refine wCallB (op_callB [(11, 0)] [((0, 0), (9, 0))] [((0, 0), (9, 0)), ((0, 1), (14, 0))] pc) trivial ?_
    refine wRUN trivial ?_
    refine wCall (op_any_call [((0, 0), (9, 0))] [((0, 0), (9, 0))] c12) trivial ?_
    refine wRUN trivial ?_
    exact wRetOf (ret_of [((0, 0), (9, 0))] [(11, 0), (14, 0)]) Tryz.results76 hb3
  | true =>
    rw [hb3] at c12
    obtain ⟨ys, a3, ⟨f1, f2, f3, f4⟩, c2⟩ := l1Bent_ac bs hb (a2 + 1) (by omega)
    refine ⟨xs, ys, a3, g2, f2, by omega, ?_⟩
    refine wEnter Tryz.func76 Tryz.ntmps76 ?_
    refine wRUN trivial ?_
    refine w12 (op_rowF [] s0) trivial ?_
    refine wRUN trivial ?_
    refine wCall (op_any_call [((0, 0), (9, 0))] [((0, 0), (9, 0)), ((0, 1), (11, 0))] c1) trivial ?_
    refine wRUN trivial ?_
    refine wCallB (op_callB [(11, 0)] [((0, 0), (9, 0))] [((0, 0), (9, 0)), ((0, 1), (14, 0))] pc) trivial ?_
    refine wRUN trivial ?_
    refine wCall (op_any_call [((0, 0), (9, 0))] [((0, 0), (9, 0))] c12) trivial ?_
    refine wRUN trivial ?_
    refine wCall (op_any_call [((0, 0), (9, 0))] [((0, 0), (9, 0)), ((0, 1), (18, 0))] c2) trivial ?_
    refine wRUN trivial ?_
    exact wRetOf (ret_of [((0, 0), (9, 0))] [(11, 0), (18, 0)]) Tryz.results76 hb3
set_option maxHeartbeats 4000000 in
theorem drawSetPath_ac (bs : List Nat) (hb : BytesOk bs) : ∃ xs ps ys, Sized xs ∧ Sized ps ∧ Sized ys ∧ AC Tryz.prog 26 [.c (.sl (bs.map byteCs))] [] (.tup [cellsA xs, cellsA ps, cellsA ys]) [] := by
  obtain ⟨xs, ps, a1, z1, z2, ha, c1⟩ := l13Two_ac bs hb
  obtain ⟨v1, v2, v3, v4, v5⟩ := valD_ok bs 1 a1
  have hB1 : capB 1 = 23 := rfl
  have hC1 : capC 1 = 4 := rfl
  have cv : AC Tryz.prog 59 [.ptr (0, 0) 0, .c (.int .i64 2)] (srcM bs a1) (.own (0, 1)) (bentM bs (valD bs 1 a1).1.enc (valD bs 1 a1).2) := l1Value_ac bs hb 1 (by omega) a1 (by omega)
  have hvs : Sized (valD bs 1 a1).1.enc := right_sized ⟨v1, by omega, by omega⟩
  generalize valD bs 1 a1 = r1 at *
  obtain ⟨t, a2⟩ := r1
  dsimp only at v1 v2 v3 v4 v5 cv hvs
  generalize t.enc = te at *
  have c14 := l1Chance_ac bs hb a2 14 (by omega) (by omega)
  cases hb3 : nextN bs a2 14 == 0 with
  | false =>
    rw [hb3] at c14
    refine ⟨xs, ps, te, z1, z2, hvs, ?_⟩
    refine wEnter Tryz.func26 Tryz.ntmps26 ?_
    refine wRUN trivial ?_
    refine w12 (op_rowF [] c1) trivial ?_
    refine wRUN trivial ?_
    refine wCall (op_any_call [((0, 0), (11, 0))] [((0, 0), (11, 0)), ((0, 1), (16, 0))] cv) trivial ?_
    refine wRUN trivial ?_
    refine wCall (op_any_call [((0, 0), (11, 0))] [((0, 0), (11, 0))] c14) trivial ?_
    refine wRUN trivial ?_
    exact wRetOf (ret_of [] [(16, 0)]) Tryz.results26 hb3
  | true =>
    rw [hb3] at c14
    obtain ⟨ys, a3, ⟨f1, f2, f3, f4⟩, c2⟩ := l1Bent_ac bs hb (a2 + 1) (by omega)
    refine ⟨xs, ps, ys, z1, z2, f2, ?_⟩
    refine wEnter Tryz.func26 Tryz.ntmps26 ?_
    refine wRUN trivial ?_
    refine w12 (op_rowF [] c1) trivial ?_
    refine wRUN trivial ?_
    refine wCall (op_any_call [((0, 0), (11, 0))] [((0, 0), (11, 0)), ((0, 1), (16, 0))] cv) trivial ?_
    refine wRUN trivial ?_
    refine wCall (op_any_call [((0, 0), (11, 0))] [((0, 0), (11, 0))] c14) trivial ?_
    refine wRUN trivial ?_
    refine wCall (op_any_call [((0, 0), (11, 0))] [((0, 0), (11, 0)), ((0, 1), (20, 0))] c2) trivial ?_
    refine wRUN trivial ?_
    exact wRetOf (ret_of [] [(20, 0)]) Tryz.results26 hb3
theorem implSetPathS_ac (xs ps ys : List CellD) (hz : Sized xs) (hzp : Sized ps) (hzy : Sized ys) : AC Tryz.prog 27 [cellsA xs, cellsA ps, cellsA ys] [] (vrA (askPath xs ps (putV ys))) [] := by
  rcases okRes_ways (setR_ok xs ps ys) with ⟨v, h, hv⟩ | ⟨c, hc, h⟩
  · have hb := implSetPath_ok xs ps ys hz hzp hzy h hv
    rw [h]
    unfold vrA
    (apply (AC.says [] [(0, 0)] hb); (focus (simp only [go_sem, Nat.reduceEqDiff, Nat.reduceAdd, Nat.reduceSub, Nat.reduceLeDiff, Nat.reduceMul, Nat.reduceBEq, Nat.reduceLT, Int.reduceToNat, reduceCtorEq]; try (and_intros <;> rfl))); (focus exact rfl); (focus (simp only [go_sem, Nat.reduceEqDiff, Nat.reduceAdd, Nat.reduceSub, Nat.reduceLeDiff, Nat.reduceMul, Nat.reduceBEq, Nat.reduceLT, Int.reduceToNat, reduceCtorEq]; try (and_intros <;> rfl))); (focus exact rfl); (iterate 4 (focus (simp [go_sem]; done))))
  · have hb := implSetPath_bad xs ps ys hz hzp hzy hc h
    rw [h]
    unfold vrA
    (apply (AC.says [] [] hb); (focus (simp only [go_sem, Nat.reduceEqDiff, Nat.reduceAdd, Nat.reduceSub, Nat.reduceLeDiff, Nat.reduceMul, Nat.reduceBEq, Nat.reduceLT, Int.reduceToNat, reduceCtorEq]; try (and_intros <;> rfl))); (focus exact rfl); (focus (simp only [go_sem, Nat.reduceEqDiff, Nat.reduceAdd, Nat.reduceSub, Nat.reduceLeDiff, Nat.reduceMul, Nat.reduceBEq, Nat.reduceLT, Int.reduceToNat, reduceCtorEq]; try (and_intros <;> rfl))); (focus exact rfl); (iterate 4 (focus (simp [go_sem]; done))))
theorem getR_ok (xs ps : List CellD) : okRes (askPath xs ps getPathV) := by
  rcases ask_way xs ps getPathV with ⟨h1, h2, h3⟩ | ⟨t, hd, hx, ht, ⟨c, hc, hp, h3⟩ | ⟨s, hs, hps, _, hbk, hp, h3⟩⟩
  · rw [h3]; exact h2
  · rw [h3]; exact hc
  · rw [h3]; exact getPath_ok s.kids ht
theorem implGetPathS_ac (xs ps : List CellD) (hz : Sized xs) (hzp : Sized ps) : AC Tryz.prog 29 [cellsA xs, cellsA ps] [] (vrA (askPath xs ps getPathV)) [] := by
  rcases okRes_ways (getR_ok xs ps) with ⟨v, h, hv⟩ | ⟨c, hc, h⟩
  · have hb := implGetPath_ok xs ps hz hzp h hv
    rw [h]
    unfold vrA
    (apply (AC.says [] [(0, 0)] hb); (focus (simp only [go_sem, Nat.reduceEqDiff, Nat.reduceAdd, Nat.reduceSub, Nat.reduceLeDiff, Nat.reduceMul, Nat.reduceBEq, Nat.reduceLT, Int.reduceToNat, reduceCtorEq]; try (and_intros <;> rfl))); (focus exact rfl); (focus (simp only [go_sem, Nat.reduceEqDiff, Nat.reduceAdd, Nat.reduceSub, Nat.reduceLeDiff, Nat.reduceMul, Nat.reduceBEq, Nat.reduceLT, Int.reduceToNat, reduceCtorEq]; try (and_intros <;> rfl))); (focus exact rfl); (iterate 4 (focus (simp [go_sem]; done))))
  · have hb := implGetPath_bad xs ps hz hzp hc h
    rw [h]
    unfold vrA
    (apply (AC.says [] [] hb); (focus (simp only [go_sem, Nat.reduceEqDiff, Nat.reduceAdd, Nat.reduceSub, Nat.reduceLeDiff, Nat.reduceMul, Nat.reduceBEq, Nat.reduceLT, Int.reduceToNat, reduceCtorEq]; try (and_intros <;> rfl))); (focus exact rfl); (focus (simp only [go_sem, Nat.reduceEqDiff, Nat.reduceAdd, Nat.reduceSub, Nat.reduceLeDiff, Nat.reduceMul, Nat.reduceBEq, Nat.reduceLT, Int.reduceToNat, reduceCtorEq]; try (and_intros <;> rfl))); (focus exact rfl); (iterate 4 (focus (simp [go_sem]; done))))
theorem implDropPathS_ac (xs ps : List CellD) (hz : Sized xs) (hzp : Sized ps) : AC Tryz.prog 30 [cellsA xs, cellsA ps] [] (vrA (askPath xs ps outV)) [] := by
  rcases okRes_ways (dropR_ok xs ps) with ⟨v, h, hv⟩ | ⟨c, hc, h⟩
  · have hb := implDropPath_ok xs ps hz hzp h hv
    rw [h]
    unfold vrA
    (apply (AC.says [] [(0, 0)] hb); (focus (simp only [go_sem, Nat.reduceEqDiff, Nat.reduceAdd, Nat.reduceSub, Nat.reduceLeDiff, Nat.reduceMul, Nat.reduceBEq, Nat.reduceLT, Int.reduceToNat, reduceCtorEq]; try (and_intros <;> rfl))); (focus exact rfl); (focus (simp only [go_sem, Nat.reduceEqDiff, Nat.reduceAdd, Nat.reduceSub, Nat.reduceLeDiff, Nat.reduceMul, Nat.reduceBEq, Nat.reduceLT, Int.reduceToNat, reduceCtorEq]; try (and_intros <;> rfl))); (focus exact rfl); (iterate 4 (focus (simp [go_sem]; done))))
  · have hb := implDropPath_bad xs ps hz hzp hc h
    rw [h]
    unfold vrA
    (apply (AC.says [] [] hb); (focus (simp only [go_sem, Nat.reduceEqDiff, Nat.reduceAdd, Nat.reduceSub, Nat.reduceLeDiff, Nat.reduceMul, Nat.reduceBEq, Nat.reduceLT, Int.reduceToNat, reduceCtorEq]; try (and_intros <;> rfl))); (focus exact rfl); (focus (simp only [go_sem, Nat.reduceEqDiff, Nat.reduceAdd, Nat.reduceSub, Nat.reduceLeDiff, Nat.reduceMul, Nat.reduceBEq, Nat.reduceLT, Int.reduceToNat, reduceCtorEq]; try (and_intros <;> rfl))); (focus exact rfl); (iterate 4 (focus (simp [go_sem]; done))))
theorem implPathFault_ok {ps : List CellD} (hz : Sized ps) {ks : List V} (h : pathDec ps = (0, some ks)) : AC Tryz.prog 31 [cellsA ps] [] (.c (.int .i64 0)) [] := by
  have hp := pathOf_ac ps hz h
  refine wEnter Tryz.func31 Tryz.ntmps31 ?_
  refine wRUN trivial ?_
  refine w9 (op_shared [] hp) trivial ?_
  refine wRUN trivial ?_
  exact wRet (ret_data []) Tryz.results31
theorem each_ac (t : V) : AC Tryz.prog 48 [t.av] [] (bif t.kind == 5 || t.kind == 6 then .tup [.c (.sl (t.kids.map V.cs)), .c (.int .i64 0)] else .tup [.nils, .c (.int .i64 6)]) [] := by
  cases h5 : t.kind == 5 with
  | true =>
    have h5' : (t.kind != 5) = false := by rw [bne, h5]; rfl
    refine wEnter Tryz.func48 Tryz.ntmps48 ?_
    refine wRUN h5' ?_
    exact wRetOf (ret_of [] []) Tryz.results48 h5'
  | false =>
    have h5' : (t.kind != 5) = true := by rw [bne, h5]; rfl
    cases h6 : t.kind == 6 with
    | true =>
      have h6' : (t.kind != 6) = false := by rw [bne, h6]; rfl
      refine wEnter Tryz.func48 Tryz.ntmps48 ?_
      refine wRUN (j2 h5' h6') ?_
      exact wRetOf (ret_of [] []) Tryz.results48 h5'
    | false =>
      have h6' : (t.kind != 6) = true := by rw [bne, h6]; rfl
      refine wEnter Tryz.func48 Tryz.ntmps48 ?_
      refine wRUN (j2 h5' h6') ?_
      exact wRetOf (ret_of [] []) Tryz.results48 h5'
set_option maxHeartbeats 4000000 in
theorem eachOf_ac {t : V} (ht : t.right) (h56 : t.kind = 5 ∨ t.kind = 6) : AC Tryz.prog 12 [cellsA t.enc] [] (.agg [.c (.int .i64 0), .c (.sl ((t.kids.map V.enc).map encCs))]) [] := by
  have hv := valOf_ac t.enc (right_sized ht) (t := t) (by rw [right_dec ht])
  have he := each_ac t
  have hk : (t.kind == 5 || t.kind == 6) = true := by rcases h56 with h | h <;> simp [h]
  rw [hk] at he
  replace he : AC Tryz.prog 48 [t.av] [] (.tup [.c (.sl (t.kids.map V.cs)), .c (.int .i64 0)]) [] := he
  have h00 : ((0 : Int) != 0) = false := rfl
  have hz : (([] : List V).map V.enc).map oslCs = [] := rfl
  have hkl := kids_len_le ht.2.1
  have hr := fun k hk => right_mem ht (k := k) hk
  have hln : (t.kids.map V.cs).length = t.kids.length := by simp
  generalize t.kids = l at *
  refine wEnter Tryz.func12 Tryz.ntmps12 ?_
  refine wRUN trivial ?_
  refine w9 (op_shared [] hv) trivial ?_
  refine wRUN h00 ?_
  refine w9 (op_shared [] he) trivial ?_
  refine wRUN (j2 h00 hln) ?_
  refine a_loop (κ := Nat) (fun k => ⟨mkS 0 40 [(2, .ptr (2, 0) 0), (6, .ptr (6, 0) 0), (25, .c (.sl (l.map V.cs))), (26, .c (.int .i64 l.length)), (27, .c (.int .i64 k))],
      [((2, 0), .box [.c (.int .i64 0), .nils]), ((6, 0), .box [.c (.int .i64 0), .own (99, 0)]), ((99, 0), .row true 1 24 (((l.take k).map V.enc).map oslCs))]⟩)
    (fun k => k ≤ l.length) (fun k => l.length - k) 0 (Nat.zero_le _) ?_ ?_
  · exact wSays (Says.of [((2, 0), (2, 0)), ((6, 0), (6, 0))] []) hz
  · intro k hk
    by_cases hlt : k < l.length
    · have hdk : decide ((k : Int) < (l.length : Int)) = true := by simpa using hlt
      have hw := wrap_succ (k := k) (by omega)
      have hr0 : rowsAt (l.map V.cs) 5 k = true := by simp [rowsAt, hlt, V.cs_eq]
      have hg0 : (l.map V.cs)[k]? = some l[k].cs := by simp [hlt]
      rw [V.cs_eq] at hg0
      have hc := count_right (hr _ (List.getElem_mem hlt))
      have hts : l.take (k + 1) = l.take k ++ [l[k]] := List.take_succ_eq_append_getElem hlt
      have h1 : (l.take k).length + 1 ≤ 1000000 := by rw [List.length_take]; omega
      have hrow : ((l.take k).map V.enc).map oslCs ++ [[C.osl (l[k].enc.map CellD.cs)]] = ((l.take (k + 1)).map V.enc).map oslCs := by rw [hts, List.map_append, List.map_append]; rfl
      generalize l[k] = q at *
      refine wRUN (j3 hdk hr0 hg0) ?_
      refine w12 (op_rowF [] hc) trivial ?_
      refine wRUN (j2 h1 hw) ?_
      refine ⟨k + 1, by omega, by omega, ?_⟩
      rw [← hrow]
      exact wSays (Says.of [((2, 0), (2, 0)), ((6, 0), (6, 0)), ((99, 0), (36, 0))] []) hw
    · have hdk : decide ((k : Int) < (l.length : Int)) = false := by simpa using hlt
      have hke : l.take k = l := List.take_of_length_le (by omega)
      rw [hke]
      refine wRUN hdk ?_
      exact wRetOf (ret_of [] [(99, 0)]) Tryz.results12 hdk
end Go.Proofs.YtpaooephkpjkfaaGreat
