/- The specification's reading of parts of values, by the engine: l3Null, l3Bad, l3Get, l3Index, l3At, l13Get. -/
import Derived.Test.YtfmnoljflcpbgaaGreatDoorKG09
import Derived.Test.YtfmnoljflcpbgaaGreatDoorKG14
import Derived.Test.YtfmnoljflcpbgaaGreatDoorKE5
import Derived.Test.YtfmnoljflcpbgaaGreatDoorKM2
import Derived.Test.YtfmnoljflcpbgaaGreatDoorKG20uG24
set_option linter.unusedSimpArgs false
set_option linter.unusedVariables false
set_option linter.unnecessarySimpa false
namespace Go.Proofs.YtfmnoljflcpbgaaGreatDoor
open Go.RowKit
set_option maxRecDepth 10000
theorem l3Bad_ac (c : Int) : AC Tryz.prog 120 [.c (.int .i64 c)] [] (.agg [.c (.int .i64 c), .nils]) [] := by
  refine wEnter Tryz.func120 Tryz.ntmps120 ?_
  refine wRUN trivial ?_
  exact wRet (ret_data []) Tryz.results120
theorem enc_null : nullV.enc.map CellD.cs = [[.int .i64 0, .int .i64 0, .str ByteArray.empty, .str ByteArray.empty, .int .i64 0]] := rfl
theorem l3Null_ac : AC Tryz.prog 214 [] [] (.own (0, 0)) [((0, 0), .row false 5 69 (nullV.enc.map CellD.cs))] := by
  rw [enc_null]
  refine wEnter Tryz.func214 Tryz.ntmps214 ?_
  refine wRUN trivial ?_
  (apply (ret_of [((0, 0), (2, 0))] []); (focus (simp only [Tryz.results214, go_sem, Nat.reduceBEq, Nat.reduceLT, enc_null]; exact rfl)); (focus (simp only [go_sem, Nat.reduceEqDiff, Nat.reduceAdd, Nat.reduceSub, Nat.reduceLeDiff, Nat.reduceMul, Nat.reduceBEq, Nat.reduceLT, Int.reduceToNat, reduceCtorEq, enc_null]; try (and_intros <;> rfl))); (focus exact rfl); (focus (simp only [go_sem, Nat.reduceEqDiff, Nat.reduceAdd, Nat.reduceSub, Nat.reduceLeDiff, Nat.reduceMul, Nat.reduceBEq, Nat.reduceLT, Int.reduceToNat, reduceCtorEq, enc_null]; try (and_intros <;> rfl))); (focus exact rfl); (iterate 4 (focus (simp [go_sem, enc_null]; done))))
/-- A result of a reading. -/
def vrA (r : Int × Option V) : AV := match r.2 with
  | some t => .agg [.c (.int .i64 0), .c (.sl (t.enc.map CellD.cs))]
  | none => .agg [.c (.int .i64 r.1), .c (.sl [])]
theorem vrA_some (c : Int) (t : V) : vrA (c, some t) = .agg [.c (.int .i64 0), .c (.sl (t.enc.map CellD.cs))] := rfl
theorem vrA_none (c : Int) : vrA (c, none) = .agg [.c (.int .i64 c), .c (.sl [])] := rfl
theorem vrA_ok (t : V) : vrA (okR t) = .agg [.c (.int .i64 0), .c (.sl (t.enc.map CellD.cs))] := rfl
theorem vrA_bad (c : Int) : vrA (badR c) = .agg [.c (.int .i64 c), .c (.sl [])] := rfl
set_option maxHeartbeats 2000000 in
theorem l3Get_ac {t : V} (h : t.right) (key : ByteArray) : AC Tryz.prog 196 [cellsA t.enc, .c (.str key)] [] (vrA (getKeyV t key)) [] := by
  have hr0 : rowsAt (t.enc.map CellD.cs) 5 0 = true := by unfold rowsAt; rw [show (0 : Int).toNat = 0 from rfl, enc_head]; rfl
  have hg0 := enc_head t
  by_cases h0 : t.kind = 0
  · have hr : getKeyV t key = okR nullV := by unfold getKeyV; rw [if_pos h0]
    have hb : (t.kind == 0) = true := by simpa using h0
    rw [hr, vrA_ok]
    refine wEnter Tryz.func196 Tryz.ntmps196 ?_
    refine wRUN (j3 hr0 hg0 hb) ?_
    refine w12 (op_rowT [] l3Null_ac) trivial ?_
    refine wRUN trivial ?_
    exact wRetOf (ret_of [] [(12, 0)]) Tryz.results196 hb
  · have hb : (t.kind == 0) = false := by simpa using h0
    by_cases h6 : t.kind = 6
    · have hb6 : (t.kind != 6) = false := by simpa using h6
      obtain ⟨hs, _, hkl⟩ := right_asc h h6
      have hkn := kids_len_le h.2.1
      have hkeys := l1Keys_ac h.1 h.2.1
      have hparts := l1Parts_ac h.1 h.2.1
      have hkat : ∀ i (hi : i < t.keys.length), t.keyAt i = t.keys[i] := fun i hi => by
        unfold V.keyAt
        rw [if_pos h6, List.drop_eq_getElem_cons hi]
        rfl
      have hr : getKeyV t key = okR (t.member key) := by unfold getKeyV; rw [if_neg h0, if_pos h6]
      rw [hr, vrA_ok]
      refine wEnter Tryz.func196 Tryz.ntmps196 ?_
      refine wRUN (j4 hr0 hg0 hb hb6) ?_
      refine w9 (op_shared [] hkeys) trivial ?_
      refine wRUN trivial ?_
      refine a_loop (κ := Nat) (fun k => ⟨mkS 0 42 [(0, cellsA t.enc), (1, .c (.str key)), (4, .ptr (4, 0) 0), (5, .c (.sl ((keysOf t t.kids.length).map strCs))), (6, .c (.int .i64 k))], [((4, 0), .box [.c (.int .i64 0), .nils])]⟩)
        (fun k => k ≤ t.kids.length ∧ ∀ j (hj : j < t.keys.length), j < k → t.keys[j].toList ≠ key.toList) (fun k => t.kids.length - k) 0 ⟨Nat.zero_le _, by intro j _ hj; omega⟩ ?_ ?_
      · exact wSays (Says.of [((4, 0), (4, 0))] []) hb
      · rintro k ⟨hk, hno⟩
        have hkol : (keysOf t t.kids.length).length = t.kids.length := keysOf_len t _
        by_cases hlt : k < t.kids.length
        · have hd : decide ((k : Int) < (t.kids.length : Int)) = true := by simpa using hlt
          have hw := wrap_succ (k := k) (by omega)
          have hr2 : rowsAt ((keysOf t t.kids.length).map strCs) 1 k = true := by simp [rowsAt, keysOf, hlt, strCs]
          have hg2 : ((keysOf t t.kids.length).map strCs)[k]? = some [.str t.keys[k]] := by simp [keysOf, hlt, strCs, hkat k (by omega)]
          have hr3 : rowsAt ((t.kids.map V.enc).map encCs) 1 k = true := by simp [rowsAt, hlt, encCs]
          have hg3 : ((t.kids.map V.enc).map encCs)[k]? = some [.sl (t.kids[k].enc.map CellD.cs)] := by simp [hlt, encCs]
          cases he : t.keys[k].toList == key.toList with
          | true =>
            have hm : t.member key = t.kids[k] := by
              unfold V.member findKey
              rw [List.findIdx?_eq_some_iff_getElem.2 ⟨by omega, he, fun j hj => by simpa using hno j (by omega) hj⟩]
              simp only
              rw [List.getD_eq_getElem?_getD, List.getElem?_eq_getElem hlt, Option.getD_some]
            rw [hm]
            generalize t.kids[k] = u at *
            refine wRUN (j5 hkol hd hr2 hg2 he) ?_
            refine w9 (op_shared [] hparts) trivial ?_
            refine wRUN (j2 hr3 hg3) ?_
            exact wRet (ret_data []) Tryz.results196
          | false =>
            refine wRUN (j6 hkol hd hr2 hg2 he hw) ?_
            refine ⟨k + 1, by omega, ⟨by omega, fun j hj hjk => ?_⟩, ?_⟩
            · by_cases hjk' : j = k
              · subst hjk'; simpa using he
              · exact hno j hj (by omega)
            · exact wSays (Says.of [((4, 0), (4, 0))] []) hb
        · have hd : decide ((k : Int) < (t.kids.length : Int)) = false := by simpa using hlt
          have hm : t.member key = nullV := by
            unfold V.member findKey
            rw [List.findIdx?_eq_none_iff.2 fun x hx => by
              obtain ⟨i, hi, rfl⟩ := List.getElem_of_mem hx
              simpa using hno i hi (by omega)]
          rw [hm]
          refine wRUN (j2 hkol hd) ?_
          refine w12 (op_rowT [] l3Null_ac) trivial ?_
          refine wRUN trivial ?_
          exact wRetOf (ret_of [] [(40, 0)]) Tryz.results196 hb
    · have hr : getKeyV t key = badR 6 := by unfold getKeyV; rw [if_neg h0, if_neg h6]
      have hb6 : (t.kind != 6) = true := by simpa using h6
      rw [hr, vrA_bad]
      refine wEnter Tryz.func196 Tryz.ntmps196 ?_
      refine wRUN (j4 hr0 hg0 hb hb6) ?_
      refine w7 (op_data [] (l3Bad_ac 6)) trivial ?_
      refine wRUN trivial ?_
      exact wRet (ret_data []) Tryz.results196
end Go.Proofs.YtfmnoljflcpbgaaGreatDoor
