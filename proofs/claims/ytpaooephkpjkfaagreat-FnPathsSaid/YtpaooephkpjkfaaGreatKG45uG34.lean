/- Texts of this proof: G45 G25 G55 G34. -/
import Derived.Test.YtpaooephkpjkfaaGreatKG06uG07
import Derived.Test.YtpaooephkpjkfaaGreatKM2
import Derived.Test.YtpaooephkpjkfaaGreatKG08
import Derived.Test.YtpaooephkpjkfaaGreatKG11uS02
import Derived.Test.YtpaooephkpjkfaaGreatKE5
import Derived.Test.YtpaooephkpjkfaaGreatKG24uG52
import Derived.Test.YtpaooephkpjkfaaGreatKG9
import Derived.Test.YtpaooephkpjkfaaGreatKM3
set_option linter.unusedSimpArgs false
set_option linter.unusedVariables false
set_option linter.unnecessarySimpa false
namespace Go.Proofs.YtpaooephkpjkfaaGreat
open Go.RowKit
set_option maxRecDepth 10000
/-- The first code of two values. -/
def bothCode (x y : List CellD) : Int := if (dec x).1 = 0 then (dec y).1 else (dec x).1
theorem l3Both_ac (x y : List CellD) : AC Tryz.prog 64 [cellsA x, cellsA y] [] (.c (.int .i64 (bothCode x y))) [] := by
  have h1 := fault_ac x
  have h2 := fault_ac y
  unfold bothCode
  by_cases h : (dec x).1 = 0
  · rw [if_pos h]
    rw [h] at h1
    have h00 : ((0 : Int) != 0) = false := rfl
    refine wEnter Tryz.func64 Tryz.ntmps64 ?_
    refine wRUN trivial ?_
    refine w7 (op_data [] h1) trivial ?_
    refine wRUN h00 ?_
    refine w7 (op_data [] h2) trivial ?_
    refine wRUN trivial ?_
    exact wRet (ret_data []) Tryz.results64
  · rw [if_neg h]
    have hb : ((dec x).1 != 0) = true := by simpa using h
    refine wEnter Tryz.func64 Tryz.ntmps64 ?_
    refine wRUN trivial ?_
    refine w7 (op_data [] h1) trivial ?_
    refine wRUN hb ?_
    exact wRet (ret_data []) Tryz.results64
end Go.Proofs.YtpaooephkpjkfaaGreat

/- The specification's reading of parts of values, by the engine: l3Null, l3Bad, l3Get, l3Index, l3At, l13Get. -/
namespace Go.Proofs.YtpaooephkpjkfaaGreat
open Go.RowKit
set_option maxRecDepth 10000
theorem l3Bad_ac (c : Int) : AC Tryz.prog 45 [.c (.int .i64 c)] [] (.agg [.c (.int .i64 c), .nils]) [] := by
  refine wEnter Tryz.func45 Tryz.ntmps45 ?_
  refine wRUN trivial ?_
  exact wRet (ret_data []) Tryz.results45
theorem enc_null : nullV.enc.map CellD.cs = [[.int .i64 0, .int .i64 0, .str ByteArray.empty, .str ByteArray.empty, .int .i64 0]] := rfl
theorem l3Null_ac : AC Tryz.prog 140 [] [] (.own (0, 0)) [((0, 0), .row false 5 42 (nullV.enc.map CellD.cs))] := by
  rw [enc_null]
  refine wEnter Tryz.func140 Tryz.ntmps140 ?_
  refine wRUN trivial ?_
  (apply (ret_of [((0, 0), (2, 0))] []); (focus (simp only [Tryz.results140, go_sem, Nat.reduceBEq, Nat.reduceLT, enc_null]; exact rfl)); (focus (simp only [go_sem, Nat.reduceEqDiff, Nat.reduceAdd, Nat.reduceSub, Nat.reduceLeDiff, Nat.reduceMul, Nat.reduceBEq, Nat.reduceLT, Int.reduceToNat, reduceCtorEq, enc_null]; try (and_intros <;> rfl))); (focus exact rfl); (focus (simp only [go_sem, Nat.reduceEqDiff, Nat.reduceAdd, Nat.reduceSub, Nat.reduceLeDiff, Nat.reduceMul, Nat.reduceBEq, Nat.reduceLT, Int.reduceToNat, reduceCtorEq, enc_null]; try (and_intros <;> rfl))); (focus exact rfl); (iterate 4 (focus (simp [go_sem, enc_null]; done))))
/-- A result of a reading. -/
def vrA (r : Int × Option V) : AV := match r.2 with
  | some t => .agg [.c (.int .i64 0), .c (.sl (t.enc.map CellD.cs))]
  | none => .agg [.c (.int .i64 r.1), .c (.sl [])]
theorem vrA_some (c : Int) (t : V) : vrA (c, some t) = .agg [.c (.int .i64 0), .c (.sl (t.enc.map CellD.cs))] := rfl
theorem vrA_none (c : Int) : vrA (c, none) = .agg [.c (.int .i64 c), .c (.sl [])] := rfl
theorem vrA_ok (t : V) : vrA (okR t) = .agg [.c (.int .i64 0), .c (.sl (t.enc.map CellD.cs))] := rfl
theorem vrA_bad (c : Int) : vrA (badR c) = .agg [.c (.int .i64 c), .c (.sl [])] := rfl
set_option maxHeartbeats 2000000 in
theorem l3Get_ac {t : V} (h : t.right) (key : ByteArray) : AC Tryz.prog 148 [cellsA t.enc, .c (.str key)] [] (vrA (getKeyV t key)) [] := by
  have hr0 : rowsAt (t.enc.map CellD.cs) 5 0 = true := by unfold rowsAt; rw [show (0 : Int).toNat = 0 from rfl, enc_head]; rfl
  have hg0 := enc_head t
  by_cases h0 : t.kind = 0
  · have hr : getKeyV t key = okR nullV := by unfold getKeyV; rw [if_pos h0]
    have hb : (t.kind == 0) = true := by simpa using h0
    rw [hr, vrA_ok]
    refine wEnter Tryz.func148 Tryz.ntmps148 ?_
    refine wRUN (j3 hr0 hg0 hb) ?_
    refine w12 (op_rowT [] l3Null_ac) trivial ?_
    refine wRUN trivial ?_
    exact wRetOf (ret_of [] [(12, 0)]) Tryz.results148 hb
  · have hb : (t.kind == 0) = false := by simpa using h0
    by_cases h6 : t.kind = 6
    · have hb6 : (t.kind != 6) = false := by simpa using h6
      obtain ⟨hs, _, hkl⟩ := right_asc h h6
      have hkn := kids_len_le h.2.1
      have hkeys := l1Keys_ac h.1 h.2.1
      have hparts := l1Parts_ac h.1 h.2.1
      have hkat : ∀ i (hi : i < t.keys.length), t.keyAt i = t.keys[i] := fun i hi => by
        unfold V.keyAt
        rw [if_pos h6, List.drop_eq_getElem_cons hi]
        rfl
      have hr : getKeyV t key = okR (t.member key) := by unfold getKeyV; rw [if_neg h0, if_pos h6]
      rw [hr, vrA_ok]
      refine wEnter Tryz.func148 Tryz.ntmps148 ?_
      refine wRUN (j4 hr0 hg0 hb hb6) ?_
      refine w9 (op_shared [] hkeys) trivial ?_
      refine wRUN trivial ?_
      refine a_loop (κ := Nat) (fun k => ⟨mkS 0 42 [(0, cellsA t.enc), (1, .c (.str key)), (4, .ptr (4, 0) 0), (5, .c (.sl ((keysOf t t.kids.length).map strCs))), (6, .c (.int .i64 k))], [((4, 0), .box [.c (.int .i64 0), .nils])]⟩)
        (fun k => k ≤ t.kids.length ∧ ∀ j (hj : j < t.keys.length), j < k → t.keys[j].toList ≠ key.toList) (fun k => t.kids.length - k) 0 ⟨Nat.zero_le _, by intro j _ hj; omega⟩ ?_ ?_
      · exact wSays (Says.of [((4, 0), (4, 0))] []) hb
      · rintro k ⟨hk, hno⟩
        have hkol : (keysOf t t.kids.length).length = t.kids.length := keysOf_len t _
        by_cases hlt : k < t.kids.length
        · have hd : decide ((k : Int) < (t.kids.length : Int)) = true := by simpa using hlt
          have hw := wrap_succ (k := k) (by omega)
          have hr2 : rowsAt ((keysOf t t.kids.length).map strCs) 1 k = true := by simp [rowsAt, keysOf, hlt, strCs]
          have hg2 : ((keysOf t t.kids.length).map strCs)[k]? = some [.str t.keys[k]] := by simp [keysOf, hlt, strCs, hkat k (by omega)]
          have hr3 : rowsAt ((t.kids.map V.enc).map encCs) 1 k = true := by simp [rowsAt, hlt, encCs]
          have hg3 : ((t.kids.map V.enc).map encCs)[k]? = some [.sl (t.kids[k].enc.map CellD.cs)] := by simp [hlt, encCs]
          cases he : t.keys[k].toList == key.toList with
          | true =>
            have hm : t.member key = t.kids[k] := by
              unfold V.member findKey
              rw [List.findIdx?_eq_some_iff_getElem.2 ⟨by omega, he, fun j hj => by simpa using hno j (by omega) hj⟩]
              simp only
              rw [List.getD_eq_getElem?_getD, List.getElem?_eq_getElem hlt, Option.getD_some]
            rw [hm]
            generalize t.kids[k] = u at *
            refine wRUN (j5 hkol hd hr2 hg2 he) ?_
            refine w9 (op_shared [] hparts) trivial ?_
            refine wRUN (j2 hr3 hg3) ?_
            exact wRet (ret_data []) Tryz.results148
          | false =>
            refine wRUN (j6 hkol hd hr2 hg2 he hw) ?_
            refine ⟨k + 1, by omega, ⟨by omega, fun j hj hjk => ?_⟩, ?_⟩
            · by_cases hjk' : j = k
              · subst hjk'; simpa using he
              · exact hno j hj (by omega)
            · exact wSays (Says.of [((4, 0), (4, 0))] []) hb
        · have hd : decide ((k : Int) < (t.kids.length : Int)) = false := by simpa using hlt
          have hm : t.member key = nullV := by
            unfold V.member findKey
            rw [List.findIdx?_eq_none_iff.2 fun x hx => by
              obtain ⟨i, hi, rfl⟩ := List.getElem_of_mem hx
              simpa using hno i hi (by omega)]
          rw [hm]
          refine wRUN (j2 hkol hd) ?_
          refine w12 (op_rowT [] l3Null_ac) trivial ?_
          refine wRUN trivial ?_
          exact wRetOf (ret_of [] [(40, 0)]) Tryz.results148 hb
    · have hr : getKeyV t key = badR 6 := by unfold getKeyV; rw [if_neg h0, if_neg h6]
      have hb6 : (t.kind != 6) = true := by simpa using h6
      rw [hr, vrA_bad]
      refine wEnter Tryz.func148 Tryz.ntmps148 ?_
      refine wRUN (j4 hr0 hg0 hb hb6) ?_
      refine w7 (op_data [] (l3Bad_ac 6)) trivial ?_
      refine wRUN trivial ?_
      exact wRet (ret_data []) Tryz.results148
end Go.Proofs.YtpaooephkpjkfaaGreat

/- spec.l1Told, l14Merge, MergeValues; impl.MergeValues, by the engine. -/
namespace Go.Proofs.YtpaooephkpjkfaaGreat
open Go.RowKit
set_option maxRecDepth 10000
theorem l1Told_ok (xs : List CellD) (h : (dec xs).1 = 0) : AC Tryz.prog 74 [cellsA xs] [] (.agg [.c (.int .i64 0), cellsA xs]) [] := by
  have hf := fault_ac xs
  rw [h] at hf
  have h00 : ((0 : Int) != 0) = false := rfl
  refine wEnter Tryz.func74 Tryz.ntmps74 ?_
  refine wRUN trivial ?_
  refine w7 (op_data [] hf) trivial ?_
  refine wRUN h00 ?_
  exact wRet (ret_data []) Tryz.results74
theorem l1Told_bad (xs : List CellD) (h : (dec xs).1 ≠ 0) : AC Tryz.prog 74 [cellsA xs] [] (.agg [.c (.int .i64 (dec xs).1), .c (.sl [])]) [] := by
  have hf := fault_ac xs
  have hb : ((dec xs).1 != 0) = true := by simpa using h
  refine wEnter Tryz.func74 Tryz.ntmps74 ?_
  refine wRUN trivial ?_
  refine w7 (op_data [] hf) trivial ?_
  refine wRUN hb ?_
  exact wRet (ret_data []) Tryz.results74
theorem l1Told_ac (t : V) : AC Tryz.prog 74 [cellsA t.enc] [] (vrA (giveR t)) [] := by
  unfold giveR
  split
  · rename_i h
    exact l1Told_ok t.enc h
  · rename_i h
    exact l1Told_bad t.enc h
theorem enc_rows (t : V) : rowsAt (t.enc.map CellD.cs) 5 0 = true := by unfold rowsAt; rw [show (0 : Int).toNat = 0 from rfl, enc_head]; rfl
theorem l3NullS_ac : AC Tryz.prog 140 [] [] (.c (.sl (nullV.enc.map CellD.cs))) [] := by
  have h := l3Null_ac
  (apply (AC.says [] [(0, 0)] h); (focus (simp only [go_sem, Nat.reduceEqDiff, Nat.reduceAdd, Nat.reduceSub, Nat.reduceLeDiff, Nat.reduceMul, Nat.reduceBEq, Nat.reduceLT, Int.reduceToNat, reduceCtorEq]; try (and_intros <;> rfl))); (focus exact rfl); (focus (simp only [go_sem, Nat.reduceEqDiff, Nat.reduceAdd, Nat.reduceSub, Nat.reduceLeDiff, Nat.reduceMul, Nat.reduceBEq, Nat.reduceLT, Int.reduceToNat, reduceCtorEq]; try (and_intros <;> rfl))); (focus exact rfl); (iterate 4 (focus (simp [go_sem]; done))))
end Go.Proofs.YtpaooephkpjkfaaGreat

/- spec.l1Array, l1Parts as data and as a row, by the engine. -/
namespace Go.Proofs.YtpaooephkpjkfaaGreat
open Go.RowKit
set_option maxRecDepth 10000
theorem l1ArrayS_ac (ps : List V) (hc : (arrV ps).count ≤ 500000) : AC Tryz.prog 60 [.c (.sl ((ps.map V.enc).map encCs))] [] (.c (.sl ((arrV ps).enc.map CellD.cs))) [] := by
  have h := l1Array_ac ps hc
  (apply (AC.says [] [(0, 0)] h); (focus (simp only [go_sem, Nat.reduceEqDiff, Nat.reduceAdd, Nat.reduceSub, Nat.reduceLeDiff, Nat.reduceMul, Nat.reduceBEq, Nat.reduceLT, Int.reduceToNat, reduceCtorEq]; try (and_intros <;> rfl))); (focus exact rfl); (focus (simp only [go_sem, Nat.reduceEqDiff, Nat.reduceAdd, Nat.reduceSub, Nat.reduceLeDiff, Nat.reduceMul, Nat.reduceBEq, Nat.reduceLT, Int.reduceToNat, reduceCtorEq]; try (and_intros <;> rfl))); (focus exact rfl); (iterate 4 (focus (simp [go_sem]; done))))
theorem l1Part_ac {t : V} (hw : t.wf) (hc : t.count ≤ 200) (i : Nat) (hi : i < t.kids.length) : AC Tryz.prog 151 [cellsA t.enc, .c (.int .i64 ((kp t.kids i : Nat) : Int))] [] (.c (.sl (t.kids[i].enc.map CellD.cs))) [] := by
  refine AC.of_calls fun S w κ vs hv => ?_
  obtain ⟨v, vs', rfl, h1, v2, vs2, rfl, h2, rfl⟩ := hv
  obtain ⟨rfl, _⟩ := h2
  obtain ⟨A, cap, rfl, hcap, hcs⟩ := cr_cells.1 h1
  refine (l1Part_any t hw hc i hi A cap hcap S w hcs).mono ?_
  rintro e w' ⟨⟨A', c', rfl, hc', hr⟩, hb⟩
  exact ⟨hb, _, rfl, fun T _ hT => cr_cells.2 ⟨A', c', rfl, hc', hr.weaken fun b hb _ => hT b hb⟩⟩
set_option maxHeartbeats 1000000 in
theorem l1PartsO_ac {t : V} (hw : t.wf) (hc : t.count ≤ 200) : AC Tryz.prog 84 [cellsA t.enc] [] (.own (0, 0)) [((0, 0), .row false 1 24 ((t.kids.map V.enc).map encCs))] := by
  have hkl := kids_len_le hc
  have hkn := kposL_len t t.kids.length
  have hch := l1Children_ac hw hc
  refine wEnter Tryz.func84 Tryz.ntmps84 ?_
  refine wRUN trivial ?_
  refine w9 (op_shared [] hch) trivial ?_
  refine wRUN trivial ?_
  refine a_loop (κ := Nat) (fun k => ⟨mkS 0 25 [(0, cellsA t.enc), (3, .own (3, 0)), (4, .c (.sl ((kposL t t.kids.length).map intCs))), (5, .c (.int .i64 k))],
      [((3, 0), .row false 1 24 (((t.kids.take k).map V.enc).map encCs))]⟩)
    (fun k => k ≤ t.kids.length) (fun k => t.kids.length - k) 0 (Nat.zero_le _) ?_ ?_
  · exact wSays (Says.of [((3, 0), (6, 0))] []) hkl
  · intro k hk
    by_cases hlt : k < t.kids.length
    · have hd : decide ((k : Int) < (t.kids.length : Int)) = true := by simpa using hlt
      have hw1 := wrap_succ (k := k) (by omega)
      have h1 : (((t.kids.take k).map V.enc).map encCs).length + 1 ≤ 1000000 := by simp; omega
      have hr1 : rowsAt ((kposL t t.kids.length).map intCs) 1 k = true := by simp [rowsAt, kposL, hlt, intCs]
      have hg1 : ((kposL t t.kids.length).map intCs)[k]? = some [.int .i64 ((kp t.kids k : Nat) : Int)] := by simp [kposL, hlt, intCs]
      have hp := l1Part_ac hw hc k hlt
      have hn : ((t.kids.take k).map V.enc).map encCs ++ [[.sl (t.kids[k].enc.map CellD.cs)]] = ((t.kids.take (k + 1)).map V.enc).map encCs := by rw [List.take_succ_eq_append_getElem hlt, List.map_append, List.map_append]; rfl
      generalize hR : ((t.kids.take k).map V.enc).map encCs = R at *
      generalize hR2 : ((t.kids.take (k + 1)).map V.enc).map encCs = R2 at *
      generalize t.kids[k] = u at *
      refine wRUN (j4 hd hkn hr1 hg1) ?_
      refine w9 (op_shared [] hp) trivial ?_
      refine wRUN (j2 h1 hw1) ?_
      refine ⟨k + 1, by omega, by omega, ?_⟩
      exact wSays (Says.of [((3, 0), (23, 0))] []) (j2 hn hR2)
    · have hd : decide ((k : Int) < (t.kids.length : Int)) = false := by simpa using hlt
      have hke : t.kids.take k = t.kids := List.take_of_length_le (by omega)
      refine wRUN (j2 hkn hd) ?_
      exact wRetOf (ret_of [((0, 0), (3, 0))] []) Tryz.results84 hke
end Go.Proofs.YtpaooephkpjkfaaGreat
