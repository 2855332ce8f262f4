/- Texts of this proof: M29 G45 G25 G55 G34 G56 G26. -/
import Derived.Test.YtlciedpfjhkkdaaGreatDoorKM23uM28
import Derived.Test.YtlciedpfjhkkdaaGreatDoorKM2
import Derived.Test.YtlciedpfjhkkdaaGreatDoorKG06uS02
import Derived.Test.YtlciedpfjhkkdaaGreatDoorKE5
import Derived.Test.YtlciedpfjhkkdaaGreatDoorKG49uG52
import Derived.Test.YtlciedpfjhkkdaaGreatDoorKG9
import Derived.Test.YtlciedpfjhkkdaaGreatDoorKG21uM3
set_option linter.unusedSimpArgs false
set_option linter.unusedVariables false
set_option linter.unnecessarySimpa false
set_option maxHeartbeats 8000000
namespace Go.Proofs.YtlciedpfjhkkdaaGreatDoor
open Go.RowKit
def sKey (q : V) : Prop := q.right ∧ q.count = 1 ∧ q.depth = 1 ∧ (q.kind = 3 ∨ q.kind = 4)
theorem sKey_ok {q : V} (h : okKey q) : sKey q := by
 obtain ⟨h1, h2, h3⟩ := okKey_right h
 refine ⟨h1, h2, h3, ?_⟩
 rcases h with ⟨s, rfl, _⟩ | ⟨n, rfl, _⟩
 ·exact .inr rfl
 ·exact .inl rfl
theorem countL_sk : ∀ {l : List V}, (∀ q ∈ l, sKey q) → countL l = l.length ∧ depthL l ≤ 1 ∧ wfL l
 | [], _ => ⟨rfl, Nat.zero_le _, trivial⟩
 | q :: l, h => by
  obtain ⟨h1, h2, h3⟩ := countL_sk (l := l) fun x hx => h x (by simp [hx])
  obtain ⟨h4, h5, h6, _⟩ := h q (by simp)
  exact ⟨by simp only [countL, List.length_cons]; omega, by simp only [depthL]; omega, h4.1, h3⟩
theorem path_right {P : List V} (h : ∀ q ∈ P, sKey q) (hl : P.length ≤ 100) : (arrV P).right := by
 obtain ⟨h1, h2, h3⟩ := countL_sk h
 exact ⟨arr_wf h3 (by omega), by simp only [arrV, V.count]; omega, by simp only [arrV, V.depth]; omega⟩
set_option maxRecDepth 10000
def bothCode (x y : List CellD) : Int := if (dec x).1 = 0 then (dec y).1 else (dec x).1
theorem l3Both_ac (x y : List CellD) : AC Tryz.prog 175 [cellsA x, cellsA y] [] (.c (.int .i64 (bothCode x y))) [] := by
 have h1 := fault_ac x
 have h2 := fault_ac y
 unfold bothCode
 by_cases h : (dec x).1 = 0
 ·rw [if_pos h]
  rw [h] at h1
  have h00 : ((0 : Int) != 0) = false := rfl
  refine wEnter Tryz.func175 Tryz.ntmps175 ?_
  refine wRUN trivial ?_
  refine w7 (op_data [] h1) trivial ?_
  refine wRUN h00 ?_
  refine w7 (op_data [] h2) trivial ?_
  refine wRUN trivial ?_
  exact wRet (ret_data []) Tryz.results175
 ·rw [if_neg h]
  have hb : ((dec x).1 != 0) = true := by simpa using h
  refine wEnter Tryz.func175 Tryz.ntmps175 ?_
  refine wRUN trivial ?_
  refine w7 (op_data [] h1) trivial ?_
  refine wRUN hb ?_
  exact wRet (ret_data []) Tryz.results175
set_option maxRecDepth 10000
theorem l3Bad_ac (c : Int) : AC Tryz.prog 172 [.c (.int .i64 c)] [] (.agg [.c (.int .i64 c), .nils]) [] := by
 refine wEnter Tryz.func172 Tryz.ntmps172 ?_
 refine wRUN trivial ?_
 exact wRet (ret_data []) Tryz.results172
theorem enc_null : nullV.enc.map CellD.cs = [[.int .i64 0, .int .i64 0, .str ByteArray.empty, .str ByteArray.empty, .int .i64 0]] := rfl
theorem l3Null_ac : AC Tryz.prog 66 [] [] (.own (0, 0)) [((0, 0), .row false 5 94 (nullV.enc.map CellD.cs))] := by
 rw [enc_null]
 refine wEnter Tryz.func66 Tryz.ntmps66 ?_
 refine wRUN trivial ?_
 (apply (ret_of [((0, 0), (2, 0))] []); (focus (simp only [Tryz.results66, go_sem, Nat.reduceBEq, Nat.reduceLT, enc_null]; exact rfl)); (focus (simp only [go_sem, Nat.reduceEqDiff, Nat.reduceAdd, Nat.reduceSub, Nat.reduceLeDiff, Nat.reduceMul, Nat.reduceBEq, Nat.reduceLT, Int.reduceToNat, reduceCtorEq, enc_null]; try (and_intros <;> rfl))); (focus exact rfl); (focus (simp only [go_sem, Nat.reduceEqDiff, Nat.reduceAdd, Nat.reduceSub, Nat.reduceLeDiff, Nat.reduceMul, Nat.reduceBEq, Nat.reduceLT, Int.reduceToNat, reduceCtorEq, enc_null]; try (and_intros <;> rfl))); (focus exact rfl); (iterate 4 (focus (simp [go_sem, enc_null]; done))))
def vrA (r : Int × Option V) : AV := match r.2 with
 | some t => .agg [.c (.int .i64 0), .c (.sl (t.enc.map CellD.cs))]
 | none => .agg [.c (.int .i64 r.1), .c (.sl [])]
theorem vrA_some (c : Int) (t : V) : vrA (c, some t) = .agg [.c (.int .i64 0), .c (.sl (t.enc.map CellD.cs))] := rfl
theorem vrA_none (c : Int) : vrA (c, none) = .agg [.c (.int .i64 c), .c (.sl [])] := rfl
theorem vrA_ok (t : V) : vrA (okR t) = .agg [.c (.int .i64 0), .c (.sl (t.enc.map CellD.cs))] := rfl
theorem vrA_bad (c : Int) : vrA (badR c) = .agg [.c (.int .i64 c), .c (.sl [])] := rfl
theorem l3Get_ac {t : V} (h : t.right) (key : ByteArray) : AC Tryz.prog 123 [cellsA t.enc, .c (.str key)] [] (vrA (getKeyV t key)) [] := by
 have hr0 : rowsAt (t.enc.map CellD.cs) 5 0 = true := by unfold rowsAt; rw [show (0 : Int).toNat = 0 from rfl, enc_head]; rfl
 have hg0 := enc_head t
 by_cases h0 : t.kind = 0
 ·have hr : getKeyV t key = okR nullV := by unfold getKeyV; rw [if_pos h0]
  have hb : (t.kind == 0) = true := by simpa using h0
  rw [hr, vrA_ok]
  refine wEnter Tryz.func123 Tryz.ntmps123 ?_
  refine wRUN (j3 hr0 hg0 hb) ?_
  refine w12 (op_rowT [] l3Null_ac) trivial ?_
  refine wRUN trivial ?_
  exact wRetOf (ret_of [] [(12, 0)]) Tryz.results123 hb
 ·have hb : (t.kind == 0) = false := by simpa using h0
  by_cases h6 : t.kind = 6
  ·have hb6 : (t.kind != 6) = false := by simpa using h6
   obtain ⟨hs, _, hkl⟩ := right_asc h h6
   have hkn := kids_len_le h.2.1
   have hkeys := l1Keys_ac h.1 h.2.1
   have hparts := l1Parts_ac h.1 h.2.1
   have hkat : ∀ i (hi : i < t.keys.length), t.keyAt i = t.keys[i] := fun i hi => by
    unfold V.keyAt
    rw [if_pos h6, List.drop_eq_getElem_cons hi]
    rfl
   have hr : getKeyV t key = okR (t.member key) := by unfold getKeyV; rw [if_neg h0, if_pos h6]
   rw [hr, vrA_ok]
   refine wEnter Tryz.func123 Tryz.ntmps123 ?_
   refine wRUN (j4 hr0 hg0 hb hb6) ?_
   refine w9 (op_shared [] hkeys) trivial ?_
   refine wRUN trivial ?_
   refine a_loop (κ := Nat) (fun k => ⟨mkS 0 42 [(0, cellsA t.enc), (1, .c (.str key)), (4, .ptr (4, 0) 0), (5, .c (.sl ((keysOf t t.kids.length).map strCs))), (6, .c (.int .i64 k))], [((4, 0), .box [.c (.int .i64 0), .nils])]⟩)
    (fun k => k ≤ t.kids.length ∧ ∀ j (hj : j < t.keys.length), j < k → t.keys[j].toList ≠ key.toList) (fun k => t.kids.length - k) 0 ⟨Nat.zero_le _, by intro j _ hj; omega⟩ ?_ ?_
   ·exact wSays (Says.of [((4, 0), (4, 0))] []) hb
   ·rintro k ⟨hk, hno⟩
    have hkol : (keysOf t t.kids.length).length = t.kids.length := keysOf_len t _
    by_cases hlt : k < t.kids.length
    ·have hd : decide ((k : Int) < (t.kids.length : Int)) = true := by simpa using hlt
     have hw := wrap_succ (k := k) (by omega)
     have hr2 : rowsAt ((keysOf t t.kids.length).map strCs) 1 k = true := by simp [rowsAt, keysOf, hlt, strCs]
     have hg2 : ((keysOf t t.kids.length).map strCs)[k]? = some [.str t.keys[k]] := by simp [keysOf, hlt, strCs, hkat k (by omega)]
     have hr3 : rowsAt ((t.kids.map V.enc).map encCs) 1 k = true := by simp [rowsAt, hlt, encCs]
     have hg3 : ((t.kids.map V.enc).map encCs)[k]? = some [.sl (t.kids[k].enc.map CellD.cs)] := by simp [hlt, encCs]
     cases he : t.keys[k].toList == key.toList with
     | true =>
      have hm : t.member key = t.kids[k] := by
       unfold V.member findKey
       rw [List.findIdx?_eq_some_iff_getElem.2 ⟨by omega, he, fun j hj => by simpa using hno j (by omega) hj⟩]
       simp only
       rw [List.getD_eq_getElem?_getD, List.getElem?_eq_getElem hlt, Option.getD_some]
      rw [hm]
      generalize t.kids[k] = u at *
      refine wRUN (j5 hkol hd hr2 hg2 he) ?_
      refine w9 (op_shared [] hparts) trivial ?_
      refine wRUN (j2 hr3 hg3) ?_
      exact wRet (ret_data []) Tryz.results123
     | false =>
      refine wRUN (j6 hkol hd hr2 hg2 he hw) ?_
      refine ⟨k + 1, by omega, ⟨by omega, fun j hj hjk => ?_⟩, ?_⟩
      ·by_cases hjk' : j = k
       ·subst hjk'; simpa using he
       ·exact hno j hj (by omega)
      ·exact wSays (Says.of [((4, 0), (4, 0))] []) hb
    ·have hd : decide ((k : Int) < (t.kids.length : Int)) = false := by simpa using hlt
     have hm : t.member key = nullV := by
      unfold V.member findKey
      rw [List.findIdx?_eq_none_iff.2 fun x hx => by
       obtain ⟨i, hi, rfl⟩ := List.getElem_of_mem hx
       simpa using hno i hi (by omega)]
     rw [hm]
     refine wRUN (j2 hkol hd) ?_
     refine w12 (op_rowT [] l3Null_ac) trivial ?_
     refine wRUN trivial ?_
     exact wRetOf (ret_of [] [(40, 0)]) Tryz.results123 hb
  ·have hr : getKeyV t key = badR 6 := by unfold getKeyV; rw [if_neg h0, if_neg h6]
   have hb6 : (t.kind != 6) = true := by simpa using h6
   rw [hr, vrA_bad]
   refine wEnter Tryz.func123 Tryz.ntmps123 ?_
   refine wRUN (j4 hr0 hg0 hb hb6) ?_
   refine w7 (op_data [] (l3Bad_ac 6)) trivial ?_
   refine wRUN trivial ?_
   exact wRet (ret_data []) Tryz.results123
set_option maxRecDepth 10000
theorem l1Told_ok (xs : List CellD) (h : (dec xs).1 = 0) : AC Tryz.prog 174 [cellsA xs] [] (.agg [.c (.int .i64 0), cellsA xs]) [] := by
 have hf := fault_ac xs
 rw [h] at hf
 have h00 : ((0 : Int) != 0) = false := rfl
 refine wEnter Tryz.func174 Tryz.ntmps174 ?_
 refine wRUN trivial ?_
 refine w7 (op_data [] hf) trivial ?_
 refine wRUN h00 ?_
 exact wRet (ret_data []) Tryz.results174
theorem l1Told_bad (xs : List CellD) (h : (dec xs).1 ≠ 0) : AC Tryz.prog 174 [cellsA xs] [] (.agg [.c (.int .i64 (dec xs).1), .c (.sl [])]) [] := by
 have hf := fault_ac xs
 have hb : ((dec xs).1 != 0) = true := by simpa using h
 refine wEnter Tryz.func174 Tryz.ntmps174 ?_
 refine wRUN trivial ?_
 refine w7 (op_data [] hf) trivial ?_
 refine wRUN hb ?_
 exact wRet (ret_data []) Tryz.results174
theorem l1Told_ac (t : V) : AC Tryz.prog 174 [cellsA t.enc] [] (vrA (giveR t)) [] := by
 unfold giveR
 split
 ·rename_i h
  exact l1Told_ok t.enc h
 ·rename_i h
  exact l1Told_bad t.enc h
theorem enc_rows (t : V) : rowsAt (t.enc.map CellD.cs) 5 0 = true := by unfold rowsAt; rw [show (0 : Int).toNat = 0 from rfl, enc_head]; rfl
theorem l3NullS_ac : AC Tryz.prog 66 [] [] (.c (.sl (nullV.enc.map CellD.cs))) [] := by
 have h := l3Null_ac
 (apply (AC.says [] [(0, 0)] h); (focus (simp only [go_sem, Nat.reduceEqDiff, Nat.reduceAdd, Nat.reduceSub, Nat.reduceLeDiff, Nat.reduceMul, Nat.reduceBEq, Nat.reduceLT, Int.reduceToNat, reduceCtorEq]; try (and_intros <;> rfl))); (focus exact rfl); (focus (simp only [go_sem, Nat.reduceEqDiff, Nat.reduceAdd, Nat.reduceSub, Nat.reduceLeDiff, Nat.reduceMul, Nat.reduceBEq, Nat.reduceLT, Int.reduceToNat, reduceCtorEq]; try (and_intros <;> rfl))); (focus exact rfl); (iterate 4 (focus (simp [go_sem]; done))))
set_option maxRecDepth 10000
theorem l1ArrayS_ac (ps : List V) (hc : (arrV ps).count ≤ 500000) : AC Tryz.prog 98 [.c (.sl ((ps.map V.enc).map encCs))] [] (.c (.sl ((arrV ps).enc.map CellD.cs))) [] := by
 have h := l1Array_ac ps hc
 (apply (AC.says [] [(0, 0)] h); (focus (simp only [go_sem, Nat.reduceEqDiff, Nat.reduceAdd, Nat.reduceSub, Nat.reduceLeDiff, Nat.reduceMul, Nat.reduceBEq, Nat.reduceLT, Int.reduceToNat, reduceCtorEq]; try (and_intros <;> rfl))); (focus exact rfl); (focus (simp only [go_sem, Nat.reduceEqDiff, Nat.reduceAdd, Nat.reduceSub, Nat.reduceLeDiff, Nat.reduceMul, Nat.reduceBEq, Nat.reduceLT, Int.reduceToNat, reduceCtorEq]; try (and_intros <;> rfl))); (focus exact rfl); (iterate 4 (focus (simp [go_sem]; done))))
theorem l1Part_ac {t : V} (hw : t.wf) (hc : t.count ≤ 200) (i : Nat) (hi : i < t.kids.length) : AC Tryz.prog 121 [cellsA t.enc, .c (.int .i64 ((kp t.kids i : Nat) : Int))] [] (.c (.sl (t.kids[i].enc.map CellD.cs))) [] := by
 refine AC.of_calls fun S w κ vs hv => ?_
 obtain ⟨v, vs', rfl, h1, v2, vs2, rfl, h2, rfl⟩ := hv
 obtain ⟨rfl, _⟩ := h2
 obtain ⟨A, cap, rfl, hcap, hcs⟩ := cr_cells.1 h1
 refine (l1Part_any t hw hc i hi A cap hcap S w hcs).mono ?_
 rintro e w' ⟨⟨A', c', rfl, hc', hr⟩, hb⟩
 exact ⟨hb, _, rfl, fun T _ hT => cr_cells.2 ⟨A', c', rfl, hc', hr.weaken fun b hb _ => hT b hb⟩⟩
theorem l1PartsO_ac {t : V} (hw : t.wf) (hc : t.count ≤ 200) : AC Tryz.prog 67 [cellsA t.enc] [] (.own (0, 0)) [((0, 0), .row false 1 22 ((t.kids.map V.enc).map encCs))] := by
 have hkl := kids_len_le hc
 have hkn := kposL_len t t.kids.length
 have hch := l1Children_ac hw hc
 refine wEnter Tryz.func67 Tryz.ntmps67 ?_
 refine wRUN trivial ?_
 refine w9 (op_shared [] hch) trivial ?_
 refine wRUN trivial ?_
 refine a_loop (κ := Nat) (fun k => ⟨mkS 0 25 [(0, cellsA t.enc), (3, .own (3, 0)), (4, .c (.sl ((kposL t t.kids.length).map intCs))), (5, .c (.int .i64 k))],
   [((3, 0), .row false 1 22 (((t.kids.take k).map V.enc).map encCs))]⟩)
  (fun k => k ≤ t.kids.length) (fun k => t.kids.length - k) 0 (Nat.zero_le _) ?_ ?_
 ·exact wSays (Says.of [((3, 0), (6, 0))] []) hkl
 ·intro k hk
  by_cases hlt : k < t.kids.length
  ·have hd : decide ((k : Int) < (t.kids.length : Int)) = true := by simpa using hlt
   have hw1 := wrap_succ (k := k) (by omega)
   have h1 : (((t.kids.take k).map V.enc).map encCs).length + 1 ≤ 1000000 := by simp; omega
   have hr1 : rowsAt ((kposL t t.kids.length).map intCs) 1 k = true := by simp [rowsAt, kposL, hlt, intCs]
   have hg1 : ((kposL t t.kids.length).map intCs)[k]? = some [.int .i64 ((kp t.kids k : Nat) : Int)] := by simp [kposL, hlt, intCs]
   have hp := l1Part_ac hw hc k hlt
   have hn : ((t.kids.take k).map V.enc).map encCs ++ [[.sl (t.kids[k].enc.map CellD.cs)]] = ((t.kids.take (k + 1)).map V.enc).map encCs := by rw [List.take_succ_eq_append_getElem hlt, List.map_append, List.map_append]; rfl
   generalize hR : ((t.kids.take k).map V.enc).map encCs = R at *
   generalize hR2 : ((t.kids.take (k + 1)).map V.enc).map encCs = R2 at *
   generalize t.kids[k] = u at *
   refine wRUN (j4 hd hkn hr1 hg1) ?_
   refine w9 (op_shared [] hp) trivial ?_
   refine wRUN (j2 h1 hw1) ?_
   refine ⟨k + 1, by omega, by omega, ?_⟩
   exact wSays (Says.of [((3, 0), (23, 0))] []) (j2 hn hR2)
  ·have hd : decide ((k : Int) < (t.kids.length : Int)) = false := by simpa using hlt
   have hke : t.kids.take k = t.kids := List.take_of_length_le (by omega)
   refine wRUN (j2 hkn hd) ?_
   exact wRetOf (ret_of [((0, 0), (3, 0))] []) Tryz.results67 hke
set_option maxRecDepth 10000
theorem l1KeysO_ac {t : V} (hw : t.wf) (hc : t.count ≤ 200) : AC Tryz.prog 99 [cellsA t.enc] [] (.own (0, 0)) [((0, 0), .row false 1 9 ((keysOf t t.kids.length).map strCs))] := by
 have hkl := kids_len_le hc
 have hkn := kposL_len t t.kids.length
 have hch := l1Children_ac hw hc
 refine wEnter Tryz.func99 Tryz.ntmps99 ?_
 refine wRUN trivial ?_
 refine w9 (op_shared [] hch) trivial ?_
 refine wRUN trivial ?_
 refine a_loop (κ := Nat) (fun k => ⟨mkS 0 27 [(0, cellsA t.enc), (3, .own (3, 0)), (4, .c (.sl ((kposL t t.kids.length).map intCs))), (5, .c (.int .i64 k))],
   [((3, 0), .row false 1 9 ((keysOf t k).map strCs))]⟩)
  (fun k => k ≤ t.kids.length) (fun k => t.kids.length - k) 0 (Nat.zero_le _) ?_ ?_
 ·(apply (Says.of [((3, 0), (6, 0))] []); (iterate 2 ((focus (simp only [go_sem, Nat.reduceEqDiff, Nat.reduceAdd, Nat.reduceSub, Nat.reduceLeDiff, Nat.reduceMul, Nat.reduceBEq, Nat.reduceLT, Int.reduceToNat, reduceCtorEq, keysOf]; try (and_intros <;> rfl))); (focus exact rfl))); (iterate 4 (focus (simp [go_sem, keysOf]; done))))
 ·intro k hk
  by_cases hlt : k < t.kids.length
  ·have hd : decide ((k : Int) < (t.kids.length : Int)) = true := by simpa using hlt
   have hw1 := wrap_succ (k := k) (by omega)
   have h1 : (keysOf t k).length + 1 ≤ 1000000 := by rw [keysOf_len]; omega
   have hr1 : rowsAt ((kposL t t.kids.length).map intCs) 1 k = true := by simp [rowsAt, kposL, hlt, intCs]
   have hg1 : ((kposL t t.kids.length).map intCs)[k]? = some [.int .i64 ((kp t.kids k : Nat) : Int)] := by simp [kposL, hlt, intCs]
   have hg2 := enc_at_kid t hlt
   have hr2 : rowsAt (t.enc.map CellD.cs) 5 ((kp t.kids k : Nat) : Int) = true := by unfold rowsAt; rw [Int.toNat_natCast, hg2]; simp
   have hn : (keysOf t k).map strCs ++ [[.str (t.keyAt k)]] = (keysOf t (k + 1)).map strCs := by rw [keysOf_succ, List.map_append]; rfl
   refine wRUN (j8 hd hkn hr1 hg1 hr2 hg2 h1 hw1) ?_
   refine ⟨k + 1, by omega, by omega, ?_⟩
   exact wSays (Says.of [((3, 0), (25, 0))] []) hn
  ·have hd : decide ((k : Int) < (t.kids.length : Int)) = false := by simpa using hlt
   have hke : k = t.kids.length := by omega
   refine wRUN (j2 hkn hd) ?_
   subst hke
   exact wRetOf (ret_of [((0, 0), (3, 0))] []) Tryz.results99 hd
theorem l1Text_ac (s : ByteArray) : AC Tryz.prog 117 [.c (.str s)] [] (.c (.bool (okText s))) [] := by
 refine AC.of_calls fun S w κ vs hv => ?_
 obtain ⟨v, vs', rfl, ⟨rfl, _⟩, rfl⟩ := hv
 refine (l1Text_any s w).mono ?_
 rintro e w' ⟨rfl, rfl⟩
 exact ⟨Below.refl _ _, _, rfl, fun T _ _ => ⟨rfl, rfl⟩⟩
theorem specSetKey_ac {v x : V} (h : v.right) (hx : x.right) (key : ByteArray) (hk : okText key = true) : AC Tryz.prog 124 [cellsA v.enc, .c (.str key), cellsA x.enc] [] (vrA (setKeyV v key x)) [] := by
 have hv := l3Both_ac v.enc x.enc
 have hb0 : bothCode v.enc x.enc = 0 := by unfold bothCode; rw [right_dec h, right_dec hx]; rfl
 rw [hb0] at hv
 have h00 : ((0 : Int) != 0) = false := rfl
 have ht := l1Text_ac key
 rw [hk] at ht
 have hr0 := enc_rows v
 have hg0 := enc_head v
 unfold setKeyV
 by_cases h6 : v.kind = 0 ∨ v.kind = 6
 ·rw [if_pos h6]
  obtain ⟨hc1, hc2⟩ := setKey_count h hx key h6
  have hobj := l1Object_ac (v.keys ++ [key]) (v.kids ++ [x]) (by rw [List.length_append, List.length_append, right_kl6 h h6]; rfl) (by omega)
  have htold := l1Told_ac (objV (v.keys ++ [key]) (v.kids ++ [x]))
  generalize objV (v.keys ++ [key]) (v.kids ++ [x]) = ob at *
  generalize giveR ob = r at *
  rcases h6 with hz | h6
  ·have hbz : (v.kind == 0) = true := by simpa using hz
   rw [(right_kids0 h hz).1, (right_kids0 h hz).2] at hobj
   simp only [List.nil_append, List.map_cons, List.map_nil, strCs, encCs] at hobj
   rcases r with ⟨c, _ | u⟩
   all_goals
    simp only [vrA_some, vrA_none] at htold ⊢
    refine wEnter Tryz.func124 Tryz.ntmps124 ?_
    refine wRUN trivial ?_
    refine w7 (op_data [] hv) trivial ?_
    refine wRUN h00 ?_
    refine w7 (op_data [] ht) trivial ?_
    refine wRUN (j3 hr0 hg0 hbz) ?_
    refine w12 (op_rowT [(26, 0), (28, 0)] hobj) trivial ?_
    refine w9 (op_shared [(29, 0)] htold) trivial ?_
    refine wRUN trivial ?_
    exact wRet (ret_data []) Tryz.results124
  ·have hbz : (v.kind == 0) = false := by simp [h6]
   have hb6 : (v.kind == 6) = true := by simpa using h6
   have hkO := l1KeysO_ac h.1 h.2.1
   rw [show keysOf v v.kids.length = v.keys from keysOf_own h h6] at hkO
   have hpO := l1PartsO_ac h.1 h.2.1
   have hkl := right_kl h
   have hl1 : v.keys.length + 1 ≤ 1000000 := by omega
   have hl2 : v.kids.length + 1 ≤ 1000000 := by omega
   obtain ⟨K, hK⟩ : ∃ K, v.keys ++ [key] = K := ⟨_, rfl⟩
   obtain ⟨L, hL⟩ : ∃ L, v.kids ++ [x] = L := ⟨_, rfl⟩
   have e1 : v.keys.map strCs ++ [[C.str key]] = K.map strCs := by rw [← hK, List.map_append]; rfl
   have e2 : (v.kids.map V.enc).map encCs ++ [[C.sl (x.enc.map CellD.cs)]] = (L.map V.enc).map encCs := by rw [← hL, List.map_append, List.map_append]; rfl
   rw [hK, hL] at hobj
   rcases r with ⟨c, _ | u⟩
   all_goals
    simp only [vrA_some, vrA_none] at htold ⊢
    refine wEnter Tryz.func124 Tryz.ntmps124 ?_
    refine wRUN trivial ?_
    refine w7 (op_data [] hv) trivial ?_
    refine wRUN h00 ?_
    refine w7 (op_data [] ht) trivial ?_
    refine wRUN (j4 hr0 hg0 hbz hb6) ?_
    refine w12 (op_rowF [] hkO) trivial ?_
    refine wRUN (j2 hl1 e1) ?_
    refine w12 (op_rowF [] hpO) trivial ?_
    refine wRUN (j2 hl2 e2) ?_
    refine w12 (op_rowT [(37, 0), (42, 0)] hobj) (j2 e1 e2) ?_
    refine w9 (op_shared [(43, 0)] htold) trivial ?_
    refine wRUN trivial ?_
    exact wRet (ret_data []) Tryz.results124
 ·rw [if_neg h6]
  have hbz : (v.kind == 0) = false := by simp; omega
  have hb6 : (v.kind == 6) = false := by simp; omega
  rw [vrA_bad]
  refine wEnter Tryz.func124 Tryz.ntmps124 ?_
  refine wRUN trivial ?_
  refine w7 (op_data [] hv) trivial ?_
  refine wRUN h00 ?_
  refine w7 (op_data [] ht) trivial ?_
  refine wRUN (j4 hr0 hg0 hbz hb6) ?_
  refine w7 (op_data [] (l3Bad_ac 6)) trivial ?_
  refine wRUN trivial ?_
  exact wRet (ret_data []) Tryz.results124
theorem setKey_ac {v x : V} (h : v.right) (hx : x.right) (key : ByteArray) (hk : okText key = true) : AC Tryz.prog 107 [v.av, .c (.str key), x.av] [] (resA (setKeyV v key x)) [] := by
 have hs := isString_ac key (by have := okText_size hk; omega)
 rw [hk] at hs
 unfold setKeyV
 by_cases h6 : v.kind = 0 ∨ v.kind = 6
 ·rw [if_pos h6]
  obtain ⟨hc1, hc2⟩ := setKey_count h hx key h6
  have hkl := right_kl h
  have hgv := gives_any (setKey_fit h hx hk h6) (by omega)
  have hobj := object_ac (v.keys ++ [key]) (v.kids ++ [x]) (by rw [List.length_append, List.length_append, right_kl6 h h6]; rfl) (by rw [List.length_append, List.length_singleton]; omega) (by
   intro k hk'
   rcases List.mem_append.1 hk' with h1 | h1
   ·have := right_keys h k h1; omega
   ·rw [List.mem_singleton.1 h1]; have := okText_le hk; omega)
  rw [object_av] at hobj
  have hcs := cloneStrs_ac v.keys (by omega)
  have hcv := cloneVals_ac v.kids (by omega)
  have hl1 : v.keys.length + 1 ≤ 1000000 := by omega
  have hl2 : v.kids.length + 1 ≤ 1000000 := by omega
  generalize objV (v.keys ++ [key]) (v.kids ++ [x]) = ob at *
  obtain ⟨K, hK⟩ : ∃ K, v.keys ++ [key] = K := ⟨_, rfl⟩
  obtain ⟨L, hL⟩ : ∃ L, v.kids ++ [x] = L := ⟨_, rfl⟩
  have e1 : v.keys.map strCs ++ [[C.str key]] = K.map strCs := by rw [← hK, List.map_append]; rfl
  have e2 : v.kids.map V.cs ++ [[.int .i64 x.kind, .int .i64 x.num, .str x.text, .sl (x.keys.map strCs), .sl (x.kids.map V.cs)]] = L.map V.cs := by rw [← hL, List.map_append, List.map_cons, List.map_nil, V.cs_eq]
  rw [hK, hL] at hobj
  generalize giveR ob = r at *
  rcases h6 with hz | h6
  case' inl =>
   have hb0 : (v.kind != 0) = false := by simpa using hz
   have hb6 : (v.kind != 6) = true := by simp [hz]
  case' inr =>
   have hb0 : (v.kind != 0) = true := by simp [h6]
   have hb6 : (v.kind != 6) = false := by simpa using h6
  all_goals
   rcases r with ⟨c, _ | u⟩
   all_goals
    simp only [resA_some, resA_none] at hgv ⊢
    refine wEnter Tryz.func107 Tryz.ntmps107 ?_
    refine wRUN trivial ?_
    refine w7 (op_data [] hs) trivial ?_
    refine wRUN (j2 hb0 hb6) ?_
    refine w12 (op_rowF [] hcs) trivial ?_
    refine wRUN (j2 hl1 e1) ?_
    refine w12 (op_rowF [] hcv) trivial ?_
    refine wRUN (j2 hl2 e2) ?_
    refine w9 (op_shared [(27, 0), (33, 0)] hobj) (j2 e1 e2) ?_
    refine w9 (op_shared [] hgv) trivial ?_
    refine wRUN trivial ?_
    exact wRet (ret_data []) Tryz.results107
 ·rw [if_neg h6]
  have hb0 : (v.kind != 0) = true := by simp; omega
  have hb6 : (v.kind != 6) = true := by simp; omega
  rw [resA_bad]
  refine wEnter Tryz.func107 Tryz.ntmps107 ?_
  refine wRUN trivial ?_
  refine w7 (op_data [] hs) trivial ?_
  refine wRUN (j2 hb0 hb6) ?_
  refine w7 (op_data [] (refuses_ac 6)) trivial ?_
  refine wRUN trivial ?_
  exact wRet (ret_data []) Tryz.results107
set_option maxRecDepth 10000
theorem l1In_ac (n lo hi : Int) : AC Tryz.prog 115 [.c (.int .i64 n), .c (.int .i64 lo), .c (.int .i64 hi)] [] (.c (.bool (decide (n ≥ lo) && decide (n ≤ hi)))) [] := by
 cases h1 : decide (n ≥ lo) <;> cases h2 : decide (n ≤ hi)
 all_goals
  refine wEnter Tryz.func115 Tryz.ntmps115 ?_
  refine wRUN (j2 h1 h2) ?_
  exact wRet (ret_data []) Tryz.results115
end Go.Proofs.YtlciedpfjhkkdaaGreatDoor
