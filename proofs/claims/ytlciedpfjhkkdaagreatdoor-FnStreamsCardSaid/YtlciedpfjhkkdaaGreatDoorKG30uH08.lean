/- Texts of this proof: G30 H07 H08. -/
import Derived.Test.YtlciedpfjhkkdaaGreatDoorKG27uM30
import Derived.Test.YtlciedpfjhkkdaaGreatDoorKG06uS02
import Derived.Test.YtlciedpfjhkkdaaGreatDoorKH99uG82
set_option linter.unusedSimpArgs false
set_option linter.unusedVariables false
set_option linter.unnecessarySimpa false
set_option maxHeartbeats 8000000
namespace Go.Proofs.YtlciedpfjhkkdaaGreatDoor
open Go.RowKit
set_option maxRecDepth 10000
theorem l15Leaf_ac (t : V) : AC Tryz.prog 97 [cellsA t.enc] [] (.c (.bool t.kids.isEmpty)) [] := by
 have hr0 : rowsAt (t.enc.map CellD.cs) 5 0 = true := by unfold rowsAt; rw [show (0 : Int).toNat = 0 from rfl, enc_head]; rfl
 have hg0 := enc_head t
 have h0 : (((t.kids.length : Int)) == 0) = t.kids.isEmpty := by cases t.kids <;> simp; omega
 refine wEnter Tryz.func97 Tryz.ntmps97 ?_
 refine wRUN (j2 hr0 hg0) ?_
 exact ret_data [] (by simp only [Tryz.results97, go_sem, Nat.reduceBEq, Nat.reduceLT]; exact rfl) (by simp only [go_sem, Nat.reduceEqDiff, Nat.reduceAdd, Nat.reduceSub, Nat.reduceLeDiff, Nat.reduceMul, Nat.reduceBEq, Nat.reduceLT, Int.reduceToNat, reduceCtorEq, h0]) rfl
theorem l14Behind_ac (ahead : List V) (q : V) (hl : ahead.length ≤ 500000) : AC Tryz.prog 101 [.c (.sl ((ahead.map V.enc).map encCs)), .c (.sl (q.enc.map CellD.cs))] [] (.c (.sl (((ahead ++ [q]).map V.enc).map encCs))) [] := by
 have h1 : 0 + ahead.length ≤ 1000000 := by omega
 have h2 : ahead.length + 1 ≤ 1000000 := by omega
 have hk := key_more ahead q
 refine wEnter Tryz.func101 Tryz.ntmps101 ?_
 refine wRUN (j2 h1 h2) ?_
 exact wRetOf (ret_of [] [(10, 0)]) Tryz.results101 hk
def evAhead (ahead : List V) (e : Ev) : Ev := (ahead ++ e.1, e.2)
theorem evAhead_under (ahead : List V) (q : V) (l : List Ev) : l.map (evAhead (ahead ++ [q])) = (l.map (evUnder q)).map (evAhead ahead) := by
 rw [List.map_map]
 congr 1
 funext e
 simp [evAhead, evUnder]
def evsO (ahead : List V) (l : List Ev) : List (List C) := ((l.map (evAhead ahead)).map fun e => (evV e).enc).map oslCs
theorem evsO_append (ahead : List V) (l l' : List Ev) : evsO ahead (l ++ l') = evsO ahead l ++ evsO ahead l' := by simp [evsO]
theorem evsO_length (ahead : List V) (l : List Ev) : (evsO ahead l).length = l.length := by simp [evsO]
theorem evsO_under (ahead : List V) (q : V) (l : List Ev) : evsO (ahead ++ [q]) l = evsO ahead (l.map (evUnder q)) := by unfold evsO; rw [evAhead_under]
theorem evsO_closed (ahead : List V) (l : List Ev) : closedLL (evsO ahead l) = true := closed_osl _
theorem evsO_all (ahead : List V) (l : List Ev) : ((evsO ahead l).all fun r => r.length == 1) = true := all_osl _
attribute [go_sem] evsO_length evsO_closed evsO_all
def lastA (t : V) (ahead : List V) (k : Nat) : List V := if k = 0 then ahead else ahead ++ [t.keyV (k - 1)]
theorem evsO_leaf (ahead : List V) (t : V) : evsO ahead [([], some t)] = [[.osl ((arrV [arrV ahead, t]).enc.map CellD.cs)]] := by
 simp [evsO, evAhead, evV, oslCs]
theorem evsO_end (ahead : List V) (q : V) : evsO ahead [([q], none)] = [[.osl ((arrV [arrV (ahead ++ [q])]).enc.map CellD.cs)]] := by
 simp [evsO, evAhead, evV, oslCs]
theorem l15All_ac : ∀ (m : Nat) (t : V) (ahead : List V), t.count ≤ m → t.right → (∀ q ∈ ahead, okKey q) → ahead.length + t.depth ≤ 21 →
  AC Tryz.prog 49 [cellsA t.enc, .c (.sl ((ahead.map V.enc).map encCs))] [] (.own (0, 0)) [((0, 0), .row true 1 22 (evsO ahead t.stream))] := by
 intro m
 induction m with
 | zero => intro t _ hm; have := count_pos t; omega
 | succ m ih =>
  intro t ahead hm ht hah hdp
  have hc := ht.2.1
  have hkc := count_kids t
  have hkl := kids_len_le hc
  have hlf := l15Leaf_ac t
  have hdk := depth_kids t
  obtain ⟨hca, _, _⟩ := countL_keys hah
  have hr0 : rowsAt (t.enc.map CellD.cs) 5 0 = true := by unfold rowsAt; rw [show (0 : Int).toNat = 0 from rfl, enc_head]; rfl
  have hg0 := enc_head t
  cases hk : t.kids.isEmpty with
  | true =>
   rw [hk] at hlf
   have h1 := l1Array_ac ahead (by rw [arr_count]; omega)
   have h2 := l1Array_ac [arrV ahead, t] (by rw [arr_count]; simp only [countL, arr_count]; omega)
   rw [stream_leaf hk, evsO_leaf]
   refine wEnter Tryz.func49 Tryz.ntmps49 ?_
   refine wRUN trivial ?_
   refine w7 (op_data [] hlf) trivial ?_
   refine wRUN trivial ?_
   refine w12 (op_rowT [] h1) trivial ?_
   refine wRUN trivial ?_
   (apply (op_rowT [(16, 0)] h2); (iterate 12 (focus (first | (simp only [go_sem, Nat.reduceEqDiff, Nat.reduceAdd, Nat.reduceSub, Nat.reduceLeDiff, Nat.reduceMul, Nat.reduceBEq, Nat.reduceLT, Int.reduceToNat, reduceCtorEq, List.map_cons, List.map_nil]; first | done | exact rfl | (and_intros <;> rfl)) | exact rfl | decide))))
   (repeat (first | (with_reducible first | refine a_seq ?_ | refine a_region ?_ | refine a_block ?_ | refine a_scope ?_) | ((with_reducible apply op_any); (iterate 2 (focus (first | (simp only [go_sem, Nat.reduceEqDiff, Nat.reduceAdd, Nat.reduceSub, Nat.reduceLeDiff, Nat.reduceMul, Nat.reduceBEq, Nat.reduceLT, Int.reduceToNat, reduceCtorEq, List.map_cons, List.map_nil]; first | done | exact rfl | (and_intros <;> rfl)) | exact rfl | decide)))) | ((with_reducible refine o_nil ?_); dsimp only; try ((with_reducible apply o_draw); (focus (simp only [go_sem]; exact rfl)); (focus decide))) | ((with_reducible first | refine a_ret ?_ | refine a_skip ?_ | refine a_label ?_); dsimp only) | ((with_reducible refine a_exit ?_); dsimp only; simp only [if_true, if_false, Nat.reduceEqDiff]) | ((with_reducible apply a_if); (focus (simp only [go_sem, Nat.reduceBEq, Nat.reduceLT, List.map_cons, List.map_nil]; exact rfl)); dsimp only [cond_true, cond_false]) | ((with_reducible refine a_draw ?_ ?_); (focus exact rfl))))
   exact wRetOf (ret_of [((0, 0), (18, 0))] []) Tryz.results49 hk
  | false =>
   rw [hk] at hlf
   have hne : 0 < t.kids.length := by
    cases hkk : t.kids with
    | nil => rw [hkk] at hk; cases hk
    | cons x xs => simp
   have hsl := streamL_len t.keyV 0 t.kids
   have hparts := l1Parts_ac ht.1 hc
   have hkeys := l1Keys_ac ht.1 hc
   refine wEnter Tryz.func49 Tryz.ntmps49 ?_
   refine wRUN trivial ?_
   refine w7 (op_data [] hlf) trivial ?_
   refine wRUN trivial ?_
   refine w9 (op_shared [] hparts) trivial ?_
   refine wRUN trivial ?_
   refine w9 (op_shared [] hkeys) trivial ?_
   refine wRUN trivial ?_
   refine a_loop (κ := Nat × List Ev) (fun x => ⟨mkS 0 61 [(0, cellsA t.enc), (1, .c (.sl ((ahead.map V.enc).map encCs))), (5, .own (5, 0)), (6, .c (.sl ((t.kids.map V.enc).map encCs))), (7, .c (.sl ((keysOf t t.kids.length).map strCs))), (8, .c (.sl (((lastA t ahead x.1).map V.enc).map encCs))), (9, .c (.int .i64 x.1))],
     [((5, 0), .row true 1 22 (evsO ahead x.2))]⟩)
    (fun x => x.1 ≤ t.kids.length ∧ x.2 ++ streamL t.keyV x.1 (t.kids.drop x.1) = streamL t.keyV 0 t.kids) (fun x => t.kids.length - x.1) (0, []) ⟨Nat.zero_le _, rfl⟩ ?_ ?_
   ·(apply (Says.of [((5, 0), (19, 0))] []); (iterate 2 ((focus (simp only [go_sem, Nat.reduceEqDiff, Nat.reduceAdd, Nat.reduceSub, Nat.reduceLeDiff, Nat.reduceMul, Nat.reduceBEq, Nat.reduceLT, Int.reduceToNat, reduceCtorEq, lastA, evsO]; try (and_intros <;> rfl))); (focus exact rfl))); (iterate 4 (focus (simp [go_sem, lastA, evsO]; done))))
   ·rintro ⟨k, done⟩ ⟨hkk, hd0⟩
    dsimp only at hkk hd0 ⊢
    by_cases hlt : k < t.kids.length
    ·have hd : decide ((k : Int) < (t.kids.length : Int)) = true := by simpa using hlt
     have hr1 : rowsAt ((t.kids.map V.enc).map encCs) 1 k = true := by simp [rowsAt, hlt, encCs]
     have hg1 : ((t.kids.map V.enc).map encCs)[k]? = some [.sl (t.kids[k].enc.map CellD.cs)] := by simp [hlt, encCs]
     have hr2 : rowsAt ((keysOf t t.kids.length).map strCs) 1 k = true := by simp [rowsAt, keysOf, hlt, strCs]
     have hg2 : ((keysOf t t.kids.length).map strCs)[k]? = some [.str (t.keyAt k)] := by simp [keysOf, hlt, strCs]
     have hmem := countL_mem (List.getElem_mem hlt)
     have hkr := right_mem ht (List.getElem_mem hlt)
     have hdm := depthL_mem (List.getElem_mem hlt)
     have hqk := keyV_ok ht hlt
     rw [streamL_drop t.keyV t.kids hlt] at hd0
     have hwk := wrap_succ (k := k) (by omega)
     have hla : lastA t ahead (k + 1) = ahead ++ [t.keyV k] := by unfold lastA; rw [if_neg (by omega)]; rfl
     generalize t.kids[k] = u at *
     have hul := stream_len u
     have hdl : done.length + u.stream.length ≤ t.count := by
      have := congrArg List.length hd0
      simp only [List.length_append, List.length_map] at this
      omega
     have hol : done.length + u.stream.length ≤ 1000000 := by omega
     obtain ⟨q, hq⟩ : ∃ q, q = t.keyV k := ⟨_, rfl⟩
     rw [← hq] at hd0 hqk hla
     have hi := ih u (ahead ++ [q]) (by omega) hkr (by
      intro x hx
      simp only [List.mem_append, List.mem_singleton] at hx
      rcases hx with hx | rfl
      ·exact hah x hx
      ·exact hqk) (by simp only [List.length_append, List.length_singleton]; omega)
     have hbe := l14Behind_ac ahead q (by omega)
     have hn : evsO ahead (done ++ u.stream.map (evUnder q)) = evsO ahead done ++ evsO (ahead ++ [q]) u.stream := by rw [evsO_append, evsO_under]
     by_cases h6 : t.kind = 6
     ·have hb6 : (t.kind == 6) = true := by simpa using h6
      have hqs : q = strV (t.keyAt k) := by rw [hq]; unfold V.keyV; rw [if_pos h6]
      have hse : (strV (t.keyAt k)).enc = q.enc := by rw [hqs]
      have hls := l1String_ac (t.keyAt k)
      rw [hse] at hls
      refine wRUN hd ?_
      refine w9 (op_shared [] (l1Number_ac k)) trivial ?_
      refine wRUN (j5 hr0 hg0 hb6 hr2 hg2) ?_
      refine w9 (op_shared [] hls) trivial ?_
      refine wRUN trivial ?_
      refine w9 (op_shared [] hbe) trivial ?_
      refine wRUN (j2 hr1 hg1) ?_
      refine w12 (op_rowT [] hi) trivial ?_
      refine wRUN (j2 hol hwk) ?_
      refine ⟨(k + 1, done ++ u.stream.map (evUnder q)), by dsimp only; omega, ⟨by dsimp only; omega, by simpa using hd0⟩, ?_⟩
      exact wSays (Says.of [((5, 0), (53, 0))] []) (j2 hn hla)
     ·have hb6 : (t.kind == 6) = false := by simpa using h6
      have hqs : q = numV k := by rw [hq]; unfold V.keyV; rw [if_neg h6]
      have hse : (numV k).enc = q.enc := by rw [hqs]
      have hls := l1Number_ac k
      rw [hse] at hls
      refine wRUN hd ?_
      refine w9 (op_shared [] hls) trivial ?_
      refine wRUN (j3 hr0 hg0 hb6) ?_
      refine w9 (op_shared [] hbe) trivial ?_
      refine wRUN (j2 hr1 hg1) ?_
      refine w12 (op_rowT [] hi) trivial ?_
      refine wRUN (j2 hol hwk) ?_
      refine ⟨(k + 1, done ++ u.stream.map (evUnder q)), by dsimp only; omega, ⟨by dsimp only; omega, by simpa using hd0⟩, ?_⟩
      exact wSays (Says.of [((5, 0), (53, 0))] []) (j2 hn hla)
    ·have hd : decide ((k : Int) < (t.kids.length : Int)) = false := by simpa using hlt
     have hke : k = t.kids.length := by omega
     subst hke
     rw [List.drop_eq_nil_of_le (by omega)] at hd0
     simp only [streamL, List.append_nil] at hd0
     have hla : lastA t ahead t.kids.length = ahead ++ [t.keyV (t.kids.length - 1)] := by unfold lastA; rw [if_neg (by omega)]
     have hqk := keyV_ok ht (i := t.kids.length - 1) (by omega)
     have hq1 := (okKey_right hqk).2.1
     have hfin : evsO ahead t.stream = evsO ahead done ++ evsO ahead [([t.keyV (t.kids.length - 1)], none)] := by rw [stream_node hk, ← hd0, evsO_append]
     rw [evsO_end] at hfin
     generalize t.keyV (t.kids.length - 1) = q at *
     have hcq : countL (ahead ++ [q]) = countL ahead + 1 := by rw [countL_snoc, hq1]
     have h1 := l1Array_ac (ahead ++ [q]) (by rw [arr_count]; omega)
     have h2 := l1Array_ac [arrV (ahead ++ [q])] (by rw [arr_count]; simp only [countL, arr_count]; omega)
     have hol : done.length + 1 ≤ 1000000 := by rw [hd0]; omega
     rw [hla, hfin]
     refine wRUN hd ?_
     refine w12 (op_rowT [] h1) trivial ?_
     refine wRUN trivial ?_
     (apply (op_rowT [(57, 0)] h2); (iterate 12 (focus (first | (simp only [go_sem, Nat.reduceEqDiff, Nat.reduceAdd, Nat.reduceSub, Nat.reduceLeDiff, Nat.reduceMul, Nat.reduceBEq, Nat.reduceLT, Int.reduceToNat, reduceCtorEq, List.map_cons, List.map_nil]; first | done | exact rfl | (and_intros <;> rfl)) | exact rfl | decide))))
     (repeat (first | (with_reducible first | refine a_seq ?_ | refine a_region ?_ | refine a_block ?_ | refine a_scope ?_) | ((with_reducible apply op_any); (iterate 2 (focus (first | (simp only [go_sem, Nat.reduceEqDiff, Nat.reduceAdd, Nat.reduceSub, Nat.reduceLeDiff, Nat.reduceMul, Nat.reduceBEq, Nat.reduceLT, Int.reduceToNat, reduceCtorEq, hol, List.map_cons, List.map_nil]; first | done | exact rfl | (and_intros <;> rfl)) | exact rfl | decide)))) | ((with_reducible refine o_nil ?_); dsimp only; try ((with_reducible apply o_draw); (focus (simp only [go_sem]; exact rfl)); (focus decide))) | ((with_reducible first | refine a_ret ?_ | refine a_skip ?_ | refine a_label ?_); dsimp only) | ((with_reducible refine a_exit ?_); dsimp only; simp only [if_true, if_false, Nat.reduceEqDiff]) | ((with_reducible apply a_if); (focus (simp only [go_sem, Nat.reduceBEq, Nat.reduceLT, hol, List.map_cons, List.map_nil]; exact rfl)); dsimp only [cond_true, cond_false]) | ((with_reducible refine a_draw ?_ ?_); (focus exact rfl))))
     exact wRetOf (ret_of [((0, 0), (60, 0))] []) Tryz.results49 hol
set_option maxRecDepth 10000
theorem streamOf_bad (xs : List CellD) (hz : Sized xs) (hd : (dec xs).2 = none) (h0 : (dec xs).1 ≠ 0) : AC Tryz.prog 16 [cellsA xs] [] (.agg [.c (.int .i64 (dec xs).1), .nils]) [] := by
 have hb : ((dec xs).1 != 0) = true := by simpa using h0
 have hv := valOf_bad xs hz hd
 refine wEnter Tryz.func16 Tryz.ntmps16 ?_
 refine wRUN trivial ?_
 refine w9 (op_shared [] hv) noV_eq ?_
 refine wRUN (j2 hb noV_eq) ?_
 exact wRet (ret_data []) Tryz.results16
theorem stream_right {t : V} (h : t.right) : ∀ e ∈ t.stream, (evV e).right ∧ (evV e).count ≤ 25 := fun e he => by
 obtain ⟨h1, h2, h3⟩ := stream_ok t h e he
 have := h.2.2
 exact ev_right ⟨by omega, h2, h3⟩
theorem streamOf_ac (xs : List CellD) (hz : Sized xs) {t : V} (hd : dec xs = (0, some t)) (ht : t.right) :
  AC Tryz.prog 16 [cellsA xs] [] (.agg [.c (.int .i64 0), .own (0, 0)]) [((0, 0), .row true 1 22 ((t.stream.map fun e => (evV e).enc).map oslCs))] := by
 have h0 : ((0 : Int) != 0) = false := rfl
 have hv := valOf_ac xs hz (t := t) (by rw [hd])
 have hs := stream_ac t.count t (Nat.le_refl _) ht
 have hl := stream_len t
 have hc := ht.2.1
 have hr := eventsResult_ac t.stream (by omega) (fun e he => (stream_right ht e he).1)
 refine wEnter Tryz.func16 Tryz.ntmps16 ?_
 refine wRUN trivial ?_
 refine w9 (op_shared [] hv) trivial ?_
 refine wRUN h0 ?_
 refine w9 (op_shared [] hs) trivial ?_
 refine w12 (op_rowF [] hr) trivial ?_
 refine wRUN trivial ?_
 exact wRetOf (ret_of [((0, 0), (16, 0))] []) Tryz.results16 h0
set_option maxRecDepth 10000
theorem specStreamOf_bad (xs : List CellD) (h0 : (dec xs).1 ≠ 0) : AC Tryz.prog 17 [cellsA xs] [] (.agg [.c (.int .i64 (dec xs).1), .c (.sl [])]) [] := by
 have hb : ((dec xs).1 != 0) = true := by simpa using h0
 have hv := fault_ac xs
 refine wEnter Tryz.func17 Tryz.ntmps17 ?_
 refine wRUN trivial ?_
 refine w7 (op_data [] hv) trivial ?_
 refine wRUN hb ?_
 exact wRetOf (ret_of [] []) Tryz.results17 hb
theorem fault_zero {t : V} (h : t.right) : AC Tryz.prog 29 [cellsA t.enc] [] (.c (.int .i64 0)) [] := by
 have h1 := fault_ac t.enc
 rw [right_dec h] at h1
 exact h1
theorem evsO_nil (l : List Ev) : evsO [] l = (l.map fun e => (evV e).enc).map oslCs := by
 unfold evsO
 rw [show evAhead [] = id from by funext e; simp [evAhead], List.map_id]
theorem forget_evsO (l : List Ev) : forgetLL (evsO [] l) = (l.map fun e => (evV e).enc).map encCs := by rw [evsO_nil, forget_osl]
theorem specStreamOf_ac {t : V} (ht : t.right) :
  AC Tryz.prog 17 [cellsA t.enc] [] (.agg [.c (.int .i64 0), .c (.sl ((t.stream.map fun e => (evV e).enc).map encCs))]) [] := by
 have hv := fault_zero ht
 have hs := l15All_ac t.count t [] (Nat.le_refl _) ht (by simp) (by have := ht.2.2; simpa using by omega)
 have hl := stream_len t
 have hc := ht.2.1
 have h200 : decide ((t.stream.length : Int) > 200) = false := by simp; omega
 have h00 : ((0 : Int) != 0) = false := rfl
 have hright := stream_right ht
 have hln : ((t.stream.map fun e => (evV e).enc).map encCs).length = t.stream.length := by simp
 have hgt : ∀ (k : Nat) (h : k < t.stream.length), ((t.stream.map fun e => (evV e).enc).map encCs)[k]? = some [.sl ((evV t.stream[k]).enc.map CellD.cs)] := fun k h => by simp [h, encCs]
 have hrw : ∀ (k : Nat) (h : k < t.stream.length), rowsAt ((t.stream.map fun e => (evV e).enc).map encCs) 1 k = true := fun k h => by simp [rowsAt, h, encCs]
 have hfg := forget_evsO t.stream
 have hle := evsO_length [] t.stream
 generalize hO : ((t.stream.map fun e => (evV e).enc).map encCs) = O at *
 refine wEnter Tryz.func17 Tryz.ntmps17 ?_
 refine wRUN trivial ?_
 refine w7 (op_data [] hv) trivial ?_
 refine wRUN h00 ?_
 refine w12 (op_rowT [] hs) @List.map_nil.{0,0} ?_
 refine wRUN (j2 hle h200) ?_
 refine a_loop (κ := Nat) (fun k => ⟨mkS 0 36 [(0, cellsA t.enc), (2, .ptr (2, 0) 0), (4, .c (.sl O)), (5, .c (.int .i64 k))],
   [((2, 0), .box [.c (.int .i64 0), .nils])]⟩)
  (fun k => k ≤ t.stream.length) (fun k => t.stream.length - k) 0 (Nat.zero_le _) ?_ ?_
 ·exact wSays (Says.of [((2, 0), (2, 0))] [(14, 0)]) hfg
 ·intro k hk
  by_cases hlt : k < t.stream.length
  ·have hd : decide ((k : Int) < (t.stream.length : Int)) = true := by simpa using hlt
   have hg := hgt k hlt
   have hr := hrw k hlt
   have hf := fault_zero (hright _ (List.getElem_mem hlt)).1
   have hw := wrap_succ (k := k) (by omega)
   generalize evV t.stream[k] = v at *
   refine wRUN (j4 hln hd hg hr) ?_
   refine w7 (op_data [] hf) trivial ?_
   refine wRUN (j2 h00 hw) ?_
   refine ⟨k + 1, by omega, by omega, ?_⟩
   exact wSays (Says.of [((2, 0), (2, 0))] []) hln
  ·have hd : decide ((k : Int) < (t.stream.length : Int)) = false := by simpa using hlt
   refine wRUN (j2 hln hd) ?_
   exact wRetOf (ret_of [] []) Tryz.results17 hd
end Go.Proofs.YtlciedpfjhkkdaaGreatDoor
