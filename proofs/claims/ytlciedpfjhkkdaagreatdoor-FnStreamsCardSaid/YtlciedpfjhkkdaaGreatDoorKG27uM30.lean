/- Texts of this proof: G27 G64 G65 G66 G15 G28 G29 G84 G85 H22 M30. -/
import Derived.Test.YtlciedpfjhkkdaaGreatDoorKM29uG26
import Derived.Test.YtlciedpfjhkkdaaGreatDoorKG06uS02
import Derived.Test.YtlciedpfjhkkdaaGreatDoorKH99uG82
import Derived.Test.YtlciedpfjhkkdaaGreatDoorKE5
import Derived.Test.YtlciedpfjhkkdaaGreatDoorKA1
import Derived.Test.YtlciedpfjhkkdaaGreatDoorKE6
import Derived.Test.YtlciedpfjhkkdaaGreatDoorKG04uG20
import Derived.Test.YtlciedpfjhkkdaaGreatDoorKM2
import Derived.Test.YtlciedpfjhkkdaaGreatDoorKG83
import Derived.Test.YtlciedpfjhkkdaaGreatDoorKG49uG52
import Derived.Lib.AppendZerosOnto
import Derived.Shelf.RegionOpenPlain
import Derived.Test.YtlciedpfjhkkdaaGreatDoorKG43
import Derived.Test.YtlciedpfjhkkdaaGreatDoorKM23uM28
import Derived.Test.YtlciedpfjhkkdaaGreatDoorKG8
import Derived.Test.YtlciedpfjhkkdaaGreatDoorKGX
import Derived.Test.YtlciedpfjhkkdaaGreatDoorKG21uM3
import Derived.Deep.RegionLaw
import Derived.Laws.CopyRow
set_option linter.unusedSimpArgs false
set_option linter.unusedVariables false
set_option linter.unnecessarySimpa false
set_option maxHeartbeats 8000000
namespace Go.Proofs.YtlciedpfjhkkdaaGreatDoor
open Go.RowKit
set_option maxRecDepth 10000
theorem specPath_ac (ps : List CellD) : AC Tryz.prog 170 [cellsA ps] [] (.c (.int .i64 (pathDec ps).1)) [] := by
 refine AC.of_calls fun S w κ vs hv => ?_
 obtain ⟨v, vs', rfl, h1, rfl⟩ := hv
 obtain ⟨A, cap, rfl, hcap, hc⟩ := cr_cells.1 h1
 refine (specPathFault_any ps A cap hcap S w hc).mono ?_
 rintro e w' ⟨rfl, hb⟩
 exact ⟨hb, _, rfl, fun T _ _ => ⟨rfl, rfl⟩⟩
set_option maxRecDepth 10000
def EditD.cs (d : EditD) : List C := [.int .i64 d.op, .sl (d.path.map CellD.cs), .sl (d.x.map CellD.cs)]
def EditD.os (d : EditD) : List C := [.int .i64 d.op, .osl (d.path.map CellD.cs), .osl (d.x.map CellD.cs)]
def EditD.av (d : EditD) : AV := .agg [.c (.int .i64 d.op), .c (.sl (d.path.map CellD.cs)), .c (.sl (d.x.map CellD.cs))]
theorem forget_edits (l : List EditD) : forgetLL (l.map EditD.os) = l.map EditD.cs := by
 induction l with
 | nil => rfl
 | cons d l ih => simp only [List.map_cons, forgetLL, ih, EditD.os, EditD.cs, forgetL, C.forget, forget_cells]
theorem closed_edits (l : List EditD) : closedLL (l.map EditD.os) = true := by
 induction l with
 | nil => rfl
 | cons d l ih => simp only [List.map_cons, closedLL, ih, Bool.and_true, EditD.os, closedL, C.closed, closed_cells]
theorem all_edits (l : List EditD) : ((l.map EditD.os).all fun r => r.length == 3) = true := by simp [EditD.os]
attribute [go_sem] forget_edits closed_edits all_edits EditD.av
set_option maxRecDepth 10000
theorem implFault_ac (xs : List CellD) (hz : Sized xs) : AC Tryz.prog 36 [cellsA xs] [] (.c (.int .i64 (dec xs).1)) [] := by
 rcases dec_cases xs with ⟨t, ht⟩ | ⟨c, _, ht⟩
 ·have hv := valOf_ac xs hz (t := t) (by rw [ht])
  rw [ht]
  refine wEnter Tryz.func36 Tryz.ntmps36 ?_
  refine wRUN trivial ?_
  refine w9 (op_shared [] hv) trivial ?_
  refine wRUN trivial ?_
  exact wRet (ret_data []) Tryz.results36
 ·have hv := valOf_bad xs hz (by rw [ht])
  refine wEnter Tryz.func36 Tryz.ntmps36 ?_
  refine wRUN trivial ?_
  refine w9 (op_shared [] hv) noV_eq ?_
  refine wRUN noV_eq ?_
  exact wRet (ret_data []) Tryz.results36
set_option maxRecDepth 10000
theorem isLeaf_ac (t : V) : AC Tryz.prog 95 [t.av] [] (.c (.bool t.kids.isEmpty)) [] := by
 have h0 : (((t.kids.length : Int)) == 0) = t.kids.isEmpty := by cases t.kids <;> simp; omega
 refine wEnter Tryz.func95 Tryz.ntmps95 ?_
 refine wRUN trivial ?_
 exact ret_data [] (by simp only [Tryz.results95, go_sem, Nat.reduceBEq, Nat.reduceLT]; exact rfl) (by simp only [go_sem, Nat.reduceEqDiff, Nat.reduceAdd, Nat.reduceSub, Nat.reduceLeDiff, Nat.reduceMul, Nat.reduceBEq, Nat.reduceLT, Int.reduceToNat, reduceCtorEq, h0]) rfl
set_option maxRecDepth 10000
def leafC : Option V → C
 | none => .raw (.pointer none)
 | some t => .ref t.cs
def evCs (e : Ev) : List C := [.sl (e.1.map V.cs), leafC e.2]
def evO (e : Ev) : List C := [.osl (e.1.map V.cs), leafC e.2]
theorem leafC_forget (o : Option V) : (leafC o).forget = leafC o := by cases o <;> rfl
theorem forget_evO (l : List Ev) : forgetLL (l.map evO) = l.map evCs := by
 induction l with
 | nil => rfl
 | cons e l ih => simp only [List.map_cons, forgetLL, ih, evO, evCs, forgetL, C.forget, forget_trees, leafC_forget]
theorem forget_evCs (l : List Ev) : forgetLL (l.map evCs) = l.map evCs := by
 induction l with
 | nil => rfl
 | cons e l ih => simp only [List.map_cons, forgetLL, ih, evCs, forgetL, C.forget, leafC_forget]
theorem all_evCs (l : List Ev) : ((l.map evCs).all fun r => r.length == 2) = true := by simp [evCs]
attribute [go_sem] forget_evO forget_evCs all_evCs leafC_forget
theorem stream_ac : ∀ (m : Nat) (t : V), t.count ≤ m → t.right → AC Tryz.prog 48 [t.av] [] (.c (.sl (t.stream.map evCs))) [] := by
 intro m
 induction m with
 | zero => intro t hm; have := count_pos t; omega
 | succ m ih =>
  intro t hm ht
  have hc := ht.2.1
  have hkc := count_kids t
  have hkl := kids_len_le hc
  have hlf := isLeaf_ac t
  cases hk : t.kids.isEmpty with
  | true =>
   rw [hk] at hlf
   have hst : t.stream.map evCs = [[.sl [], .ref [.int .i64 t.kind, .int .i64 t.num, .str t.text, .sl (t.keys.map strCs), .sl (t.kids.map V.cs)]]] := by
    rw [stream_leaf hk]
    simp only [List.map_cons, List.map_nil, evCs, leafC, V.cs_eq]
   rw [hst]
   refine wEnter Tryz.func48 Tryz.ntmps48 ?_
   refine wRUN trivial ?_
   refine w7 (op_data [] hlf) trivial ?_
   (repeat (first | (with_reducible first | refine a_seq ?_ | refine a_region ?_ | refine a_block ?_ | refine a_scope ?_) | ((with_reducible apply op_any); (iterate 2 (focus (first | (simp only [go_sem, Nat.reduceEqDiff, Nat.reduceAdd, Nat.reduceSub, Nat.reduceLeDiff, Nat.reduceMul, Nat.reduceBEq, Nat.reduceLT, Int.reduceToNat, reduceCtorEq, plainCs]; first | done | exact rfl | (and_intros <;> rfl)) | exact rfl | decide)))) | ((with_reducible refine o_nil ?_); dsimp only; try ((with_reducible apply o_draw); (focus (simp only [go_sem]; exact rfl)); (focus decide))) | ((with_reducible first | refine a_ret ?_ | refine a_skip ?_ | refine a_label ?_); dsimp only) | ((with_reducible refine a_exit ?_); dsimp only; simp only [if_true, if_false, Nat.reduceEqDiff]) | ((with_reducible apply a_if); (focus (simp only [go_sem, Nat.reduceBEq, Nat.reduceLT, plainCs]; exact rfl)); dsimp only [cond_true, cond_false]) | ((with_reducible refine a_draw ?_ ?_); (focus exact rfl))))
   exact wRetOf (ret_of [] [(11, 0)]) Tryz.results48 hst
  | false =>
   rw [hk] at hlf
   have hne : 0 < t.kids.length := by
    cases hkk : t.kids with
    | nil => rw [hkk] at hk; cases hk
    | cons x xs => simp
   have hsl := streamL_len t.keyV 0 t.kids
   refine wEnter Tryz.func48 Tryz.ntmps48 ?_
   refine wRUN trivial ?_
   refine w7 (op_data [] hlf) trivial ?_
   refine wRUN trivial ?_
   refine a_loop (κ := Nat × List Ev) (fun x => ⟨mkS 0 54 [(1, .ptr (1, 0) 0), (3, .own (3, 0)), (14, .c (.sl (t.kids.map V.cs))), (15, .c (.int .i64 t.kids.length)), (16, .c (.int .i64 x.1))],
     [((1, 0), .box [.c (.int .i64 t.kind), .c (.int .i64 t.num), .c (.str t.text), .c (.sl (t.keys.map strCs)), .c (.sl (t.kids.map V.cs))]), ((3, 0), .row true 2 81 (x.2.map evO))]⟩)
    (fun x => x.1 ≤ t.kids.length ∧ x.2 ++ streamL t.keyV x.1 (t.kids.drop x.1) = streamL t.keyV 0 t.kids) (fun x => t.kids.length - x.1) (0, []) ⟨Nat.zero_le _, rfl⟩ ?_ ?_
   ·exact wSays (Says.of [((1, 0), (1, 0)), ((3, 0), (12, 0))] []) hk
   ·rintro ⟨k, done⟩ ⟨hkk, hd0⟩
    dsimp only at hkk hd0 ⊢
    by_cases hlt : k < t.kids.length
    ·have hd : decide ((k : Int) < (t.kids.length : Int)) = true := by simpa using hlt
     have hr : rowsAt (t.kids.map V.cs) 5 k = true := by simp [rowsAt, hlt, V.cs_eq]
     have hg : (t.kids.map V.cs)[k]? = some t.kids[k].cs := by simp [hlt]
     have hmem := countL_mem (List.getElem_mem hlt)
     have hkr := right_mem ht (List.getElem_mem hlt)
     rw [streamL_drop t.keyV t.kids hlt] at hd0
     have hkey := keyAt_ac t (right_neat ht) k hlt
     have hwk := wrap_succ (k := k) (by omega)
     generalize t.kids[k] = u at *
     have hul := stream_len u
     have hi := ih u (by omega) hkr
     have hdl : done.length + u.stream.length ≤ t.count := by
      have := congrArg List.length hd0
      simp only [List.length_append, List.length_map] at this
      omega
     generalize t.keyV k = q at *
     refine wRUN (j3 hd hr hg) ?_
     refine w9 (op_shared [] hi) trivial ?_
     refine wRUN trivial ?_
     refine a_loop (κ := Nat) (fun j => ⟨mkS 0 54 [(1, .ptr (1, 0) 0), (3, .own (3, 0)), (4, .c (.int .i64 k)), (14, .c (.sl (t.kids.map V.cs))), (15, .c (.int .i64 t.kids.length)), (16, .c (.int .i64 k)), (22, .c (.sl (u.stream.map evCs))), (23, .c (.int .i64 u.stream.length)), (24, .c (.int .i64 j))],
       [((1, 0), .box [.c (.int .i64 t.kind), .c (.int .i64 t.num), .c (.str t.text), .c (.sl (t.keys.map strCs)), .c (.sl (t.kids.map V.cs))]), ((3, 0), .row true 2 81 ((done ++ (u.stream.take j).map (evUnder q)).map evO))]⟩)
      (fun j => j ≤ u.stream.length) (fun j => u.stream.length - j) 0 (Nat.zero_le _) ?_ ?_
     ·exact wSays (Says.of [((1, 0), (1, 0)), ((3, 0), (3, 0))] []) hul
     ·intro j hj
      by_cases hjl : j < u.stream.length
      ·have hdj : decide ((j : Int) < (u.stream.length : Int)) = true := by simpa using hjl
       have hrj : rowsAt (u.stream.map evCs) 2 j = true := by simp [rowsAt, hjl, evCs]
       have hgj : (u.stream.map evCs)[j]? = some [.sl (u.stream[j].1.map V.cs), leafC u.stream[j].2] := by simp [hjl, evCs]
       have hwj := wrap_succ (k := j) (by omega)
       have hel := stream_ok u hkr u.stream[j] (List.getElem_mem hjl)
       have hpl : 1 + u.stream[j].1.length ≤ 1000000 := by have := hel.1; have := hkr.2.2; omega
       have hol : (done ++ (u.stream.take j).map (evUnder q)).length + 1 ≤ 1000000 := by simp; omega
       have hnx : (done ++ (u.stream.take (j + 1)).map (evUnder q)).map evO = (done ++ (u.stream.take j).map (evUnder q)).map evO ++ [[.osl ([.int .i64 q.kind, .int .i64 q.num, .str q.text, .sl (q.keys.map strCs), .sl (q.kids.map V.cs)] :: u.stream[j].1.map V.cs), leafC u.stream[j].2]] := by
        rw [List.take_succ_eq_append_getElem hjl]
        simp only [List.map_append, List.map_cons, List.map_nil, List.append_assoc, evO, evUnder, V.cs_eq]
       refine wRUN (j3 hdj hrj hgj) ?_
       refine w9 (op_shared [] hkey) trivial ?_
       refine wRUN (j3 hpl hol hwj) ?_
       refine ⟨j + 1, by omega, by omega, ?_⟩
       exact wSays (Says.of [((1, 0), (1, 0)), ((3, 0), (40, 0))] []) hnx
      ·have hdj : decide ((j : Int) < (u.stream.length : Int)) = false := by simpa using hjl
       have hje : u.stream.take j = u.stream := List.take_of_length_le (by omega)
       refine wRUN (j2 hdj hwk) ?_
       refine ⟨(k + 1, done ++ u.stream.map (evUnder q)), by dsimp only; omega, ⟨by dsimp only; omega, by simpa using hd0⟩, ?_⟩
       exact wSays (Says.of [((1, 0), (1, 0)), ((3, 0), (3, 0))] []) hje
    ·have hd : decide ((k : Int) < (t.kids.length : Int)) = false := by simpa using hlt
     rw [List.drop_eq_nil_of_le (by omega)] at hd0
     simp only [streamL, List.append_nil] at hd0
     have hkey := keyAt_ac t (right_neat ht) (t.kids.length - 1) (by omega)
     have hwl : IntKind.i64.wrap ((t.kids.length : Int) - 1) = ((t.kids.length - 1 : Nat) : Int) := by rw [IntWalk.i64_in _ (by omega)]; omega
     have hdl : done.length + 1 ≤ 1000000 := by rw [hd0]; omega
     have hfin : forgetLL (done.map evO ++ [[.osl [[.int .i64 (t.keyV (t.kids.length - 1)).kind, .int .i64 (t.keyV (t.kids.length - 1)).num, .str (t.keyV (t.kids.length - 1)).text, .sl ((t.keyV (t.kids.length - 1)).keys.map strCs), .sl ((t.keyV (t.kids.length - 1)).kids.map V.cs)]], .raw (.pointer none)]]) = t.stream.map evCs := by
      rw [stream_node hk, ← hd0, ← forget_evO, List.map_append]
      simp only [List.map_cons, List.map_nil, evO, leafC, V.cs_eq]
     generalize t.keyV (t.kids.length - 1) = q at *
     refine wRUN (j2 hd hwl) ?_
     refine w9 (op_shared [] hkey) trivial ?_
     refine wRUN hdl ?_
     exact wRetOf (ret_of [] [(53, 0)]) Tryz.results48 hfin
set_option maxRecDepth 10000
def evAv (e : Ev) : AV := .agg [.c (.sl (e.1.map V.cs)), .c (leafC e.2)]
theorem evValue_ac (e : Ev) : AC Tryz.prog 94 [evAv e] [] (evV e).av [] := by
 obtain ⟨p, o⟩ := e
 unfold evAv evV
 cases o with
 | none =>
  have h1 := array_ac p
  have h2 := array_ac [arrV p]
  simp only [leafC]
  refine wEnter Tryz.func94 Tryz.ntmps94 ?_
  refine wRUN trivial ?_
  refine w9 (op_shared [] h1) trivial ?_
  refine wRUN trivial ?_
  (apply (op_shared [(9, 0)] h2); (iterate 9 (focus (first | (simp only [go_sem, Nat.reduceEqDiff, Nat.reduceAdd, Nat.reduceSub, Nat.reduceLeDiff, Nat.reduceMul, Nat.reduceBEq, Nat.reduceLT, Int.reduceToNat, reduceCtorEq, List.map_cons, List.map_nil]; first | done | exact rfl | (and_intros <;> rfl)) | exact rfl | decide))))
  refine wRUN trivial ?_
  exact ret_data [] (by simp only [Tryz.results94, go_sem, Nat.reduceBEq, Nat.reduceLT]; exact rfl) (by simp only [go_sem, Nat.reduceEqDiff, Nat.reduceAdd, Nat.reduceSub, Nat.reduceLeDiff, Nat.reduceMul, Nat.reduceBEq, Nat.reduceLT, Int.reduceToNat, reduceCtorEq, List.map_cons, List.map_nil]) rfl
 | some t =>
  have h1 := array_ac p
  have h2 := array_ac [arrV p, t]
  simp only [leafC]
  refine wEnter Tryz.func94 Tryz.ntmps94 ?_
  refine wRUN trivial ?_
  refine w9 (op_shared [] h1) trivial ?_
  refine wRUN trivial ?_
  (apply (op_shared [(18, 0)] h2); (iterate 9 (focus (first | (simp only [go_sem, Nat.reduceEqDiff, Nat.reduceAdd, Nat.reduceSub, Nat.reduceLeDiff, Nat.reduceMul, Nat.reduceBEq, Nat.reduceLT, Int.reduceToNat, reduceCtorEq, List.map_cons, List.map_nil]; first | done | exact rfl | (and_intros <;> rfl)) | exact rfl | decide))))
  refine wRUN trivial ?_
  exact ret_data [] (by simp only [Tryz.results94, go_sem, Nat.reduceBEq, Nat.reduceLT]; exact rfl) (by simp only [go_sem, Nat.reduceEqDiff, Nat.reduceAdd, Nat.reduceSub, Nat.reduceLeDiff, Nat.reduceMul, Nat.reduceBEq, Nat.reduceLT, Int.reduceToNat, reduceCtorEq, List.map_cons, List.map_nil]) rfl
theorem made_ac {t : V} (h : t.right) : AC Tryz.prog 93 [t.av] [] (.agg [.c (.int .i64 0), .own (0, 0)]) [((0, 0), .row false 5 94 (t.enc.map CellD.cs))] := by
 have hc := h.2.1
 have h1 := vfault_ac h
 have h2 := cells_ac t.count t (Nat.le_refl _) (by omega) (right_neat h)
 have h0 : ((0 : Int) != 0) = false := rfl
 refine wEnter Tryz.func93 Tryz.ntmps93 ?_
 refine wRUN trivial ?_
 refine w7 (op_data [] h1) trivial ?_
 refine wRUN h0 ?_
 refine w12 (op_rowF [] h2) trivial ?_
 refine wRUN trivial ?_
 exact wRetOf (ret_of [((0, 0), (11, 0))] []) Tryz.results93 h0
theorem all_osl (l : List (List CellD)) : ((l.map oslCs).all fun r => r.length == 1) = true := by simp [oslCs]
attribute [go_sem] all_osl
theorem eventsResult_ac (l : List Ev) (hl : l.length ≤ 200) (hr : ∀ e ∈ l, (evV e).right) :
  AC Tryz.prog 47 [.c (.sl (l.map evCs))] [] (.agg [.c (.int .i64 0), .own (0, 0)]) [((0, 0), .row true 1 22 ((l.map fun e => (evV e).enc).map oslCs))] := by
 have hb : decide ((l.length : Int) > 200) = false := by simp; omega
 have h00 : ((0 : Int) != 0) = false := rfl
 refine wEnter Tryz.func47 Tryz.ntmps47 ?_
 refine wRUN hb ?_
 refine a_loop (κ := Nat) (fun k => ⟨mkS 0 36 [(2, .ptr (2, 0) 0), (3, .ptr (3, 0) 0), (12, .c (.sl (l.map evCs))), (13, .c (.int .i64 l.length)), (14, .c (.int .i64 k))],
   [((2, 0), .box [.c (.int .i64 0), .nils]), ((3, 0), .box [.c (.int .i64 0), .own (99, 0)]), ((99, 0), .row true 1 22 (((l.take k).map fun e => (evV e).enc).map oslCs))]⟩)
  (fun k => k ≤ l.length) (fun k => l.length - k) 0 (Nat.zero_le _) ?_ ?_
 ·exact wSays (Says.of [((2, 0), (2, 0)), ((3, 0), (3, 0))] []) hb
 ·intro k hk
  by_cases hlt : k < l.length
  ·have hd : decide ((k : Int) < (l.length : Int)) = true := by simpa using hlt
   have hrw : rowsAt (l.map evCs) 2 k = true := by simp [rowsAt, hlt, evCs]
   have hg : (l.map evCs)[k]? = some [.sl (l[k].1.map V.cs), leafC l[k].2] := by simp [hlt, evCs]
   have hv := evValue_ac l[k]
   have hm := made_ac (hr _ (List.getElem_mem hlt))
   have hts : l.take (k + 1) = l.take k ++ [l[k]] := List.take_succ_eq_append_getElem hlt
   have hw := wrap_succ (k := k) (by omega)
   have h1 : (l.take k).length + 1 ≤ 1000000 := by rw [List.length_take]; omega
   have hrow : ((l.take k).map fun e => (evV e).enc).map oslCs ++ [[.osl ((evV l[k]).enc.map CellD.cs)]] = ((l.take (k + 1)).map fun e => (evV e).enc).map oslCs := by rw [hts, List.map_append, List.map_append]; rfl
   unfold evAv at hv
   generalize evV l[k] = v at *
   refine wRUN (j3 hd hrw hg) ?_
   refine w9 (op_shared [] hv) trivial ?_
   refine w12 (op_rowF [] hm) trivial ?_
   refine wRUN (j3 h00 h1 hw) ?_
   refine ⟨k + 1, by omega, by omega, ?_⟩
   exact wSays (Says.of [((2, 0), (2, 0)), ((3, 0), (3, 0)), ((99, 0), (32, 0))] []) hrow
  ·have hd : decide ((k : Int) < (l.length : Int)) = false := by simpa using hlt
   have hke : l.take k = l := List.take_of_length_le (by omega)
   refine wRUN hd ?_
   exact wRetOf (ret_of [((0, 0), (99, 0))] []) Tryz.results47 hke
set_option maxRecDepth 10000
def cmpC (x y : List CellD) : Int := match (dec x).2, (dec y).2 with
 | some t, some u => t.cmp u
 | _, _ => 0
def sameC (x y : List CellD) : Bool := (dec x).1 == 0 && ((dec y).1 == 0 && cmpC x y == 0)
theorem implCompare_ac (x y : List CellD) (hz : Sized x) (hzy : Sized y) : AC Tryz.prog 57 [cellsA x, cellsA y] [] (.c (.int .i64 (cmpC x y))) [] := by
 rcases dec_way x with ⟨h1, h2⟩ | ⟨t, h1, h3, h4, h5, h6⟩
 ·have hv := valOf_bad x hz h1
  have hb : ((dec x).1 != 0) = true := by simpa using h2
  have hc : cmpC x y = 0 := by unfold cmpC; rw [h1]
  rw [hc]
  rcases dec_way y with ⟨g1, g2⟩ | ⟨u, g1, g3, g4, g5, g6⟩
  ·have hu := valOf_bad y hzy g1
   refine wEnter Tryz.func57 Tryz.ntmps57 ?_
   refine wRUN trivial ?_
   refine w9 (op_shared [] hv) noV_eq ?_
   refine wRUN noV_eq ?_
   refine w9 (op_shared [] hu) noV_eq ?_
   refine wRUN (j2 noV_eq hb) ?_
   exact wRet (ret_data []) Tryz.results57
  ·have hu := valOf_ac y hzy (t := u) (by rw [g1])
   refine wEnter Tryz.func57 Tryz.ntmps57 ?_
   refine wRUN trivial ?_
   refine w9 (op_shared [] hv) noV_eq ?_
   refine wRUN noV_eq ?_
   refine w9 (op_shared [] hu) trivial ?_
   refine wRUN (j2 noV_eq hb) ?_
   exact wRet (ret_data []) Tryz.results57
 ·have hv := valOf_ac x hz (t := t) (by rw [h1])
  have h00 : ((0 : Int) != 0) = false := rfl
  rcases dec_way y with ⟨g1, g2⟩ | ⟨u, g1, g3, g4, g5, g6⟩
  ·have hu := valOf_bad y hzy g1
   have hb : ((dec y).1 != 0) = true := by simpa using g2
   have hc : cmpC x y = 0 := by unfold cmpC; rw [h1, g1]
   rw [hc]
   refine wEnter Tryz.func57 Tryz.ntmps57 ?_
   refine wRUN trivial ?_
   refine w9 (op_shared [] hv) trivial ?_
   refine wRUN noV_eq ?_
   refine w9 (op_shared [] hu) noV_eq ?_
   refine wRUN (j3 noV_eq hb h00) ?_
   exact wRet (ret_data []) Tryz.results57
  ·have hu := valOf_ac y hzy (t := u) (by rw [g1])
   have hc : cmpC x y = t.cmp u := by unfold cmpC; rw [h1, g1]
   have hcm := compareVals_ac t.count t u (Nat.le_refl _) ⟨h4, h5, h6⟩
   rw [hc]
   refine wEnter Tryz.func57 Tryz.ntmps57 ?_
   refine wRUN trivial ?_
   refine w9 (op_shared [] hv) trivial ?_
   refine wRUN trivial ?_
   refine w9 (op_shared [] hu) trivial ?_
   refine wRUN h00 ?_
   refine w7 (op_data [] hcm) trivial ?_
   refine wRUN trivial ?_
   exact wRet (ret_data []) Tryz.results57
theorem implSame_ac (x y : List CellD) (hz : Sized x) (hzy : Sized y) : AC Tryz.prog 21 [cellsA x, cellsA y] [] (.c (.bool (sameC x y))) [] := by
 have f1 := implFault_ac x hz
 have f2 := implFault_ac y hzy
 have f3 := implCompare_ac x y hz hzy
 unfold sameC
 generalize cmpC x y = q at *
 cases h1 : (dec x).1 == 0 with
 | false =>
  refine wEnter Tryz.func21 Tryz.ntmps21 ?_
  refine wRUN trivial ?_
  refine w7 (op_data [] f1) trivial ?_
  refine wRUN h1 ?_
  exact wRet (ret_data []) Tryz.results21
 | true =>
  cases h2 : (dec y).1 == 0 with
  | false =>
   refine wEnter Tryz.func21 Tryz.ntmps21 ?_
   refine wRUN trivial ?_
   refine w7 (op_data [] f1) trivial ?_
   refine wRUN h1 ?_
   refine w7 (op_data [] f2) trivial ?_
   refine wRUN h2 ?_
   exact wRet (ret_data []) Tryz.results21
  | true =>
   refine wEnter Tryz.func21 Tryz.ntmps21 ?_
   refine wRUN trivial ?_
   refine w7 (op_data [] f1) trivial ?_
   refine wRUN h1 ?_
   refine w7 (op_data [] f2) trivial ?_
   refine wRUN h2 ?_
   refine w7 (op_data [] f3) trivial ?_
   (repeat (first | (with_reducible first | refine a_seq ?_ | refine a_region ?_ | refine a_block ?_ | refine a_scope ?_) | ((with_reducible apply op_any); (iterate 2 (focus (first | (simp only [go_sem, Nat.reduceEqDiff, Nat.reduceAdd, Nat.reduceSub, Nat.reduceLeDiff, Nat.reduceMul, Nat.reduceBEq, Nat.reduceLT, Int.reduceToNat, reduceCtorEq, Bool.true_and]; first | done | exact rfl | (and_intros <;> rfl)) | exact rfl | decide)))) | ((with_reducible refine o_nil ?_); dsimp only; try ((with_reducible apply o_draw); (focus (simp only [go_sem]; exact rfl)); (focus decide))) | ((with_reducible first | refine a_ret ?_ | refine a_skip ?_ | refine a_label ?_); dsimp only) | ((with_reducible refine a_exit ?_); dsimp only; simp only [if_true, if_false, Nat.reduceEqDiff]) | ((with_reducible apply a_if); (focus (simp only [go_sem, Nat.reduceBEq, Nat.reduceLT, Bool.true_and]; exact rfl)); dsimp only [cond_true, cond_false]) | ((with_reducible refine a_draw ?_ ?_); (focus exact rfl))))
   exact wRet (ret_data []) Tryz.results21
theorem sameC_self {t : V} (h : t.right) : sameC t.enc t.enc = true := by
 unfold sameC cmpC
 rw [right_dec h]
 show ((0 : Int) == 0 && ((0 : Int) == 0 && t.cmp t == 0)) = true
 rw [cmp_null.2 rfl]
 rfl
set_option maxRecDepth 10000
theorem lwBig_ac (bs : List Nat) : AC Tryz.prog 14 [.c (.sl (bs.map byteCs))] [] (.c (.bool (decide ((bs.length : Int) > 1048576)))) [] := by
 have hln : (bs.map byteCs).length = bs.length := by simp
 refine wEnter Tryz.func14 Tryz.ntmps14 ?_
 refine wRUN hln ?_
 exact wRet (ret_data []) Tryz.results14
set_option maxRecDepth 10000
theorem sameS {t : V} (ht : t.right) : AC Tryz.prog 21 [cellsA t.enc, cellsA t.enc] [] (.c (.bool true)) [] := by
 have := implSame_ac t.enc t.enc (right_sized ht) (right_sized ht)
 rw [sameC_self ht] at this
 exact this
theorem give_right' {t : V} (h : t.right) : giveR t = okR t := by
 unfold giveR
 rw [right_dec h]
 rfl
theorem getKey_obj {t : V} (h : t.kind = 6) (key : ByteArray) : getKeyV t key = okR (t.member key) := by
 unfold getKeyV
 rw [if_neg (by omega), if_pos h]
end Go.Proofs.YtlciedpfjhkkdaaGreatDoor
