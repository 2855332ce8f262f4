/- Texts of this proof: G32 M48 R20 R29 E38. -/
import Derived.Test.YtlciedpfjhkkdaaGreatDoorKM11uG31
import Derived.Test.YtlciedpfjhkkdaaGreatDoorKG06uS02
import Derived.Test.YtlciedpfjhkkdaaGreatDoorKM47uR09
import Derived.Test.YtlciedpfjhkkdaaGreatDoorKM13uM43
import Derived.Test.YtlciedpfjhkkdaaGreatDoorKR17uH12
import Derived.Laws.StructEq
import Derived.WideLaws
set_option linter.unusedSimpArgs false
set_option linter.unusedVariables false
set_option linter.unnecessarySimpa false
set_option maxHeartbeats 8000000
namespace Go.Proofs.YtlciedpfjhkkdaaGreatDoor
open Go.RowKit
set_option maxRecDepth 10000
abbrev listA (l : List (List CellD)) : AV := .c (.sl (l.map encCs))
theorem sizeParts_ac (l : List (List CellD)) : AC Tryz.prog 102 [listA l] [] (.c (.int .i64 l.length)) [] := by
 have hn : (l.map encCs).length = l.length := by simp
 refine wEnter Tryz.func102 Tryz.ntmps102 ?_
 refine wRUN trivial ?_
 exact wRet (ret_data []) Tryz.results102
def evsOf (l : List (List CellD)) : List Ev := l.filterMap fun x => (evDec x).2
theorem evsOf_take {l : List (List CellD)} {k : Nat} (h : k < l.length) {e : Ev} (he : evDec l[k] = (0, some e)) : evsOf (l.take (k + 1)) = evsOf (l.take k) ++ [e] := by
 unfold evsOf
 rw [List.take_succ_eq_append_getElem h, List.filterMap_append]
 simp [he]
theorem evsOf_len (l : List (List CellD)) : (evsOf l).length ≤ l.length := List.length_filterMap_le _ _
def orefC : Option V → C
 | none => .raw (.pointer none)
 | some t => .oref t.cs
def evX (e : Ev) : List C := [.sl (e.1.map V.cs), orefC e.2]
theorem orefC_forget (o : Option V) : (orefC o).forget = leafC o := by
 cases o with
 | none => rfl
 | some t => simp only [orefC, leafC, C.forget, fl_tree]
theorem forget_evX (l : List Ev) : forgetLL (l.map evX) = l.map evCs := by
 induction l with
 | nil => rfl
 | cons e l ih => simp only [List.map_cons, forgetLL, ih, evX, evCs, forgetL, C.forget, orefC_forget]
theorem all_evX (l : List Ev) : ((l.map evX).all fun r => r.length == 2) = true := by simp [evX]
attribute [go_sem] forget_evX all_evX
theorem evsFault_many {l : List (List CellD)} (h : l.length < 1 ∨ 200 < l.length) : evsFault l = (2, 0) := by unfold evsFault; rw [if_pos h]
theorem evsFault_go {l : List (List CellD)} (h : ¬ (l.length < 1 ∨ 200 < l.length)) : evsFault l = evsGo 0 l := by unfold evsFault; rw [if_neg h]
theorem eventsOf_bad (l : List (List CellD)) (hz : ∀ x ∈ l, Sized x) (h : (evsFault l).1 ≠ 0) : AC Tryz.prog 50 [listA l] [] (.tup [.nils, .c (.int .i64 (evsFault l).1), .c (.int .i64 (evsFault l).2)]) [] := by
 have hs := sizeParts_ac l
 have hw := within_ac (l.length : Int) 1 200
 by_cases hm : l.length < 1 ∨ 200 < l.length
 ·have hin : (decide ((l.length : Int) ≥ 1) && decide ((l.length : Int) ≤ 200)) = false := by simp; omega
  rw [hin] at hw
  rw [evsFault_many hm]
  refine wEnter Tryz.func50 Tryz.ntmps50 ?_
  refine wRUN trivial ?_
  refine w7 (op_data [] hs) trivial ?_
  refine wRUN trivial ?_
  refine w7 (op_data [] hw) trivial ?_
  refine wRUN trivial ?_
  exact wRet (ret_data []) Tryz.results50
 ·have hin : (decide ((l.length : Int) ≥ 1) && decide ((l.length : Int) ≤ 200)) = true := by simp; omega
  rw [hin] at hw
  have hg0 := evsFault_go hm
  generalize evsFault l = r at *
  refine wEnter Tryz.func50 Tryz.ntmps50 ?_
  refine wRUN trivial ?_
  refine w7 (op_data [] hs) trivial ?_
  refine wRUN trivial ?_
  refine w7 (op_data [] hw) trivial ?_
  refine wRUN trivial ?_
  refine a_loop (κ := Nat) (fun k => ⟨mkS 0 37 [(5, .own (99, 0)), (15, listA l), (16, .c (.int .i64 l.length)), (17, .c (.int .i64 k))],
    [((99, 0), .row true 2 81 ((evsOf (l.take k)).map evX))]⟩)
   (fun k => k ≤ l.length ∧ r = evsGo k (l.drop k)) (fun k => l.length - k) 0 ⟨Nat.zero_le _, hg0⟩ ?_ ?_
  ·(apply (Says.of [((99, 0), (14, 0))] []); (iterate 2 ((focus (simp only [go_sem, Nat.reduceEqDiff, Nat.reduceAdd, Nat.reduceSub, Nat.reduceLeDiff, Nat.reduceMul, Nat.reduceBEq, Nat.reduceLT, Int.reduceToNat, reduceCtorEq, evsOf]; try (and_intros <;> rfl))); (focus exact rfl))); (iterate 4 (focus (simp [go_sem, evsOf]; done))))
  ·rintro k ⟨hk, hr⟩
   by_cases hlt : k < l.length
   ·have hd : decide ((k : Int) < (l.length : Int)) = true := by simpa using hlt
    have hrw : rowsAt (l.map encCs) 1 k = true := by simp [rowsAt, hlt, encCs]
    have hg : (l.map encCs)[k]? = some [.sl (l[k].map CellD.cs)] := by simp [hlt, encCs]
    have hzk := hz _ (List.getElem_mem hlt)
    have hwk := wrap_succ (k := k) (by omega)
    have h00 : ((0 : Int) != 0) = false := rfl
    have hol : (evsOf (l.take k)).length + 1 ≤ 1000000 := by have := evsOf_len (l.take k); rw [List.length_take] at this; omega
    rw [evsGo_drop l hlt] at hr
    by_cases he0 : (evDec l[k]).1 = 0
    ·rw [if_pos he0] at hr
     obtain ⟨⟨p, o⟩, he⟩ := ev_ok he0
     have hnx := evsOf_take hlt he
     cases o with
     | none =>
      have hcon := eventOf_end l[k] hzk he
      have hlen : 1 + 1 = 2 := rfl
      have hrow : (evsOf (l.take k)).map evX ++ [[.sl (p.map V.cs), .raw (.pointer none)]] = (evsOf (l.take (k + 1))).map evX := by rw [hnx, List.map_append]; rfl
      simp only [leafC] at hcon
      generalize l[k] = x at *
      refine wRUN (j3 hd hrw hg) ?_
      refine w9 (op_shared [] hcon) trivial ?_
      refine wRUN (j3 h00 hol hwk) ?_
      refine ⟨k + 1, by omega, ⟨by omega, hr⟩, ?_⟩
      exact wSays (Says.of [((99, 0), (34, 0))] []) hrow
     | some u =>
      have hcon := eventOf_leaf l[k] hzk he
      have hrow : (evsOf (l.take k)).map evX ++ [[.sl (p.map V.cs), .oref u.cs]] = (evsOf (l.take (k + 1))).map evX := by rw [hnx, List.map_append]; rfl
      rw [V.cs_eq] at hcon hrow
      simp only [List.map_cons, List.map_nil] at hcon
      generalize l[k] = x at *
      refine wRUN (j3 hd hrw hg) ?_
      refine wCall (op_any_call [] [((0, 0), (98, 0))] hcon) trivial ?_
      (repeat (first | (with_reducible first | refine a_seq ?_ | refine a_region ?_ | refine a_block ?_ | refine a_scope ?_) | ((with_reducible apply op_any); (iterate 2 (focus (first | (simp only [go_sem, Nat.reduceEqDiff, Nat.reduceAdd, Nat.reduceSub, Nat.reduceLeDiff, Nat.reduceMul, Nat.reduceBEq, Nat.reduceLT, Int.reduceToNat, reduceCtorEq, h00, hol, hwk, plainCs]; first | done | exact rfl | (and_intros <;> rfl)) | exact rfl | decide)))) | ((with_reducible refine o_nil ?_); dsimp only; try ((with_reducible apply o_draw); (focus (simp only [go_sem]; exact rfl)); (focus decide))) | ((with_reducible first | refine a_ret ?_ | refine a_skip ?_ | refine a_label ?_); dsimp only) | ((with_reducible refine a_exit ?_); dsimp only; simp only [if_true, if_false, Nat.reduceEqDiff]) | ((with_reducible apply a_if); (focus (simp only [go_sem, Nat.reduceBEq, Nat.reduceLT, h00, hol, hwk, plainCs]; exact rfl)); dsimp only [cond_true, cond_false]) | ((with_reducible refine a_draw ?_ ?_); (focus exact rfl))))
      refine ⟨k + 1, by omega, ⟨by omega, hr⟩, ?_⟩
      exact wSays (Says.of [((99, 0), (34, 0))] []) hrow
    ·rw [if_neg he0] at hr
     have hcon := eventOf_bad l[k] hzk he0
     have hb : ((evDec l[k]).1 != 0) = true := by simpa using he0
     rw [hr]
     generalize (evDec l[k]).1 = c at *
     generalize l[k] = x at *
     refine wRUN (j3 hd hrw hg) ?_
     (apply (op_data [] hcon); (iterate 7 (focus (first | (simp only [go_sem, Nat.reduceEqDiff, Nat.reduceAdd, Nat.reduceSub, Nat.reduceLeDiff, Nat.reduceMul, Nat.reduceBEq, Nat.reduceLT, Int.reduceToNat, reduceCtorEq, noE]; first | done | exact rfl | (and_intros <;> rfl)) | exact rfl | decide))))
     (repeat (first | (with_reducible first | refine a_seq ?_ | refine a_region ?_ | refine a_block ?_ | refine a_scope ?_) | ((with_reducible apply op_any); (iterate 2 (focus (first | (simp only [go_sem, Nat.reduceEqDiff, Nat.reduceAdd, Nat.reduceSub, Nat.reduceLeDiff, Nat.reduceMul, Nat.reduceBEq, Nat.reduceLT, Int.reduceToNat, reduceCtorEq, hb, noE]; first | done | exact rfl | (and_intros <;> rfl)) | exact rfl | decide)))) | ((with_reducible refine o_nil ?_); dsimp only; try ((with_reducible apply o_draw); (focus (simp only [go_sem]; exact rfl)); (focus decide))) | ((with_reducible first | refine a_ret ?_ | refine a_skip ?_ | refine a_label ?_); dsimp only) | ((with_reducible refine a_exit ?_); dsimp only; simp only [if_true, if_false, Nat.reduceEqDiff]) | ((with_reducible apply a_if); (focus (simp only [go_sem, Nat.reduceBEq, Nat.reduceLT, hb, noE]; exact rfl)); dsimp only [cond_true, cond_false]) | ((with_reducible refine a_draw ?_ ?_); (focus exact rfl))))
     exact wRet (ret_data []) Tryz.results50
   ·exfalso
    rw [List.drop_eq_nil_of_le (by omega)] at hr
    rw [hr] at h
    exact h rfl
theorem eventsOf_ac (l : List (List CellD)) (hz : ∀ x ∈ l, Sized x) (h : (evsFault l).1 = 0) : AC Tryz.prog 50 [listA l] [] (.tup [.c (.sl ((evsOf l).map evCs)), .c (.int .i64 0), .c (.int .i64 0)]) [] := by
 have hs := sizeParts_ac l
 have hw := within_ac (l.length : Int) 1 200
 by_cases hm : l.length < 1 ∨ 200 < l.length
 ·exfalso
  rw [evsFault_many hm] at h
  exact absurd h (by decide)
 ·have hin : (decide ((l.length : Int) ≥ 1) && decide ((l.length : Int) ≤ 200)) = true := by simp; omega
  rw [hin] at hw
  have hg0 := evsFault_go hm
  generalize evsFault l = r at *
  refine wEnter Tryz.func50 Tryz.ntmps50 ?_
  refine wRUN trivial ?_
  refine w7 (op_data [] hs) trivial ?_
  refine wRUN trivial ?_
  refine w7 (op_data [] hw) trivial ?_
  refine wRUN trivial ?_
  refine a_loop (κ := Nat) (fun k => ⟨mkS 0 37 [(5, .own (99, 0)), (15, listA l), (16, .c (.int .i64 l.length)), (17, .c (.int .i64 k))],
    [((99, 0), .row true 2 81 ((evsOf (l.take k)).map evX))]⟩)
   (fun k => k ≤ l.length ∧ r = evsGo k (l.drop k)) (fun k => l.length - k) 0 ⟨Nat.zero_le _, hg0⟩ ?_ ?_
  ·(apply (Says.of [((99, 0), (14, 0))] []); (iterate 2 ((focus (simp only [go_sem, Nat.reduceEqDiff, Nat.reduceAdd, Nat.reduceSub, Nat.reduceLeDiff, Nat.reduceMul, Nat.reduceBEq, Nat.reduceLT, Int.reduceToNat, reduceCtorEq, evsOf]; try (and_intros <;> rfl))); (focus exact rfl))); (iterate 4 (focus (simp [go_sem, evsOf]; done))))
  ·rintro k ⟨hk, hr⟩
   by_cases hlt : k < l.length
   ·have hd : decide ((k : Int) < (l.length : Int)) = true := by simpa using hlt
    have hrw : rowsAt (l.map encCs) 1 k = true := by simp [rowsAt, hlt, encCs]
    have hg : (l.map encCs)[k]? = some [.sl (l[k].map CellD.cs)] := by simp [hlt, encCs]
    have hzk := hz _ (List.getElem_mem hlt)
    have hwk := wrap_succ (k := k) (by omega)
    have h00 : ((0 : Int) != 0) = false := rfl
    have hol : (evsOf (l.take k)).length + 1 ≤ 1000000 := by have := evsOf_len (l.take k); rw [List.length_take] at this; omega
    rw [evsGo_drop l hlt] at hr
    by_cases he0 : (evDec l[k]).1 = 0
    ·rw [if_pos he0] at hr
     obtain ⟨⟨p, o⟩, he⟩ := ev_ok he0
     have hnx := evsOf_take hlt he
     cases o with
     | none =>
      have hcon := eventOf_end l[k] hzk he
      have hlen : 1 + 1 = 2 := rfl
      have hrow : (evsOf (l.take k)).map evX ++ [[.sl (p.map V.cs), .raw (.pointer none)]] = (evsOf (l.take (k + 1))).map evX := by rw [hnx, List.map_append]; rfl
      simp only [leafC] at hcon
      generalize l[k] = x at *
      refine wRUN (j3 hd hrw hg) ?_
      refine w9 (op_shared [] hcon) trivial ?_
      refine wRUN (j3 h00 hol hwk) ?_
      refine ⟨k + 1, by omega, ⟨by omega, hr⟩, ?_⟩
      exact wSays (Says.of [((99, 0), (34, 0))] []) hrow
     | some u =>
      have hcon := eventOf_leaf l[k] hzk he
      have hrow : (evsOf (l.take k)).map evX ++ [[.sl (p.map V.cs), .oref u.cs]] = (evsOf (l.take (k + 1))).map evX := by rw [hnx, List.map_append]; rfl
      rw [V.cs_eq] at hcon hrow
      simp only [List.map_cons, List.map_nil] at hcon
      generalize l[k] = x at *
      refine wRUN (j3 hd hrw hg) ?_
      refine wCall (op_any_call [] [((0, 0), (98, 0))] hcon) trivial ?_
      (repeat (first | (with_reducible first | refine a_seq ?_ | refine a_region ?_ | refine a_block ?_ | refine a_scope ?_) | ((with_reducible apply op_any); (iterate 2 (focus (first | (simp only [go_sem, Nat.reduceEqDiff, Nat.reduceAdd, Nat.reduceSub, Nat.reduceLeDiff, Nat.reduceMul, Nat.reduceBEq, Nat.reduceLT, Int.reduceToNat, reduceCtorEq, h00, hol, hwk, plainCs]; first | done | exact rfl | (and_intros <;> rfl)) | exact rfl | decide)))) | ((with_reducible refine o_nil ?_); dsimp only; try ((with_reducible apply o_draw); (focus (simp only [go_sem]; exact rfl)); (focus decide))) | ((with_reducible first | refine a_ret ?_ | refine a_skip ?_ | refine a_label ?_); dsimp only) | ((with_reducible refine a_exit ?_); dsimp only; simp only [if_true, if_false, Nat.reduceEqDiff]) | ((with_reducible apply a_if); (focus (simp only [go_sem, Nat.reduceBEq, Nat.reduceLT, h00, hol, hwk, plainCs]; exact rfl)); dsimp only [cond_true, cond_false]) | ((with_reducible refine a_draw ?_ ?_); (focus exact rfl))))
      refine ⟨k + 1, by omega, ⟨by omega, hr⟩, ?_⟩
      exact wSays (Says.of [((99, 0), (34, 0))] []) hrow
    ·rw [if_neg he0] at hr
     exfalso
     rw [hr] at h
     exact he0 h
   ·have hd : decide ((k : Int) < (l.length : Int)) = false := by simpa using hlt
    have hke : l.take k = l := List.take_of_length_le (by omega)
    refine wRUN hd ?_
    exact wRetOf (ret_of [] [(99, 0)]) Tryz.results50 hke
def vlinesS (l : List V) : ByteArray := l.foldl (fun a t => a ++ t.txt ++ bS 10) ByteArray.empty
theorem vlinesS_next {l : List V} {k : Nat} (h : k < l.length) : vlinesS (l.take (k + 1)) = vlinesS (l.take k) ++ l[k].txt ++ bS 10 := by
 unfold vlinesS
 rw [List.take_succ_eq_append_getElem h, List.foldl_append]
 rfl
theorem vlinesS_size {l : List V} (h : ∀ t ∈ l, t.right) : ∀ k, k ≤ l.length → (vlinesS (l.take k)).size ≤ 50010 * k := by
 intro k
 induction k with
 | zero => intro _; simp [vlinesS]
 | succ k ih =>
  intro hk
  have h1 := ih (by omega)
  have h2 := txt_size' (h _ (List.getElem_mem (by omega : k < l.length)))
  rw [vlinesS_next (by omega), ByteArray.size_append, ByteArray.size_append, one_size]
  omega
theorem trees_enc : ∀ {l : List V}, (∀ t ∈ l, t.right) → treesOf (l.map V.enc) = l ∧ firstBad (l.map V.enc) = 0
 | [], _ => ⟨rfl, rfl⟩
 | t :: l, h => by
  obtain ⟨h1, h2⟩ := trees_enc (l := l) fun x hx => h x (List.mem_cons_of_mem _ hx)
  have hd := right_dec (h t (List.mem_cons_self ..))
  refine ⟨?_, ?_⟩
  ·unfold treesOf at h1 ⊢
   rw [List.map_cons, List.filterMap_cons, hd]
   show t :: _ = _
   rw [h1]
  ·rw [List.map_cons]
   unfold firstBad
   rw [if_pos (by rw [hd]), h2]
def fromR (l : List (List CellD)) : (Int × Int) × Option V :=
 if (evsFault l).1 ≠ 0 then (evsFault l, none) else match fromGo (evsOf l) 0 nullV with
  | (c, none) => ((c.1, (c.2 : Int)), none)
  | (_, some v) => if vlinesS (v.stream.map evV) = vlinesS (treesOf l) then ((0, 0), some v) else ((1, 0), none)
structure EvsOk (l : List (List CellD)) : Prop where
 len : 1 ≤ l.length ∧ l.length ≤ 200
 one : ∀ k (h : k < l.length), ∃ e, evDec l[k] = (0, some e) ∧ (evsOf l)[k]? = some e
 all : (evsOf l).length = l.length
theorem evsGo_each : ∀ (l : List (List CellD)) (i : Nat), (evsGo i l).1 = 0 → ∀ x ∈ l, (evDec x).1 = 0
 | [], _, _ => by simp
 | x :: r, i, h => by
  unfold evsGo at h
  split at h
  ·rename_i h0
   intro y hy
   rcases List.mem_cons.1 hy with rfl | hy
   ·exact h0
   ·exact evsGo_each r (i + 1) h y hy
  ·rename_i h0
   exact absurd h h0
theorem evsOf_each : ∀ (l : List (List CellD)), (∀ x ∈ l, (evDec x).1 = 0) → (evsOf l).length = l.length ∧ ∀ k (h : k < l.length), ∃ e, evDec l[k] = (0, some e) ∧ (evsOf l)[k]? = some e
 | [], _ => ⟨rfl, fun k h => absurd h (by simp)⟩
 | x :: r, h => by
  obtain ⟨e, he⟩ := ev_ok (h x (List.mem_cons_self ..))
  obtain ⟨h1, h2⟩ := evsOf_each r fun y hy => h y (List.mem_cons_of_mem _ hy)
  have hc : evsOf (x :: r) = e :: evsOf r := by unfold evsOf; rw [List.filterMap_cons, he]
  rw [hc]
  refine ⟨by simp [h1], fun k hk => ?_⟩
  cases k with
  | zero => exact ⟨e, he, rfl⟩
  | succ k => exact h2 k (by simpa using hk)
theorem evs_ok {l : List (List CellD)} (h : (evsFault l).1 = 0) : EvsOk l := by
 unfold evsFault at h
 split at h
 ·exact absurd h (by decide)
 ·rename_i hm
  obtain ⟨h1, h2⟩ := evsOf_each l (evsGo_each l 0 h)
  exact ⟨by omega, h2, h1⟩
theorem evs_trees {l : List (List CellD)} (h : EvsOk l) : (∀ t ∈ treesOf l, t.right) ∧ l = (treesOf l).map V.enc := by
 have key : ∀ (l : List (List CellD)), (∀ x ∈ l, ∃ t : V, x = t.enc ∧ t.right) → (∀ t ∈ treesOf l, t.right) ∧ l = (treesOf l).map V.enc := by
  intro l
  induction l with
  | nil => intro _; exact ⟨by simp [treesOf], rfl⟩
  | cons x r ih =>
   intro h
   obtain ⟨t, rfl, ht⟩ := h x (List.mem_cons_self ..)
   obtain ⟨h1, h2⟩ := ih fun y hy => h y (List.mem_cons_of_mem _ hy)
   have hc : treesOf (t.enc :: r) = t :: treesOf r := by unfold treesOf; rw [List.filterMap_cons, right_dec ht]
   rw [hc]
   refine ⟨fun y hy => ?_, ?_⟩
   ·rcases List.mem_cons.1 hy with rfl | hy
    ·exact ht
    ·exact h1 y hy
   ·rw [List.map_cons, ← h2]
 refine key l fun x hx => ?_
 obtain ⟨k, hk, rfl⟩ := List.mem_iff_getElem.1 hx
 obtain ⟨e, h1, _⟩ := h.one k hk
 obtain ⟨t, q, h2, h3, _⟩ := ev_parts h1
 exact ⟨t, h2, h3⟩
theorem evs_keyed {l : List (List CellD)} (h : EvsOk l) : ∀ e ∈ evsOf l, (∀ k ∈ e.1, k.right ∧ (k.kind = 3 ∨ k.kind = 4)) ∧ ∀ t, e.2 = some t → t.right := by
 intro e he
 obtain ⟨k, hk, hke⟩ := List.mem_iff_getElem.1 he
 obtain ⟨e', h1, h2⟩ := h.one k (by rw [← h.all]; exact hk)
 rw [List.getElem?_eq_getElem hk, hke] at h2
 cases h2
 obtain ⟨t, q, _, ht, hq, hp, h4, h5⟩ := ev_parts h1
 obtain ⟨_, _, hb⟩ := path_some hq hp
 refine ⟨fun x hx => ?_, fun u hu => ?_⟩
 ·rw [h4] at hx
  refine ⟨right_mem hq hx, ?_⟩
  have := List.any_eq_false.1 hb x hx
  unfold badKid at this
  simp at this
  omega
 ·exact right_mem ht (by rw [h5, hu]; simp)
theorem fromR_stream {t : V} (ht : t.right) (hf : (evsFault (t.stream.map fun e => (evV e).enc)).1 = 0) (he : evsOf (t.stream.map fun e => (evV e).enc) = t.stream) : fromR (t.stream.map fun e => (evV e).enc) = ((0, 0), some t) := by
 unfold fromR
 rw [if_neg (by omega), he, from_stream ht]
 have hl : treesOf (t.stream.map fun e => (evV e).enc) = t.stream.map evV := by
  have : (t.stream.map fun e => (evV e).enc) = (t.stream.map evV).map V.enc := by rw [List.map_map]; rfl
  rw [this]
  exact (trees_enc fun v hv => by
   obtain ⟨e, hm, rfl⟩ := List.mem_map.1 hv
   have ho := stream_ok t ht e hm
   exact (ev_right ⟨by have := ho.1; have := ht.2.2; omega, ho.2.1, ho.2.2⟩).1).1
 simp only [hl, if_true]
end Go.Proofs.YtlciedpfjhkkdaaGreatDoor
namespace Go.Proofs.YtlciedpfjhkkdaaGreatDoor
open Go.RowKit
set_option maxRecDepth 10000
variable {o : Obj}
end Go.Proofs.YtlciedpfjhkkdaaGreatDoor
namespace Go.Proofs.YtlciedpfjhkkdaaGreatDoor
open Go.RowKit
set_option maxRecDepth 10000
variable {o : Obj}
theorem encodeAllV_ac (l : List V) (hr : ∀ t ∈ l, t.right) (hl : l.length ≤ 200) : AC Tryz.prog 109 [valsA l] (tabM o) (.c (.str (vlinesS l))) (tabM o) := by
 have hln : (l.map V.cs).length = l.length := by simp
 have h0 : vlinesS (l.take 0) = ByteArray.empty := rfl
 refine wEnter Tryz.func109 Tryz.ntmps109 ?_
 refine wRUN1 trivial ?_
 refine a_region ?_
 refine wRUN1 trivial ?_
 refine a_region ?_
 (apply (op_zeroBld isBT); (iterate 3 (focus (first | (simp only [go_sem, Nat.reduceEqDiff, Nat.reduceAdd, Nat.reduceSub, Nat.reduceLeDiff, Nat.reduceMul, Nat.reduceBEq, Nat.reduceLT, Int.reduceToNat, reduceCtorEq]; first | done | exact rfl | (and_intros <;> rfl)) | exact rfl | decide)))); (apply (op_newBld 5 isBT); (iterate 4 (focus (first | (simp only [go_sem, Nat.reduceEqDiff, Nat.reduceAdd, Nat.reduceSub, Nat.reduceLeDiff, Nat.reduceMul, Nat.reduceBEq, Nat.reduceLT, Int.reduceToNat, reduceCtorEq]; first | done | exact rfl | (and_intros <;> rfl)) | exact rfl | decide)))); (apply (op_storeBld isBT); (iterate 6 (focus (first | (simp only [go_sem, Nat.reduceEqDiff, Nat.reduceAdd, Nat.reduceSub, Nat.reduceLeDiff, Nat.reduceMul, Nat.reduceBEq, Nat.reduceLT, Int.reduceToNat, reduceCtorEq]; first | done | exact rfl | (and_intros <;> rfl)) | exact rfl | decide))))
 refine wRUN hln ?_
 refine a_loop (κ := Nat) (fun k => ⟨mkS 0 19 [(3, .ptr (3, 0) 0), (7, valsA l), (8, .c (.int .i64 l.length)), (9, .c (.int .i64 k))],
   [((3, 0), bldA (vlinesS (l.take k))), ((8, 0), .blk (tabR o) [])]⟩)
  (fun k => k ≤ l.length) (fun k => l.length - k) 0 (Nat.zero_le _) ?_ ?_
 ·exact wSays (Says.of [((3, 0), (3, 0)), ((8, 0), (8, 0))] []) h0
 ·intro k hk
  have hz1 := vlinesS_size hr k hk
  by_cases hlt : k < l.length
  ·have hdk : decide ((k : Int) < (l.length : Int)) = true := by simpa using hlt
   have hw := wrap_succ (k := k) (by omega)
   have hrw : rowsAt (l.map V.cs) 5 k = true := by simp [rowsAt, hlt, V.cs_eq]
   have hg : (l.map V.cs)[k]? = some [.int .i64 l[k].kind, .int .i64 l[k].num, .str l[k].text, .sl (l[k].keys.map strCs), .sl (l[k].kids.map V.cs)] := by simp [hlt, V.cs_eq]
   have hrk := hr _ (List.getElem_mem hlt)
   have hen := encodeR_ac (o := o) hrk
   have hts := txt_size' hrk
   have hnx := (vlinesS_next hlt).symm
   have hwr := writeString_ac (vlinesS (l.take k)) (l[k].txt ++ bS 10) (by rw [ByteArray.size_append, one_size]; omega)
   rw [← ByteArray.append_assoc, hnx] at hwr
   have x1 : l[k].txt.size + 1 ≤ 9223372036854775807 := by omega
   generalize l[k] = q at *
   generalize hu1 : q.txt ++ bS 10 = u1 at *
   refine wRUN (j3 hdk hrw hg) ?_
   refine w10 (op_reads tab_pin tab_any (8, 0) [] hen) trivial ?_
   refine wRUN (j2 x1 hu1) ?_
   refine wCall (op_any_call [((0, 0), (3, 0))] [((0, 0), (3, 0))] hwr) trivial ?_
   refine wRUN hw ?_
   refine ⟨k + 1, by omega, by omega, ?_⟩
   exact wSays (Says.of [((3, 0), (3, 0)), ((8, 0), (8, 0))] []) trivial
  ·have hdk : decide ((k : Int) < (l.length : Int)) = false := by simpa using hlt
   obtain rfl : k = l.length := by omega
   have hall : l.take l.length = l := List.take_length
   have hst := bldString_ac (vlinesS l)
   refine wRUN (j2 hdk hall) ?_
   refine wCall (op_any_call [((0, 0), (3, 0))] [] hst) trivial ?_
   refine wRUN trivial ?_
   exact wRetOf (ret_of [((8, 0), (8, 0))] []) Tryz.results109 hdk
theorem implEncodeAll_ac (l : List V) (hr : ∀ t ∈ l, t.right) (hl : l.length ≤ 200) : AC Tryz.prog 53 [.c (.sl ((l.map V.enc).map encCs))] (tabM o) (.agg [.c (.int .i64 0), .c (.str (vlinesS l))]) (tabM o) := by
 obtain ⟨h1, h2⟩ := trees_enc hr
 have hv := valsOf_ac (l.map V.enc) (fun x hx => by
  obtain ⟨t, ht, rfl⟩ := List.mem_map.1 hx
  exact right_sized (hr t ht)) (by simp; omega) h2
 rw [h1] at hv
 have he := encodeAllV_ac (o := o) l hr hl
 have hln : ((l.map V.enc).map encCs).length = l.length := by simp
 have hgt : decide ((l.length : Int) > 200) = false := by simp; omega
 have h00 : ((0 : Int) != 0) = false := rfl
 refine wEnter Tryz.func53 Tryz.ntmps53 ?_
 refine wRUN (j2 hln hgt) ?_
 refine w9 (op_shared [] hv) trivial ?_
 refine wRUN h00 ?_
 refine w10 (op_reads tab_pin tab_any (8, 0) [] he) trivial ?_
 refine wRUN trivial ?_
 exact wRetOf (ret_of [((8, 0), (8, 0))] []) Tryz.results53 h00
theorem l15Text_ac (l : List V) (hr : ∀ t ∈ l, t.right) (hl : l.length ≤ 200) : AC Tryz.prog 69 [.c (.sl ((l.map V.enc).map encCs))] [] (.c (.str (vlinesS l))) [] := by
 have hln : ((l.map V.enc).map encCs).length = l.length := by simp
 have h0 : vlinesS (l.take 0) = ByteArray.empty := rfl
 refine wEnter Tryz.func69 Tryz.ntmps69 ?_
 refine wRUN trivial ?_
 refine a_loop (κ := Nat) (fun k => ⟨mkS 0 20 [(0, .c (.sl ((l.map V.enc).map encCs))), (3, .c (.str (vlinesS (l.take k)))), (4, .c (.int .i64 k))], []⟩)
  (fun k => k ≤ l.length) (fun k => l.length - k) 0 (Nat.zero_le _) ?_ ?_
 ·exact wSays (Says.of [] []) h0
 ·intro k hk
  have hz1 := vlinesS_size hr k hk
  by_cases hlt : k < l.length
  ·have hdk : decide ((k : Int) < (l.length : Int)) = true := by simpa using hlt
   have hw := wrap_succ (k := k) (by omega)
   have hrw : rowsAt ((l.map V.enc).map encCs) 1 k = true := by simp [rowsAt, hlt, encCs]
   have hg : ((l.map V.enc).map encCs)[k]? = some [.sl (l[k].enc.map CellD.cs)] := by simp [hlt, encCs]
   have hrk := hr _ (List.getElem_mem hlt)
   have hen := encode_ac l[k].count l[k] (Nat.le_refl _) hrk
   have hts := txt_size' hrk
   have hnx := (vlinesS_next hlt).symm
   have x1 : (vlinesS (l.take k)).size + l[k].txt.size ≤ 9223372036854775807 := by omega
   have x2 : (vlinesS (l.take k) ++ l[k].txt).size + 1 ≤ 9223372036854775807 := by rw [ByteArray.size_append]; omega
   generalize l[k] = q at *
   generalize hu1 : vlinesS (l.take k) ++ q.txt = u1 at *
   refine wRUN (j4 hln hdk hrw hg) ?_
   refine w7 (op_data [] hen) trivial ?_
   refine wRUN (j5 x1 hu1 x2 hnx hw) ?_
   refine ⟨k + 1, by omega, by omega, ?_⟩
   exact wSays (Says.of [] []) hnx
  ·have hdk : decide ((k : Int) < (l.length : Int)) = false := by simpa using hlt
   obtain rfl : k = l.length := by omega
   have hall : l.take l.length = l := List.take_length
   refine wRUN (j3 hln hdk hall) ?_
   exact wRet (ret_data []) Tryz.results69
end Go.Proofs.YtlciedpfjhkkdaaGreatDoor
namespace Go.Proofs.YtlciedpfjhkkdaaGreatDoor
open Go.RowKit
def errR : Value → List (Nat × Obj) → Prop := fun v l => l = [] ∧ v.oneCell' = true ∧ ∃ t x, v = .iface t x
section
variable {P : Program} {o : Oper} {σ : ASt}
theorem run_neqS {t t' : TypeId} {y z : Operand} {k : IntKind} {a b : Int} {s u : ByteArray} {r : Bool} (ho : o.op = .binOp .neq t y z t') (hy : σ.ev y = .agg [.c (.int k a), .c (.str s)]) (hz : σ.ev z = .agg [.c (.int k b), .c (.str u)])
  (hm : P.eqGuardType P.depth t = false) (hq : ∀ w, (Op.equalIn 10000 t (.agg #[.int k a, .string s]) (.agg #[.int k b, .string u])).run P w = .ok r w) : OpRun P o σ ⟨[], [], .c (.bool (!r))⟩ := by
 refine OpRun.pure fun Γ σ' a' w ow κ hag hr => ?_
 obtain ⟨vs, e1, h1, _⟩ := hag.ev hr (by rw [ho]; simp [Op.operands]) hy
 obtain ⟨us, e2, h2, _⟩ := hag.ev hr (by rw [ho]; simp [Op.operands]) hz
 simp only [ARs, AR, CR] at h1 h2
 obtain ⟨_, _, rfl, ⟨rfl, _⟩, _, _, rfl, ⟨rfl, _⟩, rfl⟩ := h1
 obtain ⟨_, _, rfl, ⟨rfl, _⟩, _, _, rfl, ⟨rfl, _⟩, rfl⟩ := h2
 refine ⟨.bool (!r), ?_, rfl, rfl⟩
 unfold execOp
 rw [ho]
 simp [e1, e2, run_eqGuard_agg _ _ _ _ _ _ _ hm, run_neq_struct, hq]
theorem run_errEq {op : BinOp} {t t' : TypeId} {y z : Operand} {i : Id} {x : AV} (ho : o.op = .binOp op t y z t') (hy : σ.ev y = .own i) (hz : σ.ev z = .c (.raw .nilIface)) (hi : σ.mem.get i = some (.gen errR))
  (ht : P.underlying t = some (.interface (P.methodsAt t))) (he : effEq op false = some x) : OpRun P o σ ⟨[i], [], x⟩ := by
 refine OpRun.pure fun Γ σ' a w ow κ hag hr => ?_
 have hi' : σ'.mem.get i = some (.gen errR) := by rw [hag.2.1 i (by simp), hi]
 obtain ⟨_, o1, k1, k2⟩ := hag.ev hr (by rw [ho]; simp [Op.operands]) hy
 rw [hi'] at k1
 cases k1
 have e1 := k2 (by simp)
 have e2 := (hag.ev hr (by rw [ho]; simp [Op.operands]) hz).1
 obtain ⟨l, _, _, _, q, x', hx⟩ := hr.objs i _ hi'
 rw [hx] at e1
 refine run_eqv (b := false) ho he e1 e2 (fun op => ?_) (run_eql_held_nil w t q x' ht) (run_neq_held_nil w t q x' ht)
 unfold eqGuard
 cases op <;> simp
theorem run_nilEq {op : BinOp} {t t' : TypeId} {y : Operand} {q : Value} {x : AV} (ho : o.op = .binOp op t y (.const q) t') (hy : σ.ev y = .c (.raw .nilIface)) (hz : σ.ev (.const q) = .c (.raw .nilIface))
  (ht : P.underlying t = some (.interface (P.methodsAt t))) (he : effEq op true = some x) : OpRun P o σ ⟨[], [], x⟩ := by
 refine OpRun.pure fun Γ σ' a w ow κ hag hr => ?_
 have e1 := (hag.ev hr (by rw [ho]; simp [Op.operands]) hy).1
 have e2 := (hag.ev hr (by rw [ho]; simp [Op.operands]) hz).1
 refine run_eqv (b := true) ho he e1 e2 (fun op => ?_) (run_eql_nil_nil w t ht) (run_neq_nil_nil w t ht)
 unfold eqGuard
 cases op <;> simp
end
section
variable {P : Program} {σ τ : ASt} {ops : Array Oper} {r : List Oper} {fs : List AEff} {K : ASt → List AEff → Prop} {E : AEff} {d : Option Tmp} {ty' : TypeId} {pos : String} {af : Array Edge} {gd : Option (Nat × Bool)}
theorem op_neqS {t t' : TypeId} {y z : Operand} {k : IntKind} {a b : Int} {s u : ByteArray} {q : Bool} (hm : P.eqGuardType P.depth t = false) (hq : ∀ w, (Op.equalIn 10000 t (.agg #[.int k a, .string s]) (.agg #[.int k b, .string u])).run P w = .ok q w)
  (hg : gate ops σ ⟨d, .binOp .neq t y z t', ty', pos, af, gd⟩ = some true) (hy : σ.ev y = .agg [.c (.int k a), .c (.str s)]) (hz : σ.ev z = .agg [.c (.int k b), .c (.str u)])
  (hE : (⟨[], [], .c (.bool (!q))⟩ : AEff) = E) (hτ : σ.upd d E = τ) (h : awpOps P ops r τ (fs ++ [E]) K) : awpOps P ops (⟨d, .binOp .neq t y z t', ty', pos, af, gd⟩ :: r) σ fs K := by
 subst hE
 exact op_known hg (run_neqS rfl hy hz hm hq).sound hτ h
theorem op_errEq {op : BinOp} {t t' : TypeId} {y z : Operand} {i : Id} {x : AV} (ht : P.underlying t = some (.interface (P.methodsAt t))) (hg : gate ops σ ⟨d, .binOp op t y z t', ty', pos, af, gd⟩ = some true) (hy : σ.ev y = .own i) (hz : σ.ev z = .c (.raw .nilIface)) (hi : σ.mem.get i = some (.gen errR)) (he : effEq op false = some x)
  (hE : (⟨[i], [], x⟩ : AEff) = E) (hτ : σ.upd d E = τ) (h : awpOps P ops r τ (fs ++ [E]) K) : awpOps P ops (⟨d, .binOp op t y z t', ty', pos, af, gd⟩ :: r) σ fs K := by
 subst hE
 exact op_known hg (run_errEq rfl hy hz hi ht he).sound hτ h
theorem op_nilEq {op : BinOp} {t t' : TypeId} {y : Operand} {q : Value} {x : AV} (ht : P.underlying t = some (.interface (P.methodsAt t))) (hg : gate ops σ ⟨d, .binOp op t y (.const q) t', ty', pos, af, gd⟩ = some true) (hy : σ.ev y = .c (.raw .nilIface)) (hz : σ.ev (.const q) = .c (.raw .nilIface)) (he : effEq op true = some x)
  (hE : (⟨[], [], x⟩ : AEff) = E) (hτ : σ.upd d E = τ) (h : awpOps P ops r τ (fs ++ [E]) K) : awpOps P ops (⟨d, .binOp op t y (.const q) t', ty', pos, af, gd⟩ :: r) σ fs K := by
 subst hE
 exact op_known hg (run_nilEq rfl hy hz ht he).sound hτ h
end
end Go.Proofs.YtlciedpfjhkkdaaGreatDoor
