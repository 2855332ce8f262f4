/- Texts of this proof: H10 H29. -/
import Derived.Test.YtlciedpfjhkkdaaGreatDoorKH09
import Derived.Test.YtlciedpfjhkkdaaGreatDoorKG30uH08
import Derived.Test.YtlciedpfjhkkdaaGreatDoorKM29uG26
import Derived.Test.YtlciedpfjhkkdaaGreatDoorKM13uM43
import Derived.Test.YtlciedpfjhkkdaaGreatDoorKG01uG03
import Derived.Test.YtlciedpfjhkkdaaGreatDoorKG83
import Derived.Test.YtlciedpfjhkkdaaGreatDoorKG06uS02
import Derived.Test.YtlciedpfjhkkdaaGreatDoorKGX
import Derived.Test.YtlciedpfjhkkdaaGreatDoorKG21uM3
import Derived.Test.YtlciedpfjhkkdaaGreatDoorKG49uG52
import Derived.Deep.RegionLaw
import Derived.Shelf.RegionOpenPlain
import Derived.Laws.CopyRow
import Derived.Test.YtlciedpfjhkkdaaGreatDoorKG27uM30
import Derived.Test.YtlciedpfjhkkdaaGreatDoorKM11uG31
import Derived.Lib.SlicesCompact
import Derived.Test.YtlciedpfjhkkdaaGreatDoorKE6
import Derived.Test.YtlciedpfjhkkdaaGreatDoorKR30
set_option linter.unusedSimpArgs false
set_option linter.unusedVariables false
set_option linter.unnecessarySimpa false
set_option maxHeartbeats 8000000
namespace Go.Proofs.YtlciedpfjhkkdaaGreatDoor
open Go.RowKit
set_option maxRecDepth 10000
def cutCode (l : List (List CellD)) (d : Int) : Int := if (evsFault l).1 ≠ 0 then (evsFault l).1 else if 0 ≤ d ∧ d ≤ 20 then 0 else 3
def cutParts (l : List (List CellD)) (d : Int) : List (List CellD) := (cutEvs d.toNat (evsOf l)).map fun e => (evV e).enc
theorem cutCode_ok {l : List (List CellD)} {d : Int} (h : cutCode l d = 0) : (evsFault l).1 = 0 ∧ 0 ≤ d ∧ d ≤ 20 := by
 unfold cutCode at h
 split at h
 ·rename_i h1; exact absurd h h1
 ·rename_i h1
  split at h
  ·rename_i h2; exact ⟨by simpa using h1, h2⟩
  ·exact absurd h (by decide)
theorem within_cases (d : Int) : (decide (d ≥ 0) && decide (d ≤ 20)) = decide (0 ≤ d ∧ d ≤ 20) := by
 by_cases h1 : 0 ≤ d <;> by_cases h2 : d ≤ 20 <;> simp [h1, h2]
theorem evsFault_len {l : List (List CellD)} (h : (evsFault l).1 = 0) : 1 ≤ l.length ∧ l.length ≤ 200 := by
 unfold evsFault at h
 split at h
 ·exact absurd h (by decide)
 ·omega
theorem evsOf_mem {l : List (List CellD)} {e : Ev} (h : e ∈ evsOf l) : ∃ x ∈ l, evDec x = (0, some e) := by
 unfold evsOf at h
 rw [List.mem_filterMap] at h
 obtain ⟨x, hx, he⟩ := h
 refine ⟨x, hx, ?_⟩
 by_cases h0 : (evDec x).1 = 0
 ·obtain ⟨e', h1⟩ := ev_ok h0
  rw [h1] at he ⊢
  have : e' = e := Option.some.inj he
  rw [this]
 ·rw [ev_bad h0] at he
  cases he
theorem cutEvs_right {l : List (List CellD)} (d : Nat) : ∀ e ∈ cutEvs d (evsOf l), (evV e).right := by
 intro e he
 unfold cutEvs at he
 rw [List.mem_filterMap] at he
 obtain ⟨e', h1, h2⟩ := he
 obtain ⟨x, _, hx⟩ := evsOf_mem h1
 unfold cutEv at h2
 split at h2
 ·cases h2
 ·cases h2
  exact cut_right hx d
theorem ev_path_len {x : List CellD} {e : Ev} (h : evDec x = (0, some e)) : e.1.length ≤ 200 := by
 obtain ⟨t, q, _, _, hq, _, he, _⟩ := ev_parts h
 rw [he]
 have := kids_len_le hq.2.1
 omega
theorem implCut_ac (l : List (List CellD)) (hz : ∀ x ∈ l, Sized x) (d : Int) (h : cutCode l d = 0) : AC Tryz.prog 19 [listA l, .c (.int .i64 d)] [] (.agg [.c (.int .i64 0), .own (0, 0)]) [((0, 0), .row true 1 22 ((cutParts l d).map oslCs))] := by
 obtain ⟨hf, h1, h2⟩ := cutCode_ok h
 obtain ⟨n, rfl⟩ : ∃ n : Nat, d = n := ⟨d.toNat, by omega⟩
 have hc := eventsOf_ac l hz hf
 have h00 : ((0 : Int) != 0) = false := rfl
 have hw := within_ac (n : Int) 0 20
 rw [within_cases, decide_eq_true ⟨h1, h2⟩] at hw
 have hlen := evsFault_len hf
 have hel := evsOf_len l
 have hcl := cutEvs_len n (evsOf l)
 have hr := eventsResult_ac (cutEvs n (evsOf l)) (by omega) (cutEvs_right n)
 have hpl : ∀ e ∈ evsOf l, e.1.length ≤ 200 := fun e he => by obtain ⟨x, _, hx⟩ := evsOf_mem he; exact ev_path_len hx
 unfold cutParts
 rw [Int.toNat_natCast]
 generalize evsOf l = L at *
 refine wEnter Tryz.func19 Tryz.ntmps19 ?_
 refine wRUN trivial ?_
 refine w9 (op_shared [] hc) trivial ?_
 refine wRUN h00 ?_
 refine w7 (op_data [] hw) trivial ?_
 refine wRUN trivial ?_
 refine a_loop (κ := Nat) (fun k => ⟨mkS 0 53 [(1, .c (.int .i64 n)), (4, .ptr (4, 0) 0), (8, .own (99, 0)), (28, .c (.sl (L.map evCs))), (29, .c (.int .i64 L.length)), (30, .c (.int .i64 k))],
   [((4, 0), .box [.c (.int .i64 0), .nils]), ((99, 0), .row true 2 81 ((cutEvs n (L.take k)).map evO))]⟩)
  (fun k => k ≤ L.length) (fun k => L.length - k) 0 (Nat.zero_le _) ?_ ?_
 ·(apply (Says.of [((4, 0), (4, 0)), ((99, 0), (27, 0))] []); (iterate 2 ((focus (simp only [go_sem, Nat.reduceEqDiff, Nat.reduceAdd, Nat.reduceSub, Nat.reduceLeDiff, Nat.reduceMul, Nat.reduceBEq, Nat.reduceLT, Int.reduceToNat, reduceCtorEq, cutEvs]; try (and_intros <;> rfl))); (focus exact rfl))); (iterate 4 (focus (simp [go_sem, cutEvs]; done))))
 ·intro k hk
  by_cases hlt : k < L.length
  ·have hd : decide ((k : Int) < (L.length : Int)) = true := by simpa using hlt
   have hrw : rowsAt (L.map evCs) 2 k = true := by simp [rowsAt, hlt, evCs]
   have hg : (L.map evCs)[k]? = some [.sl (L[k].1.map V.cs), leafC L[k].2] := by simp [hlt, evCs]
   have hwk := wrap_succ (k := k) (by omega)
   have hs := sizeVals_ac L[k].1
   have hnx := cutEvs_take (d := n) hlt
   have hpk := hpl L[k] (List.getElem_mem hlt)
   have hol : (cutEvs n (L.take k)).length + 1 ≤ 1000000 := by have := cutEvs_len n (L.take k); rw [List.length_take] at this; omega
   by_cases hle : L[k].1.length ≤ n
   ·have hb : decide ((L[k].1.length : Int) > (n : Int)) = false := by simp; omega
    have hcut : cutEv n L[k] = none := by unfold cutEv; rw [if_pos hle]
    rw [hcut] at hnx
    have hrow : cutEvs n (L.take k) = cutEvs n (L.take (k + 1)) := by rw [hnx]; simp
    generalize L[k] = e at *
    refine wRUN (j3 hd hrw hg) ?_
    refine w7 (op_data [] hs) trivial ?_
    refine wRUN (j2 hb hwk) ?_
    refine ⟨k + 1, by omega, by omega, ?_⟩
    exact wSays (Says.of [((4, 0), (4, 0)), ((99, 0), (99, 0))] []) hrow
   ·have hb : decide ((L[k].1.length : Int) > (n : Int)) = true := by simp; omega
    have hcut : cutEv n L[k] = some (L[k].1.drop n, L[k].2) := by unfold cutEv; rw [if_neg hle]
    rw [hcut] at hnx
    have hrow : (cutEvs n (L.take k)).map evO ++ [[.osl ((L[k].1.drop n).map V.cs), leafC L[k].2]] = (cutEvs n (L.take (k + 1))).map evO := by rw [hnx, List.map_append]; rfl
    have hcl2 := clone_ac (L[k].1.drop n) (by intro e; have := congrArg List.length e; simp at this; omega) (by simp; omega)
    have hall : ((L[k].1.map V.cs).all fun r => r.length == 5) = true := by simp [V.cs_eq]
    have hnl : n ≤ L[k].1.length := by omega
    have htk : (L[k].1.map V.cs).take L[k].1.length = L[k].1.map V.cs := List.take_of_length_le (by simp)
    have hdr : (L[k].1.map V.cs).drop n = (L[k].1.drop n).map V.cs := List.map_drop.symm
    generalize L[k] = e at *
    refine wRUN (j3 hd hrw hg) ?_
    refine w7 (op_data [] hs) trivial ?_
    (repeat (first | (with_reducible first | refine a_seq ?_ | refine a_region ?_ | refine a_block ?_ | refine a_scope ?_) | ((with_reducible apply op_any); (iterate 2 (focus (first | (simp only [go_sem, Nat.reduceEqDiff, Nat.reduceAdd, Nat.reduceSub, Nat.reduceLeDiff, Nat.reduceMul, Nat.reduceBEq, Nat.reduceLT, Int.reduceToNat, reduceCtorEq, hb, hall, hnl, htk, hdr, List.length_map]; first | done | exact rfl | (and_intros <;> rfl)) | exact rfl | decide)))) | ((with_reducible refine o_nil ?_); dsimp only; try ((with_reducible apply o_draw); (focus (simp only [go_sem]; exact rfl)); (focus decide))) | ((with_reducible first | refine a_ret ?_ | refine a_skip ?_ | refine a_label ?_); dsimp only) | ((with_reducible refine a_exit ?_); dsimp only; simp only [if_true, if_false, Nat.reduceEqDiff]) | ((with_reducible apply a_if); (focus (simp only [go_sem, Nat.reduceBEq, Nat.reduceLT, hb, hall, hnl, htk, hdr, List.length_map]; exact rfl)); dsimp only [cond_true, cond_false]) | ((with_reducible refine a_draw ?_ ?_); (focus exact rfl))))
    refine w12 (op_rowF [] hcl2) trivial ?_
    refine wRUN (j2 hol hwk) ?_
    refine ⟨k + 1, by omega, by omega, ?_⟩
    exact wSays (Says.of [((4, 0), (4, 0)), ((99, 0), (49, 0))] []) hrow
  ·have hd : decide ((k : Int) < (L.length : Int)) = false := by simpa using hlt
   have hke : L.take k = L := List.take_of_length_le (by omega)
   rw [hke]
   refine wRUN hd ?_
   refine w12 (op_rowF [(99, 0)] hr) trivial ?_
   refine wRUN trivial ?_
   exact wRetOf (ret_of [((0, 0), (52, 0))] []) Tryz.results19 hke
theorem cutParts_len (n : Int) (l : List (List CellD)) : (cutParts l n).length ≤ l.length := by
 unfold cutParts
 rw [List.length_map]
 exact Nat.le_trans (cutEvs_len _ _) (evsOf_len _)
end Go.Proofs.YtlciedpfjhkkdaaGreatDoor
namespace Go.Proofs.YtlciedpfjhkkdaaGreatDoor
open Go.RowKit
set_option maxRecDepth 10000
variable {o : Obj}
theorem drawStream_ac (bs : List Nat) (hb : BytesOk bs) : ∃ xs, Sized xs ∧ xs.length ≤ 250 ∧ AC Tryz.prog 15 [.c (.sl (bs.map byteCs))] [] (cellsA xs) [] := by
 have s0 := l1Source_ac bs
 obtain ⟨xs, a1, ⟨g1, g2, g3, g4⟩, c1⟩ := l1Bent_ac bs hb 0 (by omega)
 refine ⟨xs, g2, g1, ?_⟩
 refine wEnter Tryz.func15 Tryz.ntmps15 ?_
 refine wRUN trivial ?_
 refine w12 (op_rowF [] s0) trivial ?_
 refine wRUN trivial ?_
 refine wCall (op_any_call [((0, 0), (4, 0))] [((0, 0), (4, 0)), ((0, 1), (5, 0))] c1) trivial ?_
 refine wRUN trivial ?_
 exact wRetOf (ret_of [] [(5, 0)]) Tryz.results15 g1
theorem evDec_ev {e : Ev} (h : okEv 20 e) (hn : e.2 = none → e.1 ≠ []) : evDec (evV e).enc = (0, some e) := by
 obtain ⟨p, x⟩ := e
 obtain ⟨hr, _⟩ := ev_right h
 obtain ⟨h1, h2, h3⟩ := h
 have hp := path_told (p := p) (fun q hq => sKey_ok (h2 q hq)) (Nat.le_trans h1 (by decide))
 unfold evDec
 rw [right_dec hr]
 cases x with
 | none =>
  have hne : p ≠ [] := hn rfl
  show (if (5 : Int) = 5 then (match pathDec (arrV p).enc with
   | (c, none) => (c, none)
   | (_, some p) => if p = [] then (1, none) else (0, some (p, none))) else (6, none)) = _
  rw [if_pos rfl, hp]
  show (if p = [] then ((1 : Int), none) else (0, some (p, none))) = _
  rw [if_neg hne]
 | some t =>
  obtain ⟨_, g2⟩ := h3 t rfl
  show (if (5 : Int) = 5 then (match pathDec (arrV p).enc with
   | (c, none) => (c, none)
   | (_, some p) => if t.kids = [] then (0, some (p, some t)) else (1, none)) else (6, none)) = _
  rw [if_pos rfl, hp]
  show (if t.kids = [] then ((0 : Int), some (p, some t)) else (1, none)) = _
  rw [if_pos g2]
mutual
theorem stream_ends : ∀ (t : V), ∀ e ∈ t.stream, e.2 = none → e.1 ≠ []
 | .mk kind num text keys kids, e, he, hn => by
  unfold V.stream at he
  split at he
  ·simp only [List.mem_singleton] at he
   subst he
   cases hn
  ·simp only [List.mem_append, List.mem_singleton] at he
   rcases he with he | rfl
   ·exact streamL_ends _ 0 kids e he
   ·simp
theorem streamL_ends : ∀ (key : Nat → V) (i : Nat) (ks : List V), ∀ e ∈ streamL key i ks, e.1 ≠ []
 | _, _, [], e, he => by simp [streamL] at he
 | key, i, k :: ks, e, he => by
  simp only [streamL, List.mem_append, List.mem_map] at he
  rcases he with ⟨e', _, rfl⟩ | he
  ·simp [evUnder]
  ·exact streamL_ends key (i + 1) ks e he
end
theorem stream_evs {t : V} (ht : t.right) : (evsFault (t.stream.map fun e => (evV e).enc)).1 = 0 ∧ evsOf (t.stream.map fun e => (evV e).enc) = t.stream := by
 have hl := stream_len t
 have hc := ht.2.1
 have hp := count_pos t
 have hd : ∀ e ∈ t.stream, evDec (evV e).enc = (0, some e) := fun e he => by
  obtain ⟨h1, h2, h3⟩ := stream_ok t ht e he
  exact evDec_ev ⟨by have := ht.2.2; omega, h2, h3⟩ (stream_ends t e he)
 have key : ∀ (l : List Ev) (i : Nat), (∀ e ∈ l, evDec (evV e).enc = (0, some e)) → evsGo i (l.map fun e => (evV e).enc) = (0, 0) ∧ evsOf (l.map fun e => (evV e).enc) = l := by
  intro l
  induction l with
  | nil => intro i _; exact ⟨rfl, rfl⟩
  | cons e l ih =>
   intro i h
   have he := h e (List.mem_cons_self ..)
   obtain ⟨h1, h2⟩ := ih (i + 1) fun x hx => h x (List.mem_cons_of_mem _ hx)
   rw [List.map_cons]
   refine ⟨?_, ?_⟩
   ·unfold evsGo
    rw [if_pos (by rw [he]), h1]
   ·unfold evsOf at h2 ⊢
    rw [List.filterMap_cons, he]
    show e :: _ = _
    rw [h2]
 obtain ⟨h1, h2⟩ := key t.stream 0 hd
 refine ⟨?_, h2⟩
 unfold evsFault
 rw [if_neg (by rw [List.length_map]; omega), h1]
theorem implStreamS_ac {t : V} (ht : t.right) : AC Tryz.prog 16 [cellsA t.enc] [] (.agg [.c (.int .i64 0), .c (.sl ((t.stream.map fun e => (evV e).enc).map encCs))]) [] := by
 have h := streamOf_ac t.enc (right_sized ht) (right_dec ht) ht
 have hf := forget_osl (t.stream.map fun e => (evV e).enc)
 (apply (AC.says [] [(0, 0)] h); (focus (simp only [go_sem, Nat.reduceEqDiff, Nat.reduceAdd, Nat.reduceSub, Nat.reduceLeDiff, Nat.reduceMul, Nat.reduceBEq, Nat.reduceLT, Int.reduceToNat, reduceCtorEq, hf]; try (and_intros <;> rfl))); (focus exact rfl); (focus (simp only [go_sem, Nat.reduceEqDiff, Nat.reduceAdd, Nat.reduceSub, Nat.reduceLeDiff, Nat.reduceMul, Nat.reduceBEq, Nat.reduceLT, Int.reduceToNat, reduceCtorEq, hf]; try (and_intros <;> rfl))); (focus exact rfl); (iterate 4 (focus (simp [go_sem, hf]; done))))
theorem implCutS_ac (l : List (List CellD)) (hz : ∀ x ∈ l, Sized x) (d : Int) (h : cutCode l d = 0) : AC Tryz.prog 19 [listA l, .c (.int .i64 d)] [] (.agg [.c (.int .i64 0), .c (.sl ((cutParts l d).map encCs))]) [] := by
 have h := implCut_ac l hz d h
 have hf := forget_osl (cutParts l d)
 (apply (AC.says [] [(0, 0)] h); (focus (simp only [go_sem, Nat.reduceEqDiff, Nat.reduceAdd, Nat.reduceSub, Nat.reduceLeDiff, Nat.reduceMul, Nat.reduceBEq, Nat.reduceLT, Int.reduceToNat, reduceCtorEq, hf]; try (and_intros <;> rfl))); (focus exact rfl); (focus (simp only [go_sem, Nat.reduceEqDiff, Nat.reduceAdd, Nat.reduceSub, Nat.reduceLeDiff, Nat.reduceMul, Nat.reduceBEq, Nat.reduceLT, Int.reduceToNat, reduceCtorEq, hf]; try (and_intros <;> rfl))); (focus exact rfl); (iterate 4 (focus (simp [go_sem, hf]; done))))
theorem implFromS_ac (l : List (List CellD)) (hz : ∀ x ∈ l, Sized x) {c : Int × Int} {y : V} (h : fromR l = (c, some y)) : AC Tryz.prog 18 [listA l] (tabM o) (.agg [.c (.int .i64 0), .c (.int .i64 0), cellsA y.enc]) (tabM o) := by
 have h := implFrom_ok (o := o) l hz h
 (apply (AC.says [((8, 0), (8, 0))] [(0, 0)] h); (focus (simp only [go_sem, Nat.reduceEqDiff, Nat.reduceAdd, Nat.reduceSub, Nat.reduceLeDiff, Nat.reduceMul, Nat.reduceBEq, Nat.reduceLT, Int.reduceToNat, reduceCtorEq]; try (and_intros <;> rfl))); (focus exact rfl); (focus (simp only [go_sem, Nat.reduceEqDiff, Nat.reduceAdd, Nat.reduceSub, Nat.reduceLeDiff, Nat.reduceMul, Nat.reduceBEq, Nat.reduceLT, Int.reduceToNat, reduceCtorEq]; try (and_intros <;> rfl))); (focus exact rfl); (iterate 4 (focus (simp [go_sem]; done))))
theorem lawStreams_ac (bs : List Nat) (hbb : ∀ b ∈ bs, b < 256) : AC Tryz.prog 4 [.c (.sl (bs.map byteCs))] (tabM o) (.c (.bool true)) (tabM o) := by
 have hbig := lwBig_ac bs
 by_cases hl : bs.length ≤ 1048576
 ·have hd : decide ((bs.length : Int) > 1048576) = false := decide_eq_false (by omega)
  rw [hd] at hbig
  have hb : BytesOk bs := ⟨hl, hbb⟩
  obtain ⟨xs, zx, _, hdraw⟩ := drawStream_ac bs hb
  rcases dec_cases xs with ⟨t, hdec⟩ | ⟨c, hc, hdec⟩
  ·obtain ⟨rfl, ht⟩ := right_of_dec hdec
   obtain ⟨hev, hevs⟩ := stream_evs ht
   have hS := implStreamS_ac ht
   have hzl : ∀ x ∈ (t.stream.map fun e => (evV e).enc), Sized x := fun x hx => by
    obtain ⟨e, he, rfl⟩ := List.mem_map.1 hx
    exact right_sized (stream_right ht e he).1
   have hF := implFromS_ac (o := o) _ hzl (fromR_stream ht hev hevs)
   have hcc : cutCode (t.stream.map fun e => (evV e).enc) 0 = 0 := by unfold cutCode; rw [if_neg (by omega), if_pos (by omega)]
   have hC := implCutS_ac _ hzl 0 hcc
   have hcl := cutParts_len 0 (t.stream.map fun e => (evV e).enc)
   have hV := implStreamFault_ac _ hzl
   have hsame := sameS ht
   have hsl := stream_len t
   have hcp := count_pos t
   rw [List.length_map, hsl] at hcl
   have hln : ((t.stream.map fun e => (evV e).enc).map encCs).length = t.count := by simp [hsl]
   have hlc : ((cutParts (t.stream.map fun e => (evV e).enc) 0).map encCs).length = (cutParts (t.stream.map fun e => (evV e).enc) 0).length := by simp
   have hgt : decide (((t.count : Nat) : Int) > 0) = true := by simp; omega
   have hle : decide ((((cutParts (t.stream.map fun e => (evV e).enc) 0).length : Nat) : Int) ≤ ((t.count : Nat) : Int)) = true := by simp; omega
   have h00 : ((0 : Int) != 0) = false := rfl
   have h0e : ((0 : Int) == 0) = true := rfl
   rw [hev] at hV
   unfold listA at hF hC hV
   generalize (evsFault (t.stream.map fun e => (evV e).enc)).2 = a0 at *
   generalize ((cutParts (t.stream.map fun e => (evV e).enc) 0).map encCs) = CP at *
   generalize (cutParts (t.stream.map fun e => (evV e).enc) 0).length = nc at *
   generalize ((t.stream.map fun e => (evV e).enc).map encCs) = O at *
   refine wEnter Tryz.func4 Tryz.ntmps4 ?_
   refine wRUN trivial ?_
   refine w7 (op_data [] hbig) trivial ?_
   refine wRUN trivial ?_
   refine w9 (op_shared [] hdraw) trivial ?_
   refine wRUN trivial ?_
   refine w9 (op_shared [] hS) trivial ?_
   refine wRUN h00 ?_
   refine wCall (op_any_call [((8, 0), (8, 0))] [((8, 0), (8, 0))] hF) trivial ?_
   refine wRUN trivial ?_
   refine w9 (op_shared [] hC) trivial ?_
   refine wRUN (j2 hln hgt) ?_
   refine w7 (op_data [] hV) trivial ?_
   refine wRUN h0e ?_
   refine w7 (op_data [] hsame) trivial ?_
   refine wRUN (j4 h0e hln hlc hle) ?_
   exact wRetOf (ret_of [((8, 0), (8, 0))] []) Tryz.results4 h0e
  ·have hB := streamOf_bad xs zx (by rw [hdec]) (by rw [hdec]; exact hc)
   have hS := specStreamOf_bad xs (by rw [hdec]; exact hc)
   rw [hdec] at hB hS
   have h0 : (c != 0) = true := by simpa using hc
   have h1 : (c == c) = true := by simp
   refine wEnter Tryz.func4 Tryz.ntmps4 ?_
   refine wRUN trivial ?_
   refine w7 (op_data [] hbig) trivial ?_
   refine wRUN trivial ?_
   refine w9 (op_shared [] hdraw) trivial ?_
   refine wRUN trivial ?_
   refine w9 (op_shared [] hB) trivial ?_
   refine wRUN h0 ?_
   refine w9 (op_shared [] hS) trivial ?_
   refine wRUN (j2 h0 h1) ?_
   exact wRetOf (ret_of [((8, 0), (8, 0))] []) Tryz.results4 h1
 ·have hd : decide ((bs.length : Int) > 1048576) = true := decide_eq_true (by omega)
  rw [hd] at hbig
  refine wEnter Tryz.func4 Tryz.ntmps4 ?_
  refine wRUN trivial ?_
  refine w7 (op_data [] hbig) trivial ?_
  refine wRUN trivial ?_
  exact wRetOf (ret_of [((8, 0), (8, 0))] []) Tryz.results4 hd
end Go.Proofs.YtlciedpfjhkkdaaGreatDoor
