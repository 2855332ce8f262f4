/- Texts of this proof: M11 G31. -/
import Derived.Test.YtlciedpfjhkkdaaGreatDoorKM2
import Derived.Test.YtlciedpfjhkkdaaGreatDoorKA1
import Derived.Test.YtlciedpfjhkkdaaGreatDoorKG27uM30
import Derived.Test.YtlciedpfjhkkdaaGreatDoorKG49uG52
set_option linter.unusedSimpArgs false
set_option linter.unusedVariables false
set_option linter.unnecessarySimpa false
set_option maxHeartbeats 8000000
namespace Go.Proofs.YtlciedpfjhkkdaaGreatDoor
open Go.RowKit
def evDec (xs : List CellD) : Int × Option Ev :=
 match dec xs with
 | (c, none) => (c, none)
 | (_, some t) => if t.kind = 5 then match t.kids with
  | [q] => match pathDec q.enc with
   | (c, none) => (c, none)
   | (_, some p) => if p = [] then (1, none) else (0, some (p, none))
  | [q, u] => match pathDec q.enc with
   | (c, none) => (c, none)
   | (_, some p) => if u.kids = [] then (0, some (p, some u)) else (1, none)
  | _ => (6, none)
 else (6, none)
theorem path_some {q : V} (h : q.right) {p : List V} (hp : pathDec q.enc = (0, some p)) : q.kids = p ∧ q.kind = 5 ∧ p.any badKid = false := by
 rw [pathDec_enc h.1 h.2.1 h.2.2] at hp
 split at hp
 ·cases hp
 ·rename_i hb
  cases hp
  simp at hb
  exact ⟨rfl, hb.1, by simpa using hb.2⟩
theorem path_way {q : V} (h : q.right) : (pathDec q.enc = (0, some q.kids) ∧ q.kind = 5 ∧ q.kids.any badKid = false) ∨ ∃ c, c ≠ 0 ∧ pathDec q.enc = (c, none) := by
 rw [pathDec_enc h.1 h.2.1 h.2.2]
 cases hb : (q.kind != 5 || q.kids.any badKid)
 ·simp at hb
  exact .inl ⟨rfl, hb.1, by simpa using hb.2⟩
 ·exact .inr ⟨6, by omega, rfl⟩
theorem ev_way (xs : List CellD) :
    ((dec xs).2 = none ∧ (dec xs).1 ≠ 0 ∧ evDec xs = ((dec xs).1, none)) ∨ ∃ t : V, dec xs = (0, some t) ∧ xs = t.enc ∧ t.right ∧
    ((t.kind ≠ 5 ∧ evDec xs = (6, none)) ∨ (t.kind = 5 ∧ (t.kids.length < 1 ∨ 2 < t.kids.length) ∧ evDec xs = (6, none)) ∨
     ∃ q r, t.kind = 5 ∧ t.kids = q :: r ∧ r.length ≤ 1 ∧ q.right ∧ ((∃ c, c ≠ 0 ∧ pathDec q.enc = (c, none) ∧ evDec xs = (c, none)) ∨
       (pathDec q.enc = (0, some q.kids) ∧ q.kind = 5 ∧ q.kids.any badKid = false ∧
        ((r = [] ∧ q.kids = [] ∧ evDec xs = (1, none)) ∨ (r = [] ∧ q.kids ≠ [] ∧ evDec xs = (0, some (q.kids, none))) ∨
         (∃ u : V, r = [u] ∧ u.right ∧ u.kids ≠ [] ∧ evDec xs = (1, none)) ∨ (∃ u : V, r = [u] ∧ u.right ∧ u.kids = [] ∧ evDec xs = (0, some (q.kids, some u))))))) := by
  rcases dec_cases xs with ⟨t, ht⟩ | ⟨c, hc, hd⟩
  · refine .inr ⟨t, ht, ?_⟩
    obtain ⟨hx, h1, h2, h3⟩ := dec_ok ht
    have hr : t.right := ⟨h1, h2, h3⟩
    refine ⟨hx, hr, ?_⟩
    by_cases h5 : t.kind = 5
    · match hk : t.kids with
      | [] => exact .inr (.inl ⟨h5, by simp, by unfold evDec; rw [ht]; simp only []; rw [if_pos h5, hk]⟩)
      | q :: v :: u :: r => exact .inr (.inl ⟨h5, by simp, by unfold evDec; rw [ht]; simp only []; rw [if_pos h5, hk]⟩)
      | [q] =>
        have hq := right_mem hr (k := q) (by rw [hk]; simp)
        have he : evDec xs = match pathDec q.enc with
          | (c, none) => (c, none)
          | (_, some p) => if p = [] then (1, none) else (0, some (p, none)) := by unfold evDec; rw [ht]; simp only []; rw [if_pos h5, hk]
        refine .inr (.inr ⟨q, [], h5, rfl, by simp, hq, ?_⟩)
        rcases path_way hq with ⟨hp, hp2, hp3⟩ | ⟨c, hc, hp⟩
        · refine .inr ⟨hp, hp2, hp3, ?_⟩
          rw [hp] at he
          by_cases hn : q.kids = []
          · exact .inl ⟨rfl, hn, by rw [he]; simp only []; rw [if_pos hn]⟩
          · exact .inr (.inl ⟨rfl, hn, by rw [he]; simp only []; rw [if_neg hn]⟩)
        · exact .inl ⟨c, hc, hp, by rw [he, hp]⟩
      | [q, u] =>
        have hq := right_mem hr (k := q) (by rw [hk]; simp)
        have hu := right_mem hr (k := u) (by rw [hk]; simp)
        have he : evDec xs = match pathDec q.enc with
          | (c, none) => (c, none)
          | (_, some p) => if u.kids = [] then (0, some (p, some u)) else (1, none) := by unfold evDec; rw [ht]; simp only []; rw [if_pos h5, hk]
        refine .inr (.inr ⟨q, [u], h5, rfl, by simp, hq, ?_⟩)
        rcases path_way hq with ⟨hp, hp2, hp3⟩ | ⟨c, hc, hp⟩
        · refine .inr ⟨hp, hp2, hp3, ?_⟩
          rw [hp] at he
          by_cases hn : u.kids = []
          · exact .inr (.inr (.inr ⟨u, rfl, hu, hn, by rw [he]; simp only []; rw [if_pos hn]⟩))
          · exact .inr (.inr (.inl ⟨u, rfl, hu, hn, by rw [he]; simp only []; rw [if_neg hn]⟩))
        · exact .inl ⟨c, hc, hp, by rw [he, hp]⟩
    · exact .inl ⟨h5, by unfold evDec; rw [ht]; simp only []; rw [if_neg h5]⟩
  · refine .inl ⟨by rw [hd], by rw [hd]; exact hc, by unfold evDec; rw [hd]⟩
def evsGo (i : Nat) : List (List CellD) → Int × Int
 | [] => (0, 0)
 | x :: r => if (evDec x).1 = 0 then evsGo (i + 1) r else ((evDec x).1, i)
def evsFault (l : List (List CellD)) : Int × Int := if l.length < 1 ∨ 200 < l.length then (2, 0) else evsGo 0 l
theorem evsGo_drop (l : List (List CellD)) {k : Nat} (h : k < l.length) : evsGo k (l.drop k) = if (evDec l[k]).1 = 0 then evsGo (k + 1) (l.drop (k + 1)) else ((evDec l[k]).1, (k : Int)) := by
 rw [List.drop_eq_getElem_cons h]
 rfl
theorem ev_ok {xs : List CellD} (h : (evDec xs).1 = 0) : ∃ e, evDec xs = (0, some e) := by
 rcases ev_way xs with ⟨_, h0, he⟩ | ⟨t, _, _, _, ⟨_, he⟩ | ⟨_, _, he⟩ | ⟨q, r, _, _, _, _, ⟨c, h0, _, he⟩ | ⟨_, _, _, ⟨_, _, he⟩ | ⟨_, _, he⟩ | ⟨u, _, _, _, he⟩ | ⟨u, _, _, _, he⟩⟩⟩⟩
 all_goals first | exact ⟨_, he⟩ | (rw [he] at h; first | exact absurd h h0 | exact absurd h (by decide))
theorem ev_bad {xs : List CellD} (h : (evDec xs).1 ≠ 0) : evDec xs = ((evDec xs).1, none) := by
 rcases ev_way xs with ⟨_, h0, he⟩ | ⟨t, _, _, _, ⟨_, he⟩ | ⟨_, _, he⟩ | ⟨q, r, _, _, _, _, ⟨c, h0, _, he⟩ | ⟨_, _, _, ⟨_, _, he⟩ | ⟨_, _, he⟩ | ⟨u, _, _, _, he⟩ | ⟨u, _, _, _, he⟩⟩⟩⟩
 all_goals first | (rw [he]; done) | (rw [he] at h; exact absurd rfl h)
set_option maxRecDepth 10000
def noE : AV := .agg [.nils, .c (.raw (.pointer none))]
theorem count_right {q : V} (h : q.right) : AC Tryz.prog 40 [q.av] [] (.own (0, 0)) [((0, 0), .row false 5 94 (q.enc.map CellD.cs))] :=
 cells_ac q.count q (Nat.le_refl _) (by have := h.2.1; omega) (right_neat h)
theorem eventOf_bad (xs : List CellD) (hz : Sized xs) (h : (evDec xs).1 ≠ 0) : AC Tryz.prog 103 [cellsA xs] [] (.tup [noE, .c (.int .i64 (evDec xs).1)]) [] := by
 have h00 : ((0 : Int) != 0) = false := rfl
 rcases ev_way xs with ⟨hn, h0, he⟩ | ⟨t, hd, hx, ht, ⟨h5, he⟩ | ⟨h5, hl, he⟩ | ⟨q, r, h5, hk, hr, hq, ⟨c, h0, hp, he⟩ | ⟨hp, _, _, ⟨rfl, hqe, he⟩ | ⟨_, _, he⟩ | ⟨u, rfl, hu, hue, he⟩ | ⟨u, _, _, _, he⟩⟩⟩⟩
 ·rw [he]
  have hb : ((dec xs).1 != 0) = true := by simpa using h0
  have hv := valOf_bad xs hz hn
  refine wEnter Tryz.func103 Tryz.ntmps103 ?_
  refine wRUN trivial ?_
  refine w9 (op_shared [] hv) noV_eq ?_
  refine wRUN (j2 hb noV_eq) ?_
  exact ret_data [] (by simp only [Tryz.results103, go_sem, Nat.reduceBEq, Nat.reduceLT]; exact rfl) (by simp only [go_sem, Nat.reduceEqDiff, Nat.reduceAdd, Nat.reduceSub, Nat.reduceLeDiff, Nat.reduceMul, Nat.reduceBEq, Nat.reduceLT, Int.reduceToNat, reduceCtorEq, noE]) rfl
 ·rw [he]
  have hv := valOf_ac xs hz (t := t) (by rw [hd])
  have hb : (t.kind != 5) = true := by simpa using h5
  refine wEnter Tryz.func103 Tryz.ntmps103 ?_
  refine wRUN trivial ?_
  refine w9 (op_shared [] hv) trivial ?_
  refine wRUN (j2 h00 hb) ?_
  exact ret_data [] (by simp only [Tryz.results103, go_sem, Nat.reduceBEq, Nat.reduceLT]; exact rfl) (by simp only [go_sem, Nat.reduceEqDiff, Nat.reduceAdd, Nat.reduceSub, Nat.reduceLeDiff, Nat.reduceMul, Nat.reduceBEq, Nat.reduceLT, Int.reduceToNat, reduceCtorEq, noE]) rfl
 ·rw [he]
  have hv := valOf_ac xs hz (t := t) (by rw [hd])
  have hb : (t.kind != 5) = false := by simpa using h5
  have hs := sizeVals_ac t.kids
  have hw := within_ac (t.kids.length : Int) 1 2
  have hin : (decide ((t.kids.length : Int) ≥ 1) && decide ((t.kids.length : Int) ≤ 2)) = false := by simp; omega
  rw [hin] at hw
  refine wEnter Tryz.func103 Tryz.ntmps103 ?_
  refine wRUN trivial ?_
  refine w9 (op_shared [] hv) trivial ?_
  refine wRUN (j2 h00 hb) ?_
  refine w7 (op_data [] hs) trivial ?_
  refine wRUN trivial ?_
  refine w7 (op_data [] hw) trivial ?_
  refine wRUN trivial ?_
  exact ret_data [] (by simp only [Tryz.results103, go_sem, Nat.reduceBEq, Nat.reduceLT]; exact rfl) (by simp only [go_sem, Nat.reduceEqDiff, Nat.reduceAdd, Nat.reduceSub, Nat.reduceLeDiff, Nat.reduceMul, Nat.reduceBEq, Nat.reduceLT, Int.reduceToNat, reduceCtorEq, noE]) rfl
 all_goals try (rw [he] at h; exact absurd rfl h)
 all_goals
  rw [he]
  have hv := valOf_ac xs hz (t := t) (by rw [hd])
  have hb : (t.kind != 5) = false := by simpa using h5
  have hs := sizeVals_ac t.kids
  have hw := within_ac (t.kids.length : Int) 1 2
  have hin : (decide ((t.kids.length : Int) ≥ 1) && decide ((t.kids.length : Int) ≤ 2)) = true := by rw [hk]; simp at hr ⊢; try omega
  rw [hin] at hw
  have hrw : rowsAt (t.kids.map V.cs) 5 0 = true := by rw [hk]; simp [rowsAt, V.cs_eq]
  have hg : (t.kids.map V.cs)[0]? = some [.int .i64 q.kind, .int .i64 q.num, .str q.text, .sl (q.keys.map strCs), .sl (q.kids.map V.cs)] := by rw [hk]; simp [V.cs_eq]
  have hc := count_right hq
  have hqs := right_sized hq
 ·have hb0 : (c != 0) = true := by simpa using h0
  have hpo := pathOf_bad q.enc hqs hp
  refine wEnter Tryz.func103 Tryz.ntmps103 ?_
  refine wRUN trivial ?_
  refine w9 (op_shared [] hv) trivial ?_
  refine wRUN (j2 h00 hb) ?_
  refine w7 (op_data [] hs) trivial ?_
  refine wRUN trivial ?_
  refine w7 (op_data [] hw) trivial ?_
  refine wRUN (j2 hrw hg) ?_
  refine w12 (op_rowF [] hc) trivial ?_
  refine w9 (op_shared [(35, 0)] hpo) trivial ?_
  refine wRUN hb0 ?_
  exact ret_data [] (by simp only [Tryz.results103, go_sem, Nat.reduceBEq, Nat.reduceLT]; exact rfl) (by simp only [go_sem, Nat.reduceEqDiff, Nat.reduceAdd, Nat.reduceSub, Nat.reduceLeDiff, Nat.reduceMul, Nat.reduceBEq, Nat.reduceLT, Int.reduceToNat, reduceCtorEq, noE]) rfl
 ·have hpo := pathOf_ac q.enc hqs hp
  have hk1 : t.kids.length = 1 := by rw [hk]; rfl
  have hk2 : ((t.kids.length : Int) == 2) = false := by rw [hk1]; rfl
  have hq0 : ((q.kids.length : Int) == 0) = true := by rw [hqe]; rfl
  refine wEnter Tryz.func103 Tryz.ntmps103 ?_
  refine wRUN trivial ?_
  refine w9 (op_shared [] hv) trivial ?_
  refine wRUN (j2 h00 hb) ?_
  refine w7 (op_data [] hs) trivial ?_
  refine wRUN trivial ?_
  refine w7 (op_data [] hw) trivial ?_
  refine wRUN (j2 hrw hg) ?_
  refine w12 (op_rowF [] hc) trivial ?_
  refine w9 (op_shared [(35, 0)] hpo) trivial ?_
  refine wRUN (j3 h00 hk2 hq0) ?_
  exact ret_data [] (by simp only [Tryz.results103, go_sem, Nat.reduceBEq, Nat.reduceLT]; exact rfl) (by simp only [go_sem, Nat.reduceEqDiff, Nat.reduceAdd, Nat.reduceSub, Nat.reduceLeDiff, Nat.reduceMul, Nat.reduceBEq, Nat.reduceLT, Int.reduceToNat, reduceCtorEq, noE]) rfl
 ·have hpo := pathOf_ac q.enc hqs hp
  have hk1 : t.kids.length = 2 := by rw [hk]; rfl
  have hk2 : ((t.kids.length : Int) == 2) = true := by rw [hk1]; rfl
  have hr1 : rowsAt (t.kids.map V.cs) 5 1 = true := by rw [hk]; simp [rowsAt, V.cs_eq]
  have hg1 : (t.kids.map V.cs)[1]? = some [.int .i64 u.kind, .int .i64 u.num, .str u.text, .sl (u.keys.map strCs), .sl (u.kids.map V.cs)] := by rw [hk]; simp [V.cs_eq]
  have hlf := isLeaf_ac u
  have hue' : u.kids.isEmpty = false := by cases hh : u.kids <;> simp_all
  rw [hue'] at hlf
  refine wEnter Tryz.func103 Tryz.ntmps103 ?_
  refine wRUN trivial ?_
  refine w9 (op_shared [] hv) trivial ?_
  refine wRUN (j2 h00 hb) ?_
  refine w7 (op_data [] hs) trivial ?_
  refine wRUN trivial ?_
  refine w7 (op_data [] hw) trivial ?_
  refine wRUN (j2 hrw hg) ?_
  refine w12 (op_rowF [] hc) trivial ?_
  refine w9 (op_shared [(35, 0)] hpo) trivial ?_
  refine wRUN (j4 h00 hk2 hr1 hg1) ?_
  refine w7 (op_data [] hlf) trivial ?_
  refine wRUN trivial ?_
  exact ret_data [] (by simp only [Tryz.results103, go_sem, Nat.reduceBEq, Nat.reduceLT]; exact rfl) (by simp only [go_sem, Nat.reduceEqDiff, Nat.reduceAdd, Nat.reduceSub, Nat.reduceLeDiff, Nat.reduceMul, Nat.reduceBEq, Nat.reduceLT, Int.reduceToNat, reduceCtorEq, noE]) rfl
theorem eventOf_end (xs : List CellD) (hz : Sized xs) {p : List V} (h : evDec xs = (0, some (p, none))) : AC Tryz.prog 103 [cellsA xs] [] (.tup [.agg [valsA p, .c (leafC none)], .c (.int .i64 0)]) [] := by
 have h00 : ((0 : Int) != 0) = false := rfl
 rcases ev_way xs with ⟨hn, h0, he⟩ | ⟨t, hd, hx, ht, ⟨h5, he⟩ | ⟨h5, hl, he⟩ | ⟨q, r, h5, hk, hr, hq, ⟨c, h0, hp, he⟩ | ⟨hp, _, _, ⟨rfl, hqe, he⟩ | ⟨rfl, hqe, he⟩ | ⟨u, rfl, hu, hue, he⟩ | ⟨u, _, _, _, he⟩⟩⟩⟩
 all_goals rw [h] at he
 all_goals try (have hee := (Prod.mk.inj he).2; cases hee; done)
 obtain rfl : p = q.kids := by cases he; rfl
 have hv := valOf_ac xs hz (t := t) (by rw [hd])
 have hb : (t.kind != 5) = false := by simpa using h5
 have hs := sizeVals_ac t.kids
 have hw := within_ac (t.kids.length : Int) 1 2
 have hk1 : t.kids.length = 1 := by rw [hk]; rfl
 have hin : (decide ((t.kids.length : Int) ≥ 1) && decide ((t.kids.length : Int) ≤ 2)) = true := by rw [hk1]; decide
 rw [hin] at hw
 have hrw : rowsAt (t.kids.map V.cs) 5 0 = true := by rw [hk]; simp [rowsAt, V.cs_eq]
 have hg : (t.kids.map V.cs)[0]? = some [.int .i64 q.kind, .int .i64 q.num, .str q.text, .sl (q.keys.map strCs), .sl (q.kids.map V.cs)] := by rw [hk]; simp [V.cs_eq]
 have hc := count_right hq
 have hqs := right_sized hq
 have hpo := pathOf_ac q.enc hqs hp
 have hk2 : ((t.kids.length : Int) == 2) = false := by rw [hk1]; rfl
 have hq0 : ((q.kids.length : Int) == 0) = false := by cases hh : q.kids <;> simp_all; omega
 simp only [leafC]
 refine wEnter Tryz.func103 Tryz.ntmps103 ?_
 refine wRUN trivial ?_
 refine w9 (op_shared [] hv) trivial ?_
 refine wRUN (j2 h00 hb) ?_
 refine w7 (op_data [] hs) trivial ?_
 refine wRUN trivial ?_
 refine w7 (op_data [] hw) trivial ?_
 refine wRUN (j2 hrw hg) ?_
 refine w12 (op_rowF [] hc) trivial ?_
 refine w9 (op_shared [(35, 0)] hpo) trivial ?_
 refine wRUN (j3 h00 hk2 hq0) ?_
 exact ret_data [] (by simp only [Tryz.results103, go_sem, Nat.reduceBEq, Nat.reduceLT]; exact rfl) (by simp only [go_sem, Nat.reduceEqDiff, Nat.reduceAdd, Nat.reduceSub, Nat.reduceLeDiff, Nat.reduceMul, Nat.reduceBEq, Nat.reduceLT, Int.reduceToNat, reduceCtorEq, noE]) rfl
theorem eventOf_leaf (xs : List CellD) (hz : Sized xs) {p : List V} {u : V} (h : evDec xs = (0, some (p, some u))) : AC Tryz.prog 103 [cellsA xs] [] (.tup [.agg [valsA p, .ptr (0, 0) 0], .c (.int .i64 0)]) [((0, 0), .box (u.cs.map .c))] := by
 have h00 : ((0 : Int) != 0) = false := rfl
 rcases ev_way xs with ⟨hn, h0, he⟩ | ⟨t, hd, hx, ht, ⟨h5, he⟩ | ⟨h5, hl, he⟩ | ⟨q, r, h5, hk, hr, hq, ⟨c, h0, hp, he⟩ | ⟨hp, _, _, ⟨rfl, hqe, he⟩ | ⟨rfl, hqe, he⟩ | ⟨u', rfl, hu, hue, he⟩ | ⟨u', rfl, hu, hue, he⟩⟩⟩⟩
 all_goals rw [h] at he
 all_goals try (have hee := (Prod.mk.inj he).2; cases hee; done)
 obtain ⟨rfl, rfl⟩ : p = q.kids ∧ u = u' := by cases he; exact ⟨rfl, rfl⟩
 have hv := valOf_ac xs hz (t := t) (by rw [hd])
 have hb : (t.kind != 5) = false := by simpa using h5
 have hs := sizeVals_ac t.kids
 have hw := within_ac (t.kids.length : Int) 1 2
 have hk1 : t.kids.length = 2 := by rw [hk]; rfl
 have hin : (decide ((t.kids.length : Int) ≥ 1) && decide ((t.kids.length : Int) ≤ 2)) = true := by rw [hk1]; decide
 rw [hin] at hw
 have hrw : rowsAt (t.kids.map V.cs) 5 0 = true := by rw [hk]; simp [rowsAt, V.cs_eq]
 have hg : (t.kids.map V.cs)[0]? = some [.int .i64 q.kind, .int .i64 q.num, .str q.text, .sl (q.keys.map strCs), .sl (q.kids.map V.cs)] := by rw [hk]; simp [V.cs_eq]
 have hc := count_right hq
 have hqs := right_sized hq
 have hpo := pathOf_ac q.enc hqs hp
 have hk2 : ((t.kids.length : Int) == 2) = true := by rw [hk1]; rfl
 have hr1 : rowsAt (t.kids.map V.cs) 5 1 = true := by rw [hk]; simp [rowsAt, V.cs_eq]
 have hg1 : (t.kids.map V.cs)[1]? = some [.int .i64 u.kind, .int .i64 u.num, .str u.text, .sl (u.keys.map strCs), .sl (u.kids.map V.cs)] := by rw [hk]; simp [V.cs_eq]
 have hlf := isLeaf_ac u
 have hue' : u.kids.isEmpty = true := by rw [hue]; rfl
 rw [hue'] at hlf
 rw [V.cs_eq]
 simp only [List.map_cons, List.map_nil]
 refine wEnter Tryz.func103 Tryz.ntmps103 ?_
 refine wRUN trivial ?_
 refine w9 (op_shared [] hv) trivial ?_
 refine wRUN (j2 h00 hb) ?_
 refine w7 (op_data [] hs) trivial ?_
 refine wRUN trivial ?_
 refine w7 (op_data [] hw) trivial ?_
 refine wRUN (j2 hrw hg) ?_
 refine w12 (op_rowF [] hc) trivial ?_
 refine w9 (op_shared [(35, 0)] hpo) trivial ?_
 refine wRUN (j4 h00 hk2 hr1 hg1) ?_
 refine w7 (op_data [] hlf) trivial ?_
 refine wRUN trivial ?_
 exact wRetOf (ret_of [((0, 0), (7, 0))] []) Tryz.results103 hk2
end Go.Proofs.YtlciedpfjhkkdaaGreatDoor
