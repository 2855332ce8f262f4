/- Texts of this proof: G31 H17 M38 M28 M12 M47 E35. -/
import Derived.Test.YtlciedpfjhkkdaaGreatDoorKG15uM11
import Derived.Test.YtlciedpfjhkkdaaGreatDoorKG22uG27
import Derived.Test.YtlciedpfjhkkdaaGreatDoorKG45uG56
import Derived.Test.YtlciedpfjhkkdaaGreatDoorKGX
import Derived.Test.YtlciedpfjhkkdaaGreatDoorKM3uS02
import Derived.Test.YtlciedpfjhkkdaaGreatDoorKG49uG52
import Derived.Deep.RegionLaw
import Derived.Shelf.RegionOpenPlain
import Derived.Laws.CopyRow
import Derived.Test.YtlciedpfjhkkdaaGreatDoorKM2
import Derived.Test.YtlciedpfjhkkdaaGreatDoorKA1
import Derived.Test.YtlciedpfjhkkdaaGreatDoorKE6
import Derived.Laws.IdiomStrings
import Derived.Laws.Strings2
import Derived.Laws.Slices
set_option linter.unusedSimpArgs false
set_option linter.unusedVariables false
set_option linter.unnecessarySimpa false
set_option maxHeartbeats 8000000
namespace Go.Proofs.YtlciedpfjhkkdaaGreatDoor
open Go.RowKit
set_option maxRecDepth 10000
def noE : AV := .agg [.nils, .c (.raw (.pointer none))]
theorem count_right {q : V} (h : q.right) : AC Tryz.prog 40 [q.av] [] (.own (0, 0)) [((0, 0), .row false 5 94 (q.enc.map CellD.cs))] :=
 cells_ac q.count q (Nat.le_refl _) (by have := h.2.1; omega) (right_neat h)
theorem eventOf_bad (xs : List CellD) (hz : Sized xs) (h : (evDec xs).1 ≠ 0) : AC Tryz.prog 103 [cellsA xs] [] (.tup [noE, .c (.int .i64 (evDec xs).1)]) [] := by
 have h00 : ((0 : Int) != 0) = false := rfl
 rcases ev_way xs with ⟨hn, h0, he⟩ | ⟨t, hd, hx, ht, ⟨h5, he⟩ | ⟨h5, hl, he⟩ | ⟨q, r, h5, hk, hr, hq, ⟨c, h0, hp, he⟩ | ⟨hp, _, _, ⟨rfl, hqe, he⟩ | ⟨_, _, he⟩ | ⟨u, rfl, hu, hue, he⟩ | ⟨u, _, _, _, he⟩⟩⟩⟩
 ·rw [he]
  have hb : ((dec xs).1 != 0) = true := by simpa using h0
  have hv := valOf_bad xs hz hn
  refine wEnter Tryz.func103 Tryz.ntmps103 ?_
  refine wRUN trivial ?_
  refine w9 (op_shared [] hv) noV_eq ?_
  refine wRUN (j2 hb noV_eq) ?_
  exact ret_data [] (by simp only [Tryz.results103, go_sem, Nat.reduceBEq, Nat.reduceLT]; exact rfl) (by simp only [go_sem, Nat.reduceEqDiff, Nat.reduceAdd, Nat.reduceSub, Nat.reduceLeDiff, Nat.reduceMul, Nat.reduceBEq, Nat.reduceLT, Int.reduceToNat, reduceCtorEq, noE]) rfl
 ·rw [he]
  have hv := valOf_ac xs hz (t := t) (by rw [hd])
  have hb : (t.kind != 5) = true := by simpa using h5
  refine wEnter Tryz.func103 Tryz.ntmps103 ?_
  refine wRUN trivial ?_
  refine w9 (op_shared [] hv) trivial ?_
  refine wRUN (j2 h00 hb) ?_
  exact ret_data [] (by simp only [Tryz.results103, go_sem, Nat.reduceBEq, Nat.reduceLT]; exact rfl) (by simp only [go_sem, Nat.reduceEqDiff, Nat.reduceAdd, Nat.reduceSub, Nat.reduceLeDiff, Nat.reduceMul, Nat.reduceBEq, Nat.reduceLT, Int.reduceToNat, reduceCtorEq, noE]) rfl
 ·rw [he]
  have hv := valOf_ac xs hz (t := t) (by rw [hd])
  have hb : (t.kind != 5) = false := by simpa using h5
  have hs := sizeVals_ac t.kids
  have hw := within_ac (t.kids.length : Int) 1 2
  have hin : (decide ((t.kids.length : Int) ≥ 1) && decide ((t.kids.length : Int) ≤ 2)) = false := by simp; omega
  rw [hin] at hw
  refine wEnter Tryz.func103 Tryz.ntmps103 ?_
  refine wRUN trivial ?_
  refine w9 (op_shared [] hv) trivial ?_
  refine wRUN (j2 h00 hb) ?_
  refine w7 (op_data [] hs) trivial ?_
  refine wRUN trivial ?_
  refine w7 (op_data [] hw) trivial ?_
  refine wRUN trivial ?_
  exact ret_data [] (by simp only [Tryz.results103, go_sem, Nat.reduceBEq, Nat.reduceLT]; exact rfl) (by simp only [go_sem, Nat.reduceEqDiff, Nat.reduceAdd, Nat.reduceSub, Nat.reduceLeDiff, Nat.reduceMul, Nat.reduceBEq, Nat.reduceLT, Int.reduceToNat, reduceCtorEq, noE]) rfl
 all_goals try (rw [he] at h; exact absurd rfl h)
 all_goals
  rw [he]
  have hv := valOf_ac xs hz (t := t) (by rw [hd])
  have hb : (t.kind != 5) = false := by simpa using h5
  have hs := sizeVals_ac t.kids
  have hw := within_ac (t.kids.length : Int) 1 2
  have hin : (decide ((t.kids.length : Int) ≥ 1) && decide ((t.kids.length : Int) ≤ 2)) = true := by rw [hk]; simp at hr ⊢; try omega
  rw [hin] at hw
  have hrw : rowsAt (t.kids.map V.cs) 5 0 = true := by rw [hk]; simp [rowsAt, V.cs_eq]
  have hg : (t.kids.map V.cs)[0]? = some [.int .i64 q.kind, .int .i64 q.num, .str q.text, .sl (q.keys.map strCs), .sl (q.kids.map V.cs)] := by rw [hk]; simp [V.cs_eq]
  have hc := count_right hq
  have hqs := right_sized hq
 ·have hb0 : (c != 0) = true := by simpa using h0
  have hpo := pathOf_bad q.enc hqs hp
  refine wEnter Tryz.func103 Tryz.ntmps103 ?_
  refine wRUN trivial ?_
  refine w9 (op_shared [] hv) trivial ?_
  refine wRUN (j2 h00 hb) ?_
  refine w7 (op_data [] hs) trivial ?_
  refine wRUN trivial ?_
  refine w7 (op_data [] hw) trivial ?_
  refine wRUN (j2 hrw hg) ?_
  refine w12 (op_rowF [] hc) trivial ?_
  refine w9 (op_shared [(35, 0)] hpo) trivial ?_
  refine wRUN hb0 ?_
  exact ret_data [] (by simp only [Tryz.results103, go_sem, Nat.reduceBEq, Nat.reduceLT]; exact rfl) (by simp only [go_sem, Nat.reduceEqDiff, Nat.reduceAdd, Nat.reduceSub, Nat.reduceLeDiff, Nat.reduceMul, Nat.reduceBEq, Nat.reduceLT, Int.reduceToNat, reduceCtorEq, noE]) rfl
 ·have hpo := pathOf_ac q.enc hqs hp
  have hk1 : t.kids.length = 1 := by rw [hk]; rfl
  have hk2 : ((t.kids.length : Int) == 2) = false := by rw [hk1]; rfl
  have hq0 : ((q.kids.length : Int) == 0) = true := by rw [hqe]; rfl
  refine wEnter Tryz.func103 Tryz.ntmps103 ?_
  refine wRUN trivial ?_
  refine w9 (op_shared [] hv) trivial ?_
  refine wRUN (j2 h00 hb) ?_
  refine w7 (op_data [] hs) trivial ?_
  refine wRUN trivial ?_
  refine w7 (op_data [] hw) trivial ?_
  refine wRUN (j2 hrw hg) ?_
  refine w12 (op_rowF [] hc) trivial ?_
  refine w9 (op_shared [(35, 0)] hpo) trivial ?_
  refine wRUN (j3 h00 hk2 hq0) ?_
  exact ret_data [] (by simp only [Tryz.results103, go_sem, Nat.reduceBEq, Nat.reduceLT]; exact rfl) (by simp only [go_sem, Nat.reduceEqDiff, Nat.reduceAdd, Nat.reduceSub, Nat.reduceLeDiff, Nat.reduceMul, Nat.reduceBEq, Nat.reduceLT, Int.reduceToNat, reduceCtorEq, noE]) rfl
 ·have hpo := pathOf_ac q.enc hqs hp
  have hk1 : t.kids.length = 2 := by rw [hk]; rfl
  have hk2 : ((t.kids.length : Int) == 2) = true := by rw [hk1]; rfl
  have hr1 : rowsAt (t.kids.map V.cs) 5 1 = true := by rw [hk]; simp [rowsAt, V.cs_eq]
  have hg1 : (t.kids.map V.cs)[1]? = some [.int .i64 u.kind, .int .i64 u.num, .str u.text, .sl (u.keys.map strCs), .sl (u.kids.map V.cs)] := by rw [hk]; simp [V.cs_eq]
  have hlf := isLeaf_ac u
  have hue' : u.kids.isEmpty = false := by cases hh : u.kids <;> simp_all
  rw [hue'] at hlf
  refine wEnter Tryz.func103 Tryz.ntmps103 ?_
  refine wRUN trivial ?_
  refine w9 (op_shared [] hv) trivial ?_
  refine wRUN (j2 h00 hb) ?_
  refine w7 (op_data [] hs) trivial ?_
  refine wRUN trivial ?_
  refine w7 (op_data [] hw) trivial ?_
  refine wRUN (j2 hrw hg) ?_
  refine w12 (op_rowF [] hc) trivial ?_
  refine w9 (op_shared [(35, 0)] hpo) trivial ?_
  refine wRUN (j4 h00 hk2 hr1 hg1) ?_
  refine w7 (op_data [] hlf) trivial ?_
  refine wRUN trivial ?_
  exact ret_data [] (by simp only [Tryz.results103, go_sem, Nat.reduceBEq, Nat.reduceLT]; exact rfl) (by simp only [go_sem, Nat.reduceEqDiff, Nat.reduceAdd, Nat.reduceSub, Nat.reduceLeDiff, Nat.reduceMul, Nat.reduceBEq, Nat.reduceLT, Int.reduceToNat, reduceCtorEq, noE]) rfl
theorem eventOf_end (xs : List CellD) (hz : Sized xs) {p : List V} (h : evDec xs = (0, some (p, none))) : AC Tryz.prog 103 [cellsA xs] [] (.tup [.agg [valsA p, .c (leafC none)], .c (.int .i64 0)]) [] := by
 have h00 : ((0 : Int) != 0) = false := rfl
 rcases ev_way xs with ⟨hn, h0, he⟩ | ⟨t, hd, hx, ht, ⟨h5, he⟩ | ⟨h5, hl, he⟩ | ⟨q, r, h5, hk, hr, hq, ⟨c, h0, hp, he⟩ | ⟨hp, _, _, ⟨rfl, hqe, he⟩ | ⟨rfl, hqe, he⟩ | ⟨u, rfl, hu, hue, he⟩ | ⟨u, _, _, _, he⟩⟩⟩⟩
 all_goals rw [h] at he
 all_goals try (have hee := (Prod.mk.inj he).2; cases hee; done)
 obtain rfl : p = q.kids := by cases he; rfl
 have hv := valOf_ac xs hz (t := t) (by rw [hd])
 have hb : (t.kind != 5) = false := by simpa using h5
 have hs := sizeVals_ac t.kids
 have hw := within_ac (t.kids.length : Int) 1 2
 have hk1 : t.kids.length = 1 := by rw [hk]; rfl
 have hin : (decide ((t.kids.length : Int) ≥ 1) && decide ((t.kids.length : Int) ≤ 2)) = true := by rw [hk1]; decide
 rw [hin] at hw
 have hrw : rowsAt (t.kids.map V.cs) 5 0 = true := by rw [hk]; simp [rowsAt, V.cs_eq]
 have hg : (t.kids.map V.cs)[0]? = some [.int .i64 q.kind, .int .i64 q.num, .str q.text, .sl (q.keys.map strCs), .sl (q.kids.map V.cs)] := by rw [hk]; simp [V.cs_eq]
 have hc := count_right hq
 have hqs := right_sized hq
 have hpo := pathOf_ac q.enc hqs hp
 have hk2 : ((t.kids.length : Int) == 2) = false := by rw [hk1]; rfl
 have hq0 : ((q.kids.length : Int) == 0) = false := by cases hh : q.kids <;> simp_all; omega
 simp only [leafC]
 refine wEnter Tryz.func103 Tryz.ntmps103 ?_
 refine wRUN trivial ?_
 refine w9 (op_shared [] hv) trivial ?_
 refine wRUN (j2 h00 hb) ?_
 refine w7 (op_data [] hs) trivial ?_
 refine wRUN trivial ?_
 refine w7 (op_data [] hw) trivial ?_
 refine wRUN (j2 hrw hg) ?_
 refine w12 (op_rowF [] hc) trivial ?_
 refine w9 (op_shared [(35, 0)] hpo) trivial ?_
 refine wRUN (j3 h00 hk2 hq0) ?_
 exact ret_data [] (by simp only [Tryz.results103, go_sem, Nat.reduceBEq, Nat.reduceLT]; exact rfl) (by simp only [go_sem, Nat.reduceEqDiff, Nat.reduceAdd, Nat.reduceSub, Nat.reduceLeDiff, Nat.reduceMul, Nat.reduceBEq, Nat.reduceLT, Int.reduceToNat, reduceCtorEq, noE]) rfl
theorem eventOf_leaf (xs : List CellD) (hz : Sized xs) {p : List V} {u : V} (h : evDec xs = (0, some (p, some u))) : AC Tryz.prog 103 [cellsA xs] [] (.tup [.agg [valsA p, .ptr (0, 0) 0], .c (.int .i64 0)]) [((0, 0), .box (u.cs.map .c))] := by
 have h00 : ((0 : Int) != 0) = false := rfl
 rcases ev_way xs with ⟨hn, h0, he⟩ | ⟨t, hd, hx, ht, ⟨h5, he⟩ | ⟨h5, hl, he⟩ | ⟨q, r, h5, hk, hr, hq, ⟨c, h0, hp, he⟩ | ⟨hp, _, _, ⟨rfl, hqe, he⟩ | ⟨rfl, hqe, he⟩ | ⟨u', rfl, hu, hue, he⟩ | ⟨u', rfl, hu, hue, he⟩⟩⟩⟩
 all_goals rw [h] at he
 all_goals try (have hee := (Prod.mk.inj he).2; cases hee; done)
 obtain ⟨rfl, rfl⟩ : p = q.kids ∧ u = u' := by cases he; exact ⟨rfl, rfl⟩
 have hv := valOf_ac xs hz (t := t) (by rw [hd])
 have hb : (t.kind != 5) = false := by simpa using h5
 have hs := sizeVals_ac t.kids
 have hw := within_ac (t.kids.length : Int) 1 2
 have hk1 : t.kids.length = 2 := by rw [hk]; rfl
 have hin : (decide ((t.kids.length : Int) ≥ 1) && decide ((t.kids.length : Int) ≤ 2)) = true := by rw [hk1]; decide
 rw [hin] at hw
 have hrw : rowsAt (t.kids.map V.cs) 5 0 = true := by rw [hk]; simp [rowsAt, V.cs_eq]
 have hg : (t.kids.map V.cs)[0]? = some [.int .i64 q.kind, .int .i64 q.num, .str q.text, .sl (q.keys.map strCs), .sl (q.kids.map V.cs)] := by rw [hk]; simp [V.cs_eq]
 have hc := count_right hq
 have hqs := right_sized hq
 have hpo := pathOf_ac q.enc hqs hp
 have hk2 : ((t.kids.length : Int) == 2) = true := by rw [hk1]; rfl
 have hr1 : rowsAt (t.kids.map V.cs) 5 1 = true := by rw [hk]; simp [rowsAt, V.cs_eq]
 have hg1 : (t.kids.map V.cs)[1]? = some [.int .i64 u.kind, .int .i64 u.num, .str u.text, .sl (u.keys.map strCs), .sl (u.kids.map V.cs)] := by rw [hk]; simp [V.cs_eq]
 have hlf := isLeaf_ac u
 have hue' : u.kids.isEmpty = true := by rw [hue]; rfl
 rw [hue'] at hlf
 rw [V.cs_eq]
 simp only [List.map_cons, List.map_nil]
 refine wEnter Tryz.func103 Tryz.ntmps103 ?_
 refine wRUN trivial ?_
 refine w9 (op_shared [] hv) trivial ?_
 refine wRUN (j2 h00 hb) ?_
 refine w7 (op_data [] hs) trivial ?_
 refine wRUN trivial ?_
 refine w7 (op_data [] hw) trivial ?_
 refine wRUN (j2 hrw hg) ?_
 refine w12 (op_rowF [] hc) trivial ?_
 refine w9 (op_shared [(35, 0)] hpo) trivial ?_
 refine wRUN (j4 h00 hk2 hr1 hg1) ?_
 refine w7 (op_data [] hlf) trivial ?_
 refine wRUN trivial ?_
 exact wRetOf (ret_of [((0, 0), (7, 0))] []) Tryz.results103 hk2
set_option maxRecDepth 10000
def rrA (r : (Int × Int) × Option V) : AV := match r.2 with
 | some t => .agg [.c (.int .i64 0), .c (.int .i64 0), .c (.sl (t.enc.map CellD.cs))]
 | none => .agg [.c (.int .i64 r.1.1), .c (.int .i64 r.1.2), .c (.sl [])]
theorem rrA_some (c : Int × Int) (t : V) : rrA (c, some t) = .agg [.c (.int .i64 0), .c (.int .i64 0), .c (.sl (t.enc.map CellD.cs))] := rfl
theorem rrA_none (c a : Int) : rrA ((c, a), none) = .agg [.c (.int .i64 c), .c (.int .i64 a), .c (.sl [])] := rfl
def small (t : V) : Int × Option V := if t.count ≤ 200 then okR t else badR 2
def words : List ByteArray := [⟨#[97]⟩, ⟨#[98]⟩, ⟨#[99]⟩, ⟨#[105, 100]⟩, ByteArray.empty, ⟨#[120, 32, 121]⟩, ⟨#[97, 98]⟩, ⟨#[34, 113, 92]⟩]
theorem ev_parts {xs : List CellD} {e : Ev} (h : evDec xs = (0, some e)) : ∃ (t q : V), xs = t.enc ∧ t.right ∧ q.right ∧ pathDec q.enc = (0, some q.kids) ∧ e.1 = q.kids ∧ t.kids = q :: e.2.toList := by
 rcases ev_way xs with ⟨hn, h0, he⟩ | ⟨t, hd, hx, ht, ⟨h5, he⟩ | ⟨h5, hl, he⟩ | ⟨q, r, h5, hk, hr, hq, ⟨c, h0, hp, he⟩ | ⟨hp, _, _, ⟨rfl, hqe, he⟩ | ⟨rfl, hqe, he⟩ | ⟨u, rfl, hu, hue, he⟩ | ⟨u, rfl, hu, hue, he⟩⟩⟩⟩
 all_goals rw [h] at he
 all_goals try (have hee := (Prod.mk.inj he).2; cases hee; done)
 ·have hee : e = _ := Option.some.inj (Prod.mk.inj he).2
  subst hee
  exact ⟨t, q, hx, ht, hq, hp, rfl, hk⟩
 ·have hee : e = _ := Option.some.inj (Prod.mk.inj he).2
  subst hee
  exact ⟨t, q, hx, ht, hq, hp, rfl, hk⟩
def fromGo : List Ev → Nat → V → (Int × Nat) × Option V
 | [], _, v => ((0, 0), some v)
 | (_, none) :: r, i, v => fromGo r (i + 1) v
 | (p, some t) :: r, i, v => match setPathV t p v with
  | (_, some u) => fromGo r (i + 1) u
  | (c, none) => ((c, i), none)
theorem fromGo_end {p : List V} {r : List Ev} {i : Nat} {v : V} : fromGo ((p, none) :: r) i v = fromGo r (i + 1) v := by
 conv => lhs; unfold fromGo
theorem fromGo_ok {p : List V} {t u : V} {r : List Ev} {i : Nat} {v : V} {c : Int} (h : setPathV t p v = (c, some u)) : fromGo ((p, some t) :: r) i v = fromGo r (i + 1) u := by
 conv => lhs; unfold fromGo
 rw [h]
theorem fromGo_bad {p : List V} {t : V} {r : List Ev} {i : Nat} {v : V} {c : Int} (h : setPathV t p v = (c, none)) : fromGo ((p, some t) :: r) i v = ((c, i), none) := by
 conv => lhs; unfold fromGo
 rw [h]
inductive Bld (L D : Nat) : V → List Ev → V → Prop
 | nil (v : V) : Bld L D v [] v
 | skip {v w : V} {p : List V} {r : List Ev} : Bld L D v r w → Bld L D v ((p, none) :: r) w
 | put {v u w t : V} {p : List V} {r : List Ev} : setPathV t p v = small u → u.wf → u.count ≤ L → u.depth ≤ D → Bld L D u r w → Bld L D v ((p, some t) :: r) w
theorem Bld.mono {L D L' D' : Nat} (hL : L ≤ L') (hD : D ≤ D') {v w : V} {l : List Ev} (h : Bld L D v l w) : Bld L' D' v l w := by
 induction h with
 | nil v => exact .nil v
 | skip _ ih => exact .skip ih
 | put h1 h2 h3 h4 _ ih => exact .put h1 h2 (by omega) (by omega) ih
theorem fromGo_right : ∀ (l : List Ev) (i : Nat) (v : V), (∀ e ∈ l, (∀ k ∈ e.1, k.right ∧ (k.kind = 3 ∨ k.kind = 4)) ∧ ∀ t, e.2 = some t → t.right) → v.right → match fromGo l i v with
  | (c, some u) => c = (0, 0) ∧ u.right
  | (c, none) => c.1 ≠ 0
 | [], i, v, _, hv => ⟨rfl, hv⟩
 | (p, none) :: r, i, v, h, hv => by
  rw [fromGo_end]
  exact fromGo_right r (i + 1) v (fun e he => h e (List.mem_cons_of_mem _ he)) hv
 | (p, some t) :: r, i, v, h, hv => by
  obtain ⟨h1, h2⟩ := h (p, some t) (List.mem_cons_self ..)
  have ho := setPath_ok (h2 t rfl) p h1 v hv
  cases hs : setPathV t p v with
  | mk c o =>
   rw [hs] at ho
   cases o with
   | none =>
    rw [fromGo_bad hs]
    exact ho
   | some u =>
    rw [fromGo_ok hs]
    exact fromGo_right r (i + 1) u (fun e he => h e (List.mem_cons_of_mem _ he)) ho.2
end Go.Proofs.YtlciedpfjhkkdaaGreatDoor
namespace Go.Proofs.YtlciedpfjhkkdaaGreatDoor
open Go.RowKit
section
variable {P : Program} {o : Oper} {σ : ASt} {src dst e t : TypeId}
def byteRows (l : List UInt8) : List (List C) := l.map fun b => [.int .u8 (b.toNat : Int)]
theorem byte_row {w : World} {S : Nat → Prop} {b : UInt8} {vr : List Value} {bs : List Nat} (h : CRs w S [.int .u8 (b.toNat : Int)] vr bs) : vr = [.int .u8 (b.toNat : Int)] := by
 simp only [CRs, CR] at h
 obtain ⟨v, vs', b1, b2, rfl, _, ⟨rfl, _⟩, rfl, _⟩ := h
 rfl
theorem run_conv {x : Operand} {i : Id} (l : List UInt8) (hl : l ≠ []) (ho : o.op = .convert src dst x) (hx : σ.ev x = .own i) (hs : P.underlying src = some (.slice e)) (he : P.underlying e = some (.int .u8)) (hd : P.underlying dst = some .string)
  (hi : σ.mem.get i = some (.row false 1 t (byteRows l))) : OpRun P o σ ⟨[i], [], .c (.str ⟨l.toArray⟩)⟩ := by
 refine OpRun.pure fun Γ σ' a w ow κ hag hr => ?_
 have hi' : σ'.mem.get i = some (.row false 1 t (byteRows l)) := by rw [hag.2.1 i (by simp), hi]
 obtain ⟨_, o1, k1, k2⟩ := hag.ev hr (by rw [ho]; simp [Op.operands]) hx
 rw [hi'] at k1
 cases k1
 have e1 := k2 (by simp)
 obtain ⟨vrows, bs, h1, h2, h3, h4, h5, h6⟩ := hr.objs i _ hi'
 have hlen := CRss.length h1
 have hrl : (byteRows l).length = l.length := by simp [byteRows]
 have hl0 : 0 < l.length := List.length_pos_iff.2 hl
 obtain ⟨A, cap, hA, hc1, hc2, hrow⟩ := Row.of_owns h3 (n := (byteRows l).length) (by omega) (.inl Nat.one_pos) h4 (T := fun _ => True) (fun _ _ => trivial)
 obtain ⟨b, off, rfl, _, _, hcl⟩ := hrow.2 (by omega)
 refine ⟨.string ⟨l.toArray⟩, ?_, ⟨rfl, rfl⟩⟩
 have hc : ∀ j (hj : j < l.length), w.cell? ((⟨b, off, none⟩ : Addr).add j) = some (.int .u8 (l[j].toNat : Int)) := by
  intro j hj
  obtain ⟨vr, b', g1, g2, _⟩ := CRss.at_ h1 (i := j) (row := [.int .u8 (l[j].toNat : Int)]) (by simp [byteRows, hj])
  have g3 := byte_row g2
  subst g3
  have := hcl j _ g1 0 _ rfl
  by_cases hj0 : j = 0
  ·subst hj0
   simpa [Addr.add] using this
  ·simpa [Addr.add, hj0] using this
 have hrun := run_convert_bytes_back w src dst e ⟨b, off, none⟩ cap l hs he hd hc
 unfold execOp
 rw [ho]
 rw [hrl] at hA
 simp [e1, hA, hrun]
theorem run_sub {x lo hi : Operand} {s : ByteArray} {i j : Int} (ho : o.op = .slice t x (some lo) (some hi) none) (hx : σ.ev x = .c (.str s)) (hlo : σ.ev lo = .c (.int .i64 i)) (hhi : σ.ev hi = .c (.int .i64 j)) (ht : P.underlying t = some .string)
  (h0 : 0 ≤ i) (h1 : i ≤ j) (h2 : j ≤ s.size) : OpRun P o σ ⟨[], [], .c (.str (s.extract i.toNat j.toNat))⟩ := by
 refine OpRun.pure fun Γ σ' a w ow κ hag hr => ?_
 have e1 := AR.str (hag.ev hr (by rw [ho]; simp [Op.operands]) hx)
 have e2 := (hag.ev hr (by rw [ho]; simp [Op.operands]) hlo).1
 have e3 := (hag.ev hr (by rw [ho]; simp [Op.operands]) hhi).1
 refine ⟨.string (s.extract i.toNat j.toNat), ?_, ⟨rfl, rfl⟩⟩
 have hrun := run_slice_string (P := P) w t s .i64 .i64 i j ht h0 h1 h2
 unfold execOp
 rw [ho]
 simp [e1, e2, e3, hrun, run_sliceAt_string _ t _ _ _ _ ht]
end
section
variable {P : Program} {σ τ : ASt} {ops : Array Oper} {r : List Oper} {fs : List AEff} {K : ASt → List AEff → Prop} {E : AEff} {src dst e t : TypeId} {d : Option Tmp} {ty' : TypeId} {pos : String} {af : Array Edge} {gd : Option (Nat × Bool)}
theorem op_conv {x : Operand} {i : Id} {y : ByteArray} (l : List UInt8) (hy : (⟨l.toArray⟩ : ByteArray) = y) (hl : l ≠ []) (hs : P.underlying src = some (.slice e)) (he : P.underlying e = some (.int .u8)) (hd : P.underlying dst = some .string)
  (hg : gate ops σ ⟨d, .convert src dst x, ty', pos, af, gd⟩ = some true) (hn : eff P σ.ev σ.mem.get (σ.fresh ⟨d, .convert src dst x, ty', pos, af, gd⟩) ⟨d, .convert src dst x, ty', pos, af, gd⟩ = none) (hx : σ.ev x = .own i) (hi : σ.mem.get i = some (.row false 1 t (byteRows l)))
  (hE : (⟨[i], [], .c (.str y)⟩ : AEff) = E) (hτ : σ.upd d E = τ) (h : awpOps P ops r τ (fs ++ [E]) K) : awpOps P ops (⟨d, .convert src dst x, ty', pos, af, gd⟩ :: r) σ fs K := by
 subst hE hy
 exact op_sound hg hn (run_conv l hl rfl hx hs he hd hi).sound hτ h
theorem op_sub {t : TypeId} {x lo hi : Operand} {s y : ByteArray} {i j : Int} (hy : s.extract i.toNat j.toNat = y) (h0 : 0 ≤ i) (h1 : i ≤ j) (h2 : j ≤ s.size) (ht : P.underlying t = some .string)
  (hg : gate ops σ ⟨d, .slice t x (some lo) (some hi) none, ty', pos, af, gd⟩ = some true) (hn : eff P σ.ev σ.mem.get (σ.fresh ⟨d, .slice t x (some lo) (some hi) none, ty', pos, af, gd⟩) ⟨d, .slice t x (some lo) (some hi) none, ty', pos, af, gd⟩ = none) (hx : σ.ev x = .c (.str s)) (hlo : σ.ev lo = .c (.int .i64 i)) (hhi : σ.ev hi = .c (.int .i64 j))
  (hE : (⟨[], [], .c (.str y)⟩ : AEff) = E) (hτ : σ.upd d E = τ) (h : awpOps P ops r τ (fs ++ [E]) K) : awpOps P ops (⟨d, .slice t x (some lo) (some hi) none, ty', pos, af, gd⟩ :: r) σ fs K := by
 subst hE hy
 exact op_sound hg hn (run_sub rfl hx hlo hhi ht h0 h1 h2).sound hτ h
end
end Go.Proofs.YtlciedpfjhkkdaaGreatDoor
