/- Texts of this proof: G49 G22 G23 G24 G50 G51 G52. -/
import Derived.Test.YtamgeodhpglgkaaGreatKE6
import Derived.Test.YtamgeodhpglgkaaGreatKG8
import Derived.Test.YtamgeodhpglgkaaGreatKG21
import Derived.Test.YtamgeodhpglgkaaGreatKM2
set_option linter.unusedSimpArgs false
set_option maxHeartbeats 8000000
namespace Go.Proofs.YtamgeodhpglgkaaGreat
open Go.RowKit
set_option maxRecDepth 10000
theorem cloneStrs_ac (l : List ByteArray) (hl : l.length ≤ 1000000) : AC Tryz.prog 292 [.c (.sl (l.map strCs))] [] (.own (0, 0)) [((0, 0), .row false 1 9 (l.map strCs))] := by
 have ha := all_strs l
 have hl0 : 0 + l.length ≤ 1000000 := by omega
 refine wEnter Tryz.func292 Tryz.ntmps292 ?_
 refine wRUN1 trivial ?_
 refine a_region ?_
 refine wRUN1 trivial ?_
 refine a_regionN ?_
 (repeat ((with_reducible apply n_eff); (iterate 2 (focus (first | (simp only [go_sem, Nat.reduceEqDiff, Nat.reduceAdd, Nat.reduceSub, Nat.reduceLeDiff, Nat.reduceMul, Nat.reduceBEq, Nat.reduceLT, Int.reduceToNat, reduceCtorEq]; first | done | exact rfl | (and_intros <;> rfl)) | exact rfl | decide)))))
 (apply n_isnil; (focus (first | (simp only [go_sem, Nat.reduceEqDiff, Nat.reduceAdd, Nat.reduceSub, Nat.reduceLeDiff, Nat.reduceMul, Nat.reduceBEq, Nat.reduceLT, Int.reduceToNat, reduceCtorEq]; first | done | exact rfl | (and_intros <;> rfl)) | exact rfl | decide)); (focus (first | (simp only [go_sem, Nat.reduceEqDiff, Nat.reduceAdd, Nat.reduceSub, Nat.reduceLeDiff, Nat.reduceMul, Nat.reduceBEq, Nat.reduceLT, Int.reduceToNat, reduceCtorEq]; first | done | exact rfl | (and_intros <;> rfl)) | exact rfl | decide)); (focus (first | (simp only [go_sem, Nat.reduceEqDiff, Nat.reduceAdd, Nat.reduceSub, Nat.reduceLeDiff, Nat.reduceMul, Nat.reduceBEq, Nat.reduceLT, Int.reduceToNat, reduceCtorEq]; first | done | exact rfl | (and_intros <;> rfl)) | exact rfl | decide)); (focus (first | (simp only [go_sem, Nat.reduceEqDiff, Nat.reduceAdd, Nat.reduceSub, Nat.reduceLeDiff, Nat.reduceMul, Nat.reduceBEq, Nat.reduceLT, Int.reduceToNat, reduceCtorEq]; first | done | exact rfl | (and_intros <;> rfl)) | exact rfl | decide)); (focus (first | (simp only [go_sem, Nat.reduceEqDiff, Nat.reduceAdd, Nat.reduceSub, Nat.reduceLeDiff, Nat.reduceMul, Nat.reduceBEq, Nat.reduceLT, Int.reduceToNat, reduceCtorEq]; first | done | exact rfl | (and_intros <;> rfl)) | exact rfl | decide)))
 ·intro hnil
  have hnil2 : l = [] := List.map_eq_nil_iff.1 hnil
  subst hnil2
  refine n_nil ?_
  dsimp only
  refine wRUN trivial ?_
  exact wRetOf (ret_of [] []) Tryz.results292 @List.map_nil.{0,0}
 ·refine n_nil ?_
  dsimp only
  refine wRUN (j3 hl ha hl0) ?_
  exact wRetOf (ret_of [((0, 0), (7, 0))] []) Tryz.results292 hl
theorem cloneVals_ac (l : List V) (hl : l.length ≤ 1000000) : AC Tryz.prog 236 [.c (.sl (l.map V.cs))] [] (.own (0, 0)) [((0, 0), .row false 5 101 (l.map V.cs))] := by
 have ha := all_trees l
 have hl0 : 0 + l.length ≤ 1000000 := by omega
 refine wEnter Tryz.func236 Tryz.ntmps236 ?_
 refine wRUN1 trivial ?_
 refine a_region ?_
 refine wRUN1 trivial ?_
 refine a_regionN ?_
 (repeat ((with_reducible apply n_eff); (iterate 2 (focus (first | (simp only [go_sem, Nat.reduceEqDiff, Nat.reduceAdd, Nat.reduceSub, Nat.reduceLeDiff, Nat.reduceMul, Nat.reduceBEq, Nat.reduceLT, Int.reduceToNat, reduceCtorEq]; first | done | exact rfl | (and_intros <;> rfl)) | exact rfl | decide)))))
 (apply n_isnil; (focus (first | (simp only [go_sem, Nat.reduceEqDiff, Nat.reduceAdd, Nat.reduceSub, Nat.reduceLeDiff, Nat.reduceMul, Nat.reduceBEq, Nat.reduceLT, Int.reduceToNat, reduceCtorEq]; first | done | exact rfl | (and_intros <;> rfl)) | exact rfl | decide)); (focus (first | (simp only [go_sem, Nat.reduceEqDiff, Nat.reduceAdd, Nat.reduceSub, Nat.reduceLeDiff, Nat.reduceMul, Nat.reduceBEq, Nat.reduceLT, Int.reduceToNat, reduceCtorEq]; first | done | exact rfl | (and_intros <;> rfl)) | exact rfl | decide)); (focus (first | (simp only [go_sem, Nat.reduceEqDiff, Nat.reduceAdd, Nat.reduceSub, Nat.reduceLeDiff, Nat.reduceMul, Nat.reduceBEq, Nat.reduceLT, Int.reduceToNat, reduceCtorEq]; first | done | exact rfl | (and_intros <;> rfl)) | exact rfl | decide)); (focus (first | (simp only [go_sem, Nat.reduceEqDiff, Nat.reduceAdd, Nat.reduceSub, Nat.reduceLeDiff, Nat.reduceMul, Nat.reduceBEq, Nat.reduceLT, Int.reduceToNat, reduceCtorEq]; first | done | exact rfl | (and_intros <;> rfl)) | exact rfl | decide)); (focus (first | (simp only [go_sem, Nat.reduceEqDiff, Nat.reduceAdd, Nat.reduceSub, Nat.reduceLeDiff, Nat.reduceMul, Nat.reduceBEq, Nat.reduceLT, Int.reduceToNat, reduceCtorEq]; first | done | exact rfl | (and_intros <;> rfl)) | exact rfl | decide)))
 ·intro hnil
  have hnil2 : l = [] := List.map_eq_nil_iff.1 hnil
  subst hnil2
  refine n_nil ?_
  dsimp only
  refine wRUN trivial ?_
  exact wRetOf (ret_of [] []) Tryz.results236 @List.map_nil.{0,0}
 ·refine n_nil ?_
  dsimp only
  refine wRUN (j3 hl ha hl0) ?_
  exact wRetOf (ret_of [((0, 0), (7, 0))] []) Tryz.results236 hl
theorem indexStr_ac (l : List ByteArray) (key : ByteArray) (hl : l.length ≤ 1000000) : AC Tryz.prog 319 [.c (.sl (l.map strCs)), .c (.str key)] [] (.c (.int .i64 (match findKey l key with | some i => (i : Int) | none => -1))) [] := by
 refine wEnter Tryz.func319 Tryz.ntmps319 ?_
 refine wRUN trivial ?_
 refine a_loop (κ := Nat) (fun k => ⟨mkS 0 19 [(0, .c (.sl (l.map strCs))), (1, .c (.str key)), (7, .c (.int .i64 l.length)), (8, .c (.int .i64 k))], []⟩)
  (fun k => k ≤ l.length ∧ ∀ j (h : j < l.length), j < k → (key.toList == l[j].toList) = false) (fun k => l.length - k) 0 ⟨Nat.zero_le _, by intro j h hj; omega⟩ ?_ ?_
 ·exact wSays (Says.of [] []) hl
 ·rintro k ⟨hk, hno⟩
  by_cases hlt : k < l.length
  ·have hdk : decide ((k : Int) < (l.length : Int)) = true := by simpa using hlt
   have hw := wrap_succ (k := k) (by omega)
   have hr : rowsAt (l.map strCs) 1 k = true := by simp [rowsAt, hlt, strCs]
   have hg : (l.map strCs)[k]? = some [.str l[k]] := by simp [hlt, strCs]
   cases hb : key.toList == l[k].toList with
   | true =>
    have hf : findKey l key = some k := by
     unfold findKey
     refine List.findIdx?_eq_some_iff_getElem.2 ⟨hlt, by rw [beq_iff_eq] at hb ⊢; exact hb.symm, fun j hj => ?_⟩
     have := hno j (by omega) hj
     rw [beq_eq_false_iff_ne] at this
     simp only [Bool.not_eq_true, beq_eq_false_iff_ne, ne_eq]
     exact fun e => this e.symm
    rw [hf]
    refine wRUN (j4 hdk hr hg hb) ?_
    exact wRet (ret_data []) Tryz.results319
   | false =>
    refine wRUN (j5 hdk hr hg hb hw) ?_
    refine ⟨k + 1, by omega, ⟨by omega, fun j hj hjk => ?_⟩, ?_⟩
    ·by_cases hjk' : j = k
     ·subst hjk'; exact hb
     ·exact hno j hj (by omega)
    ·exact wSays (Says.of [] []) hw
  ·have hdk : decide ((k : Int) < (l.length : Int)) = false := by simpa using hlt
   have hf : findKey l key = none := by
    unfold findKey
    rw [List.findIdx?_eq_none_iff]
    intro x hx
    obtain ⟨i, hi, rfl⟩ := List.getElem_of_mem hx
    have := hno i hi (by omega)
    rw [beq_eq_false_iff_ne] at this ⊢
    exact fun e => this e.symm
   rw [hf]
   refine wRUN hdk ?_
   exact wRet (ret_data []) Tryz.results319
theorem containsStr_ac (l : List ByteArray) (key : ByteArray) (hl : l.length ≤ 1000000) : AC Tryz.prog 253 [.c (.sl (l.map strCs)), .c (.str key)] [] (.c (.bool (findKey l key).isSome)) [] := by
 have hi := indexStr_ac l key hl
 cases h : findKey l key with
 | none =>
  rw [h] at hi
  have hd : decide ((-1 : Int) ≥ 0) = false := by decide
  refine wEnter Tryz.func253 Tryz.ntmps253 ?_
  refine wRUN trivial ?_
  refine w7 (op_data [] hi) trivial ?_
  refine wRUN hd ?_
  exact ret_data [] (by simp only [Tryz.results253, go_sem, Nat.reduceBEq, Nat.reduceLT]; exact rfl) (by simp only [go_sem, Nat.reduceEqDiff, Nat.reduceAdd, Nat.reduceSub, Nat.reduceLeDiff, Nat.reduceMul, Nat.reduceBEq, Nat.reduceLT, Int.reduceToNat, reduceCtorEq, hd, Option.isSome]) rfl
 | some i =>
  rw [h] at hi
  have hd : decide ((i : Int) ≥ 0) = true := by simp
  refine wEnter Tryz.func253 Tryz.ntmps253 ?_
  refine wRUN trivial ?_
  refine w7 (op_data [] hi) trivial ?_
  refine wRUN hd ?_
  exact ret_data [] (by simp only [Tryz.results253, go_sem, Nat.reduceBEq, Nat.reduceLT]; exact rfl) (by simp only [go_sem, Nat.reduceEqDiff, Nat.reduceAdd, Nat.reduceSub, Nat.reduceLeDiff, Nat.reduceMul, Nat.reduceBEq, Nat.reduceLT, Int.reduceToNat, reduceCtorEq, hd, Option.isSome]) rfl
set_option maxRecDepth 10000
theorem isString_ac (s : ByteArray) (hs : s.size ≤ 9223372036854775807) : AC Tryz.prog 264 [.c (.str s)] [] (.c (.bool (okText s))) [] := by
 refine AC.of_calls fun S w κ vs hv => ?_
 obtain ⟨v, vs', rfl, ⟨rfl, _⟩, rfl⟩ := hv
 refine (isString_any s hs w).mono ?_
 rintro e w' ⟨rfl, rfl⟩
 exact ⟨Below.refl _ _, _, rfl, fun T _ _ => ⟨rfl, rfl⟩⟩
theorem within_ac (n lo hi : Int) : AC Tryz.prog 106 [.c (.int .i64 n), .c (.int .i64 lo), .c (.int .i64 hi)] [] (.c (.bool (decide (n ≥ lo) && decide (n ≤ hi)))) [] := by
 cases h1 : decide (n ≥ lo) <;> cases h2 : decide (n ≤ hi)
 all_goals
  refine wEnter Tryz.func106 Tryz.ntmps106 ?_
  refine wRUN (j2 h1 h2) ?_
  exact wRet (ret_data []) Tryz.results106
theorem right_head {t : V} (h : t.right) : (⟨t.kind, t.num, t.text, ByteArray.empty, t.kids.length⟩ : CellD).code = 0 := by
 refine cells_codes t ByteArray.empty h.1 okText_empty _ ?_
 rw [cells_head]
 simp
theorem right_num {t : V} (h : t.right) : -1000000000000000 ≤ t.num ∧ t.num ≤ 1000000000000000 := by
 have hc := right_head h
 unfold CellD.code cellCode at hc
 have hr : cR t.num (t.kids.length : Int) = false := by
  cases hh : cR t.num (t.kids.length : Int)
  ·rfl
  ·simp only [hh] at hc
   split at hc
   ·omega
   ·split at hc
    ·omega
    ·simp at hc
 simp [cR, inB] at hr
 omega
theorem right_text {t : V} (h : t.right) : okText t.text = true := (code_text (right_head h)).1
theorem getKey_ac {t : V} (h : t.right) (key : ByteArray) (hk : okText key = true) : AC Tryz.prog 270 [t.av, .c (.str key)] [] (resA (getKeyV t key)) [] := by
 have hs := isString_ac key (by have := okText_size hk; omega)
 rw [hk] at hs
 by_cases h0 : t.kind = 0
 ·have hr : getKeyV t key = okR nullV := by unfold getKeyV; rw [if_pos h0]
  have hb : (t.kind == 0) = true := by simpa using h0
  rw [hr, resA_ok]
  refine wEnter Tryz.func270 Tryz.ntmps270 ?_
  refine wRUN trivial ?_
  refine w7 (op_data [] hs) trivial ?_
  refine wRUN hb ?_
  refine w7 (op_data [] null_ac) trivial ?_
  refine w7 (op_data [] (gives_ac right_null)) trivial ?_
  refine wRUN trivial ?_
  exact wRet (ret_data []) Tryz.results270
 ·have hb : (t.kind == 0) = false := by simpa using h0
  by_cases h6 : t.kind = 6
  ·have hr : getKeyV t key = okR (t.member key) := by unfold getKeyV; rw [if_neg h0, if_pos h6]
   have hb6 : (t.kind != 6) = false := by simpa using h6
   have hm := member_ac h h6 key
   have hg := gives_ac (right_member h h6 key)
   rw [hr, resA_ok]
   generalize t.member key = u at *
   refine wEnter Tryz.func270 Tryz.ntmps270 ?_
   refine wRUN trivial ?_
   refine w7 (op_data [] hs) trivial ?_
   refine wRUN (j2 hb hb6) ?_
   refine w9 (op_shared [] hm) trivial ?_
   refine w9 (op_shared [] hg) trivial ?_
   refine wRUN trivial ?_
   exact wRet (ret_data []) Tryz.results270
  ·have hr : getKeyV t key = badR 6 := by unfold getKeyV; rw [if_neg h0, if_neg h6]
   have hb6 : (t.kind != 6) = true := by simpa using h6
   rw [hr, resA_bad]
   refine wEnter Tryz.func270 Tryz.ntmps270 ?_
   refine wRUN trivial ?_
   refine w7 (op_data [] hs) trivial ?_
   refine wRUN (j2 hb hb6) ?_
   refine w7 (op_data [] (refuses_ac 6)) trivial ?_
   refine wRUN trivial ?_
   exact wRet (ret_data []) Tryz.results270
theorem getIndex_ac {t : V} (h : t.right) (n : Int) (hn : -1000000000000000 ≤ n ∧ n ≤ 1000000000000000) : AC Tryz.prog 277 [t.av, .c (.int .i64 n)] [] (resA (getIdxV t n)) [] := by
 have hkl := kids_len_le h.2.1
 have hsz := sizeVals_ac t.kids
 by_cases h0 : t.kind = 0
 ·have hr : getIdxV t n = okR nullV := by unfold getIdxV; rw [if_pos h0]
  have hb : (t.kind == 0) = true := by simpa using h0
  rw [hr, resA_ok]
  refine wEnter Tryz.func277 Tryz.ntmps277 ?_
  refine wRUN trivial ?_
  refine w7 (op_data [] hsz) trivial ?_
  refine wRUN hb ?_
  refine w7 (op_data [] null_ac) trivial ?_
  refine w7 (op_data [] (gives_ac right_null)) trivial ?_
  refine wRUN trivial ?_
  exact wRet (ret_data []) Tryz.results277
 ·have hb : (t.kind == 0) = false := by simpa using h0
  by_cases h5 : t.kind = 5
  ·have hb5 : (t.kind != 5) = false := by simpa using h5
   have hwn : IntKind.i64.wrap (0 - (t.kids.length : Int)) = -(t.kids.length : Int) := by rw [IntWalk.i64_in _ (by omega)]; omega
   have hwm : IntKind.i64.wrap ((t.kids.length : Int) - 1) = (t.kids.length : Int) - 1 := IntWalk.i64_in _ (by omega)
   have hwi := within_ac n (-(t.kids.length : Int)) ((t.kids.length : Int) - 1)
   cases hin : (decide (n ≥ -(t.kids.length : Int)) && decide (n ≤ (t.kids.length : Int) - 1)) with
   | false =>
    rw [hin] at hwi
    have hr : getIdxV t n = okR nullV := by
     unfold getIdxV fromEnd
     rw [if_neg h0, if_pos h5, if_neg]
     simp at hin
     split <;> omega
    rw [hr, resA_ok]
    refine wEnter Tryz.func277 Tryz.ntmps277 ?_
    refine wRUN trivial ?_
    refine w7 (op_data [] hsz) trivial ?_
    refine wRUN (j4 hb hb5 hwn hwm) ?_
    refine w7 (op_data [] hwi) trivial ?_
    refine wRUN trivial ?_
    refine w7 (op_data [] null_ac) trivial ?_
    refine w7 (op_data [] (gives_ac right_null)) trivial ?_
    refine wRUN trivial ?_
    exact wRet (ret_data []) Tryz.results277
   | true =>
    rw [hin] at hwi
    simp at hin
    obtain ⟨p, hp, hpl⟩ : ∃ p : Nat, fromEnd n t.kids.length = p ∧ p < t.kids.length := by
     refine ⟨(fromEnd n t.kids.length).toNat, ?_, ?_⟩ <;> unfold fromEnd <;> split <;> omega
    have hr : getIdxV t n = okR t.kids[p] := by
     unfold getIdxV
     rw [if_neg h0, if_pos h5, hp, if_pos (by omega), Int.toNat_natCast, List.getD_eq_getElem?_getD, List.getElem?_eq_getElem hpl, Option.getD_some]
    have hrw : rowsAt (t.kids.map V.cs) 5 p = true := by simp [rowsAt, hpl, V.cs_eq]
    have hg : (t.kids.map V.cs)[p]? = some t.kids[p].cs := by simp [hpl]
    have hgv := gives_ac (right_mem h (List.getElem_mem hpl))
    rw [hr, resA_ok]
    generalize t.kids[p] = u at *
    unfold fromEnd at hp
    by_cases hneg : n < 0
    ·rw [if_pos hneg] at hp
     have hd : decide (n < 0) = true := by simpa using hneg
     have hwa : IntKind.i64.wrap (n + (t.kids.length : Int)) = (p : Int) := by rw [hp]; exact IntWalk.i64_in _ (by omega)
     refine wEnter Tryz.func277 Tryz.ntmps277 ?_
     refine wRUN trivial ?_
     refine w7 (op_data [] hsz) trivial ?_
     refine wRUN (j4 hb hb5 hwn hwm) ?_
     refine w7 (op_data [] hwi) trivial ?_
     refine wRUN (j4 hd hwa hrw hg) ?_
     refine w9 (op_shared [] hgv) trivial ?_
     refine wRUN trivial ?_
     exact wRet (ret_data []) Tryz.results277
    ·rw [if_neg hneg] at hp
     subst hp
     have hd : decide ((p : Int) < 0) = false := by simp
     refine wEnter Tryz.func277 Tryz.ntmps277 ?_
     refine wRUN trivial ?_
     refine w7 (op_data [] hsz) trivial ?_
     refine wRUN (j4 hb hb5 hwn hwm) ?_
     refine w7 (op_data [] hwi) trivial ?_
     refine wRUN (j3 hd hrw hg) ?_
     refine w9 (op_shared [] hgv) trivial ?_
     refine wRUN trivial ?_
     exact wRet (ret_data []) Tryz.results277
  ·have hr : getIdxV t n = badR 6 := by unfold getIdxV; rw [if_neg h0, if_neg h5]
   have hb5 : (t.kind != 5) = true := by simpa using h5
   rw [hr, resA_bad]
   refine wEnter Tryz.func277 Tryz.ntmps277 ?_
   refine wRUN trivial ?_
   refine w7 (op_data [] hsz) trivial ?_
   refine wRUN (j2 hb hb5) ?_
   refine w7 (op_data [] (refuses_ac 6)) trivial ?_
   refine wRUN trivial ?_
   exact wRet (ret_data []) Tryz.results277
theorem resA_some (c : Int) (t : V) : resA (c, some t) = outA 0 t := rfl
theorem resA_none (c : Int) : resA (c, none) = outA c nullV := rfl
theorem getAt_ac {t k : V} (h : t.right) (hk : k.right) : AC Tryz.prog 179 [t.av, k.av] [] (resA (getAtV t k)) [] := by
 by_cases h4 : k.kind = 4
 ·have hb : (k.kind == 4) = true := by simpa using h4
  have hr : getAtV t k = getKeyV t k.text := by unfold getAtV; rw [if_pos h4]
  have hg := getKey_ac h k.text (right_text hk)
  rw [hr]
  generalize getKeyV t k.text = r at *
  rcases r with ⟨c, _ | u⟩
  all_goals
   simp only [resA_some, resA_none] at hg ⊢
   refine wEnter Tryz.func179 Tryz.ntmps179 ?_
   refine wRUN hb ?_
   refine w9 (op_shared [] hg) trivial ?_
   refine wRUN trivial ?_
   exact wRet (ret_data []) Tryz.results179
 ·have hb : (k.kind == 4) = false := by simpa using h4
  by_cases h3 : k.kind = 3
  ·have hb3 : (k.kind == 3) = true := by simpa using h3
   have hr : getAtV t k = getIdxV t k.num := by unfold getAtV; rw [if_neg h4, if_pos h3]
   have hg := getIndex_ac h k.num (right_num hk)
   rw [hr]
   generalize getIdxV t k.num = r at *
   rcases r with ⟨c, _ | u⟩
   all_goals
    simp only [resA_some, resA_none] at hg ⊢
    refine wEnter Tryz.func179 Tryz.ntmps179 ?_
    refine wRUN (j2 hb hb3) ?_
    refine w9 (op_shared [] hg) trivial ?_
    refine wRUN trivial ?_
    exact wRet (ret_data []) Tryz.results179
  ·have hb3 : (k.kind == 3) = false := by simpa using h3
   have hr : getAtV t k = badR 6 := by unfold getAtV; rw [if_neg h4, if_neg h3]
   rw [hr, resA_bad]
   refine wEnter Tryz.func179 Tryz.ntmps179 ?_
   refine wRUN (j2 hb hb3) ?_
   refine w9 (op_shared [] (refuses_ac 6)) trivial ?_
   refine wRUN trivial ?_
   exact wRet (ret_data []) Tryz.results179
theorem getPath_drop (t u : V) (path : List V) (k : Nat) (hk : k < path.length) : getPathV u (path.drop k) = match getAtV u path[k] with
  | (_, some x) => getPathV x (path.drop (k + 1))
  | (c, none) => (c, none) := by
 rw [List.drop_eq_getElem_cons hk]
 rfl
theorem getPath_ac {t : V} (h : t.right) (path : List V) (hl : path.length ≤ 1000000) (hp : ∀ k ∈ path, k.right) : AC Tryz.prog 90 [t.av, valsA path] [] (resA (getPathV t path)) [] := by
 have hg := gives_ac h
 have h00 : ((0 : Int) != 0) = false := rfl
 refine wEnter Tryz.func90 Tryz.ntmps90 ?_
 refine wRUN trivial ?_
 refine w9 (op_shared [] hg) trivial ?_
 refine wRUN trivial ?_
 refine a_loop (κ := Nat × V) (fun x => ⟨mkS 0 25 [(4, .ptr (4, 0) 0), (5, .ptr (5, 0) 0), (10, .c (.sl (path.map V.cs))), (11, .c (.int .i64 path.length)), (12, .c (.int .i64 x.1))],
   [((4, 0), .box [.c (.int .i64 0), .c (.int .i64 0), .c (.int .i64 0), .c (.str ByteArray.empty), .c (.sl []), .c (.sl [])]), ((5, 0), .box [.c (.int .i64 0), .c (.int .i64 x.2.kind), .c (.int .i64 x.2.num), .c (.str x.2.text), .c (.sl (x.2.keys.map strCs)), .c (.sl (x.2.kids.map V.cs))])]⟩)
  (fun x => x.1 ≤ path.length ∧ x.2.right ∧ getPathV x.2 (path.drop x.1) = getPathV t path) (fun x => path.length - x.1) (0, t) ⟨Nat.zero_le _, h, rfl⟩ ?_ ?_
 ·exact wSays (Says.of [((4, 0), (4, 0)), ((5, 0), (5, 0))] []) hl
 ·rintro ⟨k, u⟩ ⟨hk, hu, hq⟩
  dsimp only at hk hu hq ⊢
  by_cases hlt : k < path.length
  ·have hd : decide ((k : Int) < (path.length : Int)) = true := by simpa using hlt
   have hr : rowsAt (path.map V.cs) 5 k = true := by simp [rowsAt, hlt, V.cs_eq]
   have hgk : (path.map V.cs)[k]? = some path[k].cs := by simp [hlt]
   have hkr := hp path[k] (List.getElem_mem hlt)
   have hw := wrap_succ (k := k) (by omega)
   rw [getPath_drop t u path k hlt] at hq
   have ha := getAt_ac hu hkr
   have hok := getAt_ok hu path[k]
   generalize getAtV u path[k] = r at *
   generalize path[k] = y at *
   rcases r with ⟨c, _ | x⟩
   ·simp only [resA_none] at ha
    have hc0 : c ≠ 0 := hok
    have hc : (c != 0) = true := by simpa using hc0
    rw [← hq, resA_none]
    refine wRUN (j3 hd hr hgk) ?_
    refine w9 (op_shared [] ha) trivial ?_
    refine wRUN hc ?_
    exact wRet (ret_data []) Tryz.results90
   ·simp only [resA_some] at ha
    refine wRUN (j3 hd hr hgk) ?_
    refine w9 (op_shared [] ha) trivial ?_
    refine wRUN (j2 h00 hw) ?_
    refine ⟨(k + 1, x), by dsimp only; omega, ⟨by dsimp only; omega, hok.2, hq⟩, ?_⟩
    exact wSays (Says.of [((4, 0), (4, 0)), ((5, 0), (5, 0))] []) hw
  ·have hd : decide ((k : Int) < (path.length : Int)) = false := by simpa using hlt
   rw [List.drop_eq_nil_of_le (by omega)] at hq
   have hq' : getPathV t path = okR u := by rw [← hq]; rfl
   rw [hq', resA_ok]
   refine wRUN hd ?_
   exact wRet (ret_data []) Tryz.results90
set_option maxRecDepth 10000
theorem ar_trees {w : World} {S : Nat → Prop} {m : Mem} {κ : Id → Value} {ks : List V} {kvs : List (List Value)} {A : Option Addr} {cv : Nat} (hc : ks.length ≤ cv) (hr : Row w S 5 A kvs) (hv : VReps w S ks kvs) : AR w S m κ (valsA ks) (.slice A ks.length cv) := by
 have h7 := crss_trees hv
 rw [csL_eq] at h7
 exact ⟨5, A, cv, kvs, by rw [List.length_map], by rw [List.length_map]; exact hc, trivial, hr, h7, rfl⟩
theorem pathOf_ac (xs : List CellD) (hz : Sized xs) {ks : List V} (h : pathDec xs = (0, some ks)) : AC Tryz.prog 160 [cellsA xs] [] (.tup [valsA ks, .c (.int .i64 0)]) [] := by
 refine AC.of_calls fun S w κ vs hv => ?_
 obtain ⟨v, vs', rfl, h1, rfl⟩ := hv
 obtain ⟨A, cap, rfl, _, hc⟩ := cr_cells.1 h1
 refine (pathOf_any xs hz A cap S w hc).mono ?_
 rintro e w' ⟨hb, he⟩
 rw [h] at he
 obtain ⟨Av, cv, kvs, rfl, h2, h3, h4⟩ := he
 exact ⟨hb, _, rfl, fun T _ hT => ⟨[_, _], rfl, _, _, rfl, ar_trees h2 (h3.weaken fun b hb _ => hT b hb) (h4.weaken fun b hb _ => hT b hb), _, _, rfl, ⟨rfl, rfl⟩, rfl⟩⟩
theorem pathOf_bad (xs : List CellD) (hz : Sized xs) {c : Int} (h : pathDec xs = (c, none)) : AC Tryz.prog 160 [cellsA xs] [] (.tup [.nils, .c (.int .i64 c)]) [] := by
 refine AC.of_calls fun S w κ vs hv => ?_
 obtain ⟨v, vs', rfl, h1, rfl⟩ := hv
 obtain ⟨A, cap, rfl, _, hc⟩ := cr_cells.1 h1
 refine (pathOf_any xs hz A cap S w hc).mono ?_
 rintro e w' ⟨hb, he⟩
 rw [h] at he
 have he' : e = .returned (.tuple #[.slice none 0 0, .int .i64 c]) := he
 subst he'
 exact ⟨hb, _, rfl, fun T _ hT => ⟨[_, _], rfl, _, _, rfl, rfl, _, _, rfl, ⟨rfl, rfl⟩, rfl⟩⟩
set_option maxRecDepth 10000
theorem right_of_dec {xs : List CellD} {t : V} (h : dec xs = (0, some t)) : xs = t.enc ∧ t.right := by
 obtain ⟨h1, h2, h3, h4⟩ := dec_ok h
 exact ⟨h1, h2, h3, h4⟩
set_option maxRecDepth 10000
theorem vfault_any {t : V} (h : t.fit) (hc : t.count ≤ 500000) : AC Tryz.prog 276 [t.av] [] (.c (.int .i64 (dec t.enc).1)) [] := by
 have h1 := count_ac t.count t (Nat.le_refl _) (by omega)
 have h2 := cells_ac t.count t (Nat.le_refl _) (by omega) (fit_neat t h)
 by_cases hb : t.count ≤ 200
 ·have hd : decide ((t.count : Int) > 200) = false := by simp; omega
  rcases dec_cases t.enc with ⟨u, hu⟩ | ⟨c, hc0, hu⟩
  ·have h3 := valOf_ac t.enc (fit_sized h) (t := u) (by rw [hu])
   rw [hu]
   refine wEnter Tryz.func276 Tryz.ntmps276 ?_
   refine wRUN trivial ?_
   refine w7 (op_data [] h1) trivial ?_
   refine wRUN hd ?_
   refine w12 (op_rowF [] h2) trivial ?_
   refine w9 (op_shared [(10, 0)] h3) trivial ?_
   refine wRUN trivial ?_
   exact wRet (ret_data []) Tryz.results276
  ·have h3 := valOf_bad t.enc (fit_sized h) (by rw [hu])
   refine wEnter Tryz.func276 Tryz.ntmps276 ?_
   refine wRUN trivial ?_
   refine w7 (op_data [] h1) trivial ?_
   refine wRUN hd ?_
   refine w12 (op_rowF [] h2) trivial ?_
   refine w9 (op_shared [(10, 0)] h3) noV_eq ?_
   refine wRUN noV_eq ?_
   exact wRet (ret_data []) Tryz.results276
 ·have hd : decide ((t.count : Int) > 200) = true := by simp; omega
  have hr : (dec t.enc).1 = 2 := by
   unfold dec
   rw [if_pos (by rw [enc_len]; omega)]
  rw [hr]
  refine wEnter Tryz.func276 Tryz.ntmps276 ?_
  refine wRUN trivial ?_
  refine w7 (op_data [] h1) trivial ?_
  refine wRUN hd ?_
  exact wRet (ret_data []) Tryz.results276
theorem gives_any {t : V} (h : t.fit) (hc : t.count ≤ 500000) : AC Tryz.prog 178 [t.av] [] (resA (giveR t)) [] := by
 have h1 := vfault_any h hc
 unfold giveR
 by_cases h0 : (dec t.enc).1 = 0
 ·rw [if_pos h0]
  have hb : ((0 : Int) != 0) = false := rfl
  rw [h0] at h1
  show AC _ _ _ _ (outA 0 t) _
  refine wEnter Tryz.func178 Tryz.ntmps178 ?_
  refine wRUN trivial ?_
  refine w7 (op_data [] h1) trivial ?_
  refine wRUN hb ?_
  exact wRet (ret_data []) Tryz.results178
 ·rw [if_neg h0]
  have hb : ((dec t.enc).1 != 0) = true := by simpa using h0
  show AC _ _ _ _ (outA (dec t.enc).1 nullV) _
  rw [outA_null]
  refine wEnter Tryz.func178 Tryz.ntmps178 ?_
  refine wRUN trivial ?_
  refine w7 (op_data [] h1) trivial ?_
  refine wRUN hb ?_
  exact wRet (ret_data []) Tryz.results178
set_option maxRecDepth 10000
theorem right_kl {t : V} (h : t.right) : t.keys.length ≤ 200 ∧ t.kids.length ≤ 200 := by
 have h1 := kids_len_le h.2.1
 refine ⟨?_, h1⟩
 by_cases h6 : t.kind = 6
 ·have := (right_asc h h6).2.2
  omega
 ·have := (right_shape h.1).2.2.2.2.1 h6
  rw [this]
  exact Nat.zero_le _
end Go.Proofs.YtamgeodhpglgkaaGreat
