/- Texts of this proof: G49 G22 G23 G24 G50 G51 G52. -/
import Derived.Test.YtlciedpfjhkkdaaGreatDoorKE6
import Derived.Test.YtlciedpfjhkkdaaGreatDoorKG8
import Derived.Test.YtlciedpfjhkkdaaGreatDoorKG21uM3
import Derived.Test.YtlciedpfjhkkdaaGreatDoorKM2
set_option linter.unusedSimpArgs false
set_option linter.unusedVariables false
set_option linter.unnecessarySimpa false
set_option maxHeartbeats 8000000
namespace Go.Proofs.YtlciedpfjhkkdaaGreatDoor
open Go.RowKit
set_option maxRecDepth 10000
theorem cloneStrs_ac (l : List ByteArray) (hl : l.length ≤ 1000000) : AC Tryz.prog 157 [.c (.sl (l.map strCs))] [] (.own (0, 0)) [((0, 0), .row false 1 9 (l.map strCs))] := by
 have ha := all_strs l
 have hl0 : 0 + l.length ≤ 1000000 := by omega
 refine wEnter Tryz.func157 Tryz.ntmps157 ?_
 refine wRUN1 trivial ?_
 refine a_region ?_
 refine wRUN1 trivial ?_
 refine a_regionN ?_
 (repeat ((with_reducible apply n_eff); (iterate 2 (focus (first | (simp only [go_sem, Nat.reduceEqDiff, Nat.reduceAdd, Nat.reduceSub, Nat.reduceLeDiff, Nat.reduceMul, Nat.reduceBEq, Nat.reduceLT, Int.reduceToNat, reduceCtorEq]; first | done | exact rfl | (and_intros <;> rfl)) | exact rfl | decide)))))
 (apply n_isnil; (focus (first | (simp only [go_sem, Nat.reduceEqDiff, Nat.reduceAdd, Nat.reduceSub, Nat.reduceLeDiff, Nat.reduceMul, Nat.reduceBEq, Nat.reduceLT, Int.reduceToNat, reduceCtorEq]; first | done | exact rfl | (and_intros <;> rfl)) | exact rfl | decide)); (focus (first | (simp only [go_sem, Nat.reduceEqDiff, Nat.reduceAdd, Nat.reduceSub, Nat.reduceLeDiff, Nat.reduceMul, Nat.reduceBEq, Nat.reduceLT, Int.reduceToNat, reduceCtorEq]; first | done | exact rfl | (and_intros <;> rfl)) | exact rfl | decide)); (focus (first | (simp only [go_sem, Nat.reduceEqDiff, Nat.reduceAdd, Nat.reduceSub, Nat.reduceLeDiff, Nat.reduceMul, Nat.reduceBEq, Nat.reduceLT, Int.reduceToNat, reduceCtorEq]; first | done | exact rfl | (and_intros <;> rfl)) | exact rfl | decide)); (focus (first | (simp only [go_sem, Nat.reduceEqDiff, Nat.reduceAdd, Nat.reduceSub, Nat.reduceLeDiff, Nat.reduceMul, Nat.reduceBEq, Nat.reduceLT, Int.reduceToNat, reduceCtorEq]; first | done | exact rfl | (and_intros <;> rfl)) | exact rfl | decide)); (focus (first | (simp only [go_sem, Nat.reduceEqDiff, Nat.reduceAdd, Nat.reduceSub, Nat.reduceLeDiff, Nat.reduceMul, Nat.reduceBEq, Nat.reduceLT, Int.reduceToNat, reduceCtorEq]; first | done | exact rfl | (and_intros <;> rfl)) | exact rfl | decide)))
 ·intro hnil
  have hnil2 : l = [] := List.map_eq_nil_iff.1 hnil
  subst hnil2
  refine n_nil ?_
  dsimp only
  refine wRUN trivial ?_
  exact wRetOf (ret_of [] []) Tryz.results157 @List.map_nil.{0,0}
 ·refine n_nil ?_
  dsimp only
  refine wRUN (j3 hl ha hl0) ?_
  exact wRetOf (ret_of [((0, 0), (7, 0))] []) Tryz.results157 hl
theorem cloneVals_ac (l : List V) (hl : l.length ≤ 1000000) : AC Tryz.prog 56 [.c (.sl (l.map V.cs))] [] (.own (0, 0)) [((0, 0), .row false 5 62 (l.map V.cs))] := by
 have ha := all_trees l
 have hl0 : 0 + l.length ≤ 1000000 := by omega
 refine wEnter Tryz.func56 Tryz.ntmps56 ?_
 refine wRUN1 trivial ?_
 refine a_region ?_
 refine wRUN1 trivial ?_
 refine a_regionN ?_
 (repeat ((with_reducible apply n_eff); (iterate 2 (focus (first | (simp only [go_sem, Nat.reduceEqDiff, Nat.reduceAdd, Nat.reduceSub, Nat.reduceLeDiff, Nat.reduceMul, Nat.reduceBEq, Nat.reduceLT, Int.reduceToNat, reduceCtorEq]; first | done | exact rfl | (and_intros <;> rfl)) | exact rfl | decide)))))
 (apply n_isnil; (focus (first | (simp only [go_sem, Nat.reduceEqDiff, Nat.reduceAdd, Nat.reduceSub, Nat.reduceLeDiff, Nat.reduceMul, Nat.reduceBEq, Nat.reduceLT, Int.reduceToNat, reduceCtorEq]; first | done | exact rfl | (and_intros <;> rfl)) | exact rfl | decide)); (focus (first | (simp only [go_sem, Nat.reduceEqDiff, Nat.reduceAdd, Nat.reduceSub, Nat.reduceLeDiff, Nat.reduceMul, Nat.reduceBEq, Nat.reduceLT, Int.reduceToNat, reduceCtorEq]; first | done | exact rfl | (and_intros <;> rfl)) | exact rfl | decide)); (focus (first | (simp only [go_sem, Nat.reduceEqDiff, Nat.reduceAdd, Nat.reduceSub, Nat.reduceLeDiff, Nat.reduceMul, Nat.reduceBEq, Nat.reduceLT, Int.reduceToNat, reduceCtorEq]; first | done | exact rfl | (and_intros <;> rfl)) | exact rfl | decide)); (focus (first | (simp only [go_sem, Nat.reduceEqDiff, Nat.reduceAdd, Nat.reduceSub, Nat.reduceLeDiff, Nat.reduceMul, Nat.reduceBEq, Nat.reduceLT, Int.reduceToNat, reduceCtorEq]; first | done | exact rfl | (and_intros <;> rfl)) | exact rfl | decide)); (focus (first | (simp only [go_sem, Nat.reduceEqDiff, Nat.reduceAdd, Nat.reduceSub, Nat.reduceLeDiff, Nat.reduceMul, Nat.reduceBEq, Nat.reduceLT, Int.reduceToNat, reduceCtorEq]; first | done | exact rfl | (and_intros <;> rfl)) | exact rfl | decide)))
 ·intro hnil
  have hnil2 : l = [] := List.map_eq_nil_iff.1 hnil
  subst hnil2
  refine n_nil ?_
  dsimp only
  refine wRUN trivial ?_
  exact wRetOf (ret_of [] []) Tryz.results56 @List.map_nil.{0,0}
 ·refine n_nil ?_
  dsimp only
  refine wRUN (j3 hl ha hl0) ?_
  exact wRetOf (ret_of [((0, 0), (7, 0))] []) Tryz.results56 hl
set_option maxRecDepth 10000
theorem isString_ac (s : ByteArray) (hs : s.size ≤ 9223372036854775807) : AC Tryz.prog 150 [.c (.str s)] [] (.c (.bool (okText s))) [] := by
 refine AC.of_calls fun S w κ vs hv => ?_
 obtain ⟨v, vs', rfl, ⟨rfl, _⟩, rfl⟩ := hv
 refine (isString_any s hs w).mono ?_
 rintro e w' ⟨rfl, rfl⟩
 exact ⟨Below.refl _ _, _, rfl, fun T _ _ => ⟨rfl, rfl⟩⟩
theorem within_ac (n lo hi : Int) : AC Tryz.prog 54 [.c (.int .i64 n), .c (.int .i64 lo), .c (.int .i64 hi)] [] (.c (.bool (decide (n ≥ lo) && decide (n ≤ hi)))) [] := by
 cases h1 : decide (n ≥ lo) <;> cases h2 : decide (n ≤ hi)
 all_goals
  refine wEnter Tryz.func54 Tryz.ntmps54 ?_
  refine wRUN (j2 h1 h2) ?_
  exact wRet (ret_data []) Tryz.results54
theorem right_head {t : V} (h : t.right) : (⟨t.kind, t.num, t.text, ByteArray.empty, t.kids.length⟩ : CellD).code = 0 := by
 refine cells_codes t ByteArray.empty h.1 okText_empty _ ?_
 rw [cells_head]
 simp
theorem right_num {t : V} (h : t.right) : -1000000000000000 ≤ t.num ∧ t.num ≤ 1000000000000000 := by
 have hc := right_head h
 unfold CellD.code cellCode at hc
 have hr : cR t.num (t.kids.length : Int) = false := by
  cases hh : cR t.num (t.kids.length : Int)
  ·rfl
  ·simp only [hh] at hc
   split at hc
   ·omega
   ·split at hc
    ·omega
    ·simp at hc
 simp [cR, inB] at hr
 omega
theorem right_text {t : V} (h : t.right) : okText t.text = true := (code_text (right_head h)).1
theorem getKey_ac {t : V} (h : t.right) (key : ByteArray) (hk : okText key = true) : AC Tryz.prog 106 [t.av, .c (.str key)] [] (resA (getKeyV t key)) [] := by
 have hs := isString_ac key (by have := okText_size hk; omega)
 rw [hk] at hs
 by_cases h0 : t.kind = 0
 ·have hr : getKeyV t key = okR nullV := by unfold getKeyV; rw [if_pos h0]
  have hb : (t.kind == 0) = true := by simpa using h0
  rw [hr, resA_ok]
  refine wEnter Tryz.func106 Tryz.ntmps106 ?_
  refine wRUN trivial ?_
  refine w7 (op_data [] hs) trivial ?_
  refine wRUN hb ?_
  refine w7 (op_data [] null_ac) trivial ?_
  refine w7 (op_data [] (gives_ac right_null)) trivial ?_
  refine wRUN trivial ?_
  exact wRet (ret_data []) Tryz.results106
 ·have hb : (t.kind == 0) = false := by simpa using h0
  by_cases h6 : t.kind = 6
  ·have hr : getKeyV t key = okR (t.member key) := by unfold getKeyV; rw [if_neg h0, if_pos h6]
   have hb6 : (t.kind != 6) = false := by simpa using h6
   have hm := member_ac h h6 key
   have hg := gives_ac (right_member h h6 key)
   rw [hr, resA_ok]
   generalize t.member key = u at *
   refine wEnter Tryz.func106 Tryz.ntmps106 ?_
   refine wRUN trivial ?_
   refine w7 (op_data [] hs) trivial ?_
   refine wRUN (j2 hb hb6) ?_
   refine w9 (op_shared [] hm) trivial ?_
   refine w9 (op_shared [] hg) trivial ?_
   refine wRUN trivial ?_
   exact wRet (ret_data []) Tryz.results106
  ·have hr : getKeyV t key = badR 6 := by unfold getKeyV; rw [if_neg h0, if_neg h6]
   have hb6 : (t.kind != 6) = true := by simpa using h6
   rw [hr, resA_bad]
   refine wEnter Tryz.func106 Tryz.ntmps106 ?_
   refine wRUN trivial ?_
   refine w7 (op_data [] hs) trivial ?_
   refine wRUN (j2 hb hb6) ?_
   refine w7 (op_data [] (refuses_ac 6)) trivial ?_
   refine wRUN trivial ?_
   exact wRet (ret_data []) Tryz.results106
theorem resA_some (c : Int) (t : V) : resA (c, some t) = outA 0 t := rfl
theorem resA_none (c : Int) : resA (c, none) = outA c nullV := rfl
set_option maxRecDepth 10000
theorem ar_trees {w : World} {S : Nat → Prop} {m : Mem} {κ : Id → Value} {ks : List V} {kvs : List (List Value)} {A : Option Addr} {cv : Nat} (hc : ks.length ≤ cv) (hr : Row w S 5 A kvs) (hv : VReps w S ks kvs) : AR w S m κ (valsA ks) (.slice A ks.length cv) := by
 have h7 := crss_trees hv
 rw [csL_eq] at h7
 exact ⟨5, A, cv, kvs, by rw [List.length_map], by rw [List.length_map]; exact hc, trivial, hr, h7, rfl⟩
theorem pathOf_ac (xs : List CellD) (hz : Sized xs) {ks : List V} (h : pathDec xs = (0, some ks)) : AC Tryz.prog 153 [cellsA xs] [] (.tup [valsA ks, .c (.int .i64 0)]) [] := by
 refine AC.of_calls fun S w κ vs hv => ?_
 obtain ⟨v, vs', rfl, h1, rfl⟩ := hv
 obtain ⟨A, cap, rfl, _, hc⟩ := cr_cells.1 h1
 refine (pathOf_any xs hz A cap S w hc).mono ?_
 rintro e w' ⟨hb, he⟩
 rw [h] at he
 obtain ⟨Av, cv, kvs, rfl, h2, h3, h4⟩ := he
 exact ⟨hb, _, rfl, fun T _ hT => ⟨[_, _], rfl, _, _, rfl, ar_trees h2 (h3.weaken fun b hb _ => hT b hb) (h4.weaken fun b hb _ => hT b hb), _, _, rfl, ⟨rfl, rfl⟩, rfl⟩⟩
theorem pathOf_bad (xs : List CellD) (hz : Sized xs) {c : Int} (h : pathDec xs = (c, none)) : AC Tryz.prog 153 [cellsA xs] [] (.tup [.nils, .c (.int .i64 c)]) [] := by
 refine AC.of_calls fun S w κ vs hv => ?_
 obtain ⟨v, vs', rfl, h1, rfl⟩ := hv
 obtain ⟨A, cap, rfl, _, hc⟩ := cr_cells.1 h1
 refine (pathOf_any xs hz A cap S w hc).mono ?_
 rintro e w' ⟨hb, he⟩
 rw [h] at he
 have he' : e = .returned (.tuple #[.slice none 0 0, .int .i64 c]) := he
 subst he'
 exact ⟨hb, _, rfl, fun T _ hT => ⟨[_, _], rfl, _, _, rfl, rfl, _, _, rfl, ⟨rfl, rfl⟩, rfl⟩⟩
set_option maxRecDepth 10000
theorem right_of_dec {xs : List CellD} {t : V} (h : dec xs = (0, some t)) : xs = t.enc ∧ t.right := by
 obtain ⟨h1, h2, h3, h4⟩ := dec_ok h
 exact ⟨h1, h2, h3, h4⟩
set_option maxRecDepth 10000
theorem vfault_any {t : V} (h : t.fit) (hc : t.count ≤ 500000) : AC Tryz.prog 151 [t.av] [] (.c (.int .i64 (dec t.enc).1)) [] := by
 have h1 := count_ac t.count t (Nat.le_refl _) (by omega)
 have h2 := cells_ac t.count t (Nat.le_refl _) (by omega) (fit_neat t h)
 by_cases hb : t.count ≤ 200
 ·have hd : decide ((t.count : Int) > 200) = false := by simp; omega
  rcases dec_cases t.enc with ⟨u, hu⟩ | ⟨c, hc0, hu⟩
  ·have h3 := valOf_ac t.enc (fit_sized h) (t := u) (by rw [hu])
   rw [hu]
   refine wEnter Tryz.func151 Tryz.ntmps151 ?_
   refine wRUN trivial ?_
   refine w7 (op_data [] h1) trivial ?_
   refine wRUN hd ?_
   refine w12 (op_rowF [] h2) trivial ?_
   refine w9 (op_shared [(10, 0)] h3) trivial ?_
   refine wRUN trivial ?_
   exact wRet (ret_data []) Tryz.results151
  ·have h3 := valOf_bad t.enc (fit_sized h) (by rw [hu])
   refine wEnter Tryz.func151 Tryz.ntmps151 ?_
   refine wRUN trivial ?_
   refine w7 (op_data [] h1) trivial ?_
   refine wRUN hd ?_
   refine w12 (op_rowF [] h2) trivial ?_
   refine w9 (op_shared [(10, 0)] h3) noV_eq ?_
   refine wRUN noV_eq ?_
   exact wRet (ret_data []) Tryz.results151
 ·have hd : decide ((t.count : Int) > 200) = true := by simp; omega
  have hr : (dec t.enc).1 = 2 := by
   unfold dec
   rw [if_pos (by rw [enc_len]; omega)]
  rw [hr]
  refine wEnter Tryz.func151 Tryz.ntmps151 ?_
  refine wRUN trivial ?_
  refine w7 (op_data [] h1) trivial ?_
  refine wRUN hd ?_
  exact wRet (ret_data []) Tryz.results151
theorem gives_any {t : V} (h : t.fit) (hc : t.count ≤ 500000) : AC Tryz.prog 104 [t.av] [] (resA (giveR t)) [] := by
 have h1 := vfault_any h hc
 unfold giveR
 by_cases h0 : (dec t.enc).1 = 0
 ·rw [if_pos h0]
  have hb : ((0 : Int) != 0) = false := rfl
  rw [h0] at h1
  show AC _ _ _ _ (outA 0 t) _
  refine wEnter Tryz.func104 Tryz.ntmps104 ?_
  refine wRUN trivial ?_
  refine w7 (op_data [] h1) trivial ?_
  refine wRUN hb ?_
  exact wRet (ret_data []) Tryz.results104
 ·rw [if_neg h0]
  have hb : ((dec t.enc).1 != 0) = true := by simpa using h0
  show AC _ _ _ _ (outA (dec t.enc).1 nullV) _
  rw [outA_null]
  refine wEnter Tryz.func104 Tryz.ntmps104 ?_
  refine wRUN trivial ?_
  refine w7 (op_data [] h1) trivial ?_
  refine wRUN hb ?_
  exact wRet (ret_data []) Tryz.results104
set_option maxRecDepth 10000
theorem right_kl {t : V} (h : t.right) : t.keys.length ≤ 200 ∧ t.kids.length ≤ 200 := by
 have h1 := kids_len_le h.2.1
 refine ⟨?_, h1⟩
 by_cases h6 : t.kind = 6
 ·have := (right_asc h h6).2.2
  omega
 ·have := (right_shape h.1).2.2.2.2.1 h6
  rw [this]
  exact Nat.zero_le _
end Go.Proofs.YtlciedpfjhkkdaaGreatDoor
