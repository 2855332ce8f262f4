/- Texts of this proof: G22 G23 G25 G26 G27. -/
import Derived.Test.YtlciedpfjhkkdaaGreatDoorKG20uG21
import Derived.Test.YtlciedpfjhkkdaaGreatDoorKG04uG08
import Derived.Test.YtlciedpfjhkkdaaGreatDoorKG12uG33
import Derived.Test.YtlciedpfjhkkdaaGreatDoorKE5
import Derived.Test.YtlciedpfjhkkdaaGreatDoorKM2
set_option linter.unusedSimpArgs false
set_option linter.unusedVariables false
set_option linter.unnecessarySimpa false
set_option maxHeartbeats 8000000
namespace Go.Proofs.YtlciedpfjhkkdaaGreatDoor
open Go.RowKit
set_option maxRecDepth 10000
theorem isString_ac (s : ByteArray) (hs : s.size ≤ 9223372036854775807) : AC Tryz.prog 150 [.c (.str s)] [] (.c (.bool (okText s))) [] := by
 refine AC.of_calls fun S w κ vs hv => ?_
 obtain ⟨v, vs', rfl, ⟨rfl, _⟩, rfl⟩ := hv
 refine (isString_any s hs w).mono ?_
 rintro e w' ⟨rfl, rfl⟩
 exact ⟨Below.refl _ _, _, rfl, fun T _ _ => ⟨rfl, rfl⟩⟩
theorem within_ac (n lo hi : Int) : AC Tryz.prog 54 [.c (.int .i64 n), .c (.int .i64 lo), .c (.int .i64 hi)] [] (.c (.bool (decide (n ≥ lo) && decide (n ≤ hi)))) [] := by
 cases h1 : decide (n ≥ lo) <;> cases h2 : decide (n ≤ hi)
 all_goals
  refine wEnter Tryz.func54 Tryz.ntmps54 ?_
  refine wRUN (j2 h1 h2) ?_
  exact wRet (ret_data []) Tryz.results54
theorem right_head {t : V} (h : t.right) : (⟨t.kind, t.num, t.text, ByteArray.empty, t.kids.length⟩ : CellD).code = 0 := by
 refine cells_codes t ByteArray.empty h.1 okText_empty _ ?_
 rw [cells_head]
 simp
theorem right_num {t : V} (h : t.right) : -1000000000000000 ≤ t.num ∧ t.num ≤ 1000000000000000 := by
 have hc := right_head h
 unfold CellD.code cellCode at hc
 have hr : cR t.num (t.kids.length : Int) = false := by
  cases hh : cR t.num (t.kids.length : Int)
  ·rfl
  ·simp only [hh] at hc
   split at hc
   ·omega
   ·split at hc
    ·omega
    ·simp at hc
 simp [cR, inB] at hr
 omega
theorem right_text {t : V} (h : t.right) : okText t.text = true := (code_text (right_head h)).1
theorem getKey_ac {t : V} (h : t.right) (key : ByteArray) (hk : okText key = true) : AC Tryz.prog 106 [t.av, .c (.str key)] [] (resA (getKeyV t key)) [] := by
 have hs := isString_ac key (by have := okText_size hk; omega)
 rw [hk] at hs
 by_cases h0 : t.kind = 0
 ·have hr : getKeyV t key = okR nullV := by unfold getKeyV; rw [if_pos h0]
  have hb : (t.kind == 0) = true := by simpa using h0
  rw [hr, resA_ok]
  refine wEnter Tryz.func106 Tryz.ntmps106 ?_
  refine wRUN trivial ?_
  refine w7 (op_data [] hs) trivial ?_
  refine wRUN hb ?_
  refine w7 (op_data [] null_ac) trivial ?_
  refine w7 (op_data [] (gives_ac right_null)) trivial ?_
  refine wRUN trivial ?_
  exact wRet (ret_data []) Tryz.results106
 ·have hb : (t.kind == 0) = false := by simpa using h0
  by_cases h6 : t.kind = 6
  ·have hr : getKeyV t key = okR (t.member key) := by unfold getKeyV; rw [if_neg h0, if_pos h6]
   have hb6 : (t.kind != 6) = false := by simpa using h6
   have hm := member_ac h h6 key
   have hg := gives_ac (right_member h h6 key)
   rw [hr, resA_ok]
   generalize t.member key = u at *
   refine wEnter Tryz.func106 Tryz.ntmps106 ?_
   refine wRUN trivial ?_
   refine w7 (op_data [] hs) trivial ?_
   refine wRUN (j2 hb hb6) ?_
   refine w9 (op_shared [] hm) trivial ?_
   refine w9 (op_shared [] hg) trivial ?_
   refine wRUN trivial ?_
   exact wRet (ret_data []) Tryz.results106
  ·have hr : getKeyV t key = badR 6 := by unfold getKeyV; rw [if_neg h0, if_neg h6]
   have hb6 : (t.kind != 6) = true := by simpa using h6
   rw [hr, resA_bad]
   refine wEnter Tryz.func106 Tryz.ntmps106 ?_
   refine wRUN trivial ?_
   refine w7 (op_data [] hs) trivial ?_
   refine wRUN (j2 hb hb6) ?_
   refine w7 (op_data [] (refuses_ac 6)) trivial ?_
   refine wRUN trivial ?_
   exact wRet (ret_data []) Tryz.results106
theorem resA_some (c : Int) (t : V) : resA (c, some t) = outA 0 t := rfl
theorem resA_none (c : Int) : resA (c, none) = outA c nullV := rfl
set_option maxRecDepth 10000
theorem ar_trees {w : World} {S : Nat → Prop} {m : Mem} {κ : Id → Value} {ks : List V} {kvs : List (List Value)} {A : Option Addr} {cv : Nat} (hc : ks.length ≤ cv) (hr : Row w S 5 A kvs) (hv : VReps w S ks kvs) : AR w S m κ (valsA ks) (.slice A ks.length cv) := by
 have h7 := crss_trees hv
 rw [csL_eq] at h7
 exact ⟨5, A, cv, kvs, by rw [List.length_map], by rw [List.length_map]; exact hc, trivial, hr, h7, rfl⟩
theorem pathOf_ac (xs : List CellD) (hz : Sized xs) {ks : List V} (h : pathDec xs = (0, some ks)) : AC Tryz.prog 153 [cellsA xs] [] (.tup [valsA ks, .c (.int .i64 0)]) [] := by
 refine AC.of_calls fun S w κ vs hv => ?_
 obtain ⟨v, vs', rfl, h1, rfl⟩ := hv
 obtain ⟨A, cap, rfl, _, hc⟩ := cr_cells.1 h1
 refine (pathOf_any xs hz A cap S w hc).mono ?_
 rintro e w' ⟨hb, he⟩
 rw [h] at he
 obtain ⟨Av, cv, kvs, rfl, h2, h3, h4⟩ := he
 exact ⟨hb, _, rfl, fun T _ hT => ⟨[_, _], rfl, _, _, rfl, ar_trees h2 (h3.weaken fun b hb _ => hT b hb) (h4.weaken fun b hb _ => hT b hb), _, _, rfl, ⟨rfl, rfl⟩, rfl⟩⟩
theorem pathOf_bad (xs : List CellD) (hz : Sized xs) {c : Int} (h : pathDec xs = (c, none)) : AC Tryz.prog 153 [cellsA xs] [] (.tup [.nils, .c (.int .i64 c)]) [] := by
 refine AC.of_calls fun S w κ vs hv => ?_
 obtain ⟨v, vs', rfl, h1, rfl⟩ := hv
 obtain ⟨A, cap, rfl, _, hc⟩ := cr_cells.1 h1
 refine (pathOf_any xs hz A cap S w hc).mono ?_
 rintro e w' ⟨hb, he⟩
 rw [h] at he
 have he' : e = .returned (.tuple #[.slice none 0 0, .int .i64 c]) := he
 subst he'
 exact ⟨hb, _, rfl, fun T _ hT => ⟨[_, _], rfl, _, _, rfl, rfl, _, _, rfl, ⟨rfl, rfl⟩, rfl⟩⟩
set_option maxRecDepth 10000
theorem l3Bad_ac (c : Int) : AC Tryz.prog 172 [.c (.int .i64 c)] [] (.agg [.c (.int .i64 c), .nils]) [] := by
 refine wEnter Tryz.func172 Tryz.ntmps172 ?_
 refine wRUN trivial ?_
 exact wRet (ret_data []) Tryz.results172
theorem enc_null : nullV.enc.map CellD.cs = [[.int .i64 0, .int .i64 0, .str ByteArray.empty, .str ByteArray.empty, .int .i64 0]] := rfl
theorem l3Null_ac : AC Tryz.prog 66 [] [] (.own (0, 0)) [((0, 0), .row false 5 94 (nullV.enc.map CellD.cs))] := by
 rw [enc_null]
 refine wEnter Tryz.func66 Tryz.ntmps66 ?_
 refine wRUN trivial ?_
 (apply (ret_of [((0, 0), (2, 0))] []); (focus (simp only [Tryz.results66, go_sem, Nat.reduceBEq, Nat.reduceLT, enc_null]; exact rfl)); (focus (simp only [go_sem, Nat.reduceEqDiff, Nat.reduceAdd, Nat.reduceSub, Nat.reduceLeDiff, Nat.reduceMul, Nat.reduceBEq, Nat.reduceLT, Int.reduceToNat, reduceCtorEq, enc_null]; try (and_intros <;> rfl))); (focus exact rfl); (focus (simp only [go_sem, Nat.reduceEqDiff, Nat.reduceAdd, Nat.reduceSub, Nat.reduceLeDiff, Nat.reduceMul, Nat.reduceBEq, Nat.reduceLT, Int.reduceToNat, reduceCtorEq, enc_null]; try (and_intros <;> rfl))); (focus exact rfl); (iterate 4 (focus (simp [go_sem, enc_null]; done))))
def vrA (r : Int × Option V) : AV := match r.2 with
 | some t => .agg [.c (.int .i64 0), .c (.sl (t.enc.map CellD.cs))]
 | none => .agg [.c (.int .i64 r.1), .c (.sl [])]
theorem vrA_some (c : Int) (t : V) : vrA (c, some t) = .agg [.c (.int .i64 0), .c (.sl (t.enc.map CellD.cs))] := rfl
theorem vrA_none (c : Int) : vrA (c, none) = .agg [.c (.int .i64 c), .c (.sl [])] := rfl
theorem vrA_ok (t : V) : vrA (okR t) = .agg [.c (.int .i64 0), .c (.sl (t.enc.map CellD.cs))] := rfl
theorem vrA_bad (c : Int) : vrA (badR c) = .agg [.c (.int .i64 c), .c (.sl [])] := rfl
theorem l3Get_ac {t : V} (h : t.right) (key : ByteArray) : AC Tryz.prog 123 [cellsA t.enc, .c (.str key)] [] (vrA (getKeyV t key)) [] := by
 have hr0 : rowsAt (t.enc.map CellD.cs) 5 0 = true := by unfold rowsAt; rw [show (0 : Int).toNat = 0 from rfl, enc_head]; rfl
 have hg0 := enc_head t
 by_cases h0 : t.kind = 0
 ·have hr : getKeyV t key = okR nullV := by unfold getKeyV; rw [if_pos h0]
  have hb : (t.kind == 0) = true := by simpa using h0
  rw [hr, vrA_ok]
  refine wEnter Tryz.func123 Tryz.ntmps123 ?_
  refine wRUN (j3 hr0 hg0 hb) ?_
  refine w12 (op_rowT [] l3Null_ac) trivial ?_
  refine wRUN trivial ?_
  exact wRetOf (ret_of [] [(12, 0)]) Tryz.results123 hb
 ·have hb : (t.kind == 0) = false := by simpa using h0
  by_cases h6 : t.kind = 6
  ·have hb6 : (t.kind != 6) = false := by simpa using h6
   obtain ⟨hs, _, hkl⟩ := right_asc h h6
   have hkn := kids_len_le h.2.1
   have hkeys := l1Keys_ac h.1 h.2.1
   have hparts := l1Parts_ac h.1 h.2.1
   have hkat : ∀ i (hi : i < t.keys.length), t.keyAt i = t.keys[i] := fun i hi => by
    unfold V.keyAt
    rw [if_pos h6, List.drop_eq_getElem_cons hi]
    rfl
   have hr : getKeyV t key = okR (t.member key) := by unfold getKeyV; rw [if_neg h0, if_pos h6]
   rw [hr, vrA_ok]
   refine wEnter Tryz.func123 Tryz.ntmps123 ?_
   refine wRUN (j4 hr0 hg0 hb hb6) ?_
   refine w9 (op_shared [] hkeys) trivial ?_
   refine wRUN trivial ?_
   refine a_loop (κ := Nat) (fun k => ⟨mkS 0 42 [(0, cellsA t.enc), (1, .c (.str key)), (4, .ptr (4, 0) 0), (5, .c (.sl ((keysOf t t.kids.length).map strCs))), (6, .c (.int .i64 k))], [((4, 0), .box [.c (.int .i64 0), .nils])]⟩)
    (fun k => k ≤ t.kids.length ∧ ∀ j (hj : j < t.keys.length), j < k → t.keys[j].toList ≠ key.toList) (fun k => t.kids.length - k) 0 ⟨Nat.zero_le _, by intro j _ hj; omega⟩ ?_ ?_
   ·exact wSays (Says.of [((4, 0), (4, 0))] []) hb
   ·rintro k ⟨hk, hno⟩
    have hkol : (keysOf t t.kids.length).length = t.kids.length := keysOf_len t _
    by_cases hlt : k < t.kids.length
    ·have hd : decide ((k : Int) < (t.kids.length : Int)) = true := by simpa using hlt
     have hw := wrap_succ (k := k) (by omega)
     have hr2 : rowsAt ((keysOf t t.kids.length).map strCs) 1 k = true := by simp [rowsAt, keysOf, hlt, strCs]
     have hg2 : ((keysOf t t.kids.length).map strCs)[k]? = some [.str t.keys[k]] := by simp [keysOf, hlt, strCs, hkat k (by omega)]
     have hr3 : rowsAt ((t.kids.map V.enc).map encCs) 1 k = true := by simp [rowsAt, hlt, encCs]
     have hg3 : ((t.kids.map V.enc).map encCs)[k]? = some [.sl (t.kids[k].enc.map CellD.cs)] := by simp [hlt, encCs]
     cases he : t.keys[k].toList == key.toList with
     | true =>
      have hm : t.member key = t.kids[k] := by
       unfold V.member findKey
       rw [List.findIdx?_eq_some_iff_getElem.2 ⟨by omega, he, fun j hj => by simpa using hno j (by omega) hj⟩]
       simp only
       rw [List.getD_eq_getElem?_getD, List.getElem?_eq_getElem hlt, Option.getD_some]
      rw [hm]
      generalize t.kids[k] = u at *
      refine wRUN (j5 hkol hd hr2 hg2 he) ?_
      refine w9 (op_shared [] hparts) trivial ?_
      refine wRUN (j2 hr3 hg3) ?_
      exact wRet (ret_data []) Tryz.results123
     | false =>
      refine wRUN (j6 hkol hd hr2 hg2 he hw) ?_
      refine ⟨k + 1, by omega, ⟨by omega, fun j hj hjk => ?_⟩, ?_⟩
      ·by_cases hjk' : j = k
       ·subst hjk'; simpa using he
       ·exact hno j hj (by omega)
      ·exact wSays (Says.of [((4, 0), (4, 0))] []) hb
    ·have hd : decide ((k : Int) < (t.kids.length : Int)) = false := by simpa using hlt
     have hm : t.member key = nullV := by
      unfold V.member findKey
      rw [List.findIdx?_eq_none_iff.2 fun x hx => by
       obtain ⟨i, hi, rfl⟩ := List.getElem_of_mem hx
       simpa using hno i hi (by omega)]
     rw [hm]
     refine wRUN (j2 hkol hd) ?_
     refine w12 (op_rowT [] l3Null_ac) trivial ?_
     refine wRUN trivial ?_
     exact wRetOf (ret_of [] [(40, 0)]) Tryz.results123 hb
  ·have hr : getKeyV t key = badR 6 := by unfold getKeyV; rw [if_neg h0, if_neg h6]
   have hb6 : (t.kind != 6) = true := by simpa using h6
   rw [hr, vrA_bad]
   refine wEnter Tryz.func123 Tryz.ntmps123 ?_
   refine wRUN (j4 hr0 hg0 hb hb6) ?_
   refine w7 (op_data [] (l3Bad_ac 6)) trivial ?_
   refine wRUN trivial ?_
   exact wRet (ret_data []) Tryz.results123
set_option maxRecDepth 10000
theorem l1In_ac (n lo hi : Int) : AC Tryz.prog 115 [.c (.int .i64 n), .c (.int .i64 lo), .c (.int .i64 hi)] [] (.c (.bool (decide (n ≥ lo) && decide (n ≤ hi)))) [] := by
 cases h1 : decide (n ≥ lo) <;> cases h2 : decide (n ≤ hi)
 all_goals
  refine wEnter Tryz.func115 Tryz.ntmps115 ?_
  refine wRUN (j2 h1 h2) ?_
  exact wRet (ret_data []) Tryz.results115
set_option maxRecDepth 10000
theorem specPath_ac (ps : List CellD) : AC Tryz.prog 170 [cellsA ps] [] (.c (.int .i64 (pathDec ps).1)) [] := by
 refine AC.of_calls fun S w κ vs hv => ?_
 obtain ⟨v, vs', rfl, h1, rfl⟩ := hv
 obtain ⟨A, cap, rfl, hcap, hc⟩ := cr_cells.1 h1
 refine (specPathFault_any ps A cap hcap S w hc).mono ?_
 rintro e w' ⟨rfl, hb⟩
 exact ⟨hb, _, rfl, fun T _ _ => ⟨rfl, rfl⟩⟩
end Go.Proofs.YtlciedpfjhkkdaaGreatDoor
