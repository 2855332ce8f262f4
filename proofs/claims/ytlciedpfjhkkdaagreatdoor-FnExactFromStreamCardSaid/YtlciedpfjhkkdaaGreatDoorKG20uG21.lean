/- Texts of this proof: G20 G21. -/
import Derived.Test.YtlciedpfjhkkdaaGreatDoorKG04uG08
import Derived.Test.YtlciedpfjhkkdaaGreatDoorKE5
import Derived.Test.YtlciedpfjhkkdaaGreatDoorKM2
import Derived.Test.YtlciedpfjhkkdaaGreatDoorKB3
set_option linter.unusedSimpArgs false
set_option linter.unusedVariables false
set_option linter.unnecessarySimpa false
set_option maxHeartbeats 8000000
namespace Go.Proofs.YtlciedpfjhkkdaaGreatDoor
open Go.RowKit
def outA (c : Int) (t : V) : AV := .agg [.c (.int .i64 c), .c (.int .i64 t.kind), .c (.int .i64 t.num), .c (.str t.text), .c (.sl (t.keys.map strCs)), .c (.sl (t.kids.map V.cs))]
def resA (r : Int × Option V) : AV := match r.2 with
 | some t => outA 0 t
 | none => outA r.1 nullV
theorem outA_eq (c : Int) (t : V) : outA c t = .agg [.c (.int .i64 c), .c (.int .i64 t.kind), .c (.int .i64 t.num), .c (.str t.text), .c (.sl (t.keys.map strCs)), .c (.sl (t.kids.map V.cs))] := rfl
theorem outA_null (c : Int) : outA c nullV = .agg [.c (.int .i64 c), .c (.int .i64 0), .c (.int .i64 0), .c (.str ByteArray.empty), .c (.sl []), .c (.sl [])] := rfl
theorem resA_ok (t : V) : resA (okR t) = outA 0 t := rfl
theorem resA_bad (c : Int) : resA (badR c) = outA c nullV := rfl
theorem nullV_av : nullV.av = .agg [.c (.int .i64 0), .c (.int .i64 0), .c (.str ByteArray.empty), .c (.sl []), .c (.sl [])] := rfl
attribute [go_sem] outA_eq
set_option maxRecDepth 10000
theorem null_ac : AC Tryz.prog 51 [] [] nullV.av [] := by
 rw [nullV_av]
 refine wEnter Tryz.func51 Tryz.ntmps51 ?_
 refine wRUN trivial ?_
 exact wRet (ret_data []) Tryz.results51
theorem refuses_ac (c : Int) : AC Tryz.prog 154 [.c (.int .i64 c)] [] (outA c nullV) [] := by
 rw [outA_null]
 refine wEnter Tryz.func154 Tryz.ntmps154 ?_
 refine wRUN trivial ?_
 exact wRet (ret_data []) Tryz.results154
theorem count_ac : ∀ (m : Nat) (t : V), t.count ≤ m → t.count ≤ 500000 → AC Tryz.prog 82 [t.av] [] (.c (.int .i64 t.count)) [] := by
 intro m
 induction m with
 | zero => intro t hm _; have := count_pos t; omega
 | succ m ih =>
  intro t hm hM
  have hkc := count_kids t
  have hkl := countL_len t.kids
  obtain ⟨R, hR⟩ : ∃ R : Nat → Nat, ∀ k, R k = 1 + countL (t.kids.take k) := ⟨_, fun _ => rfl⟩
  have h0 : R 0 = 1 := by rw [hR]; simp [countL]
  refine wEnter Tryz.func82 Tryz.ntmps82 ?_
  refine wRUN trivial ?_
  refine a_loop (κ := Nat) (fun k => ⟨mkS 0 19 [(1, .ptr (1, 0) 0), (3, .c (.int .i64 (R k))), (7, .c (.sl (t.kids.map V.cs))), (8, .c (.int .i64 t.kids.length)), (9, .c (.int .i64 k))],
    [((1, 0), .box [.c (.int .i64 t.kind), .c (.int .i64 t.num), .c (.str t.text), .c (.sl (t.keys.map strCs)), .c (.sl (t.kids.map V.cs))])]⟩)
   (fun k => k ≤ t.kids.length) (fun k => t.kids.length - k) 0 (Nat.zero_le _) ?_ ?_
  ·exact wSays (Says.of [((1, 0), (1, 0))] []) h0
  ·intro k hk
   by_cases hlt : k < t.kids.length
   ·have hd : decide ((k : Int) < (t.kids.length : Int)) = true := by simpa using hlt
    have hr : rowsAt (t.kids.map V.cs) 5 k = true := by simp [rowsAt, hlt, V.cs_eq]
    have hg : (t.kids.map V.cs)[k]? = some t.kids[k].cs := by simp [hlt]
    have hmem := countL_mem (List.getElem_mem hlt)
    have hRk : R (k + 1) = R k + t.kids[k].count := by rw [hR, hR, List.take_succ_eq_append_getElem hlt, countL_snoc]; omega
    have hRl : R (k + 1) ≤ t.count := by rw [hR]; have := countL_take_le t.kids (k + 1); omega
    have hw := wrap_succ (k := k) (by omega)
    generalize t.kids[k] = u at *
    have hi := ih u (by omega) (by omega)
    have hs : IntKind.i64.wrap ((R k : Int) + (u.count : Int)) = ((R (k + 1) : Nat) : Int) := by rw [IntWalk.i64_in _ (by omega)]; omega
    refine wRUN (j3 hd hr hg) ?_
    refine w7 (op_data [] hi) trivial ?_
    refine wRUN (j2 hs hw) ?_
    refine ⟨k + 1, by omega, by omega, ?_⟩
    exact wSays (Says.of [((1, 0), (1, 0))] []) hs
   ·have hd : decide ((k : Int) < (t.kids.length : Int)) = false := by simpa using hlt
    have hke : R k = t.count := by rw [hR, List.take_of_length_le (by omega)]; omega
    refine wRUN hd ?_
    exact ret_data [] (by simp only [Tryz.results82, go_sem, Nat.reduceBEq, Nat.reduceLT]; exact rfl) (by simp only [go_sem, Nat.reduceEqDiff, Nat.reduceAdd, Nat.reduceSub, Nat.reduceLeDiff, Nat.reduceMul, Nat.reduceBEq, Nat.reduceLT, Int.reduceToNat, reduceCtorEq, hke]) rfl
theorem okText_size {s : ByteArray} (h : okText s = true) : s.size ≤ 60 := by
 unfold okText at h
 simp only [Bool.and_eq_true, decide_eq_true_eq] at h
 exact h.1
theorem right_sized {t : V} (h : t.right) : Sized t.enc := by
 intro c hc
 have h1 := cells_codes t ByteArray.empty h.1 okText_empty c hc
 have h2 := code_text h1
 exact ⟨by have := okText_size h2.1; omega, by have := okText_size h2.2; omega⟩
theorem vfault_ac {t : V} (h : t.right) : AC Tryz.prog 151 [t.av] [] (.c (.int .i64 0)) [] := by
 have hc := h.2.1
 have h1 := count_ac t.count t (Nat.le_refl _) (by omega)
 have h2 := cells_ac t.count t (Nat.le_refl _) (by omega) (right_neat h)
 have h3 := valOf_ac t.enc (right_sized h) (t := t) (by rw [right_dec h])
 have hd : decide ((t.count : Int) > 200) = false := by simp; omega
 refine wEnter Tryz.func151 Tryz.ntmps151 ?_
 refine wRUN trivial ?_
 refine w7 (op_data [] h1) trivial ?_
 refine wRUN hd ?_
 refine w12 (op_rowF [] h2) trivial ?_
 refine w9 (op_shared [(10, 0)] h3) trivial ?_
 refine wRUN trivial ?_
 exact wRet (ret_data []) Tryz.results151
theorem gives_ac {t : V} (h : t.right) : AC Tryz.prog 104 [t.av] [] (outA 0 t) [] := by
 have h1 := vfault_ac h
 have h0 : ((0 : Int) != 0) = false := rfl
 refine wEnter Tryz.func104 Tryz.ntmps104 ?_
 refine wRUN trivial ?_
 refine w7 (op_data [] h1) trivial ?_
 refine wRUN h0 ?_
 exact wRet (ret_data []) Tryz.results104
set_option maxRecDepth 10000
theorem isNaNc_ac (s : ByteArray) : AC Tryz.prog 218 [.c (.str s)] [] (.c (.bool false)) [] := by
 refine wEnter Tryz.func218 Tryz.ntmps218 ?_
 (repeat (first | (with_reducible first | refine a_seq ?_ | refine a_region ?_ | refine a_block ?_ | refine a_scope ?_) | ((with_reducible apply op_any); (iterate 2 (focus (first | (simp only [go_sem, Nat.reduceEqDiff, Nat.reduceAdd, Nat.reduceSub, Nat.reduceLeDiff, Nat.reduceMul, Nat.reduceBEq, Nat.reduceLT, Int.reduceToNat, reduceCtorEq, beq_self_eq_true]; first | done | exact rfl | (and_intros <;> rfl)) | exact rfl | decide)))) | ((with_reducible refine o_nil ?_); dsimp only; try ((with_reducible apply o_draw); (focus (simp only [go_sem]; exact rfl)); (focus decide))) | ((with_reducible first | refine a_ret ?_ | refine a_skip ?_ | refine a_label ?_); dsimp only) | ((with_reducible refine a_exit ?_); dsimp only; simp only [if_true, if_false, Nat.reduceEqDiff]) | ((with_reducible apply a_if); (focus (simp only [go_sem, Nat.reduceBEq, Nat.reduceLT, beq_self_eq_true]; exact rfl)); dsimp only [cond_true, cond_false]) | ((with_reducible refine a_draw ?_ ?_); (focus exact rfl))))
 exact wRet (ret_data []) Tryz.results218
theorem isNaNs_ac (s : ByteArray) : AC Tryz.prog 215 [.c (.str s)] [] (.c (.bool false)) [] := by
 refine wEnter Tryz.func215 Tryz.ntmps215 ?_
 (repeat (first | (with_reducible first | refine a_seq ?_ | refine a_region ?_ | refine a_block ?_ | refine a_scope ?_) | ((with_reducible apply op_any); (iterate 2 (focus (first | (simp only [go_sem, Nat.reduceEqDiff, Nat.reduceAdd, Nat.reduceSub, Nat.reduceLeDiff, Nat.reduceMul, Nat.reduceBEq, Nat.reduceLT, Int.reduceToNat, reduceCtorEq, beq_self_eq_true]; first | done | exact rfl | (and_intros <;> rfl)) | exact rfl | decide)))) | ((with_reducible refine o_nil ?_); dsimp only; try ((with_reducible apply o_draw); (focus (simp only [go_sem]; exact rfl)); (focus decide))) | ((with_reducible first | refine a_ret ?_ | refine a_skip ?_ | refine a_label ?_); dsimp only) | ((with_reducible refine a_exit ?_); dsimp only; simp only [if_true, if_false, Nat.reduceEqDiff]) | ((with_reducible apply a_if); (focus (simp only [go_sem, Nat.reduceBEq, Nat.reduceLT, beq_self_eq_true]; exact rfl)); dsimp only [cond_true, cond_false]) | ((with_reducible refine a_draw ?_ ?_); (focus exact rfl))))
 exact wRet (ret_data []) Tryz.results215
theorem cmpLess_ac (a b : ByteArray) : AC Tryz.prog 214 [.c (.str a), .c (.str b)] [] (.c (.bool (lessB a b))) [] := by
 refine wEnter Tryz.func214 Tryz.ntmps214 ?_
 refine wRUN trivial ?_
 refine w7 (op_data [] (isNaNc_ac a)) trivial ?_
 refine wRUN trivial ?_
 exact ret_data [] (by simp only [Tryz.results214, go_sem, Nat.reduceBEq, Nat.reduceLT]; exact rfl) (by simp only [go_sem, Nat.reduceEqDiff, Nat.reduceAdd, Nat.reduceSub, Nat.reduceLeDiff, Nat.reduceMul, Nat.reduceBEq, Nat.reduceLT, Int.reduceToNat, reduceCtorEq, lessB]) rfl
def bsPos (ks : List ByteArray) (key : ByteArray) : Nat := ks.findIdx fun k => !lessB k key
theorem bsPos_le (ks : List ByteArray) (key : ByteArray) : bsPos ks key ≤ ks.length := List.findIdx_le_length
theorem bsPos_low {ks : List ByteArray} {key : ByteArray} {t : Nat} (h : t < bsPos ks key) : lessB (ks[t]'(by have := bsPos_le ks key; omega)) key = true := by
 have := List.not_of_lt_findIdx h
 simpa using this
theorem bsPos_high {ks : List ByteArray} {key : ByteArray} (hs : asc none ks) {t : Nat} (ht : t < ks.length) (h : bsPos ks key ≤ t) : lessB ks[t] key = false := by
 have hp : bsPos ks key < ks.length := by omega
 have h1 : lessB (ks[bsPos ks key]) key = false := by
  have h2 : (fun k => !lessB k key) (ks[bsPos ks key]) = true := List.findIdx_getElem (w := hp)
  simpa using h2
 by_cases he : t = bsPos ks key
 ·subst he; exact h1
 ·have h2 := asc_sorted hs (i := bsPos ks key) (j := t) (by omega) ht
  cases hl : lessB ks[t] key with
  | false => rfl
  | true =>
   have := lessB_trans h2 hl
   rw [h1] at this
   cases this
def bsFound (ks : List ByteArray) (key : ByteArray) : Bool := if h : bsPos ks key < ks.length then ks[bsPos ks key].toList == key.toList else false
theorem findKey_bs {ks : List ByteArray} {key : ByteArray} (hs : asc none ks) : findKey ks key = if bsFound ks key then some (bsPos ks key) else none := by
 rw [findKey_at hs (bsPos_le ks key) (fun t h => bsPos_low h) (fun t h hp => bsPos_high hs h hp)]
 unfold bsFound
 by_cases h : bsPos ks key < ks.length
 ·rw [dif_pos h, dif_pos h]
 ·rw [dif_neg h, dif_neg h]; rfl
theorem binSearch_ac (ks : List ByteArray) (key : ByteArray) (hs : asc none ks) (hl : ks.length ≤ 1000000) : AC Tryz.prog 189 [.c (.sl (ks.map strCs)), .c (.str key)] [] (.tup [.c (.int .i64 (bsPos ks key)), .c (.bool (bsFound ks key))]) [] := by
 have hple := bsPos_le ks key
 obtain ⟨p, hp⟩ : ∃ p, p = bsPos ks key := ⟨_, rfl⟩
 rw [← hp] at hple
 refine wEnter Tryz.func189 Tryz.ntmps189 ?_
 refine wRUN trivial ?_
 refine a_loop (κ := Nat × Nat) (fun x => ⟨mkS 0 54 [(0, .c (.sl (ks.map strCs))), (1, .c (.str key)), (6, .c (.int .i64 ks.length)), (7, .c (.int .i64 x.1)), (8, .c (.int .i64 x.2))], []⟩)
  (fun x => x.1 ≤ p ∧ p ≤ x.2 ∧ x.2 ≤ ks.length) (fun x => x.2 - x.1) (0, ks.length) ⟨Nat.zero_le _, hple, Nat.le_refl _⟩ ?_ ?_
 ·exact wSays (Says.of [] []) hl
 ·rintro ⟨i, j⟩ ⟨hi, hj, hjn⟩
  dsimp only at hi hj hjn ⊢
  by_cases hlt : i < j
  ·have hdk : decide ((i : Int) < (j : Int)) = true := by simpa using hlt
   have hm1 : (i + j) / 2 < j := by omega
   have hm2 : i ≤ (i + j) / 2 := by omega
   have hwa : IntKind.i64.wrap ((i : Int) + (j : Int)) = ((i + j : Nat) : Int) := by rw [IntWalk.i64_in _ (by omega)]; omega
   have hwu : IntKind.u64.wrap ((i + j : Nat) : Int) = ((i + j : Nat) : Int) := by
    unfold IntKind.wrap
    simp [IntKind.bits, IntKind.signed]
    omega
   have hwh : IntKind.i64.wrap (((i + j) / 2 : Nat) : Int) = (((i + j) / 2 : Nat) : Int) := by rw [IntWalk.i64_in _ (by omega)]
   generalize hH : (i + j) / 2 = h at *
   have hhl : h < ks.length := by omega
   have hr : rowsAt (ks.map strCs) 1 h = true := by simp [rowsAt, hhl, strCs]
   have hg : (ks.map strCs)[h]? = some [.str ks[h]] := by simp [hhl, strCs]
   have hc := cmpLess_ac ks[h] key
   have hw1 := wrap_succ (k := h) (by omega)
   cases hb : lessB ks[h] key with
   | true =>
    rw [hb] at hc
    have hhp : h < p := by
     by_cases hq : h < p
     ·exact hq
     ·rw [hp] at hq
      have := bsPos_high (key := key) hs hhl (by omega)
      rw [this] at hb
      cases hb
    refine wRUN (j3 hdk hwa hwu) ?_
    ((with_reducible apply op_half); (iterate 4 (focus (first | (simp only [go_sem, Nat.reduceEqDiff, Nat.reduceAdd, Nat.reduceSub, Nat.reduceLeDiff, Nat.reduceMul, Nat.reduceBEq, Nat.reduceLT, Int.reduceToNat, reduceCtorEq, hwa, hwu]; first | done | exact rfl | (and_intros <;> rfl)) | exact rfl | decide))))
    refine wRUN (j4 hH hwh hr hg) ?_
    refine w7 (op_data [] hc) trivial ?_
    refine wRUN hw1 ?_
    refine ⟨(h + 1, j), by dsimp only; omega, ⟨by dsimp only; omega, hj, hjn⟩, ?_⟩
    exact wSays (Says.of [] []) hw1
   | false =>
    rw [hb] at hc
    have hhp : p ≤ h := by
     by_cases hq : p ≤ h
     ·exact hq
     ·rw [hp] at hq
      have := bsPos_low (ks := ks) (key := key) (t := h) (by omega)
      rw [this] at hb
      cases hb
    refine wRUN (j3 hdk hwa hwu) ?_
    ((with_reducible apply op_half); (iterate 4 (focus (first | (simp only [go_sem, Nat.reduceEqDiff, Nat.reduceAdd, Nat.reduceSub, Nat.reduceLeDiff, Nat.reduceMul, Nat.reduceBEq, Nat.reduceLT, Int.reduceToNat, reduceCtorEq, hwa, hwu]; first | done | exact rfl | (and_intros <;> rfl)) | exact rfl | decide))))
    refine wRUN (j4 hH hwh hr hg) ?_
    refine w7 (op_data [] hc) trivial ?_
    refine wRUN trivial ?_
    refine ⟨(i, h), by dsimp only; omega, ⟨hi, hhp, by dsimp only; omega⟩, ?_⟩
    exact wSays (Says.of [] []) hw1
  ·have hdk : decide ((i : Int) < (j : Int)) = false := by simpa using hlt
   have hip : i = p := by omega
   subst hip
   by_cases hpn : i < ks.length
   ·have hdn : decide ((i : Int) < (ks.length : Int)) = true := by simpa using hpn
    have hr : rowsAt (ks.map strCs) 1 i = true := by simp [rowsAt, hpn, strCs]
    have hg : (ks.map strCs)[i]? = some [.str ks[i]] := by simp [hpn, strCs]
    have hf : bsFound ks key = (ks[i].toList == key.toList) := by
     unfold bsFound
     rw [dif_pos (by omega)]
     simp only [← hp]
    rw [hf, ← hp]
    cases hb : ks[i].toList == key.toList with
    | true =>
     refine wRUN (j5 hdk hdn hr hg hb) ?_
     exact wRet (ret_data []) Tryz.results189
    | false =>
     refine wRUN (j5 hdk hdn hr hg hb) ?_
     refine w7 (op_data [] (isNaNs_ac _)) trivial ?_
     refine wRUN trivial ?_
     exact wRet (ret_data []) Tryz.results189
   ·have hdn : decide ((i : Int) < (ks.length : Int)) = false := by simpa using hpn
    have hf : bsFound ks key = false := by
     unfold bsFound
     rw [dif_neg (by omega)]
    rw [hf, ← hp]
    refine wRUN (j2 hdk hdn) ?_
    exact wRet (ret_data []) Tryz.results189
theorem member_ac {t : V} (h : t.right) (h6 : t.kind = 6) (key : ByteArray) : AC Tryz.prog 156 [t.av, .c (.str key)] [] (t.member key).av [] := by
 obtain ⟨hs, _, hkl⟩ := right_asc h h6
 have hlc := countL_len t.kids
 have hck := count_kids t
 have hc := h.2.1
 have hb := binSearch_ac t.keys key hs (by omega)
 have hfk := findKey_bs (ks := t.keys) (key := key) hs
 cases hf : bsFound t.keys key with
 | false =>
  rw [hf] at hfk hb
  have hm : t.member key = nullV := by unfold V.member; rw [hfk]; rfl
  rw [hm]
  refine wEnter Tryz.func156 Tryz.ntmps156 ?_
  refine wRUN trivial ?_
  refine w7 (op_data [] hb) trivial ?_
  refine wRUN trivial ?_
  refine w7 (op_data [] null_ac) trivial ?_
  refine wRUN trivial ?_
  exact wRet (ret_data []) Tryz.results156
 | true =>
  rw [hf] at hfk hb
  have hp : bsPos t.keys key < t.kids.length := by
   unfold bsFound at hf
   split at hf
   ·omega
   ·cases hf
  have hm : t.member key = t.kids[bsPos t.keys key] := by
   unfold V.member
   rw [hfk]
   simp only [if_true]
   rw [List.getD_eq_getElem?_getD, List.getElem?_eq_getElem hp, Option.getD_some]
  rw [hm]
  generalize bsPos t.keys key = p at *
  have hr : rowsAt (t.kids.map V.cs) 5 p = true := by simp [rowsAt, hp, V.cs_eq]
  have hg : (t.kids.map V.cs)[p]? = some t.kids[p].cs := by simp [hp]
  refine wEnter Tryz.func156 Tryz.ntmps156 ?_
  refine wRUN trivial ?_
  refine w7 (op_data [] hb) trivial ?_
  refine wRUN (j2 hr hg) ?_
  exact wRet (ret_data []) Tryz.results156
end Go.Proofs.YtlciedpfjhkkdaaGreatDoor
