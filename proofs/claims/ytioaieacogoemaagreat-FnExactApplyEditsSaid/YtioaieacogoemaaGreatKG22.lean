/- impl.getKey, getIndex, getAt, getPath, by the engine. -/
import Derived.Test.YtioaieacogoemaaGreatKG21
set_option linter.unusedSimpArgs false
set_option linter.unusedVariables false
set_option linter.unnecessarySimpa false
namespace Go.Proofs.YtioaieacogoemaaGreat
open Go.RowKit
set_option maxRecDepth 10000
theorem isString_ac (s : ByteArray) (hs : s.size ≤ 9223372036854775807) : AC Tryz.prog 123 [.c (.str s)] [] (.c (.bool (okText s))) [] := by
  refine AC.of_calls fun S w κ vs hv => ?_
  obtain ⟨v, vs', rfl, ⟨rfl, _⟩, rfl⟩ := hv
  refine (isString_any s hs w).mono ?_
  rintro e w' ⟨rfl, rfl⟩
  exact ⟨Below.refl _ _, _, rfl, fun T _ _ => ⟨rfl, rfl⟩⟩
theorem within_ac (n lo hi : Int) : AC Tryz.prog 86 [.c (.int .i64 n), .c (.int .i64 lo), .c (.int .i64 hi)] [] (.c (.bool (decide (n ≥ lo) && decide (n ≤ hi)))) [] := by
  cases h1 : decide (n ≥ lo) <;> cases h2 : decide (n ≤ hi)
  all_goals
    refine wEnter Tryz.func86 Tryz.ntmps86 ?_
    refine wRUN (j2 h1 h2) ?_
    exact wRet (ret_data []) Tryz.results86
theorem right_head {t : V} (h : t.right) : (⟨t.kind, t.num, t.text, ByteArray.empty, t.kids.length⟩ : CellD).code = 0 := by
  refine cells_codes t ByteArray.empty h.1 okText_empty _ ?_
  rw [cells_head]
  simp
theorem right_num {t : V} (h : t.right) : -1000000000000000 ≤ t.num ∧ t.num ≤ 1000000000000000 := by
  have hc := right_head h
  unfold CellD.code cellCode at hc
  have hr : cR t.num (t.kids.length : Int) = false := by
    cases hh : cR t.num (t.kids.length : Int)
    · rfl
    · simp only [hh] at hc
      split at hc
      · omega
      · split at hc
        · omega
        · simp at hc
  simp [cR, inB] at hr
  omega
theorem right_text {t : V} (h : t.right) : okText t.text = true := (code_text (right_head h)).1
set_option maxHeartbeats 1000000 in
theorem getKey_ac {t : V} (h : t.right) (key : ByteArray) (hk : okText key = true) : AC Tryz.prog 128 [t.av, .c (.str key)] [] (resA (getKeyV t key)) [] := by
  have hs := isString_ac key (by have := okText_size hk; omega)
  rw [hk] at hs
  by_cases h0 : t.kind = 0
  · have hr : getKeyV t key = okR nullV := by unfold getKeyV; rw [if_pos h0]
    have hb : (t.kind == 0) = true := by simpa using h0
    rw [hr, resA_ok]
    refine wEnter Tryz.func128 Tryz.ntmps128 ?_
    refine wRUN trivial ?_
    refine w7 (op_data [] hs) trivial ?_
    refine wRUN hb ?_
    refine w7 (op_data [] null_ac) trivial ?_
    refine w7 (op_data [] (gives_ac right_null)) trivial ?_
    refine wRUN trivial ?_
    exact wRet (ret_data []) Tryz.results128
  · have hb : (t.kind == 0) = false := by simpa using h0
    by_cases h6 : t.kind = 6
    · have hr : getKeyV t key = okR (t.member key) := by unfold getKeyV; rw [if_neg h0, if_pos h6]
      have hb6 : (t.kind != 6) = false := by simpa using h6
      have hm := member_ac h h6 key
      have hg := gives_ac (right_member h h6 key)
      rw [hr, resA_ok]
      generalize t.member key = u at *
      refine wEnter Tryz.func128 Tryz.ntmps128 ?_
      refine wRUN trivial ?_
      refine w7 (op_data [] hs) trivial ?_
      refine wRUN (j2 hb hb6) ?_
      refine w9 (op_shared [] hm) trivial ?_
      refine w9 (op_shared [] hg) trivial ?_
      refine wRUN trivial ?_
      exact wRet (ret_data []) Tryz.results128
    · have hr : getKeyV t key = badR 6 := by unfold getKeyV; rw [if_neg h0, if_neg h6]
      have hb6 : (t.kind != 6) = true := by simpa using h6
      rw [hr, resA_bad]
      refine wEnter Tryz.func128 Tryz.ntmps128 ?_
      refine wRUN trivial ?_
      refine w7 (op_data [] hs) trivial ?_
      refine wRUN (j2 hb hb6) ?_
      refine w7 (op_data [] (refuses_ac 6)) trivial ?_
      refine wRUN trivial ?_
      exact wRet (ret_data []) Tryz.results128
set_option maxHeartbeats 2000000 in
theorem getIndex_ac {t : V} (h : t.right) (n : Int) (hn : -1000000000000000 ≤ n ∧ n ≤ 1000000000000000) : AC Tryz.prog 129 [t.av, .c (.int .i64 n)] [] (resA (getIdxV t n)) [] := by
  have hkl := kids_len_le h.2.1
  have hsz := sizeVals_ac t.kids
  by_cases h0 : t.kind = 0
  · have hr : getIdxV t n = okR nullV := by unfold getIdxV; rw [if_pos h0]
    have hb : (t.kind == 0) = true := by simpa using h0
    rw [hr, resA_ok]
    refine wEnter Tryz.func129 Tryz.ntmps129 ?_
    refine wRUN trivial ?_
    refine w7 (op_data [] hsz) trivial ?_
    refine wRUN hb ?_
    refine w7 (op_data [] null_ac) trivial ?_
    refine w7 (op_data [] (gives_ac right_null)) trivial ?_
    refine wRUN trivial ?_
    exact wRet (ret_data []) Tryz.results129
  · have hb : (t.kind == 0) = false := by simpa using h0
    by_cases h5 : t.kind = 5
    · have hb5 : (t.kind != 5) = false := by simpa using h5
      have hwn : IntKind.i64.wrap (0 - (t.kids.length : Int)) = -(t.kids.length : Int) := by rw [IntWalk.i64_in _ (by omega)]; omega
      have hwm : IntKind.i64.wrap ((t.kids.length : Int) - 1) = (t.kids.length : Int) - 1 := IntWalk.i64_in _ (by omega)
      have hwi := within_ac n (-(t.kids.length : Int)) ((t.kids.length : Int) - 1)
      cases hin : (decide (n ≥ -(t.kids.length : Int)) && decide (n ≤ (t.kids.length : Int) - 1)) with
      | false =>
        rw [hin] at hwi
        have hr : getIdxV t n = okR nullV := by
          unfold getIdxV fromEnd
          rw [if_neg h0, if_pos h5, if_neg]
          simp at hin
          split <;> omega
        rw [hr, resA_ok]
        refine wEnter Tryz.func129 Tryz.ntmps129 ?_
        refine wRUN trivial ?_
        refine w7 (op_data [] hsz) trivial ?_
        refine wRUN (j4 hb hb5 hwn hwm) ?_
        refine w7 (op_data [] hwi) trivial ?_
        refine wRUN trivial ?_
        refine w7 (op_data [] null_ac) trivial ?_
        refine w7 (op_data [] (gives_ac right_null)) trivial ?_
        refine wRUN trivial ?_
        exact wRet (ret_data []) Tryz.results129
      | true =>
        rw [hin] at hwi
        simp at hin
        obtain ⟨p, hp, hpl⟩ : ∃ p : Nat, fromEnd n t.kids.length = p ∧ p < t.kids.length := by
          refine ⟨(fromEnd n t.kids.length).toNat, ?_, ?_⟩ <;> unfold fromEnd <;> split <;> omega
        have hr : getIdxV t n = okR t.kids[p] := by
          unfold getIdxV
          rw [if_neg h0, if_pos h5, hp, if_pos (by omega), Int.toNat_natCast, List.getD_eq_getElem?_getD, List.getElem?_eq_getElem hpl, Option.getD_some]
        have hrw : rowsAt (t.kids.map V.cs) 5 p = true := by simp [rowsAt, hpl, V.cs_eq]
        have hg : (t.kids.map V.cs)[p]? = some t.kids[p].cs := by simp [hpl]
        have hgv := gives_ac (right_mem h (List.getElem_mem hpl))
        rw [hr, resA_ok]
        generalize t.kids[p] = u at *
        unfold fromEnd at hp
        by_cases hneg : n < 0
        · rw [if_pos hneg] at hp
          have hd : decide (n < 0) = true := by simpa using hneg
          have hwa : IntKind.i64.wrap (n + (t.kids.length : Int)) = (p : Int) := by rw [hp]; exact IntWalk.i64_in _ (by omega)
          refine wEnter Tryz.func129 Tryz.ntmps129 ?_
          refine wRUN trivial ?_
          refine w7 (op_data [] hsz) trivial ?_
          refine wRUN (j4 hb hb5 hwn hwm) ?_
          refine w7 (op_data [] hwi) trivial ?_
          refine wRUN (j4 hd hwa hrw hg) ?_
          refine w9 (op_shared [] hgv) trivial ?_
          refine wRUN trivial ?_
          exact wRet (ret_data []) Tryz.results129
        · rw [if_neg hneg] at hp
          subst hp
          have hd : decide ((p : Int) < 0) = false := by simp
          refine wEnter Tryz.func129 Tryz.ntmps129 ?_
          refine wRUN trivial ?_
          refine w7 (op_data [] hsz) trivial ?_
          refine wRUN (j4 hb hb5 hwn hwm) ?_
          refine w7 (op_data [] hwi) trivial ?_
          refine wRUN (j3 hd hrw hg) ?_
          refine w9 (op_shared [] hgv) trivial ?_
          refine wRUN trivial ?_
          exact wRet (ret_data []) Tryz.results129
    · have hr : getIdxV t n = badR 6 := by unfold getIdxV; rw [if_neg h0, if_neg h5]
      have hb5 : (t.kind != 5) = true := by simpa using h5
      rw [hr, resA_bad]
      refine wEnter Tryz.func129 Tryz.ntmps129 ?_
      refine wRUN trivial ?_
      refine w7 (op_data [] hsz) trivial ?_
      refine wRUN (j2 hb hb5) ?_
      refine w7 (op_data [] (refuses_ac 6)) trivial ?_
      refine wRUN trivial ?_
      exact wRet (ret_data []) Tryz.results129
theorem resA_some (c : Int) (t : V) : resA (c, some t) = outA 0 t := rfl
theorem resA_none (c : Int) : resA (c, none) = outA c nullV := rfl
set_option maxHeartbeats 1000000 in
theorem getAt_ac {t k : V} (h : t.right) (hk : k.right) : AC Tryz.prog 78 [t.av, k.av] [] (resA (getAtV t k)) [] := by
  by_cases h4 : k.kind = 4
  · have hb : (k.kind == 4) = true := by simpa using h4
    have hr : getAtV t k = getKeyV t k.text := by unfold getAtV; rw [if_pos h4]
    have hg := getKey_ac h k.text (right_text hk)
    rw [hr]
    generalize getKeyV t k.text = r at *
    rcases r with ⟨c, _ | u⟩
    all_goals
      simp only [resA_some, resA_none] at hg ⊢
      refine wEnter Tryz.func78 Tryz.ntmps78 ?_
      refine wRUN hb ?_
      refine w9 (op_shared [] hg) trivial ?_
      refine wRUN trivial ?_
      exact wRet (ret_data []) Tryz.results78
  · have hb : (k.kind == 4) = false := by simpa using h4
    by_cases h3 : k.kind = 3
    · have hb3 : (k.kind == 3) = true := by simpa using h3
      have hr : getAtV t k = getIdxV t k.num := by unfold getAtV; rw [if_neg h4, if_pos h3]
      have hg := getIndex_ac h k.num (right_num hk)
      rw [hr]
      generalize getIdxV t k.num = r at *
      rcases r with ⟨c, _ | u⟩
      all_goals
        simp only [resA_some, resA_none] at hg ⊢
        refine wEnter Tryz.func78 Tryz.ntmps78 ?_
        refine wRUN (j2 hb hb3) ?_
        refine w9 (op_shared [] hg) trivial ?_
        refine wRUN trivial ?_
        exact wRet (ret_data []) Tryz.results78
    · have hb3 : (k.kind == 3) = false := by simpa using h3
      have hr : getAtV t k = badR 6 := by unfold getAtV; rw [if_neg h4, if_neg h3]
      rw [hr, resA_bad]
      refine wEnter Tryz.func78 Tryz.ntmps78 ?_
      refine wRUN (j2 hb hb3) ?_
      refine w9 (op_shared [] (refuses_ac 6)) trivial ?_
      refine wRUN trivial ?_
      exact wRet (ret_data []) Tryz.results78
end Go.Proofs.YtioaieacogoemaaGreat
