/- impl.getKey, getIndex, getAt, getPath, by the engine. -/
import Derived.Test.YtfmnoljflcpbgaaGreatDoorKG21
set_option linter.unusedSimpArgs false
set_option linter.unusedVariables false
set_option linter.unnecessarySimpa false
namespace Go.Proofs.YtfmnoljflcpbgaaGreatDoor
open Go.RowKit
set_option maxRecDepth 10000
theorem isString_ac (s : ByteArray) (hs : s.size ≤ 9223372036854775807) : AC Tryz.prog 157 [.c (.str s)] [] (.c (.bool (okText s))) [] := by
  refine AC.of_calls fun S w κ vs hv => ?_
  obtain ⟨v, vs', rfl, ⟨rfl, _⟩, rfl⟩ := hv
  refine (isString_any s hs w).mono ?_
  rintro e w' ⟨rfl, rfl⟩
  exact ⟨Below.refl _ _, _, rfl, fun T _ _ => ⟨rfl, rfl⟩⟩
theorem within_ac (n lo hi : Int) : AC Tryz.prog 53 [.c (.int .i64 n), .c (.int .i64 lo), .c (.int .i64 hi)] [] (.c (.bool (decide (n ≥ lo) && decide (n ≤ hi)))) [] := by
  cases h1 : decide (n ≥ lo) <;> cases h2 : decide (n ≤ hi)
  all_goals
    refine wEnter Tryz.func53 Tryz.ntmps53 ?_
    refine wRUN (j2 h1 h2) ?_
    exact wRet (ret_data []) Tryz.results53
theorem right_head {t : V} (h : t.right) : (⟨t.kind, t.num, t.text, ByteArray.empty, t.kids.length⟩ : CellD).code = 0 := by
  refine cells_codes t ByteArray.empty h.1 okText_empty _ ?_
  rw [cells_head]
  simp
theorem right_num {t : V} (h : t.right) : -1000000000000000 ≤ t.num ∧ t.num ≤ 1000000000000000 := by
  have hc := right_head h
  unfold CellD.code cellCode at hc
  have hr : cR t.num (t.kids.length : Int) = false := by
    cases hh : cR t.num (t.kids.length : Int)
    · rfl
    · simp only [hh] at hc
      split at hc
      · omega
      · split at hc
        · omega
        · simp at hc
  simp [cR, inB] at hr
  omega
theorem right_text {t : V} (h : t.right) : okText t.text = true := (code_text (right_head h)).1
set_option maxHeartbeats 1000000 in
theorem getKey_ac {t : V} (h : t.right) (key : ByteArray) (hk : okText key = true) : AC Tryz.prog 184 [t.av, .c (.str key)] [] (resA (getKeyV t key)) [] := by
  have hs := isString_ac key (by have := okText_size hk; omega)
  rw [hk] at hs
  by_cases h0 : t.kind = 0
  · have hr : getKeyV t key = okR nullV := by unfold getKeyV; rw [if_pos h0]
    have hb : (t.kind == 0) = true := by simpa using h0
    rw [hr, resA_ok]
    refine wEnter Tryz.func184 Tryz.ntmps184 ?_
    refine wRUN trivial ?_
    refine w7 (op_data [] hs) trivial ?_
    refine wRUN hb ?_
    refine w7 (op_data [] null_ac) trivial ?_
    refine w7 (op_data [] (gives_ac right_null)) trivial ?_
    refine wRUN trivial ?_
    exact wRet (ret_data []) Tryz.results184
  · have hb : (t.kind == 0) = false := by simpa using h0
    by_cases h6 : t.kind = 6
    · have hr : getKeyV t key = okR (t.member key) := by unfold getKeyV; rw [if_neg h0, if_pos h6]
      have hb6 : (t.kind != 6) = false := by simpa using h6
      have hm := member_ac h h6 key
      have hg := gives_ac (right_member h h6 key)
      rw [hr, resA_ok]
      generalize t.member key = u at *
      refine wEnter Tryz.func184 Tryz.ntmps184 ?_
      refine wRUN trivial ?_
      refine w7 (op_data [] hs) trivial ?_
      refine wRUN (j2 hb hb6) ?_
      refine w9 (op_shared [] hm) trivial ?_
      refine w9 (op_shared [] hg) trivial ?_
      refine wRUN trivial ?_
      exact wRet (ret_data []) Tryz.results184
    · have hr : getKeyV t key = badR 6 := by unfold getKeyV; rw [if_neg h0, if_neg h6]
      have hb6 : (t.kind != 6) = true := by simpa using h6
      rw [hr, resA_bad]
      refine wEnter Tryz.func184 Tryz.ntmps184 ?_
      refine wRUN trivial ?_
      refine w7 (op_data [] hs) trivial ?_
      refine wRUN (j2 hb hb6) ?_
      refine w7 (op_data [] (refuses_ac 6)) trivial ?_
      refine wRUN trivial ?_
      exact wRet (ret_data []) Tryz.results184
set_option maxHeartbeats 2000000 in
theorem getIndex_ac {t : V} (h : t.right) (n : Int) (hn : -1000000000000000 ≤ n ∧ n ≤ 1000000000000000) : AC Tryz.prog 185 [t.av, .c (.int .i64 n)] [] (resA (getIdxV t n)) [] := by
  have hkl := kids_len_le h.2.1
  have hsz := sizeVals_ac t.kids
  by_cases h0 : t.kind = 0
  · have hr : getIdxV t n = okR nullV := by unfold getIdxV; rw [if_pos h0]
    have hb : (t.kind == 0) = true := by simpa using h0
    rw [hr, resA_ok]
    refine wEnter Tryz.func185 Tryz.ntmps185 ?_
    refine wRUN trivial ?_
    refine w7 (op_data [] hsz) trivial ?_
    refine wRUN hb ?_
    refine w7 (op_data [] null_ac) trivial ?_
    refine w7 (op_data [] (gives_ac right_null)) trivial ?_
    refine wRUN trivial ?_
    exact wRet (ret_data []) Tryz.results185
  · have hb : (t.kind == 0) = false := by simpa using h0
    by_cases h5 : t.kind = 5
    · have hb5 : (t.kind != 5) = false := by simpa using h5
      have hwn : IntKind.i64.wrap (0 - (t.kids.length : Int)) = -(t.kids.length : Int) := by rw [IntWalk.i64_in _ (by omega)]; omega
      have hwm : IntKind.i64.wrap ((t.kids.length : Int) - 1) = (t.kids.length : Int) - 1 := IntWalk.i64_in _ (by omega)
      have hwi := within_ac n (-(t.kids.length : Int)) ((t.kids.length : Int) - 1)
      cases hin : (decide (n ≥ -(t.kids.length : Int)) && decide (n ≤ (t.kids.length : Int) - 1)) with
      | false =>
        rw [hin] at hwi
        have hr : getIdxV t n = okR nullV := by
          unfold getIdxV fromEnd
          rw [if_neg h0, if_pos h5, if_neg]
          simp at hin
          split <;> omega
        rw [hr, resA_ok]
        refine wEnter Tryz.func185 Tryz.ntmps185 ?_
        refine wRUN trivial ?_
        refine w7 (op_data [] hsz) trivial ?_
        refine wRUN (j4 hb hb5 hwn hwm) ?_
        refine w7 (op_data [] hwi) trivial ?_
        refine wRUN trivial ?_
        refine w7 (op_data [] null_ac) trivial ?_
        refine w7 (op_data [] (gives_ac right_null)) trivial ?_
        refine wRUN trivial ?_
        exact wRet (ret_data []) Tryz.results185
      | true =>
        rw [hin] at hwi
        simp at hin
        obtain ⟨p, hp, hpl⟩ : ∃ p : Nat, fromEnd n t.kids.length = p ∧ p < t.kids.length := by
          refine ⟨(fromEnd n t.kids.length).toNat, ?_, ?_⟩ <;> unfold fromEnd <;> split <;> omega
        have hr : getIdxV t n = okR t.kids[p] := by
          unfold getIdxV
          rw [if_neg h0, if_pos h5, hp, if_pos (by omega), Int.toNat_natCast, List.getD_eq_getElem?_getD, List.getElem?_eq_getElem hpl, Option.getD_some]
        have hrw : rowsAt (t.kids.map V.cs) 5 p = true := by simp [rowsAt, hpl, V.cs_eq]
        have hg : (t.kids.map V.cs)[p]? = some t.kids[p].cs := by simp [hpl]
        have hgv := gives_ac (right_mem h (List.getElem_mem hpl))
        rw [hr, resA_ok]
        generalize t.kids[p] = u at *
        unfold fromEnd at hp
        by_cases hneg : n < 0
        · rw [if_pos hneg] at hp
          have hd : decide (n < 0) = true := by simpa using hneg
          have hwa : IntKind.i64.wrap (n + (t.kids.length : Int)) = (p : Int) := by rw [hp]; exact IntWalk.i64_in _ (by omega)
          refine wEnter Tryz.func185 Tryz.ntmps185 ?_
          refine wRUN trivial ?_
          refine w7 (op_data [] hsz) trivial ?_
          refine wRUN (j4 hb hb5 hwn hwm) ?_
          refine w7 (op_data [] hwi) trivial ?_
          refine wRUN (j4 hd hwa hrw hg) ?_
          refine w9 (op_shared [] hgv) trivial ?_
          refine wRUN trivial ?_
          exact wRet (ret_data []) Tryz.results185
        · rw [if_neg hneg] at hp
          subst hp
          have hd : decide ((p : Int) < 0) = false := by simp
          refine wEnter Tryz.func185 Tryz.ntmps185 ?_
          refine wRUN trivial ?_
          refine w7 (op_data [] hsz) trivial ?_
          refine wRUN (j4 hb hb5 hwn hwm) ?_
          refine w7 (op_data [] hwi) trivial ?_
          refine wRUN (j3 hd hrw hg) ?_
          refine w9 (op_shared [] hgv) trivial ?_
          refine wRUN trivial ?_
          exact wRet (ret_data []) Tryz.results185
    · have hr : getIdxV t n = badR 6 := by unfold getIdxV; rw [if_neg h0, if_neg h5]
      have hb5 : (t.kind != 5) = true := by simpa using h5
      rw [hr, resA_bad]
      refine wEnter Tryz.func185 Tryz.ntmps185 ?_
      refine wRUN trivial ?_
      refine w7 (op_data [] hsz) trivial ?_
      refine wRUN (j2 hb hb5) ?_
      refine w7 (op_data [] (refuses_ac 6)) trivial ?_
      refine wRUN trivial ?_
      exact wRet (ret_data []) Tryz.results185
theorem resA_some (c : Int) (t : V) : resA (c, some t) = outA 0 t := rfl
theorem resA_none (c : Int) : resA (c, none) = outA c nullV := rfl
set_option maxHeartbeats 1000000 in
theorem getAt_ac {t k : V} (h : t.right) (hk : k.right) : AC Tryz.prog 149 [t.av, k.av] [] (resA (getAtV t k)) [] := by
  by_cases h4 : k.kind = 4
  · have hb : (k.kind == 4) = true := by simpa using h4
    have hr : getAtV t k = getKeyV t k.text := by unfold getAtV; rw [if_pos h4]
    have hg := getKey_ac h k.text (right_text hk)
    rw [hr]
    generalize getKeyV t k.text = r at *
    rcases r with ⟨c, _ | u⟩
    all_goals
      simp only [resA_some, resA_none] at hg ⊢
      refine wEnter Tryz.func149 Tryz.ntmps149 ?_
      refine wRUN hb ?_
      refine w9 (op_shared [] hg) trivial ?_
      refine wRUN trivial ?_
      exact wRet (ret_data []) Tryz.results149
  · have hb : (k.kind == 4) = false := by simpa using h4
    by_cases h3 : k.kind = 3
    · have hb3 : (k.kind == 3) = true := by simpa using h3
      have hr : getAtV t k = getIdxV t k.num := by unfold getAtV; rw [if_neg h4, if_pos h3]
      have hg := getIndex_ac h k.num (right_num hk)
      rw [hr]
      generalize getIdxV t k.num = r at *
      rcases r with ⟨c, _ | u⟩
      all_goals
        simp only [resA_some, resA_none] at hg ⊢
        refine wEnter Tryz.func149 Tryz.ntmps149 ?_
        refine wRUN (j2 hb hb3) ?_
        refine w9 (op_shared [] hg) trivial ?_
        refine wRUN trivial ?_
        exact wRet (ret_data []) Tryz.results149
    · have hb3 : (k.kind == 3) = false := by simpa using h3
      have hr : getAtV t k = badR 6 := by unfold getAtV; rw [if_neg h4, if_neg h3]
      rw [hr, resA_bad]
      refine wEnter Tryz.func149 Tryz.ntmps149 ?_
      refine wRUN (j2 hb hb3) ?_
      refine w9 (op_shared [] (refuses_ac 6)) trivial ?_
      refine wRUN trivial ?_
      exact wRet (ret_data []) Tryz.results149
theorem getPath_drop (t u : V) (path : List V) (k : Nat) (hk : k < path.length) : getPathV u (path.drop k) = match getAtV u path[k] with
    | (_, some x) => getPathV x (path.drop (k + 1))
    | (c, none) => (c, none) := by
  rw [List.drop_eq_getElem_cons hk]
  rfl
set_option maxHeartbeats 2000000 in
theorem getPath_ac {t : V} (h : t.right) (path : List V) (hl : path.length ≤ 1000000) (hp : ∀ k ∈ path, k.right) : AC Tryz.prog 90 [t.av, valsA path] [] (resA (getPathV t path)) [] := by
  have hg := gives_ac h
  have h00 : ((0 : Int) != 0) = false := rfl
  refine wEnter Tryz.func90 Tryz.ntmps90 ?_
  refine wRUN trivial ?_
  refine w9 (op_shared [] hg) trivial ?_
  refine wRUN trivial ?_
  refine a_loop (κ := Nat × V) (fun x => ⟨mkS 0 25 [(4, .ptr (4, 0) 0), (5, .ptr (5, 0) 0), (10, .c (.sl (path.map V.cs))), (11, .c (.int .i64 path.length)), (12, .c (.int .i64 x.1))],
      [((4, 0), .box [.c (.int .i64 0), .c (.int .i64 0), .c (.int .i64 0), .c (.str ByteArray.empty), .c (.sl []), .c (.sl [])]), ((5, 0), .box [.c (.int .i64 0), .c (.int .i64 x.2.kind), .c (.int .i64 x.2.num), .c (.str x.2.text), .c (.sl (x.2.keys.map strCs)), .c (.sl (x.2.kids.map V.cs))])]⟩)
    (fun x => x.1 ≤ path.length ∧ x.2.right ∧ getPathV x.2 (path.drop x.1) = getPathV t path) (fun x => path.length - x.1) (0, t) ⟨Nat.zero_le _, h, rfl⟩ ?_ ?_
  · exact wSays (Says.of [((4, 0), (4, 0)), ((5, 0), (5, 0))] []) hl
  · rintro ⟨k, u⟩ ⟨hk, hu, hq⟩
    dsimp only at hk hu hq ⊢
    by_cases hlt : k < path.length
    · have hd : decide ((k : Int) < (path.length : Int)) = true := by simpa using hlt
      have hr : rowsAt (path.map V.cs) 5 k = true := by simp [rowsAt, hlt, V.cs_eq]
      have hgk : (path.map V.cs)[k]? = some path[k].cs := by simp [hlt]
      have hkr := hp path[k] (List.getElem_mem hlt)
      have hw := wrap_succ (k := k) (by omega)
      rw [getPath_drop t u path k hlt] at hq
      have ha := getAt_ac hu hkr
      have hok := getAt_ok hu path[k]
      generalize getAtV u path[k] = r at *
      generalize path[k] = y at *
      rcases r with ⟨c, _ | x⟩
      · simp only [resA_none] at ha
        have hc0 : c ≠ 0 := hok
        have hc : (c != 0) = true := by simpa using hc0
        rw [← hq, resA_none]
        refine wRUN (j3 hd hr hgk) ?_
        refine w9 (op_shared [] ha) trivial ?_
        refine wRUN hc ?_
        exact wRet (ret_data []) Tryz.results90
      · simp only [resA_some] at ha
        refine wRUN (j3 hd hr hgk) ?_
        refine w9 (op_shared [] ha) trivial ?_
        refine wRUN (j2 h00 hw) ?_
        refine ⟨(k + 1, x), by dsimp only; omega, ⟨by dsimp only; omega, hok.2, hq⟩, ?_⟩
        exact wSays (Says.of [((4, 0), (4, 0)), ((5, 0), (5, 0))] []) hw
    · have hd : decide ((k : Int) < (path.length : Int)) = false := by simpa using hlt
      rw [List.drop_eq_nil_of_le (by omega)] at hq
      have hq' : getPathV t path = okR u := by rw [← hq]; rfl
      rw [hq', resA_ok]
      refine wRUN hd ?_
      exact wRet (ret_data []) Tryz.results90
end Go.Proofs.YtfmnoljflcpbgaaGreatDoor
