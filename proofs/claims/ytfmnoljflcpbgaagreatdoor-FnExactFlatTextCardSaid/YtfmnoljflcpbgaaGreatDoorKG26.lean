/- The specification's reading of parts of values, by the engine: l3Index, l3At, l13Get. -/
import Derived.Test.YtfmnoljflcpbgaaGreatDoorKG25
set_option linter.unusedSimpArgs false
set_option linter.unusedVariables false
set_option linter.unnecessarySimpa false
namespace Go.Proofs.YtfmnoljflcpbgaaGreatDoor
open Go.RowKit
set_option maxRecDepth 10000
theorem l1In_ac (n lo hi : Int) : AC Tryz.prog 50 [.c (.int .i64 n), .c (.int .i64 lo), .c (.int .i64 hi)] [] (.c (.bool (decide (n ≥ lo) && decide (n ≤ hi)))) [] := by
  cases h1 : decide (n ≥ lo) <;> cases h2 : decide (n ≤ hi)
  all_goals
    refine wEnter Tryz.func50 Tryz.ntmps50 ?_
    refine wRUN (j2 h1 h2) ?_
    exact wRet (ret_data []) Tryz.results50
set_option maxHeartbeats 2000000 in
theorem l3Index_ac {t : V} (h : t.right) (n : Int) (hn : -1000000000000000 ≤ n ∧ n ≤ 1000000000000000) : AC Tryz.prog 197 [cellsA t.enc, .c (.int .i64 n)] [] (vrA (getIdxV t n)) [] := by
  have hkl := kids_len_le h.2.1
  have hr0 : rowsAt (t.enc.map CellD.cs) 5 0 = true := by unfold rowsAt; rw [show (0 : Int).toNat = 0 from rfl, enc_head]; rfl
  have hg0 := enc_head t
  by_cases h0 : t.kind = 0
  · have hr : getIdxV t n = okR nullV := by unfold getIdxV; rw [if_pos h0]
    have hb : (t.kind == 0) = true := by simpa using h0
    rw [hr, vrA_ok]
    refine wEnter Tryz.func197 Tryz.ntmps197 ?_
    refine wRUN (j3 hr0 hg0 hb) ?_
    refine w12 (op_rowT [] l3Null_ac) trivial ?_
    refine wRUN trivial ?_
    exact wRetOf (ret_of [] [(10, 0)]) Tryz.results197 hb
  · have hb : (t.kind == 0) = false := by simpa using h0
    by_cases h5 : t.kind = 5
    · have hb5 : (t.kind != 5) = false := by simpa using h5
      have hwm : IntKind.i64.wrap ((t.kids.length : Int) - 1) = (t.kids.length : Int) - 1 := IntWalk.i64_in _ (by omega)
      have hwi := l1In_ac (fromEnd n t.kids.length) 0 ((t.kids.length : Int) - 1)
      have hparts := l1Parts_ac h.1 h.2.1
      have hsplit : (decide (n < 0) = true ∧ IntKind.i64.wrap (n + (t.kids.length : Int)) = fromEnd n t.kids.length) ∨ (decide (n < 0) = false ∧ n = fromEnd n t.kids.length) := by
        unfold fromEnd
        by_cases hneg : n < 0
        · rw [if_pos hneg]
          exact .inl ⟨by simpa using hneg, IntWalk.i64_in _ (by omega)⟩
        · rw [if_neg hneg]
          exact .inr ⟨by simpa using hneg, rfl⟩
      cases hin : (decide (fromEnd n t.kids.length ≥ 0) && decide (fromEnd n t.kids.length ≤ (t.kids.length : Int) - 1)) with
      | false =>
        rw [hin] at hwi
        have hr : getIdxV t n = okR nullV := by
          unfold getIdxV
          rw [if_neg h0, if_pos h5, if_neg]
          simp at hin
          omega
        rw [hr, vrA_ok]
        generalize fromEnd n t.kids.length = q at *
        rcases hsplit with ⟨hd, hwa⟩ | ⟨hd, rfl⟩
        · refine wEnter Tryz.func197 Tryz.ntmps197 ?_
          refine wRUN (j7 hr0 hg0 hb hb5 hd hwa hwm) ?_
          refine w7 (op_data [] hwi) trivial ?_
          refine wRUN trivial ?_
          refine w12 (op_rowT [] l3Null_ac) trivial ?_
          refine wRUN trivial ?_
          exact wRetOf (ret_of [] [(34, 0)]) Tryz.results197 hb
        · refine wEnter Tryz.func197 Tryz.ntmps197 ?_
          refine wRUN (j6 hr0 hg0 hb hb5 hd hwm) ?_
          refine w7 (op_data [] hwi) trivial ?_
          refine wRUN trivial ?_
          refine w12 (op_rowT [] l3Null_ac) trivial ?_
          refine wRUN trivial ?_
          exact wRetOf (ret_of [] [(34, 0)]) Tryz.results197 hb
      | true =>
        rw [hin] at hwi
        simp at hin
        obtain ⟨p, hp, hpl⟩ : ∃ p : Nat, fromEnd n t.kids.length = p ∧ p < t.kids.length := ⟨(fromEnd n t.kids.length).toNat, by omega, by omega⟩
        have hr : getIdxV t n = okR t.kids[p] := by
          unfold getIdxV
          rw [if_neg h0, if_pos h5, hp, if_pos (by omega), Int.toNat_natCast, List.getD_eq_getElem?_getD, List.getElem?_eq_getElem hpl, Option.getD_some]
        have hr3 : rowsAt ((t.kids.map V.enc).map encCs) 1 p = true := by simp [rowsAt, hpl, encCs]
        have hg3 : ((t.kids.map V.enc).map encCs)[p]? = some [.sl (t.kids[p].enc.map CellD.cs)] := by simp [hpl, encCs]
        rw [hr, vrA_ok]
        generalize t.kids[p] = u at *
        rw [hp] at hwi hsplit
        rcases hsplit with ⟨hd, hwa⟩ | ⟨hd, rfl⟩
        · refine wEnter Tryz.func197 Tryz.ntmps197 ?_
          refine wRUN (j7 hr0 hg0 hb hb5 hd hwa hwm) ?_
          refine w7 (op_data [] hwi) trivial ?_
          refine wRUN trivial ?_
          refine w9 (op_shared [] hparts) trivial ?_
          refine wRUN (j2 hr3 hg3) ?_
          exact wRet (ret_data []) Tryz.results197
        · refine wEnter Tryz.func197 Tryz.ntmps197 ?_
          refine wRUN (j6 hr0 hg0 hb hb5 hd hwm) ?_
          refine w7 (op_data [] hwi) trivial ?_
          refine wRUN trivial ?_
          refine w9 (op_shared [] hparts) trivial ?_
          refine wRUN (j2 hr3 hg3) ?_
          exact wRet (ret_data []) Tryz.results197
    · have hr : getIdxV t n = badR 6 := by unfold getIdxV; rw [if_neg h0, if_neg h5]
      have hb5 : (t.kind != 5) = true := by simpa using h5
      rw [hr, vrA_bad]
      refine wEnter Tryz.func197 Tryz.ntmps197 ?_
      refine wRUN (j4 hr0 hg0 hb hb5) ?_
      refine w7 (op_data [] (l3Bad_ac 6)) trivial ?_
      refine wRUN trivial ?_
      exact wRet (ret_data []) Tryz.results197
set_option maxHeartbeats 1000000 in
theorem l3At_ac {t k : V} (h : t.right) (hk : k.right) : AC Tryz.prog 162 [cellsA t.enc, cellsA k.enc] [] (vrA (getAtV t k)) [] := by
  have hr0 : rowsAt (k.enc.map CellD.cs) 5 0 = true := by unfold rowsAt; rw [show (0 : Int).toNat = 0 from rfl, enc_head]; rfl
  have hg0 := enc_head k
  by_cases h4 : k.kind = 4
  · have hb : (k.kind == 4) = true := by simpa using h4
    have hr : getAtV t k = getKeyV t k.text := by unfold getAtV; rw [if_pos h4]
    have hg := l3Get_ac h k.text
    rw [hr]
    generalize getKeyV t k.text = r at *
    rcases r with ⟨c, _ | u⟩
    all_goals
      simp only [vrA_some, vrA_none] at hg ⊢
      refine wEnter Tryz.func162 Tryz.ntmps162 ?_
      refine wRUN (j3 hr0 hg0 hb) ?_
      refine w9 (op_shared [] hg) trivial ?_
      refine wRUN trivial ?_
      exact wRet (ret_data []) Tryz.results162
  · have hb : (k.kind == 4) = false := by simpa using h4
    by_cases h3 : k.kind = 3
    · have hb3 : (k.kind == 3) = true := by simpa using h3
      have hr : getAtV t k = getIdxV t k.num := by unfold getAtV; rw [if_neg h4, if_pos h3]
      have hg := l3Index_ac h k.num (right_num hk)
      rw [hr]
      generalize getIdxV t k.num = r at *
      rcases r with ⟨c, _ | u⟩
      all_goals
        simp only [vrA_some, vrA_none] at hg ⊢
        refine wEnter Tryz.func162 Tryz.ntmps162 ?_
        refine wRUN (j4 hr0 hg0 hb hb3) ?_
        refine w9 (op_shared [] hg) trivial ?_
        refine wRUN trivial ?_
        exact wRet (ret_data []) Tryz.results162
    · have hb3 : (k.kind == 3) = false := by simpa using h3
      have hr : getAtV t k = badR 6 := by unfold getAtV; rw [if_neg h4, if_neg h3]
      rw [hr, vrA_bad]
      refine wEnter Tryz.func162 Tryz.ntmps162 ?_
      refine wRUN (j4 hr0 hg0 hb hb3) ?_
      refine w7 (op_data [] (l3Bad_ac 6)) trivial ?_
      refine wRUN trivial ?_
      exact wRet (ret_data []) Tryz.results162
set_option maxHeartbeats 2000000 in
theorem l13Get_ac {t : V} (h : t.right) (path : List V) (hl : path.length ≤ 1000000) (hp : ∀ k ∈ path, k.right) : AC Tryz.prog 121 [cellsA t.enc, .c (.sl ((path.map V.enc).map encCs))] [] (vrA (getPathV t path)) [] := by
  have h00 : ((0 : Int) != 0) = false := rfl
  have hel := enc_len t
  have hc := h.2.1
  have hn0 : 0 + t.enc.length ≤ 1000000 := by omega
  refine wEnter Tryz.func121 Tryz.ntmps121 ?_
  refine wRUN hn0 ?_
  refine a_loop (κ := Nat × V) (fun x => ⟨mkS 0 29 [(1, .c (.sl ((path.map V.enc).map encCs))), (4, .ptr (4, 0) 0), (5, .ptr (5, 0) 0), (6, .c (.int .i64 x.1))],
      [((4, 0), .box [.c (.int .i64 0), .nils]), ((5, 0), .box [.c (.int .i64 0), .c (.sl (x.2.enc.map CellD.cs))])]⟩)
    (fun x => x.1 ≤ path.length ∧ x.2.right ∧ getPathV x.2 (path.drop x.1) = getPathV t path) (fun x => path.length - x.1) (0, t) ⟨Nat.zero_le _, h, rfl⟩ ?_ ?_
  · exact wSays (Says.of [((4, 0), (4, 0)), ((5, 0), (5, 0))] [(9, 0)]) hl
  · rintro ⟨k, u⟩ ⟨hk, hu, hq⟩
    dsimp only at hk hu hq ⊢
    by_cases hlt : k < path.length
    · have hd : decide ((k : Int) < (path.length : Int)) = true := by simpa using hlt
      have hr : rowsAt ((path.map V.enc).map encCs) 1 k = true := by simp [rowsAt, hlt, encCs]
      have hgk : ((path.map V.enc).map encCs)[k]? = some [.sl (path[k].enc.map CellD.cs)] := by simp [hlt, encCs]
      have hkr := hp path[k] (List.getElem_mem hlt)
      have hw := wrap_succ (k := k) (by omega)
      rw [getPath_drop t u path k hlt] at hq
      have ha := l3At_ac hu hkr
      have hok := getAt_ok hu path[k]
      generalize getAtV u path[k] = r at *
      generalize path[k] = y at *
      rcases r with ⟨c, _ | x⟩
      · simp only [vrA_none] at ha
        have hc0 : c ≠ 0 := hok
        have hcb : (c != 0) = true := by simpa using hc0
        rw [← hq, vrA_none]
        refine wRUN (j3 hd hr hgk) ?_
        refine w9 (op_shared [] ha) trivial ?_
        refine wRUN hcb ?_
        exact wRet (ret_data []) Tryz.results121
      · simp only [vrA_some] at ha
        refine wRUN (j3 hd hr hgk) ?_
        refine w9 (op_shared [] ha) trivial ?_
        refine wRUN (j2 h00 hw) ?_
        refine ⟨(k + 1, x), by dsimp only; omega, ⟨by dsimp only; omega, hok.2, hq⟩, ?_⟩
        exact wSays (Says.of [((4, 0), (4, 0)), ((5, 0), (5, 0))] []) hw
    · have hd : decide ((k : Int) < (path.length : Int)) = false := by simpa using hlt
      rw [List.drop_eq_nil_of_le (by omega)] at hq
      have hq' : getPathV t path = okR u := by rw [← hq]; rfl
      rw [hq', vrA_ok]
      refine wRUN hd ?_
      exact wRet (ret_data []) Tryz.results121
end Go.Proofs.YtfmnoljflcpbgaaGreatDoor
