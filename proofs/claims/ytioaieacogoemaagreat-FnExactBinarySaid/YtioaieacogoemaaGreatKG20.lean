/- impl's outcomes, and reading parts of trees, by the engine: null, refuses, count, fault, gives, result. -/
import Derived.Test.YtioaieacogoemaaGreatKG05
import Derived.Test.YtioaieacogoemaaGreatKE5
import Derived.Test.YtioaieacogoemaaGreatKM2
import Derived.Test.YtioaieacogoemaaGreatKB3
set_option linter.unusedSimpArgs false
set_option linter.unusedVariables false
set_option linter.unnecessarySimpa false
namespace Go.Proofs.YtioaieacogoemaaGreat
open Go.RowKit
/-- An outcome as a value. -/
def outA (c : Int) (t : V) : AV := .agg [.c (.int .i64 c), .c (.int .i64 t.kind), .c (.int .i64 t.num), .c (.str t.text), .c (.sl (t.keys.map strCs)), .c (.sl (t.kids.map V.cs))]
def resA (r : Int × Option V) : AV := match r.2 with
  | some t => outA 0 t
  | none => outA r.1 nullV
theorem outA_eq (c : Int) (t : V) : outA c t = .agg [.c (.int .i64 c), .c (.int .i64 t.kind), .c (.int .i64 t.num), .c (.str t.text), .c (.sl (t.keys.map strCs)), .c (.sl (t.kids.map V.cs))] := rfl
theorem outA_null (c : Int) : outA c nullV = .agg [.c (.int .i64 c), .c (.int .i64 0), .c (.int .i64 0), .c (.str ByteArray.empty), .c (.sl []), .c (.sl [])] := rfl
theorem resA_ok (t : V) : resA (okR t) = outA 0 t := rfl
theorem resA_bad (c : Int) : resA (badR c) = outA c nullV := rfl
attribute [go_sem] outA_eq
set_option maxRecDepth 10000
theorem refuses_ac (c : Int) : AC Tryz.prog 73 [.c (.int .i64 c)] [] (outA c nullV) [] := by
  rw [outA_null]
  refine wEnter Tryz.func73 Tryz.ntmps73 ?_
  refine wRUN trivial ?_
  exact wRet (ret_data []) Tryz.results73
set_option maxHeartbeats 1000000 in
theorem count_ac : ∀ (m : Nat) (t : V), t.count ≤ m → t.count ≤ 500000 → AC Tryz.prog 167 [t.av] [] (.c (.int .i64 t.count)) [] := by
  intro m
  induction m with
  | zero => intro t hm _; have := count_pos t; omega
  | succ m ih =>
    intro t hm hM
    have hkc := count_kids t
    have hkl := countL_len t.kids
    obtain ⟨R, hR⟩ : ∃ R : Nat → Nat, ∀ k, R k = 1 + countL (t.kids.take k) := ⟨_, fun _ => rfl⟩
    have h0 : R 0 = 1 := by rw [hR]; simp [countL]
    refine wEnter Tryz.func167 Tryz.ntmps167 ?_
    refine wRUN trivial ?_
    refine a_loop (κ := Nat) (fun k => ⟨mkS 0 19 [(1, .ptr (1, 0) 0), (3, .c (.int .i64 (R k))), (7, .c (.sl (t.kids.map V.cs))), (8, .c (.int .i64 t.kids.length)), (9, .c (.int .i64 k))],
        [((1, 0), .box [.c (.int .i64 t.kind), .c (.int .i64 t.num), .c (.str t.text), .c (.sl (t.keys.map strCs)), .c (.sl (t.kids.map V.cs))])]⟩)
      (fun k => k ≤ t.kids.length) (fun k => t.kids.length - k) 0 (Nat.zero_le _) ?_ ?_
    · exact wSays (Says.of [((1, 0), (1, 0))] []) h0
    · intro k hk
      by_cases hlt : k < t.kids.length
      · have hd : decide ((k : Int) < (t.kids.length : Int)) = true := by simpa using hlt
        have hr : rowsAt (t.kids.map V.cs) 5 k = true := by simp [rowsAt, hlt, V.cs_eq]
        have hg : (t.kids.map V.cs)[k]? = some t.kids[k].cs := by simp [hlt]
        have hmem := countL_mem (List.getElem_mem hlt)
        have hRk : R (k + 1) = R k + t.kids[k].count := by rw [hR, hR, List.take_succ_eq_append_getElem hlt, countL_snoc]; omega
        have hRl : R (k + 1) ≤ t.count := by rw [hR]; have := countL_take_le t.kids (k + 1); omega
        have hw := wrap_succ (k := k) (by omega)
        generalize t.kids[k] = u at *
        have hi := ih u (by omega) (by omega)
        have hs : IntKind.i64.wrap ((R k : Int) + (u.count : Int)) = ((R (k + 1) : Nat) : Int) := by rw [IntWalk.i64_in _ (by omega)]; omega
        refine wRUN (j3 hd hr hg) ?_
        refine w7 (op_data [] hi) trivial ?_
        refine wRUN (j2 hs hw) ?_
        refine ⟨k + 1, by omega, by omega, ?_⟩
        exact wSays (Says.of [((1, 0), (1, 0))] []) hs
      · have hd : decide ((k : Int) < (t.kids.length : Int)) = false := by simpa using hlt
        have hke : R k = t.count := by rw [hR, List.take_of_length_le (by omega)]; omega
        refine wRUN hd ?_
        exact ret_data [] (by simp only [Tryz.results167, go_sem, Nat.reduceBEq, Nat.reduceLT]; exact rfl) (by simp only [go_sem, Nat.reduceEqDiff, Nat.reduceAdd, Nat.reduceSub, Nat.reduceLeDiff, Nat.reduceMul, Nat.reduceBEq, Nat.reduceLT, Int.reduceToNat, reduceCtorEq, hke]) rfl
theorem okText_size {s : ByteArray} (h : okText s = true) : s.size ≤ 60 := by
  unfold okText at h
  simp only [Bool.and_eq_true, decide_eq_true_eq] at h
  exact h.1
theorem right_sized {t : V} (h : t.right) : Sized t.enc := by
  intro c hc
  have h1 := cells_codes t ByteArray.empty h.1 okText_empty c hc
  have h2 := code_text h1
  exact ⟨by have := okText_size h2.1; omega, by have := okText_size h2.2; omega⟩
set_option maxHeartbeats 1000000 in
theorem vfault_ac {t : V} (h : t.right) : AC Tryz.prog 122 [t.av] [] (.c (.int .i64 0)) [] := by
  have hc := h.2.1
  have h1 := count_ac t.count t (Nat.le_refl _) (by omega)
  have h2 := cells_ac t.count t (Nat.le_refl _) (by omega) (right_neat h)
  have h3 := valOf_ac t.enc (right_sized h) (t := t) (by rw [right_dec h])
  have hd : decide ((t.count : Int) > 200) = false := by simp; omega
  refine wEnter Tryz.func122 Tryz.ntmps122 ?_
  refine wRUN trivial ?_
  refine w7 (op_data [] h1) trivial ?_
  refine wRUN hd ?_
  refine w12 (op_rowF [] h2) trivial ?_
  refine w9 (op_shared [(10, 0)] h3) trivial ?_
  refine wRUN trivial ?_
  exact wRet (ret_data []) Tryz.results122
theorem gives_ac {t : V} (h : t.right) : AC Tryz.prog 74 [t.av] [] (outA 0 t) [] := by
  have h1 := vfault_ac h
  have h0 : ((0 : Int) != 0) = false := rfl
  refine wEnter Tryz.func74 Tryz.ntmps74 ?_
  refine wRUN trivial ?_
  refine w7 (op_data [] h1) trivial ?_
  refine wRUN h0 ?_
  exact wRet (ret_data []) Tryz.results74
theorem result_bad {c : Int} (h : c ≠ 0) : AC Tryz.prog 119 [outA c nullV] [] (.agg [.c (.int .i64 c), .nils]) [] := by
  have hb : (c != 0) = true := by simpa using h
  rw [outA_null]
  refine wEnter Tryz.func119 Tryz.ntmps119 ?_
  refine wRUN hb ?_
  exact wRet (ret_data []) Tryz.results119
theorem result_ac {t : V} (h : t.right) : AC Tryz.prog 119 [outA 0 t] [] (.agg [.c (.int .i64 0), .own (0, 0)]) [((0, 0), .row false 5 61 (t.enc.map CellD.cs))] := by
  have hc := h.2.1
  have h2 := cells_ac t.count t (Nat.le_refl _) (by omega) (right_neat h)
  have h0 : ((0 : Int) != 0) = false := rfl
  refine wEnter Tryz.func119 Tryz.ntmps119 ?_
  refine wRUN h0 ?_
  refine w12 (op_rowF [] h2) trivial ?_
  refine wRUN trivial ?_
  exact wRetOf (ret_of [((0, 0), (11, 0))] []) Tryz.results119 h0
end Go.Proofs.YtioaieacogoemaaGreat
