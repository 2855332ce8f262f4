/- Texts of this proof: G05 G20. -/
import Derived.Test.YtpaooephkpjkfaaGreatKG04
import Derived.Test.YtpaooephkpjkfaaGreatKE5
import Derived.Test.YtpaooephkpjkfaaGreatKM2
import Derived.Test.YtpaooephkpjkfaaGreatKB3
set_option linter.unusedSimpArgs false
set_option linter.unusedVariables false
set_option linter.unnecessarySimpa false
namespace Go.Proofs.YtpaooephkpjkfaaGreat
open Go.RowKit

/-- A path as a cell of the result: a slice that no one else reaches. -/
def pathCs (p : List V × V) : List C := [.osl ((arrV p.1).enc.map CellD.cs)]
theorem all_paths (l : List (List V × V)) : ((l.map pathCs).all fun r => r.length == 1) = true := by simp [pathCs]
attribute [go_sem] all_paths
set_option maxRecDepth 10000
theorem arr_count (l : List V) : (arrV l).count = countL l + 1 := rfl
end Go.Proofs.YtpaooephkpjkfaaGreat

/- impl's outcomes, and reading parts of trees, by the engine: null, refuses, count, fault, gives, result. -/
namespace Go.Proofs.YtpaooephkpjkfaaGreat
open Go.RowKit
/-- An outcome as a value. -/
def outA (c : Int) (t : V) : AV := .agg [.c (.int .i64 c), .c (.int .i64 t.kind), .c (.int .i64 t.num), .c (.str t.text), .c (.sl (t.keys.map strCs)), .c (.sl (t.kids.map V.cs))]
def resA (r : Int × Option V) : AV := match r.2 with
  | some t => outA 0 t
  | none => outA r.1 nullV
theorem outA_eq (c : Int) (t : V) : outA c t = .agg [.c (.int .i64 c), .c (.int .i64 t.kind), .c (.int .i64 t.num), .c (.str t.text), .c (.sl (t.keys.map strCs)), .c (.sl (t.kids.map V.cs))] := rfl
theorem outA_null (c : Int) : outA c nullV = .agg [.c (.int .i64 c), .c (.int .i64 0), .c (.int .i64 0), .c (.str ByteArray.empty), .c (.sl []), .c (.sl [])] := rfl
attribute [go_sem] outA_eq
set_option maxRecDepth 10000
set_option maxHeartbeats 1000000 in
theorem count_ac : ∀ (m : Nat) (t : V), t.count ≤ m → t.count ≤ 500000 → AC Tryz.prog 195 [t.av] [] (.c (.int .i64 t.count)) [] := by
  intro m
  induction m with
  | zero => intro t hm _; have := count_pos t; omega
  | succ m ih =>
    intro t hm hM
    have hkc := count_kids t
    have hkl := countL_len t.kids
    obtain ⟨R, hR⟩ : ∃ R : Nat → Nat, ∀ k, R k = 1 + countL (t.kids.take k) := ⟨_, fun _ => rfl⟩
    have h0 : R 0 = 1 := by rw [hR]; simp [countL]
    refine wEnter Tryz.func195 Tryz.ntmps195 ?_
    refine wRUN trivial ?_
    refine a_loop (κ := Nat) (fun k => ⟨mkS 0 19 [(1, .ptr (1, 0) 0), (3, .c (.int .i64 (R k))), (7, .c (.sl (t.kids.map V.cs))), (8, .c (.int .i64 t.kids.length)), (9, .c (.int .i64 k))],
        [((1, 0), .box [.c (.int .i64 t.kind), .c (.int .i64 t.num), .c (.str t.text), .c (.sl (t.keys.map strCs)), .c (.sl (t.kids.map V.cs))])]⟩)
      (fun k => k ≤ t.kids.length) (fun k => t.kids.length - k) 0 (Nat.zero_le _) ?_ ?_
    · exact wSays (Says.of [((1, 0), (1, 0))] []) h0
    · intro k hk
      by_cases hlt : k < t.kids.length
      · have hd : decide ((k : Int) < (t.kids.length : Int)) = true := by simpa using hlt
        have hr : rowsAt (t.kids.map V.cs) 5 k = true := by simp [rowsAt, hlt, V.cs_eq]
        have hg : (t.kids.map V.cs)[k]? = some t.kids[k].cs := by simp [hlt]
        have hmem := countL_mem (List.getElem_mem hlt)
        have hRk : R (k + 1) = R k + t.kids[k].count := by rw [hR, hR, List.take_succ_eq_append_getElem hlt, countL_snoc]; omega
        have hRl : R (k + 1) ≤ t.count := by rw [hR]; have := countL_take_le t.kids (k + 1); omega
        have hw := wrap_succ (k := k) (by omega)
        generalize t.kids[k] = u at *
        have hi := ih u (by omega) (by omega)
        have hs : IntKind.i64.wrap ((R k : Int) + (u.count : Int)) = ((R (k + 1) : Nat) : Int) := by rw [IntWalk.i64_in _ (by omega)]; omega
        refine wRUN (j3 hd hr hg) ?_
        refine w7 (op_data [] hi) trivial ?_
        refine wRUN (j2 hs hw) ?_
        refine ⟨k + 1, by omega, by omega, ?_⟩
        exact wSays (Says.of [((1, 0), (1, 0))] []) hs
      · have hd : decide ((k : Int) < (t.kids.length : Int)) = false := by simpa using hlt
        have hke : R k = t.count := by rw [hR, List.take_of_length_le (by omega)]; omega
        refine wRUN hd ?_
        exact ret_data [] (by simp only [Tryz.results195, go_sem, Nat.reduceBEq, Nat.reduceLT]; exact rfl) (by simp only [go_sem, Nat.reduceEqDiff, Nat.reduceAdd, Nat.reduceSub, Nat.reduceLeDiff, Nat.reduceMul, Nat.reduceBEq, Nat.reduceLT, Int.reduceToNat, reduceCtorEq, hke]) rfl
theorem okText_size {s : ByteArray} (h : okText s = true) : s.size ≤ 60 := by
  unfold okText at h
  simp only [Bool.and_eq_true, decide_eq_true_eq] at h
  exact h.1
theorem right_sized {t : V} (h : t.right) : Sized t.enc := by
  intro c hc
  have h1 := cells_codes t ByteArray.empty h.1 okText_empty c hc
  have h2 := code_text h1
  exact ⟨by have := okText_size h2.1; omega, by have := okText_size h2.2; omega⟩
theorem result_bad {c : Int} (h : c ≠ 0) : AC Tryz.prog 100 [outA c nullV] [] (.agg [.c (.int .i64 c), .nils]) [] := by
  have hb : (c != 0) = true := by simpa using h
  rw [outA_null]
  refine wEnter Tryz.func100 Tryz.ntmps100 ?_
  refine wRUN hb ?_
  exact wRet (ret_data []) Tryz.results100
theorem result_ac {t : V} (h : t.right) : AC Tryz.prog 100 [outA 0 t] [] (.agg [.c (.int .i64 0), .own (0, 0)]) [((0, 0), .row false 5 42 (t.enc.map CellD.cs))] := by
  have hc := h.2.1
  have h2 := cells_ac t.count t (Nat.le_refl _) (by omega) (right_neat h)
  have h0 : ((0 : Int) != 0) = false := rfl
  refine wEnter Tryz.func100 Tryz.ntmps100 ?_
  refine wRUN h0 ?_
  refine w12 (op_rowF [] h2) trivial ?_
  refine wRUN trivial ?_
  exact wRetOf (ret_of [((0, 0), (11, 0))] []) Tryz.results100 h0
end Go.Proofs.YtpaooephkpjkfaaGreat
