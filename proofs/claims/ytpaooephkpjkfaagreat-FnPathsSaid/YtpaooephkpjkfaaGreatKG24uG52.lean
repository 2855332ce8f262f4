/- Texts of this proof: G24 G50 G51 G52. -/
import Derived.Test.YtpaooephkpjkfaaGreatKG23
import Derived.Test.YtpaooephkpjkfaaGreatKG49
import Derived.Test.YtpaooephkpjkfaaGreatKM2
import Derived.Test.YtpaooephkpjkfaaGreatKG22
set_option linter.unusedSimpArgs false
set_option linter.unusedVariables false
set_option linter.unnecessarySimpa false
namespace Go.Proofs.YtpaooephkpjkfaaGreat
open Go.RowKit
set_option maxRecDepth 10000
set_option maxHeartbeats 1000000 in
theorem withPath_none (f : FuncId) (xs ps : List CellD) (hz : Sized xs) (hd : (dec xs).2 = none) (h0 : (dec xs).1 ≠ 0) :
    AC Tryz.prog 78 [cellsA xs, cellsA ps, .clo f []] [] (.agg [.c (.int .i64 (dec xs).1), .nils]) [] := by
  have ho := ofOne2_none 142 f (.sl (ps.map CellD.cs)) xs hz hd h0
  refine wEnter Tryz.func78 Tryz.ntmps78 ?_
  refine wRUN trivial ?_
  refine wCall (op_any_call [((0, 0), (4, 0)), ((0, 1), (5, 0))] [((0, 0), (4, 0)), ((0, 1), (5, 0))] ho) trivial ?_
  refine wRUN trivial ?_
  exact wRet (ret_data []) Tryz.results78
set_option maxHeartbeats 1000000 in
theorem withPath_bad (f : FuncId) (xs ps : List CellD) (hz : Sized xs) (hzp : Sized ps) {t : V} (hd : dec xs = (0, some t)) {c : Int} (hc : c ≠ 0) (hp : pathDec ps = (c, none)) :
    AC Tryz.prog 78 [cellsA xs, cellsA ps, .clo f []] [] (.agg [.c (.int .i64 c), .nils]) [] := by
  have ho := ofOne2_bad 142 f (by simp only [go_sem]) (.sl (ps.map CellD.cs)) xs hz hd hc (withPath1_bad f t ps hzp hc hp)
  refine wEnter Tryz.func78 Tryz.ntmps78 ?_
  refine wRUN trivial ?_
  refine wCall (op_any_call [((0, 0), (4, 0)), ((0, 1), (5, 0))] [((0, 0), (4, 0)), ((0, 1), (5, 0))] ho) trivial ?_
  refine wRUN trivial ?_
  exact wRet (ret_data []) Tryz.results78
set_option maxHeartbeats 1000000 in
theorem withPath_no (f : FuncId) (hcal : callable Tryz.prog f = true) (xs ps : List CellD) (hz : Sized xs) (hzp : Sized ps) {t : V} (hd : dec xs = (0, some t)) {path : List V} (hp : pathDec ps = (0, some path)) {c : Int} (hc : c ≠ 0)
    (hf : AC Tryz.prog f [t.av, valsA path] [] (outA c nullV) []) : AC Tryz.prog 78 [cellsA xs, cellsA ps, .clo f []] [] (.agg [.c (.int .i64 c), .nils]) [] := by
  have ho := ofOne2_bad 142 f (by simp only [go_sem]) (.sl (ps.map CellD.cs)) xs hz hd hc (withPath1_ac f hcal t ps hzp (r := (c, none)) hp hf)
  refine wEnter Tryz.func78 Tryz.ntmps78 ?_
  refine wRUN trivial ?_
  refine wCall (op_any_call [((0, 0), (4, 0)), ((0, 1), (5, 0))] [((0, 0), (4, 0)), ((0, 1), (5, 0))] ho) trivial ?_
  refine wRUN trivial ?_
  exact wRet (ret_data []) Tryz.results78
set_option maxHeartbeats 1000000 in
theorem withPath_ac (f : FuncId) (hcal : callable Tryz.prog f = true) (xs ps : List CellD) (hz : Sized xs) (hzp : Sized ps) {t u : V} (hd : dec xs = (0, some t)) {path : List V} (hp : pathDec ps = (0, some path)) (hu : u.right)
    (hf : AC Tryz.prog f [t.av, valsA path] [] (outA 0 u) []) : AC Tryz.prog 78 [cellsA xs, cellsA ps, .clo f []] [] (.agg [.c (.int .i64 0), .own (0, 0)]) [((0, 0), .row false 5 42 (u.enc.map CellD.cs))] := by
  have ho := ofOne2_ac 142 f (by simp only [go_sem]) (.sl (ps.map CellD.cs)) xs hz hd hu (withPath1_ac f hcal t ps hzp (r := (0, some u)) hp hf)
  refine wEnter Tryz.func78 Tryz.ntmps78 ?_
  refine wRUN trivial ?_
  refine wCall (op_any_call [((0, 0), (4, 0)), ((0, 1), (5, 0))] [((0, 0), (4, 0)), ((0, 1), (5, 0)), ((1, 0), (9, 0))] ho) trivial ?_
  refine wRUN trivial ?_
  exact wRetOf (ret_of [((0, 0), (9, 0))] []) Tryz.results78 hd
/-- What two values' reading comes to: a value at a path is asked for. -/
def askPath (xs ps : List CellD) (F : V → List V → Int × Option V) : Int × Option V := match dec xs with
  | (c, none) => (c, none)
  | (_, some t) => match pathDec ps with
    | (c, none) => (c, none)
    | (_, some path) => F t path
theorem right_of_dec {xs : List CellD} {t : V} (h : dec xs = (0, some t)) : xs = t.enc ∧ t.right := by
  obtain ⟨h1, h2, h3, h4⟩ := dec_ok h
  exact ⟨h1, h2, h3, h4⟩
theorem ask_way (xs ps : List CellD) (F : V → List V → Int × Option V) : ((dec xs).2 = none ∧ (dec xs).1 ≠ 0 ∧ askPath xs ps F = ((dec xs).1, none)) ∨ ∃ t : V, dec xs = (0, some t) ∧ xs = t.enc ∧ t.right ∧ ((∃ c : Int, c ≠ 0 ∧ pathDec ps = (c, none) ∧ askPath xs ps F = (c, none)) ∨
    ∃ s : V, s.right ∧ ps = s.enc ∧ s.kind = 5 ∧ s.kids.any badKid = false ∧ pathDec ps = (0, some s.kids) ∧ askPath xs ps F = F t s.kids) := by
  rcases dec_cases xs with ⟨t, ht⟩ | ⟨c, hc, hd⟩
  · obtain ⟨h1, h2⟩ := right_of_dec ht
    refine .inr ⟨t, ht, h1, h2, ?_⟩
    rcases pathDec_cases ps with ⟨s, h3, h4, h5, h6, h7, h8, h9⟩ | ⟨c, hc, hp⟩
    · exact .inr ⟨s, ⟨h4, h5, h6⟩, h3, h7, h8, h9, by unfold askPath; rw [ht, h9]⟩
    · exact .inl ⟨c, hc, hp, by unfold askPath; rw [ht, hp]⟩
  · exact .inl ⟨by rw [hd], by rw [hd]; exact hc, by unfold askPath; rw [hd]⟩
end Go.Proofs.YtpaooephkpjkfaaGreat

/- What a value gives that is made of right ones; (impl.val).fault, impl.gives at any tree that fits, by the engine. -/
namespace Go.Proofs.YtpaooephkpjkfaaGreat
open Go.RowKit
set_option maxRecDepth 10000
set_option maxHeartbeats 1000000 in
theorem vfault_any {t : V} (h : t.fit) (hc : t.count ≤ 500000) : AC Tryz.prog 131 [t.av] [] (.c (.int .i64 (dec t.enc).1)) [] := by
  have h1 := count_ac t.count t (Nat.le_refl _) (by omega)
  have h2 := cells_ac t.count t (Nat.le_refl _) (by omega) (fit_neat t h)
  by_cases hb : t.count ≤ 200
  · have hd : decide ((t.count : Int) > 200) = false := by simp; omega
    rcases dec_cases t.enc with ⟨u, hu⟩ | ⟨c, hc0, hu⟩
    · have h3 := valOf_ac t.enc (fit_sized h) (t := u) (by rw [hu])
      rw [hu]
      refine wEnter Tryz.func131 Tryz.ntmps131 ?_
      refine wRUN trivial ?_
      refine w7 (op_data [] h1) trivial ?_
      refine wRUN hd ?_
      refine w12 (op_rowF [] h2) trivial ?_
      refine w9 (op_shared [(10, 0)] h3) trivial ?_
      refine wRUN trivial ?_
      exact wRet (ret_data []) Tryz.results131
    · have h3 := valOf_bad t.enc (fit_sized h) (by rw [hu])
      refine wEnter Tryz.func131 Tryz.ntmps131 ?_
      refine wRUN trivial ?_
      refine w7 (op_data [] h1) trivial ?_
      refine wRUN hd ?_
      refine w12 (op_rowF [] h2) trivial ?_
      (apply (op_shared [(10, 0)] h3); (iterate 9 (focus (first | (simp only [go_sem, Nat.reduceEqDiff, Nat.reduceAdd, Nat.reduceSub, Nat.reduceLeDiff, Nat.reduceMul, Nat.reduceBEq, Nat.reduceLT, Int.reduceToNat, reduceCtorEq, noV]; first | done | exact rfl | (and_intros <;> rfl)) | exact rfl | decide))))
      (repeat (first | (with_reducible first | refine a_seq ?_ | refine a_region ?_ | refine a_block ?_ | refine a_scope ?_) | ((with_reducible apply op_any); (iterate 2 (focus (first | (simp only [go_sem, Nat.reduceEqDiff, Nat.reduceAdd, Nat.reduceSub, Nat.reduceLeDiff, Nat.reduceMul, Nat.reduceBEq, Nat.reduceLT, Int.reduceToNat, reduceCtorEq, noV]; first | done | exact rfl | (and_intros <;> rfl)) | exact rfl | decide)))) | ((with_reducible refine o_nil ?_); dsimp only; try ((with_reducible apply o_draw); (focus (simp only [go_sem]; exact rfl)); (focus decide))) | ((with_reducible first | refine a_ret ?_ | refine a_skip ?_ | refine a_label ?_); dsimp only) | ((with_reducible refine a_exit ?_); dsimp only; simp only [if_true, if_false, Nat.reduceEqDiff]) | ((with_reducible apply a_if); (focus (simp only [go_sem, Nat.reduceBEq, Nat.reduceLT, noV]; exact rfl)); dsimp only [cond_true, cond_false]) | ((with_reducible refine a_draw ?_ ?_); (focus exact rfl))))
      exact wRet (ret_data []) Tryz.results131
  · have hd : decide ((t.count : Int) > 200) = true := by simp; omega
    have hr : (dec t.enc).1 = 2 := by
      unfold dec
      rw [if_pos (by rw [enc_len]; omega)]
    rw [hr]
    refine wEnter Tryz.func131 Tryz.ntmps131 ?_
    refine wRUN trivial ?_
    refine w7 (op_data [] h1) trivial ?_
    refine wRUN hd ?_
    exact wRet (ret_data []) Tryz.results131
theorem gives_any {t : V} (h : t.fit) (hc : t.count ≤ 500000) : AC Tryz.prog 72 [t.av] [] (resA (giveR t)) [] := by
  have h1 := vfault_any h hc
  unfold giveR
  by_cases h0 : (dec t.enc).1 = 0
  · rw [if_pos h0]
    have hb : ((0 : Int) != 0) = false := rfl
    rw [h0] at h1
    show AC _ _ _ _ (outA 0 t) _
    refine wEnter Tryz.func72 Tryz.ntmps72 ?_
    refine wRUN trivial ?_
    refine w7 (op_data [] h1) trivial ?_
    refine wRUN hb ?_
    exact wRet (ret_data []) Tryz.results72
  · rw [if_neg h0]
    have hb : ((dec t.enc).1 != 0) = true := by simpa using h0
    show AC _ _ _ _ (outA (dec t.enc).1 nullV) _
    rw [outA_null]
    refine wEnter Tryz.func72 Tryz.ntmps72 ?_
    refine wRUN trivial ?_
    refine w7 (op_data [] h1) trivial ?_
    refine wRUN hb ?_
    exact wRet (ret_data []) Tryz.results72
/-! ### impl.ofTwo -/
end Go.Proofs.YtpaooephkpjkfaaGreat



/- impl.merge, by the engine. -/
namespace Go.Proofs.YtpaooephkpjkfaaGreat
open Go.RowKit
set_option maxRecDepth 10000
theorem right_kl {t : V} (h : t.right) : t.keys.length ≤ 200 ∧ t.kids.length ≤ 200 := by
  have h1 := kids_len_le h.2.1
  refine ⟨?_, h1⟩
  by_cases h6 : t.kind = 6
  · have := (right_asc h h6).2.2
    omega
  · have := (right_shape h.1).2.2.2.2.1 h6
    rw [this]
    exact Nat.zero_le _
end Go.Proofs.YtpaooephkpjkfaaGreat
