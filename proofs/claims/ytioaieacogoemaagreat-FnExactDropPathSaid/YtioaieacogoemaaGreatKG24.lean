/- impl.withPath, by the engine. -/
import Derived.Test.YtioaieacogoemaaGreatKG23
set_option linter.unusedSimpArgs false
set_option linter.unusedVariables false
set_option linter.unnecessarySimpa false
namespace Go.Proofs.YtioaieacogoemaaGreat
open Go.RowKit
set_option maxRecDepth 10000
set_option maxHeartbeats 1000000 in
theorem withPath_none (f : FuncId) (xs ps : List CellD) (hz : Sized xs) (hd : (dec xs).2 = none) (h0 : (dec xs).1 ≠ 0) :
    AC Tryz.prog 38 [cellsA xs, cellsA ps, .clo f []] [] (.agg [.c (.int .i64 (dec xs).1), .nils]) [] := by
  have ho := ofOne2_none 71 f (.sl (ps.map CellD.cs)) xs hz hd h0
  refine wEnter Tryz.func38 Tryz.ntmps38 ?_
  refine wRUN trivial ?_
  refine wCall (op_any_call [((0, 0), (4, 0)), ((0, 1), (5, 0))] [((0, 0), (4, 0)), ((0, 1), (5, 0))] ho) trivial ?_
  refine wRUN trivial ?_
  exact wRet (ret_data []) Tryz.results38
set_option maxHeartbeats 1000000 in
theorem withPath_bad (f : FuncId) (xs ps : List CellD) (hz : Sized xs) (hzp : Sized ps) {t : V} (hd : dec xs = (0, some t)) {c : Int} (hc : c ≠ 0) (hp : pathDec ps = (c, none)) :
    AC Tryz.prog 38 [cellsA xs, cellsA ps, .clo f []] [] (.agg [.c (.int .i64 c), .nils]) [] := by
  have ho := ofOne2_bad 71 f (by simp only [go_sem]) (.sl (ps.map CellD.cs)) xs hz hd hc (withPath1_bad f t ps hzp hc hp)
  refine wEnter Tryz.func38 Tryz.ntmps38 ?_
  refine wRUN trivial ?_
  refine wCall (op_any_call [((0, 0), (4, 0)), ((0, 1), (5, 0))] [((0, 0), (4, 0)), ((0, 1), (5, 0))] ho) trivial ?_
  refine wRUN trivial ?_
  exact wRet (ret_data []) Tryz.results38
set_option maxHeartbeats 1000000 in
theorem withPath_no (f : FuncId) (hcal : callable Tryz.prog f = true) (xs ps : List CellD) (hz : Sized xs) (hzp : Sized ps) {t : V} (hd : dec xs = (0, some t)) {path : List V} (hp : pathDec ps = (0, some path)) {c : Int} (hc : c ≠ 0)
    (hf : AC Tryz.prog f [t.av, valsA path] [] (outA c nullV) []) : AC Tryz.prog 38 [cellsA xs, cellsA ps, .clo f []] [] (.agg [.c (.int .i64 c), .nils]) [] := by
  have ho := ofOne2_bad 71 f (by simp only [go_sem]) (.sl (ps.map CellD.cs)) xs hz hd hc (withPath1_ac f hcal t ps hzp (r := (c, none)) hp hf)
  refine wEnter Tryz.func38 Tryz.ntmps38 ?_
  refine wRUN trivial ?_
  refine wCall (op_any_call [((0, 0), (4, 0)), ((0, 1), (5, 0))] [((0, 0), (4, 0)), ((0, 1), (5, 0))] ho) trivial ?_
  refine wRUN trivial ?_
  exact wRet (ret_data []) Tryz.results38
set_option maxHeartbeats 1000000 in
theorem withPath_ac (f : FuncId) (hcal : callable Tryz.prog f = true) (xs ps : List CellD) (hz : Sized xs) (hzp : Sized ps) {t u : V} (hd : dec xs = (0, some t)) {path : List V} (hp : pathDec ps = (0, some path)) (hu : u.right)
    (hf : AC Tryz.prog f [t.av, valsA path] [] (outA 0 u) []) : AC Tryz.prog 38 [cellsA xs, cellsA ps, .clo f []] [] (.agg [.c (.int .i64 0), .own (0, 0)]) [((0, 0), .row false 5 61 (u.enc.map CellD.cs))] := by
  have ho := ofOne2_ac 71 f (by simp only [go_sem]) (.sl (ps.map CellD.cs)) xs hz hd hu (withPath1_ac f hcal t ps hzp (r := (0, some u)) hp hf)
  refine wEnter Tryz.func38 Tryz.ntmps38 ?_
  refine wRUN trivial ?_
  refine wCall (op_any_call [((0, 0), (4, 0)), ((0, 1), (5, 0))] [((0, 0), (4, 0)), ((0, 1), (5, 0)), ((1, 0), (9, 0))] ho) trivial ?_
  refine wRUN trivial ?_
  exact wRetOf (ret_of [((0, 0), (9, 0))] []) Tryz.results38 hd
/-- What two values' reading comes to: a value at a path is asked for. -/
def askPath (xs ps : List CellD) (F : V → List V → Int × Option V) : Int × Option V := match dec xs with
  | (c, none) => (c, none)
  | (_, some t) => match pathDec ps with
    | (c, none) => (c, none)
    | (_, some path) => F t path
theorem right_of_dec {xs : List CellD} {t : V} (h : dec xs = (0, some t)) : xs = t.enc ∧ t.right := by
  obtain ⟨h1, h2, h3, h4⟩ := dec_ok h
  exact ⟨h1, h2, h3, h4⟩
theorem ask_way (xs ps : List CellD) (F : V → List V → Int × Option V) : ((dec xs).2 = none ∧ (dec xs).1 ≠ 0 ∧ askPath xs ps F = ((dec xs).1, none)) ∨ ∃ t : V, dec xs = (0, some t) ∧ xs = t.enc ∧ t.right ∧ ((∃ c : Int, c ≠ 0 ∧ pathDec ps = (c, none) ∧ askPath xs ps F = (c, none)) ∨
    ∃ s : V, s.right ∧ ps = s.enc ∧ s.kind = 5 ∧ s.kids.any badKid = false ∧ pathDec ps = (0, some s.kids) ∧ askPath xs ps F = F t s.kids) := by
  rcases dec_cases xs with ⟨t, ht⟩ | ⟨c, hc, hd⟩
  · obtain ⟨h1, h2⟩ := right_of_dec ht
    refine .inr ⟨t, ht, h1, h2, ?_⟩
    rcases pathDec_cases ps with ⟨s, h3, h4, h5, h6, h7, h8, h9⟩ | ⟨c, hc, hp⟩
    · exact .inr ⟨s, ⟨h4, h5, h6⟩, h3, h7, h8, h9, by unfold askPath; rw [ht, h9]⟩
    · exact .inl ⟨c, hc, hp, by unfold askPath; rw [ht, hp]⟩
  · exact .inl ⟨by rw [hd], by rw [hd]; exact hc, by unfold askPath; rw [hd]⟩
end Go.Proofs.YtioaieacogoemaaGreat
