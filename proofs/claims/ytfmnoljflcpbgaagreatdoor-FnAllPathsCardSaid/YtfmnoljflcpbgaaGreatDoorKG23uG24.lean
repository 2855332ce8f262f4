/- Texts of this proof: G23 G24. -/
import Derived.Test.YtfmnoljflcpbgaaGreatDoorKG22
set_option linter.unusedSimpArgs false
set_option linter.unusedVariables false
set_option linter.unnecessarySimpa false
namespace Go.Proofs.YtfmnoljflcpbgaaGreatDoor
open Go.RowKit
set_option maxRecDepth 10000
theorem ar_trees {w : World} {S : Nat → Prop} {m : Mem} {κ : Id → Value} {ks : List V} {kvs : List (List Value)} {A : Option Addr} {cv : Nat} (hc : ks.length ≤ cv) (hr : Row w S 5 A kvs) (hv : VReps w S ks kvs) : AR w S m κ (valsA ks) (.slice A ks.length cv) := by
  have h7 := crss_trees hv
  rw [csL_eq] at h7
  exact ⟨5, A, cv, kvs, by rw [List.length_map], by rw [List.length_map]; exact hc, trivial, hr, h7, rfl⟩
theorem pathOf_ac (xs : List CellD) (hz : Sized xs) {ks : List V} (h : pathDec xs = (0, some ks)) : AC Tryz.prog 46 [cellsA xs] [] (.tup [valsA ks, .c (.int .i64 0)]) [] := by
  refine AC.of_calls fun S w κ vs hv => ?_
  obtain ⟨v, vs', rfl, h1, rfl⟩ := hv
  obtain ⟨A, cap, rfl, _, hc⟩ := cr_cells.1 h1
  refine (pathOf_any xs hz A cap S w hc).mono ?_
  rintro e w' ⟨hb, he⟩
  rw [h] at he
  obtain ⟨Av, cv, kvs, rfl, h2, h3, h4⟩ := he
  exact ⟨hb, _, rfl, fun T _ hT => ⟨[_, _], rfl, _, _, rfl, ar_trees h2 (h3.weaken fun b hb _ => hT b hb) (h4.weaken fun b hb _ => hT b hb), _, _, rfl, ⟨rfl, rfl⟩, rfl⟩⟩
theorem pathOf_bad (xs : List CellD) (hz : Sized xs) {c : Int} (h : pathDec xs = (c, none)) : AC Tryz.prog 46 [cellsA xs] [] (.tup [.nils, .c (.int .i64 c)]) [] := by
  refine AC.of_calls fun S w κ vs hv => ?_
  obtain ⟨v, vs', rfl, h1, rfl⟩ := hv
  obtain ⟨A, cap, rfl, _, hc⟩ := cr_cells.1 h1
  refine (pathOf_any xs hz A cap S w hc).mono ?_
  rintro e w' ⟨hb, he⟩
  rw [h] at he
  have he' : e = .returned (.tuple #[.slice none 0 0, .int .i64 c]) := he
  subst he'
  exact ⟨hb, _, rfl, fun T _ hT => ⟨[_, _], rfl, _, _, rfl, rfl, _, _, rfl, ⟨rfl, rfl⟩, rfl⟩⟩
set_option maxHeartbeats 2000000 in
theorem withPath1_ac (f : FuncId) (hcal : callable Tryz.prog f = true) (t : V) (ps : List CellD) (hz : Sized ps) {path : List V} {r : Int × Option V} (hp : pathDec ps = (0, some path)) (hf : AC Tryz.prog f [t.av, valsA path] [] (resA r) []) :
    AC Tryz.prog 146 [t.av, .ptr (0, 0) 0, .ptr (0, 1) 0] [((0, 0), .box [cellsA ps]), ((0, 1), .box [.clo f []])] (resA r) [((0, 0), .box [cellsA ps]), ((0, 1), .box [.clo f []])] := by
  have h1 := pathOf_ac ps hz hp
  have h0 : ((0 : Int) != 0) = false := rfl
  rcases r with ⟨c, _ | u⟩
  all_goals
    simp only [resA_some, resA_none] at hf ⊢
    refine wEnter Tryz.func146 Tryz.ntmps146 ?_
    refine wRUN trivial ?_
    refine w9 (op_shared [] h1) trivial ?_
    refine wRUN h0 ?_
    refine w9 (op_shared [] hf) hcal ?_
    refine wRUN trivial ?_
    exact wRetOf (ret_of [((0, 0), (0, 0)), ((0, 1), (0, 1))] []) Tryz.results146 h0
set_option maxHeartbeats 2000000 in
theorem withPath1_bad (f : FuncId) (t : V) (ps : List CellD) (hz : Sized ps) {c : Int} (hc : c ≠ 0) (hp : pathDec ps = (c, none)) :
    AC Tryz.prog 146 [t.av, .ptr (0, 0) 0, .ptr (0, 1) 0] [((0, 0), .box [cellsA ps]), ((0, 1), .box [.clo f []])] (outA c nullV) [((0, 0), .box [cellsA ps]), ((0, 1), .box [.clo f []])] := by
  have h1 := pathOf_bad ps hz hp
  have h2 := refuses_ac c
  have h0 : (c != 0) = true := by simpa using hc
  refine wEnter Tryz.func146 Tryz.ntmps146 ?_
  refine wRUN trivial ?_
  refine w9 (op_shared [] h1) trivial ?_
  refine wRUN h0 ?_
  refine w9 (op_shared [] h2) trivial ?_
  refine wRUN trivial ?_
  exact wRetOf (ret_of [((0, 0), (0, 0)), ((0, 1), (0, 1))] []) Tryz.results146 h0
set_option maxHeartbeats 2000000 in
theorem ofOne2_none (g f : FuncId) (x : C) (xs : List CellD) (hz : Sized xs) (hd : (dec xs).2 = none) (h0 : (dec xs).1 ≠ 0) :
    AC Tryz.prog 145 [cellsA xs, .clo g [.ptr (0, 0) 0, .ptr (0, 1) 0]] [((0, 0), .box [.c x]), ((0, 1), .box [.clo f []])] (.agg [.c (.int .i64 (dec xs).1), .nils]) [((0, 0), .box [.c x]), ((0, 1), .box [.clo f []])] := by
  have hb : ((dec xs).1 != 0) = true := by simpa using h0
  have hv := valOf_bad xs hz hd
  refine wEnter Tryz.func145 Tryz.ntmps145 ?_
  refine wRUN trivial ?_
  refine w9 (op_shared [] hv) noV_eq ?_
  refine wRUN (j2 hb noV_eq) ?_
  exact wRetOf (ret_of [((0, 0), (0, 0)), ((0, 1), (0, 1))] []) Tryz.results145 h0
set_option maxHeartbeats 2000000 in
theorem ofOne2_bad (g f : FuncId) (hcal : callable Tryz.prog g = true) (x : C) (xs : List CellD) (hz : Sized xs) {t : V} (hd : dec xs = (0, some t)) {c : Int} (hc : c ≠ 0)
    (hg : AC Tryz.prog g [t.av, .ptr (0, 0) 0, .ptr (0, 1) 0] [((0, 0), .box [.c x]), ((0, 1), .box [.clo f []])] (outA c nullV) [((0, 0), .box [.c x]), ((0, 1), .box [.clo f []])]) :
    AC Tryz.prog 145 [cellsA xs, .clo g [.ptr (0, 0) 0, .ptr (0, 1) 0]] [((0, 0), .box [.c x]), ((0, 1), .box [.clo f []])] (.agg [.c (.int .i64 c), .nils]) [((0, 0), .box [.c x]), ((0, 1), .box [.clo f []])] := by
  have h0 : ((0 : Int) != 0) = false := rfl
  have hv := valOf_ac xs hz (t := t) (by rw [hd])
  have hr := result_bad hc
  refine wEnter Tryz.func145 Tryz.ntmps145 ?_
  refine wRUN trivial ?_
  refine w9 (op_shared [] hv) trivial ?_
  refine wRUN h0 ?_
  refine wCall (op_any_call [((0, 0), (0, 0)), ((0, 1), (0, 1))] [((0, 0), (0, 0)), ((0, 1), (0, 1))] hg) hcal ?_
  refine w7 (op_data [] hr) trivial ?_
  refine wRUN trivial ?_
  exact wRetOf (ret_of [((0, 0), (0, 0)), ((0, 1), (0, 1))] []) Tryz.results145 h0
set_option maxHeartbeats 2000000 in
theorem ofOne2_ac (g f : FuncId) (hcal : callable Tryz.prog g = true) (x : C) (xs : List CellD) (hz : Sized xs) {t u : V} (hd : dec xs = (0, some t)) (hu : u.right)
    (hg : AC Tryz.prog g [t.av, .ptr (0, 0) 0, .ptr (0, 1) 0] [((0, 0), .box [.c x]), ((0, 1), .box [.clo f []])] (outA 0 u) [((0, 0), .box [.c x]), ((0, 1), .box [.clo f []])]) :
    AC Tryz.prog 145 [cellsA xs, .clo g [.ptr (0, 0) 0, .ptr (0, 1) 0]] [((0, 0), .box [.c x]), ((0, 1), .box [.clo f []])] (.agg [.c (.int .i64 0), .own (1, 0)]) [((0, 0), .box [.c x]), ((0, 1), .box [.clo f []]), ((1, 0), .row false 5 69 (u.enc.map CellD.cs))] := by
  have h0 : ((0 : Int) != 0) = false := rfl
  have hv := valOf_ac xs hz (t := t) (by rw [hd])
  have hr := result_ac hu
  refine wEnter Tryz.func145 Tryz.ntmps145 ?_
  refine wRUN trivial ?_
  refine w9 (op_shared [] hv) trivial ?_
  refine wRUN h0 ?_
  refine wCall (op_any_call [((0, 0), (0, 0)), ((0, 1), (0, 1))] [((0, 0), (0, 0)), ((0, 1), (0, 1))] hg) hcal ?_
  refine w12 (op_rowF [] hr) trivial ?_
  refine wRUN trivial ?_
  exact wRetOf (ret_of [((0, 0), (0, 0)), ((0, 1), (0, 1)), ((1, 0), (19, 0))] []) Tryz.results145 h0
end Go.Proofs.YtfmnoljflcpbgaaGreatDoor

/- impl.withPath, by the engine. -/
namespace Go.Proofs.YtfmnoljflcpbgaaGreatDoor
open Go.RowKit
set_option maxRecDepth 10000
set_option maxHeartbeats 1000000 in
theorem withPath_none (f : FuncId) (xs ps : List CellD) (hz : Sized xs) (hd : (dec xs).2 = none) (h0 : (dec xs).1 ≠ 0) :
    AC Tryz.prog 89 [cellsA xs, cellsA ps, .clo f []] [] (.agg [.c (.int .i64 (dec xs).1), .nils]) [] := by
  have ho := ofOne2_none 146 f (.sl (ps.map CellD.cs)) xs hz hd h0
  refine wEnter Tryz.func89 Tryz.ntmps89 ?_
  refine wRUN trivial ?_
  refine wCall (op_any_call [((0, 0), (4, 0)), ((0, 1), (5, 0))] [((0, 0), (4, 0)), ((0, 1), (5, 0))] ho) trivial ?_
  refine wRUN trivial ?_
  exact wRet (ret_data []) Tryz.results89
set_option maxHeartbeats 1000000 in
theorem withPath_bad (f : FuncId) (xs ps : List CellD) (hz : Sized xs) (hzp : Sized ps) {t : V} (hd : dec xs = (0, some t)) {c : Int} (hc : c ≠ 0) (hp : pathDec ps = (c, none)) :
    AC Tryz.prog 89 [cellsA xs, cellsA ps, .clo f []] [] (.agg [.c (.int .i64 c), .nils]) [] := by
  have ho := ofOne2_bad 146 f (by simp only [go_sem]) (.sl (ps.map CellD.cs)) xs hz hd hc (withPath1_bad f t ps hzp hc hp)
  refine wEnter Tryz.func89 Tryz.ntmps89 ?_
  refine wRUN trivial ?_
  refine wCall (op_any_call [((0, 0), (4, 0)), ((0, 1), (5, 0))] [((0, 0), (4, 0)), ((0, 1), (5, 0))] ho) trivial ?_
  refine wRUN trivial ?_
  exact wRet (ret_data []) Tryz.results89
set_option maxHeartbeats 1000000 in
theorem withPath_no (f : FuncId) (hcal : callable Tryz.prog f = true) (xs ps : List CellD) (hz : Sized xs) (hzp : Sized ps) {t : V} (hd : dec xs = (0, some t)) {path : List V} (hp : pathDec ps = (0, some path)) {c : Int} (hc : c ≠ 0)
    (hf : AC Tryz.prog f [t.av, valsA path] [] (outA c nullV) []) : AC Tryz.prog 89 [cellsA xs, cellsA ps, .clo f []] [] (.agg [.c (.int .i64 c), .nils]) [] := by
  have ho := ofOne2_bad 146 f (by simp only [go_sem]) (.sl (ps.map CellD.cs)) xs hz hd hc (withPath1_ac f hcal t ps hzp (r := (c, none)) hp hf)
  refine wEnter Tryz.func89 Tryz.ntmps89 ?_
  refine wRUN trivial ?_
  refine wCall (op_any_call [((0, 0), (4, 0)), ((0, 1), (5, 0))] [((0, 0), (4, 0)), ((0, 1), (5, 0))] ho) trivial ?_
  refine wRUN trivial ?_
  exact wRet (ret_data []) Tryz.results89
set_option maxHeartbeats 1000000 in
theorem withPath_ac (f : FuncId) (hcal : callable Tryz.prog f = true) (xs ps : List CellD) (hz : Sized xs) (hzp : Sized ps) {t u : V} (hd : dec xs = (0, some t)) {path : List V} (hp : pathDec ps = (0, some path)) (hu : u.right)
    (hf : AC Tryz.prog f [t.av, valsA path] [] (outA 0 u) []) : AC Tryz.prog 89 [cellsA xs, cellsA ps, .clo f []] [] (.agg [.c (.int .i64 0), .own (0, 0)]) [((0, 0), .row false 5 69 (u.enc.map CellD.cs))] := by
  have ho := ofOne2_ac 146 f (by simp only [go_sem]) (.sl (ps.map CellD.cs)) xs hz hd hu (withPath1_ac f hcal t ps hzp (r := (0, some u)) hp hf)
  refine wEnter Tryz.func89 Tryz.ntmps89 ?_
  refine wRUN trivial ?_
  refine wCall (op_any_call [((0, 0), (4, 0)), ((0, 1), (5, 0))] [((0, 0), (4, 0)), ((0, 1), (5, 0)), ((1, 0), (9, 0))] ho) trivial ?_
  refine wRUN trivial ?_
  exact wRetOf (ret_of [((0, 0), (9, 0))] []) Tryz.results89 hd
/-- What two values' reading comes to: a value at a path is asked for. -/
def askPath (xs ps : List CellD) (F : V → List V → Int × Option V) : Int × Option V := match dec xs with
  | (c, none) => (c, none)
  | (_, some t) => match pathDec ps with
    | (c, none) => (c, none)
    | (_, some path) => F t path
theorem right_of_dec {xs : List CellD} {t : V} (h : dec xs = (0, some t)) : xs = t.enc ∧ t.right := by
  obtain ⟨h1, h2, h3, h4⟩ := dec_ok h
  exact ⟨h1, h2, h3, h4⟩
theorem ask_way (xs ps : List CellD) (F : V → List V → Int × Option V) : ((dec xs).2 = none ∧ (dec xs).1 ≠ 0 ∧ askPath xs ps F = ((dec xs).1, none)) ∨ ∃ t : V, dec xs = (0, some t) ∧ xs = t.enc ∧ t.right ∧ ((∃ c : Int, c ≠ 0 ∧ pathDec ps = (c, none) ∧ askPath xs ps F = (c, none)) ∨
    ∃ s : V, s.right ∧ ps = s.enc ∧ s.kind = 5 ∧ s.kids.any badKid = false ∧ pathDec ps = (0, some s.kids) ∧ askPath xs ps F = F t s.kids) := by
  rcases dec_cases xs with ⟨t, ht⟩ | ⟨c, hc, hd⟩
  · obtain ⟨h1, h2⟩ := right_of_dec ht
    refine .inr ⟨t, ht, h1, h2, ?_⟩
    rcases pathDec_cases ps with ⟨s, h3, h4, h5, h6, h7, h8, h9⟩ | ⟨c, hc, hp⟩
    · exact .inr ⟨s, ⟨h4, h5, h6⟩, h3, h7, h8, h9, by unfold askPath; rw [ht, h9]⟩
    · exact .inl ⟨c, hc, hp, by unfold askPath; rw [ht, hp]⟩
  · exact .inl ⟨by rw [hd], by rw [hd]; exact hc, by unfold askPath; rw [hd]⟩
end Go.Proofs.YtfmnoljflcpbgaaGreatDoor
