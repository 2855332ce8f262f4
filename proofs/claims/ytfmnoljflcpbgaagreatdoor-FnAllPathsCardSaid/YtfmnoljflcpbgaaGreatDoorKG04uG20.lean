/- Texts of this proof: G04 G05 G20. -/
import Derived.Test.YtfmnoljflcpbgaaGreatDoorKG01uG03
import Derived.Test.YtfmnoljflcpbgaaGreatDoorKB3
import Derived.Test.YtfmnoljflcpbgaaGreatDoorKE5
import Derived.Test.YtfmnoljflcpbgaaGreatDoorKM2
set_option linter.unusedSimpArgs false
set_option linter.unusedVariables false
set_option linter.unnecessarySimpa false
namespace Go.Proofs.YtfmnoljflcpbgaaGreatDoor
open Go.RowKit

section
variable {w : World} {S : Nat → Prop}
theorem crs_cell {c : CellD} {v : List Value} {bs : List Nat} : CRs w S c.cs v bs ↔ v = vals c ∧ bs = [] := by
  simp only [CellD.cs, CRs, CR, vals]
  constructor
  · rintro ⟨_, _, _, _, rfl, rfl, ⟨rfl, rfl⟩, _, _, _, _, rfl, rfl, ⟨rfl, rfl⟩, _, _, _, _, rfl, rfl, ⟨rfl, rfl⟩, _, _, _, _, rfl, rfl, ⟨rfl, rfl⟩, _, _, _, _, rfl, rfl, ⟨rfl, rfl⟩, rfl, rfl⟩
    exact ⟨rfl, rfl⟩
  · rintro ⟨rfl, rfl⟩
    exact ⟨_, _, [], [], rfl, rfl, ⟨rfl, rfl⟩, _, _, [], [], rfl, rfl, ⟨rfl, rfl⟩, _, _, [], [], rfl, rfl, ⟨rfl, rfl⟩, _, _, [], [], rfl, rfl, ⟨rfl, rfl⟩, _, _, [], [], rfl, rfl, ⟨rfl, rfl⟩, rfl, rfl⟩
theorem crss_map {α : Type} {f : α → List C} {g : α → List Value} (hf : ∀ {x v bs}, CRs w S (f x) v bs ↔ v = g x ∧ bs = []) : ∀ {l : List α} {vs : List (List Value)} {bs : List Nat}, CRss w S (l.map f) vs bs ↔ vs = l.map g ∧ bs = []
  | [], vs, bs => by simp [CRss]
  | x :: l, vs, bs => by
    simp only [List.map_cons, CRss]
    constructor
    · rintro ⟨v, vs', b1, b2, rfl, rfl, h1, h2⟩
      obtain ⟨rfl, rfl⟩ := hf.1 h1
      obtain ⟨rfl, rfl⟩ := (crss_map hf).1 h2
      exact ⟨rfl, rfl⟩
    · rintro ⟨rfl, rfl⟩
      exact ⟨_, _, [], [], rfl, rfl, hf.2 ⟨rfl, rfl⟩, (crss_map hf).2 ⟨rfl, rfl⟩⟩
theorem Row.resize {es n : Nat} {A : Option Addr} {xs : List (List Value)} (h : Row w S es A xs) (hl : ∀ x ∈ xs, x.length = n) : Row w S n A xs := by
  cases xs with
  | nil => exact Row.nil
  | cons x xs =>
    have h1 := h.1 x (by simp)
    have h2 := hl x (by simp)
    rw [← h2, h1]
    exact h
theorem cr_rows {α : Type} {f : α → List C} {g : α → List Value} {n : Nat} (hf : ∀ {x v bs}, CRs w S (f x) v bs ↔ v = g x ∧ bs = []) (hg : ∀ x, (g x).length = n) {l : List α} {v : Value} :
    CR w S (.sl (l.map f)) v [] ↔ ∃ A cap, v = .slice A l.length cap ∧ l.length ≤ cap ∧ Row w S n A (l.map g) := by
  simp only [CR]
  constructor
  · rintro ⟨es, A, cap, vrows, rfl, h2, _, h4, h5, _⟩
    obtain ⟨rfl, _⟩ := (crss_map hf).1 h5
    rw [List.length_map] at h2 ⊢
    exact ⟨A, cap, rfl, h2, h4.resize (by simp [hg])⟩
  · rintro ⟨A, cap, rfl, h2, h4⟩
    exact ⟨n, A, cap, l.map g, by rw [List.length_map], by rw [List.length_map]; exact h2, trivial, h4, (crss_map hf).2 ⟨rfl, rfl⟩, trivial⟩
theorem vals_len (c : CellD) : (vals c).length = 5 := rfl
theorem cr_cells {xs : List CellD} {v : Value} : CR w S (.sl (xs.map CellD.cs)) v [] ↔ ∃ A cap, v = .slice A xs.length cap ∧ xs.length ≤ cap ∧ Cells w S A xs := cr_rows crs_cell vals_len
theorem crs_str {s : ByteArray} {v : List Value} {bs : List Nat} : CRs w S (strCs s) v bs ↔ v = [.string s] ∧ bs = [] := by
  simp only [strCs, CRs, CR]
  constructor
  · rintro ⟨_, _, _, _, rfl, rfl, ⟨rfl, rfl⟩, rfl, rfl⟩
    exact ⟨rfl, rfl⟩
  · rintro ⟨rfl, rfl⟩
    exact ⟨_, _, [], [], rfl, rfl, ⟨rfl, rfl⟩, rfl, rfl⟩
theorem cr_strs {xs : List ByteArray} {v : Value} : CR w S (.sl (xs.map strCs)) v [] ↔ ∃ A cap, v = .slice A xs.length cap ∧ xs.length ≤ cap ∧ Strs w S A xs := cr_rows (f := strCs) (g := fun k => [.string k]) (n := 1) crs_str fun _ => rfl
mutual
theorem crs_tree : ∀ {t : V} {vs : List Value}, VRep w S t vs → CRs w S t.cs vs []
  | .mk kind num text keys kids, vs, h => by
    simp only [VRep] at h
    obtain ⟨Ak, ck, Av, cv, kvs, rfl, h2, h3, h4, h5, h6⟩ := h
    have h7 := crss_trees h6
    have hl := h7.length
    simp only [csL_eq, List.length_map] at hl
    simp only [V.cs, CRs]
    refine ⟨_, _, [], [], rfl, rfl, ⟨rfl, rfl⟩, _, _, [], [], rfl, rfl, ⟨rfl, rfl⟩, _, _, [], [], rfl, rfl, ⟨rfl, rfl⟩, _, _, [], [], rfl, rfl, cr_strs.2 ⟨_, _, rfl, h2, h4⟩, _, _, [], [], rfl, rfl, ?_, rfl, rfl⟩
    simp only [CR]
    exact ⟨5, Av, cv, kvs, by rw [csL_eq, List.length_map], by rw [csL_eq, List.length_map]; exact h3, trivial, h5, h7, trivial⟩
theorem crss_trees : ∀ {ts : List V} {vs : List (List Value)}, VReps w S ts vs → CRss w S (csL ts) vs []
  | [], vs, h => by
    simp only [VReps] at h
    subst h
    exact ⟨rfl, rfl⟩
  | t :: ts, vs, h => by
    simp only [VReps] at h
    obtain ⟨v, vs', rfl, h1, h2⟩ := h
    exact ⟨_, _, [], [], rfl, rfl, crs_tree h1, crss_trees h2⟩
end
end
/-- Cells as values. -/
theorem ars_cells {w : World} {S : Nat → Prop} {m : Mem} {κ : Id → Value} : ∀ {xs : List C} {vs : List Value}, CRs w S xs vs [] → ARs w S m κ (xs.map .c) vs
  | [], vs, h => by
    simp only [CRs] at h
    exact h.1
  | x :: xs, vs, h => by
    simp only [CRs] at h
    obtain ⟨v, vs', b1, b2, rfl, h0, h1, h2⟩ := h
    have h3 : b1 = [] ∧ b2 = [] := by simpa using h0.symm
    obtain ⟨rfl, rfl⟩ := h3
    exact ⟨v, vs', rfl, h1, ars_cells h2⟩
theorem V.av_eq (t : V) : t.av = .agg (t.cs.map .c) := by rw [V.cs_eq]; rfl
theorem ar_tree {w : World} {S : Nat → Prop} {m : Mem} {κ : Id → Value} {t : V} {vs : List Value} (h : VRep w S t vs) : AR w S m κ t.av (.agg vs.toArray) := by
  rw [V.av_eq]
  refine ⟨vs, rfl, ars_cells (crs_tree h), ?_⟩
  intro u hu
  cases t
  simp only [VRep] at h
  obtain ⟨Ak, ck, Av, cv, kvs, rfl, _⟩ := h
  simp only [List.mem_cons, List.not_mem_nil, or_false] at hu
  rcases hu with rfl | rfl | rfl | rfl | rfl <;> rfl
/-- A contract of a function that is handed no object and makes none. -/
theorem AC.of_calls {P : Program} {f : FuncId} {args : List AV} {res : AV}
    (h : ∀ (S : Nat → Prop) (w : World) (κ : Id → Value) (vals : List Value), ARs w S [] κ args vals → Calls P f vals.toArray w fun e w' => Below w.heap.size w w' ∧ ∃ v, e = .returned v ∧ ∀ T : Nat → Prop, (∀ b, S b → T b) → (∀ b, w.heap.size ≤ b → T b) → AR w' T [] κ res v) : AC P f args [] res [] := by
  intro Γ vals hE hA
  have how : ∀ b, Γ.ow b = none := by
    intro b
    cases hb : Γ.ow b with
    | none => rfl
    | some i => obtain ⟨_, o, h1, _⟩ := hE.own b i hb; simp [Mem.get] at h1
  refine (h _ _ _ _ hA).mono ?_
  rintro e w' ⟨hb, v, rfl, hv⟩
  refine ⟨v, Γ.ow, Γ.κ, rfl, ⟨hv _ (fun _ h => h) (fun b hb => ⟨how b, .inr (.inl hb)⟩), fun i o h => (by simp [Mem.get] at h), fun b i h => (by rw [how b] at h; cases h), hb.os, hb.tape, hb.output, hb.size, fun b hl _ => ⟨hb.block b hl, how b⟩, fun i o o' h => (by simp [Mem.get] at h)⟩⟩
def noV : AV := .agg [.c (.int .i64 0), .c (.int .i64 0), .c (.str ByteArray.empty), .nils, .nils]
theorem noV_eq : noV = .agg [.c (.int .i64 0), .c (.int .i64 0), .c (.str ByteArray.empty), .nils, .nils] := rfl
theorem ar_noV {w : World} {S : Nat → Prop} {m : Mem} {κ : Id → Value} : AR w S m κ noV (.agg zero5) :=
  ⟨[.int .i64 0, .int .i64 0, .string ByteArray.empty, .slice none 0 0, .slice none 0 0], rfl, ⟨_, _, rfl, ⟨rfl, rfl⟩, _, _, rfl, ⟨rfl, rfl⟩, _, _, rfl, ⟨rfl, rfl⟩, _, _, rfl, rfl, _, _, rfl, rfl, rfl⟩, by
    intro u hu
    simp only [List.mem_cons, List.not_mem_nil, or_false] at hu
    rcases hu with rfl | rfl | rfl | rfl | rfl <;> rfl⟩
theorem valOf_bad (xs : List CellD) (hz : Sized xs) (hd : (dec xs).2 = none) : AC Tryz.prog 52 [cellsA xs] [] (.tup [noV, .c (.int .i64 (dec xs).1)]) [] := by
  refine AC.of_calls fun S w κ vs hv => ?_
  obtain ⟨v, vs', rfl, h1, rfl⟩ := hv
  obtain ⟨A, cap, rfl, _, hc⟩ := cr_cells.1 h1
  refine (valOf_any xs hz A cap S w hc).mono ?_
  rintro e w' ⟨hb, he⟩
  rw [hd] at he
  subst he
  exact ⟨hb, _, rfl, fun T _ _ => ⟨[_, _], rfl, _, _, rfl, ar_noV, _, _, rfl, ⟨rfl, rfl⟩, rfl⟩⟩
theorem valOf_ac (xs : List CellD) (hz : Sized xs) {t : V} (hd : (dec xs).2 = some t) : AC Tryz.prog 52 [cellsA xs] [] (.tup [t.av, .c (.int .i64 0)]) [] := by
  refine AC.of_calls fun S w κ vs hv => ?_
  obtain ⟨v, vs', rfl, h1, rfl⟩ := hv
  obtain ⟨A, cap, rfl, _, hc⟩ := cr_cells.1 h1
  refine (valOf_any xs hz A cap S w hc).mono ?_
  rintro e w' ⟨hb, he⟩
  rw [hd] at he
  obtain ⟨vs, rfl, hr⟩ := he
  exact ⟨hb, _, rfl, fun T _ hT => ⟨[_, _], rfl, _, _, rfl, ar_tree (hr.weaken fun b hb _ => hT b hb), _, _, rfl, ⟨rfl, rfl⟩, rfl⟩⟩
end Go.Proofs.YtfmnoljflcpbgaaGreatDoor

/- impl.pathsResult, impl.PathsIn, by the engine. -/
namespace Go.Proofs.YtfmnoljflcpbgaaGreatDoor
open Go.RowKit

/-- A path as a cell of the result: a slice that no one else reaches. -/
def pathCs (p : List V × V) : List C := [.osl ((arrV p.1).enc.map CellD.cs)]
theorem all_paths (l : List (List V × V)) : ((l.map pathCs).all fun r => r.length == 1) = true := by simp [pathCs]
attribute [go_sem] all_paths
set_option maxRecDepth 10000
set_option maxHeartbeats 4000000 in
theorem pathsResult_ac (l : List (List V × V)) (hl : l.length ≤ 200) (hp : ∀ p ∈ l, (arrV p.1).count ≤ 500000 ∧ (arrV p.1).neat) :
    AC Tryz.prog 85 [.c (.sl (l.map placedCs))] [] (.agg [.c (.int .i64 0), .own (0, 0)]) [((0, 0), .row true 1 27 (l.map pathCs))] := by
  have hb : decide ((l.length : Int) > 200) = false := by simp; omega
  refine wEnter Tryz.func85 Tryz.ntmps85 ?_
  refine wRUN hb ?_
  refine a_loop (κ := Nat) (fun k => ⟨mkS 0 28 [(2, .ptr (2, 0) 0), (3, .ptr (3, 0) 0), (11, .c (.sl (l.map placedCs))), (12, .c (.int .i64 l.length)), (13, .c (.int .i64 k))],
      [((2, 0), .box [.c (.int .i64 0), .nils]), ((3, 0), .box [.c (.int .i64 0), .own (99, 0)]), ((99, 0), .row true 1 27 ((l.take k).map pathCs))]⟩)
    (fun k => k ≤ l.length) (fun k => l.length - k) 0 (Nat.zero_le _) ?_ ?_
  · exact wSays (Says.of [((2, 0), (2, 0)), ((3, 0), (3, 0))] []) hb
  · intro k hk
    by_cases hlt : k < l.length
    · have hd : decide ((k : Int) < (l.length : Int)) = true := by simpa using hlt
      have hr : rowsAt (l.map placedCs) 6 k = true := by simp [rowsAt, hlt, placedCs]
      have hg : (l.map placedCs)[k]? = some (placedCs l[k]) := by simp [hlt]
      obtain ⟨hc, hn⟩ := hp _ (List.getElem_mem hlt)
      have hts : l.take (k + 1) = l.take k ++ [l[k]] := List.take_succ_eq_append_getElem hlt
      generalize l[k] = p at *
      have hw := wrap_succ (k := k) (by omega)
      have h1 : (l.take k).length + 1 ≤ 1000000 := by rw [List.length_take]; omega
      have ha := cells_ac _ (arrV p.1) (Nat.le_refl _) hc hn
      have hq := array_ac p.1
      have hrow : (l.take k).map pathCs ++ [[.osl ((V.mk 5 0 ByteArray.empty [] p.1).enc.map CellD.cs)]] = (l.take (k + 1)).map pathCs := by rw [hts, List.map_append]; rfl
      (repeat (first | (with_reducible first | refine a_seq ?_ | refine a_region ?_ | refine a_block ?_ | refine a_scope ?_) | ((with_reducible apply op_any); (iterate 2 (focus (first | (simp only [go_sem, Nat.reduceEqDiff, Nat.reduceAdd, Nat.reduceSub, Nat.reduceLeDiff, Nat.reduceMul, Nat.reduceBEq, Nat.reduceLT, Int.reduceToNat, reduceCtorEq, hd, hr, hg, placedCs]; first | done | exact rfl | (and_intros <;> rfl)) | exact rfl | decide)))) | ((with_reducible refine o_nil ?_); dsimp only; try ((with_reducible apply o_draw); (focus (simp only [go_sem]; exact rfl)); (focus decide))) | ((with_reducible first | refine a_ret ?_ | refine a_skip ?_ | refine a_label ?_); dsimp only) | ((with_reducible refine a_exit ?_); dsimp only; simp only [if_true, if_false, Nat.reduceEqDiff]) | ((with_reducible apply a_if); (focus (simp only [go_sem, Nat.reduceBEq, Nat.reduceLT, hd, hr, hg, placedCs]; exact rfl)); dsimp only [cond_true, cond_false]) | ((with_reducible refine a_draw ?_ ?_); (focus exact rfl))))
      refine w9 (op_shared [] hq) trivial ?_
      refine wRUN trivial ?_
      refine w12 (op_rowF [] ha) trivial ?_
      refine wRUN (j2 h1 hw) ?_
      refine ⟨k + 1, by omega, by omega, ?_⟩
      exact wSays (Says.of [((2, 0), (2, 0)), ((3, 0), (3, 0)), ((99, 0), (24, 0))] []) hrow
    · have hd : decide ((k : Int) < (l.length : Int)) = false := by simpa using hlt
      have hke : l.take k = l := List.take_of_length_le (by omega)
      refine wRUN hd ?_
      exact wRetOf (ret_of [((0, 0), (99, 0))] []) Tryz.results85 hke
theorem neatL_snoc {l : List V} {q : V} (h : neatL l) (hq : q.neat) : neatL (l ++ [q]) := by
  induction l with
  | nil => exact ⟨hq, trivial⟩
  | cons x l ih => exact ⟨h.1, ih h.2⟩
mutual
theorem paths_ok : ∀ (t : V) (ahead : List V), neatL ahead → ∀ p ∈ t.paths ahead, neatL p.1 ∧ countL p.1 + 1 ≤ countL ahead + t.count
  | .mk kind num text keys kids, ahead, ha => by
    intro p hp
    simp only [V.paths, List.mem_cons] at hp
    rcases hp with rfl | hp
    · exact ⟨ha, by simp only [V.count]; omega⟩
    · have := pathsL_ok (V.mk kind num text keys kids).keyV (fun i => by unfold V.keyV; split <;> simp [strV, numV, V.neat, neatL, V.count, countL]) 0 kids ahead ha p hp
      exact ⟨this.1, by simp only [V.count]; omega⟩
theorem pathsL_ok : ∀ (key : Nat → V), (∀ i, (key i).neat ∧ (key i).count = 1) → ∀ (i : Nat) (ks ahead : List V), neatL ahead → ∀ p ∈ pathsL key i ks ahead, neatL p.1 ∧ countL p.1 + 1 ≤ countL ahead + 1 + countL ks
  | _, _, _, [], _, _ => by simp [pathsL]
  | key, hk, i, k :: ks, ahead, ha => by
    intro p hp
    simp only [pathsL, List.mem_append] at hp
    rcases hp with hp | hp
    · have := paths_ok k (ahead ++ [key i]) (neatL_snoc ha (hk i).1) p hp
      rw [countL_snoc, (hk i).2] at this
      exact ⟨this.1, by simp only [countL]; omega⟩
    · have := pathsL_ok key hk (i + 1) ks ahead ha p hp
      exact ⟨this.1, by simp only [countL]; omega⟩
end
theorem arr_neat {l : List V} (h : neatL l) : (arrV l).neat := ⟨fun h5 => (by simp [holds] at h5), fun h6 => (by omega), h⟩
theorem arr_count (l : List V) : (arrV l).count = countL l + 1 := rfl
end Go.Proofs.YtfmnoljflcpbgaaGreatDoor

/- impl's outcomes, and reading parts of trees, by the engine: null, refuses, count, fault, gives, result. -/
namespace Go.Proofs.YtfmnoljflcpbgaaGreatDoor
open Go.RowKit
/-- An outcome as a value. -/
def outA (c : Int) (t : V) : AV := .agg [.c (.int .i64 c), .c (.int .i64 t.kind), .c (.int .i64 t.num), .c (.str t.text), .c (.sl (t.keys.map strCs)), .c (.sl (t.kids.map V.cs))]
def resA (r : Int × Option V) : AV := match r.2 with
  | some t => outA 0 t
  | none => outA r.1 nullV
theorem outA_eq (c : Int) (t : V) : outA c t = .agg [.c (.int .i64 c), .c (.int .i64 t.kind), .c (.int .i64 t.num), .c (.str t.text), .c (.sl (t.keys.map strCs)), .c (.sl (t.kids.map V.cs))] := rfl
theorem outA_null (c : Int) : outA c nullV = .agg [.c (.int .i64 c), .c (.int .i64 0), .c (.int .i64 0), .c (.str ByteArray.empty), .c (.sl []), .c (.sl [])] := rfl
theorem resA_ok (t : V) : resA (okR t) = outA 0 t := rfl
theorem resA_bad (c : Int) : resA (badR c) = outA c nullV := rfl
theorem nullV_av : nullV.av = .agg [.c (.int .i64 0), .c (.int .i64 0), .c (.str ByteArray.empty), .c (.sl []), .c (.sl [])] := rfl
attribute [go_sem] outA_eq
set_option maxRecDepth 10000
theorem null_ac : AC Tryz.prog 205 [] [] nullV.av [] := by
  rw [nullV_av]
  refine wEnter Tryz.func205 Tryz.ntmps205 ?_
  refine wRUN trivial ?_
  exact wRet (ret_data []) Tryz.results205
theorem refuses_ac (c : Int) : AC Tryz.prog 147 [.c (.int .i64 c)] [] (outA c nullV) [] := by
  rw [outA_null]
  refine wEnter Tryz.func147 Tryz.ntmps147 ?_
  refine wRUN trivial ?_
  exact wRet (ret_data []) Tryz.results147
set_option maxHeartbeats 1000000 in
theorem count_ac : ∀ (m : Nat) (t : V), t.count ≤ m → t.count ≤ 500000 → AC Tryz.prog 204 [t.av] [] (.c (.int .i64 t.count)) [] := by
  intro m
  induction m with
  | zero => intro t hm _; have := count_pos t; omega
  | succ m ih =>
    intro t hm hM
    have hkc := count_kids t
    have hkl := countL_len t.kids
    obtain ⟨R, hR⟩ : ∃ R : Nat → Nat, ∀ k, R k = 1 + countL (t.kids.take k) := ⟨_, fun _ => rfl⟩
    have h0 : R 0 = 1 := by rw [hR]; simp [countL]
    refine wEnter Tryz.func204 Tryz.ntmps204 ?_
    refine wRUN trivial ?_
    refine a_loop (κ := Nat) (fun k => ⟨mkS 0 19 [(1, .ptr (1, 0) 0), (3, .c (.int .i64 (R k))), (7, .c (.sl (t.kids.map V.cs))), (8, .c (.int .i64 t.kids.length)), (9, .c (.int .i64 k))],
        [((1, 0), .box [.c (.int .i64 t.kind), .c (.int .i64 t.num), .c (.str t.text), .c (.sl (t.keys.map strCs)), .c (.sl (t.kids.map V.cs))])]⟩)
      (fun k => k ≤ t.kids.length) (fun k => t.kids.length - k) 0 (Nat.zero_le _) ?_ ?_
    · exact wSays (Says.of [((1, 0), (1, 0))] []) h0
    · intro k hk
      by_cases hlt : k < t.kids.length
      · have hd : decide ((k : Int) < (t.kids.length : Int)) = true := by simpa using hlt
        have hr : rowsAt (t.kids.map V.cs) 5 k = true := by simp [rowsAt, hlt, V.cs_eq]
        have hg : (t.kids.map V.cs)[k]? = some t.kids[k].cs := by simp [hlt]
        have hmem := countL_mem (List.getElem_mem hlt)
        have hRk : R (k + 1) = R k + t.kids[k].count := by rw [hR, hR, List.take_succ_eq_append_getElem hlt, countL_snoc]; omega
        have hRl : R (k + 1) ≤ t.count := by rw [hR]; have := countL_take_le t.kids (k + 1); omega
        have hw := wrap_succ (k := k) (by omega)
        generalize t.kids[k] = u at *
        have hi := ih u (by omega) (by omega)
        have hs : IntKind.i64.wrap ((R k : Int) + (u.count : Int)) = ((R (k + 1) : Nat) : Int) := by rw [IntWalk.i64_in _ (by omega)]; omega
        refine wRUN (j3 hd hr hg) ?_
        refine w7 (op_data [] hi) trivial ?_
        refine wRUN (j2 hs hw) ?_
        refine ⟨k + 1, by omega, by omega, ?_⟩
        exact wSays (Says.of [((1, 0), (1, 0))] []) hs
      · have hd : decide ((k : Int) < (t.kids.length : Int)) = false := by simpa using hlt
        have hke : R k = t.count := by rw [hR, List.take_of_length_le (by omega)]; omega
        refine wRUN hd ?_
        exact ret_data [] (by simp only [Tryz.results204, go_sem, Nat.reduceBEq, Nat.reduceLT]; exact rfl) (by simp only [go_sem, Nat.reduceEqDiff, Nat.reduceAdd, Nat.reduceSub, Nat.reduceLeDiff, Nat.reduceMul, Nat.reduceBEq, Nat.reduceLT, Int.reduceToNat, reduceCtorEq, hke]) rfl
theorem okText_size {s : ByteArray} (h : okText s = true) : s.size ≤ 60 := by
  unfold okText at h
  simp only [Bool.and_eq_true, decide_eq_true_eq] at h
  exact h.1
theorem right_sized {t : V} (h : t.right) : Sized t.enc := by
  intro c hc
  have h1 := cells_codes t ByteArray.empty h.1 okText_empty c hc
  have h2 := code_text h1
  exact ⟨by have := okText_size h2.1; omega, by have := okText_size h2.2; omega⟩
set_option maxHeartbeats 1000000 in
theorem vfault_ac {t : V} (h : t.right) : AC Tryz.prog 183 [t.av] [] (.c (.int .i64 0)) [] := by
  have hc := h.2.1
  have h1 := count_ac t.count t (Nat.le_refl _) (by omega)
  have h2 := cells_ac t.count t (Nat.le_refl _) (by omega) (right_neat h)
  have h3 := valOf_ac t.enc (right_sized h) (t := t) (by rw [right_dec h])
  have hd : decide ((t.count : Int) > 200) = false := by simp; omega
  refine wEnter Tryz.func183 Tryz.ntmps183 ?_
  refine wRUN trivial ?_
  refine w7 (op_data [] h1) trivial ?_
  refine wRUN hd ?_
  refine w12 (op_rowF [] h2) trivial ?_
  refine w9 (op_shared [(10, 0)] h3) trivial ?_
  refine wRUN trivial ?_
  exact wRet (ret_data []) Tryz.results183
theorem gives_ac {t : V} (h : t.right) : AC Tryz.prog 148 [t.av] [] (outA 0 t) [] := by
  have h1 := vfault_ac h
  have h0 : ((0 : Int) != 0) = false := rfl
  refine wEnter Tryz.func148 Tryz.ntmps148 ?_
  refine wRUN trivial ?_
  refine w7 (op_data [] h1) trivial ?_
  refine wRUN h0 ?_
  exact wRet (ret_data []) Tryz.results148
theorem result_bad {c : Int} (h : c ≠ 0) : AC Tryz.prog 182 [outA c nullV] [] (.agg [.c (.int .i64 c), .nils]) [] := by
  have hb : (c != 0) = true := by simpa using h
  rw [outA_null]
  refine wEnter Tryz.func182 Tryz.ntmps182 ?_
  refine wRUN hb ?_
  exact wRet (ret_data []) Tryz.results182
theorem result_ac {t : V} (h : t.right) : AC Tryz.prog 182 [outA 0 t] [] (.agg [.c (.int .i64 0), .own (0, 0)]) [((0, 0), .row false 5 69 (t.enc.map CellD.cs))] := by
  have hc := h.2.1
  have h2 := cells_ac t.count t (Nat.le_refl _) (by omega) (right_neat h)
  have h0 : ((0 : Int) != 0) = false := rfl
  refine wEnter Tryz.func182 Tryz.ntmps182 ?_
  refine wRUN h0 ?_
  refine w12 (op_rowF [] h2) trivial ?_
  refine wRUN trivial ?_
  exact wRetOf (ret_of [((0, 0), (11, 0))] []) Tryz.results182 h0
end Go.Proofs.YtfmnoljflcpbgaaGreatDoor
