/- Texts of this proof: G04 G05 G20. -/
import Derived.Test.YtlciedpfjhkkdaaGreatDoorKG01uG03
import Derived.Test.YtlciedpfjhkkdaaGreatDoorKB3
import Derived.Test.YtlciedpfjhkkdaaGreatDoorKE5
import Derived.Test.YtlciedpfjhkkdaaGreatDoorKM2
set_option linter.unusedSimpArgs false
set_option linter.unusedVariables false
set_option linter.unnecessarySimpa false
set_option maxHeartbeats 8000000
namespace Go.Proofs.YtlciedpfjhkkdaaGreatDoor
open Go.RowKit
section
variable {w : World} {S : Nat → Prop}
theorem crs_cell {c : CellD} {v : List Value} {bs : List Nat} : CRs w S c.cs v bs ↔ v = vals c ∧ bs = [] := by
 simp only [CellD.cs, CRs, CR, vals]
 constructor
 ·rintro ⟨_, _, _, _, rfl, rfl, ⟨rfl, rfl⟩, _, _, _, _, rfl, rfl, ⟨rfl, rfl⟩, _, _, _, _, rfl, rfl, ⟨rfl, rfl⟩, _, _, _, _, rfl, rfl, ⟨rfl, rfl⟩, _, _, _, _, rfl, rfl, ⟨rfl, rfl⟩, rfl, rfl⟩
  exact ⟨rfl, rfl⟩
 ·rintro ⟨rfl, rfl⟩
  exact ⟨_, _, [], [], rfl, rfl, ⟨rfl, rfl⟩, _, _, [], [], rfl, rfl, ⟨rfl, rfl⟩, _, _, [], [], rfl, rfl, ⟨rfl, rfl⟩, _, _, [], [], rfl, rfl, ⟨rfl, rfl⟩, _, _, [], [], rfl, rfl, ⟨rfl, rfl⟩, rfl, rfl⟩
theorem crss_map {α : Type} {f : α → List C} {g : α → List Value} (hf : ∀ {x v bs}, CRs w S (f x) v bs ↔ v = g x ∧ bs = []) : ∀ {l : List α} {vs : List (List Value)} {bs : List Nat}, CRss w S (l.map f) vs bs ↔ vs = l.map g ∧ bs = []
 | [], vs, bs => by simp [CRss]
 | x :: l, vs, bs => by
  simp only [List.map_cons, CRss]
  constructor
  ·rintro ⟨v, vs', b1, b2, rfl, rfl, h1, h2⟩
   obtain ⟨rfl, rfl⟩ := hf.1 h1
   obtain ⟨rfl, rfl⟩ := (crss_map hf).1 h2
   exact ⟨rfl, rfl⟩
  ·rintro ⟨rfl, rfl⟩
   exact ⟨_, _, [], [], rfl, rfl, hf.2 ⟨rfl, rfl⟩, (crss_map hf).2 ⟨rfl, rfl⟩⟩
theorem Row.resize {es n : Nat} {A : Option Addr} {xs : List (List Value)} (h : Row w S es A xs) (hl : ∀ x ∈ xs, x.length = n) : Row w S n A xs := by
 cases xs with
 | nil => exact Row.nil
 | cons x xs =>
  have h1 := h.1 x (by simp)
  have h2 := hl x (by simp)
  rw [← h2, h1]
  exact h
theorem cr_rows {α : Type} {f : α → List C} {g : α → List Value} {n : Nat} (hf : ∀ {x v bs}, CRs w S (f x) v bs ↔ v = g x ∧ bs = []) (hg : ∀ x, (g x).length = n) {l : List α} {v : Value} :
  CR w S (.sl (l.map f)) v [] ↔ ∃ A cap, v = .slice A l.length cap ∧ l.length ≤ cap ∧ Row w S n A (l.map g) := by
 simp only [CR]
 constructor
 ·rintro ⟨es, A, cap, vrows, rfl, h2, _, h4, h5, _⟩
  obtain ⟨rfl, _⟩ := (crss_map hf).1 h5
  rw [List.length_map] at h2 ⊢
  exact ⟨A, cap, rfl, h2, h4.resize (by simp [hg])⟩
 ·rintro ⟨A, cap, rfl, h2, h4⟩
  exact ⟨n, A, cap, l.map g, by rw [List.length_map], by rw [List.length_map]; exact h2, trivial, h4, (crss_map hf).2 ⟨rfl, rfl⟩, trivial⟩
theorem vals_len (c : CellD) : (vals c).length = 5 := rfl
theorem cr_cells {xs : List CellD} {v : Value} : CR w S (.sl (xs.map CellD.cs)) v [] ↔ ∃ A cap, v = .slice A xs.length cap ∧ xs.length ≤ cap ∧ Cells w S A xs := cr_rows crs_cell vals_len
theorem crs_str {s : ByteArray} {v : List Value} {bs : List Nat} : CRs w S (strCs s) v bs ↔ v = [.string s] ∧ bs = [] := by
 simp only [strCs, CRs, CR]
 constructor
 ·rintro ⟨_, _, _, _, rfl, rfl, ⟨rfl, rfl⟩, rfl, rfl⟩
  exact ⟨rfl, rfl⟩
 ·rintro ⟨rfl, rfl⟩
  exact ⟨_, _, [], [], rfl, rfl, ⟨rfl, rfl⟩, rfl, rfl⟩
theorem cr_strs {xs : List ByteArray} {v : Value} : CR w S (.sl (xs.map strCs)) v [] ↔ ∃ A cap, v = .slice A xs.length cap ∧ xs.length ≤ cap ∧ Strs w S A xs := cr_rows (f := strCs) (g := fun k => [.string k]) (n := 1) crs_str fun _ => rfl
mutual
theorem crs_tree : ∀ {t : V} {vs : List Value}, VRep w S t vs → CRs w S t.cs vs []
 | .mk kind num text keys kids, vs, h => by
  simp only [VRep] at h
  obtain ⟨Ak, ck, Av, cv, kvs, rfl, h2, h3, h4, h5, h6⟩ := h
  have h7 := crss_trees h6
  have hl := h7.length
  simp only [csL_eq, List.length_map] at hl
  simp only [V.cs, CRs]
  refine ⟨_, _, [], [], rfl, rfl, ⟨rfl, rfl⟩, _, _, [], [], rfl, rfl, ⟨rfl, rfl⟩, _, _, [], [], rfl, rfl, ⟨rfl, rfl⟩, _, _, [], [], rfl, rfl, cr_strs.2 ⟨_, _, rfl, h2, h4⟩, _, _, [], [], rfl, rfl, ?_, rfl, rfl⟩
  simp only [CR]
  exact ⟨5, Av, cv, kvs, by rw [csL_eq, List.length_map], by rw [csL_eq, List.length_map]; exact h3, trivial, h5, h7, trivial⟩
theorem crss_trees : ∀ {ts : List V} {vs : List (List Value)}, VReps w S ts vs → CRss w S (csL ts) vs []
 | [], vs, h => by
  simp only [VReps] at h
  subst h
  exact ⟨rfl, rfl⟩
 | t :: ts, vs, h => by
  simp only [VReps] at h
  obtain ⟨v, vs', rfl, h1, h2⟩ := h
  exact ⟨_, _, [], [], rfl, rfl, crs_tree h1, crss_trees h2⟩
end
end
theorem ars_cells {w : World} {S : Nat → Prop} {m : Mem} {κ : Id → Value} : ∀ {xs : List C} {vs : List Value}, CRs w S xs vs [] → ARs w S m κ (xs.map .c) vs
 | [], vs, h => by
  simp only [CRs] at h
  exact h.1
 | x :: xs, vs, h => by
  simp only [CRs] at h
  obtain ⟨v, vs', b1, b2, rfl, h0, h1, h2⟩ := h
  have h3 : b1 = [] ∧ b2 = [] := by simpa using h0.symm
  obtain ⟨rfl, rfl⟩ := h3
  exact ⟨v, vs', rfl, h1, ars_cells h2⟩
theorem V.av_eq (t : V) : t.av = .agg (t.cs.map .c) := by rw [V.cs_eq]; rfl
theorem ar_tree {w : World} {S : Nat → Prop} {m : Mem} {κ : Id → Value} {t : V} {vs : List Value} (h : VRep w S t vs) : AR w S m κ t.av (.agg vs.toArray) := by
 rw [V.av_eq]
 refine ⟨vs, rfl, ars_cells (crs_tree h), ?_⟩
 intro u hu
 cases t
 simp only [VRep] at h
 obtain ⟨Ak, ck, Av, cv, kvs, rfl, _⟩ := h
 simp only [List.mem_cons, List.not_mem_nil, or_false] at hu
 rcases hu with rfl | rfl | rfl | rfl | rfl <;> rfl
theorem AC.of_calls {P : Program} {f : FuncId} {args : List AV} {res : AV}
  (h : ∀ (S : Nat → Prop) (w : World) (κ : Id → Value) (vals : List Value), ARs w S [] κ args vals → Calls P f vals.toArray w fun e w' => Below w.heap.size w w' ∧ ∃ v, e = .returned v ∧ ∀ T : Nat → Prop, (∀ b, S b → T b) → (∀ b, w.heap.size ≤ b → T b) → AR w' T [] κ res v) : AC P f args [] res [] := by
 intro Γ vals hE hA
 have how : ∀ b, Γ.ow b = none := by
  intro b
  cases hb : Γ.ow b with
  | none => rfl
  | some i => obtain ⟨_, o, h1, _⟩ := hE.own b i hb; simp [Mem.get] at h1
 refine (h _ _ _ _ hA).mono ?_
 rintro e w' ⟨hb, v, rfl, hv⟩
 refine ⟨v, Γ.ow, Γ.κ, rfl, ⟨hv _ (fun _ h => h) (fun b hb => ⟨how b, .inr (.inl hb)⟩), fun i o h => (by simp [Mem.get] at h), fun b i h => (by rw [how b] at h; cases h), hb.os, hb.tape, hb.output, hb.size, fun b hl _ => ⟨hb.block b hl, how b⟩, fun i o o' h => (by simp [Mem.get] at h)⟩⟩
def noV : AV := .agg [.c (.int .i64 0), .c (.int .i64 0), .c (.str ByteArray.empty), .nils, .nils]
theorem noV_eq : noV = .agg [.c (.int .i64 0), .c (.int .i64 0), .c (.str ByteArray.empty), .nils, .nils] := rfl
theorem ar_noV {w : World} {S : Nat → Prop} {m : Mem} {κ : Id → Value} : AR w S m κ noV (.agg zero5) :=
 ⟨[.int .i64 0, .int .i64 0, .string ByteArray.empty, .slice none 0 0, .slice none 0 0], rfl, ⟨_, _, rfl, ⟨rfl, rfl⟩, _, _, rfl, ⟨rfl, rfl⟩, _, _, rfl, ⟨rfl, rfl⟩, _, _, rfl, rfl, _, _, rfl, rfl, rfl⟩, by
  intro u hu
  simp only [List.mem_cons, List.not_mem_nil, or_false] at hu
  rcases hu with rfl | rfl | rfl | rfl | rfl <;> rfl⟩
theorem valOf_bad (xs : List CellD) (hz : Sized xs) (hd : (dec xs).2 = none) : AC Tryz.prog 46 [cellsA xs] [] (.tup [noV, .c (.int .i64 (dec xs).1)]) [] := by
 refine AC.of_calls fun S w κ vs hv => ?_
 obtain ⟨v, vs', rfl, h1, rfl⟩ := hv
 obtain ⟨A, cap, rfl, _, hc⟩ := cr_cells.1 h1
 refine (valOf_any xs hz A cap S w hc).mono ?_
 rintro e w' ⟨hb, he⟩
 rw [hd] at he
 subst he
 exact ⟨hb, _, rfl, fun T _ _ => ⟨[_, _], rfl, _, _, rfl, ar_noV, _, _, rfl, ⟨rfl, rfl⟩, rfl⟩⟩
theorem valOf_ac (xs : List CellD) (hz : Sized xs) {t : V} (hd : (dec xs).2 = some t) : AC Tryz.prog 46 [cellsA xs] [] (.tup [t.av, .c (.int .i64 0)]) [] := by
 refine AC.of_calls fun S w κ vs hv => ?_
 obtain ⟨v, vs', rfl, h1, rfl⟩ := hv
 obtain ⟨A, cap, rfl, _, hc⟩ := cr_cells.1 h1
 refine (valOf_any xs hz A cap S w hc).mono ?_
 rintro e w' ⟨hb, he⟩
 rw [hd] at he
 obtain ⟨vs, rfl, hr⟩ := he
 exact ⟨hb, _, rfl, fun T _ hT => ⟨[_, _], rfl, _, _, rfl, ar_tree (hr.weaken fun b hb _ => hT b hb), _, _, rfl, ⟨rfl, rfl⟩, rfl⟩⟩
end Go.Proofs.YtlciedpfjhkkdaaGreatDoor
namespace Go.Proofs.YtlciedpfjhkkdaaGreatDoor
open Go.RowKit
def pathCs (p : List V × V) : List C := [.osl ((arrV p.1).enc.map CellD.cs)]
theorem all_paths (l : List (List V × V)) : ((l.map pathCs).all fun r => r.length == 1) = true := by simp [pathCs]
attribute [go_sem] all_paths
set_option maxRecDepth 10000
theorem arr_count (l : List V) : (arrV l).count = countL l + 1 := rfl
def outA (c : Int) (t : V) : AV := .agg [.c (.int .i64 c), .c (.int .i64 t.kind), .c (.int .i64 t.num), .c (.str t.text), .c (.sl (t.keys.map strCs)), .c (.sl (t.kids.map V.cs))]
def resA (r : Int × Option V) : AV := match r.2 with
 | some t => outA 0 t
 | none => outA r.1 nullV
theorem outA_eq (c : Int) (t : V) : outA c t = .agg [.c (.int .i64 c), .c (.int .i64 t.kind), .c (.int .i64 t.num), .c (.str t.text), .c (.sl (t.keys.map strCs)), .c (.sl (t.kids.map V.cs))] := rfl
theorem outA_null (c : Int) : outA c nullV = .agg [.c (.int .i64 c), .c (.int .i64 0), .c (.int .i64 0), .c (.str ByteArray.empty), .c (.sl []), .c (.sl [])] := rfl
theorem resA_ok (t : V) : resA (okR t) = outA 0 t := rfl
theorem resA_bad (c : Int) : resA (badR c) = outA c nullV := rfl
theorem nullV_av : nullV.av = .agg [.c (.int .i64 0), .c (.int .i64 0), .c (.str ByteArray.empty), .c (.sl []), .c (.sl [])] := rfl
attribute [go_sem] outA_eq
set_option maxRecDepth 10000
theorem null_ac : AC Tryz.prog 51 [] [] nullV.av [] := by
 rw [nullV_av]
 refine wEnter Tryz.func51 Tryz.ntmps51 ?_
 refine wRUN trivial ?_
 exact wRet (ret_data []) Tryz.results51
theorem refuses_ac (c : Int) : AC Tryz.prog 154 [.c (.int .i64 c)] [] (outA c nullV) [] := by
 rw [outA_null]
 refine wEnter Tryz.func154 Tryz.ntmps154 ?_
 refine wRUN trivial ?_
 exact wRet (ret_data []) Tryz.results154
theorem count_ac : ∀ (m : Nat) (t : V), t.count ≤ m → t.count ≤ 500000 → AC Tryz.prog 82 [t.av] [] (.c (.int .i64 t.count)) [] := by
 intro m
 induction m with
 | zero => intro t hm _; have := count_pos t; omega
 | succ m ih =>
  intro t hm hM
  have hkc := count_kids t
  have hkl := countL_len t.kids
  obtain ⟨R, hR⟩ : ∃ R : Nat → Nat, ∀ k, R k = 1 + countL (t.kids.take k) := ⟨_, fun _ => rfl⟩
  have h0 : R 0 = 1 := by rw [hR]; simp [countL]
  refine wEnter Tryz.func82 Tryz.ntmps82 ?_
  refine wRUN trivial ?_
  refine a_loop (κ := Nat) (fun k => ⟨mkS 0 19 [(1, .ptr (1, 0) 0), (3, .c (.int .i64 (R k))), (7, .c (.sl (t.kids.map V.cs))), (8, .c (.int .i64 t.kids.length)), (9, .c (.int .i64 k))],
    [((1, 0), .box [.c (.int .i64 t.kind), .c (.int .i64 t.num), .c (.str t.text), .c (.sl (t.keys.map strCs)), .c (.sl (t.kids.map V.cs))])]⟩)
   (fun k => k ≤ t.kids.length) (fun k => t.kids.length - k) 0 (Nat.zero_le _) ?_ ?_
  ·exact wSays (Says.of [((1, 0), (1, 0))] []) h0
  ·intro k hk
   by_cases hlt : k < t.kids.length
   ·have hd : decide ((k : Int) < (t.kids.length : Int)) = true := by simpa using hlt
    have hr : rowsAt (t.kids.map V.cs) 5 k = true := by simp [rowsAt, hlt, V.cs_eq]
    have hg : (t.kids.map V.cs)[k]? = some t.kids[k].cs := by simp [hlt]
    have hmem := countL_mem (List.getElem_mem hlt)
    have hRk : R (k + 1) = R k + t.kids[k].count := by rw [hR, hR, List.take_succ_eq_append_getElem hlt, countL_snoc]; omega
    have hRl : R (k + 1) ≤ t.count := by rw [hR]; have := countL_take_le t.kids (k + 1); omega
    have hw := wrap_succ (k := k) (by omega)
    generalize t.kids[k] = u at *
    have hi := ih u (by omega) (by omega)
    have hs : IntKind.i64.wrap ((R k : Int) + (u.count : Int)) = ((R (k + 1) : Nat) : Int) := by rw [IntWalk.i64_in _ (by omega)]; omega
    refine wRUN (j3 hd hr hg) ?_
    refine w7 (op_data [] hi) trivial ?_
    refine wRUN (j2 hs hw) ?_
    refine ⟨k + 1, by omega, by omega, ?_⟩
    exact wSays (Says.of [((1, 0), (1, 0))] []) hs
   ·have hd : decide ((k : Int) < (t.kids.length : Int)) = false := by simpa using hlt
    have hke : R k = t.count := by rw [hR, List.take_of_length_le (by omega)]; omega
    refine wRUN hd ?_
    exact ret_data [] (by simp only [Tryz.results82, go_sem, Nat.reduceBEq, Nat.reduceLT]; exact rfl) (by simp only [go_sem, Nat.reduceEqDiff, Nat.reduceAdd, Nat.reduceSub, Nat.reduceLeDiff, Nat.reduceMul, Nat.reduceBEq, Nat.reduceLT, Int.reduceToNat, reduceCtorEq, hke]) rfl
theorem okText_size {s : ByteArray} (h : okText s = true) : s.size ≤ 60 := by
 unfold okText at h
 simp only [Bool.and_eq_true, decide_eq_true_eq] at h
 exact h.1
theorem right_sized {t : V} (h : t.right) : Sized t.enc := by
 intro c hc
 have h1 := cells_codes t ByteArray.empty h.1 okText_empty c hc
 have h2 := code_text h1
 exact ⟨by have := okText_size h2.1; omega, by have := okText_size h2.2; omega⟩
theorem vfault_ac {t : V} (h : t.right) : AC Tryz.prog 151 [t.av] [] (.c (.int .i64 0)) [] := by
 have hc := h.2.1
 have h1 := count_ac t.count t (Nat.le_refl _) (by omega)
 have h2 := cells_ac t.count t (Nat.le_refl _) (by omega) (right_neat h)
 have h3 := valOf_ac t.enc (right_sized h) (t := t) (by rw [right_dec h])
 have hd : decide ((t.count : Int) > 200) = false := by simp; omega
 refine wEnter Tryz.func151 Tryz.ntmps151 ?_
 refine wRUN trivial ?_
 refine w7 (op_data [] h1) trivial ?_
 refine wRUN hd ?_
 refine w12 (op_rowF [] h2) trivial ?_
 refine w9 (op_shared [(10, 0)] h3) trivial ?_
 refine wRUN trivial ?_
 exact wRet (ret_data []) Tryz.results151
theorem gives_ac {t : V} (h : t.right) : AC Tryz.prog 104 [t.av] [] (outA 0 t) [] := by
 have h1 := vfault_ac h
 have h0 : ((0 : Int) != 0) = false := rfl
 refine wEnter Tryz.func104 Tryz.ntmps104 ?_
 refine wRUN trivial ?_
 refine w7 (op_data [] h1) trivial ?_
 refine wRUN h0 ?_
 exact wRet (ret_data []) Tryz.results104
end Go.Proofs.YtlciedpfjhkkdaaGreatDoor
