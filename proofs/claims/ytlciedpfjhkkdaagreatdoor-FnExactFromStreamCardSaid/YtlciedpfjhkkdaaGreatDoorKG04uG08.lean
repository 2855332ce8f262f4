/- Texts of this proof: G04 G05 G06 G07 G08. -/
import Derived.Test.YtlciedpfjhkkdaaGreatDoorKG01uG02
import Derived.Test.YtlciedpfjhkkdaaGreatDoorKB3
set_option linter.unusedSimpArgs false
set_option linter.unusedVariables false
set_option linter.unnecessarySimpa false
set_option maxHeartbeats 8000000
namespace Go.Proofs.YtlciedpfjhkkdaaGreatDoor
open Go.RowKit
section
variable {w : World} {S : Nat → Prop}
theorem crs_cell {c : CellD} {v : List Value} {bs : List Nat} : CRs w S c.cs v bs ↔ v = vals c ∧ bs = [] := by
 simp only [CellD.cs, CRs, CR, vals]
 constructor
 ·rintro ⟨_, _, _, _, rfl, rfl, ⟨rfl, rfl⟩, _, _, _, _, rfl, rfl, ⟨rfl, rfl⟩, _, _, _, _, rfl, rfl, ⟨rfl, rfl⟩, _, _, _, _, rfl, rfl, ⟨rfl, rfl⟩, _, _, _, _, rfl, rfl, ⟨rfl, rfl⟩, rfl, rfl⟩
  exact ⟨rfl, rfl⟩
 ·rintro ⟨rfl, rfl⟩
  exact ⟨_, _, [], [], rfl, rfl, ⟨rfl, rfl⟩, _, _, [], [], rfl, rfl, ⟨rfl, rfl⟩, _, _, [], [], rfl, rfl, ⟨rfl, rfl⟩, _, _, [], [], rfl, rfl, ⟨rfl, rfl⟩, _, _, [], [], rfl, rfl, ⟨rfl, rfl⟩, rfl, rfl⟩
theorem crss_map {α : Type} {f : α → List C} {g : α → List Value} (hf : ∀ {x v bs}, CRs w S (f x) v bs ↔ v = g x ∧ bs = []) : ∀ {l : List α} {vs : List (List Value)} {bs : List Nat}, CRss w S (l.map f) vs bs ↔ vs = l.map g ∧ bs = []
 | [], vs, bs => by simp [CRss]
 | x :: l, vs, bs => by
  simp only [List.map_cons, CRss]
  constructor
  ·rintro ⟨v, vs', b1, b2, rfl, rfl, h1, h2⟩
   obtain ⟨rfl, rfl⟩ := hf.1 h1
   obtain ⟨rfl, rfl⟩ := (crss_map hf).1 h2
   exact ⟨rfl, rfl⟩
  ·rintro ⟨rfl, rfl⟩
   exact ⟨_, _, [], [], rfl, rfl, hf.2 ⟨rfl, rfl⟩, (crss_map hf).2 ⟨rfl, rfl⟩⟩
theorem Row.resize {es n : Nat} {A : Option Addr} {xs : List (List Value)} (h : Row w S es A xs) (hl : ∀ x ∈ xs, x.length = n) : Row w S n A xs := by
 cases xs with
 | nil => exact Row.nil
 | cons x xs =>
  have h1 := h.1 x (by simp)
  have h2 := hl x (by simp)
  rw [← h2, h1]
  exact h
theorem cr_rows {α : Type} {f : α → List C} {g : α → List Value} {n : Nat} (hf : ∀ {x v bs}, CRs w S (f x) v bs ↔ v = g x ∧ bs = []) (hg : ∀ x, (g x).length = n) {l : List α} {v : Value} :
  CR w S (.sl (l.map f)) v [] ↔ ∃ A cap, v = .slice A l.length cap ∧ l.length ≤ cap ∧ Row w S n A (l.map g) := by
 simp only [CR]
 constructor
 ·rintro ⟨es, A, cap, vrows, rfl, h2, _, h4, h5, _⟩
  obtain ⟨rfl, _⟩ := (crss_map hf).1 h5
  rw [List.length_map] at h2 ⊢
  exact ⟨A, cap, rfl, h2, h4.resize (by simp [hg])⟩
 ·rintro ⟨A, cap, rfl, h2, h4⟩
  exact ⟨n, A, cap, l.map g, by rw [List.length_map], by rw [List.length_map]; exact h2, trivial, h4, (crss_map hf).2 ⟨rfl, rfl⟩, trivial⟩
theorem vals_len (c : CellD) : (vals c).length = 5 := rfl
theorem cr_cells {xs : List CellD} {v : Value} : CR w S (.sl (xs.map CellD.cs)) v [] ↔ ∃ A cap, v = .slice A xs.length cap ∧ xs.length ≤ cap ∧ Cells w S A xs := cr_rows crs_cell vals_len
theorem crs_str {s : ByteArray} {v : List Value} {bs : List Nat} : CRs w S (strCs s) v bs ↔ v = [.string s] ∧ bs = [] := by
 simp only [strCs, CRs, CR]
 constructor
 ·rintro ⟨_, _, _, _, rfl, rfl, ⟨rfl, rfl⟩, rfl, rfl⟩
  exact ⟨rfl, rfl⟩
 ·rintro ⟨rfl, rfl⟩
  exact ⟨_, _, [], [], rfl, rfl, ⟨rfl, rfl⟩, rfl, rfl⟩
theorem cr_strs {xs : List ByteArray} {v : Value} : CR w S (.sl (xs.map strCs)) v [] ↔ ∃ A cap, v = .slice A xs.length cap ∧ xs.length ≤ cap ∧ Strs w S A xs := cr_rows (f := strCs) (g := fun k => [.string k]) (n := 1) crs_str fun _ => rfl
mutual
theorem crs_tree : ∀ {t : V} {vs : List Value}, VRep w S t vs → CRs w S t.cs vs []
 | .mk kind num text keys kids, vs, h => by
  simp only [VRep] at h
  obtain ⟨Ak, ck, Av, cv, kvs, rfl, h2, h3, h4, h5, h6⟩ := h
  have h7 := crss_trees h6
  have hl := h7.length
  simp only [csL_eq, List.length_map] at hl
  simp only [V.cs, CRs]
  refine ⟨_, _, [], [], rfl, rfl, ⟨rfl, rfl⟩, _, _, [], [], rfl, rfl, ⟨rfl, rfl⟩, _, _, [], [], rfl, rfl, ⟨rfl, rfl⟩, _, _, [], [], rfl, rfl, cr_strs.2 ⟨_, _, rfl, h2, h4⟩, _, _, [], [], rfl, rfl, ?_, rfl, rfl⟩
  simp only [CR]
  exact ⟨5, Av, cv, kvs, by rw [csL_eq, List.length_map], by rw [csL_eq, List.length_map]; exact h3, trivial, h5, h7, trivial⟩
theorem crss_trees : ∀ {ts : List V} {vs : List (List Value)}, VReps w S ts vs → CRss w S (csL ts) vs []
 | [], vs, h => by
  simp only [VReps] at h
  subst h
  exact ⟨rfl, rfl⟩
 | t :: ts, vs, h => by
  simp only [VReps] at h
  obtain ⟨v, vs', rfl, h1, h2⟩ := h
  exact ⟨_, _, [], [], rfl, rfl, crs_tree h1, crss_trees h2⟩
end
end
theorem ars_cells {w : World} {S : Nat → Prop} {m : Mem} {κ : Id → Value} : ∀ {xs : List C} {vs : List Value}, CRs w S xs vs [] → ARs w S m κ (xs.map .c) vs
 | [], vs, h => by
  simp only [CRs] at h
  exact h.1
 | x :: xs, vs, h => by
  simp only [CRs] at h
  obtain ⟨v, vs', b1, b2, rfl, h0, h1, h2⟩ := h
  have h3 : b1 = [] ∧ b2 = [] := by simpa using h0.symm
  obtain ⟨rfl, rfl⟩ := h3
  exact ⟨v, vs', rfl, h1, ars_cells h2⟩
theorem V.av_eq (t : V) : t.av = .agg (t.cs.map .c) := by rw [V.cs_eq]; rfl
theorem ar_tree {w : World} {S : Nat → Prop} {m : Mem} {κ : Id → Value} {t : V} {vs : List Value} (h : VRep w S t vs) : AR w S m κ t.av (.agg vs.toArray) := by
 rw [V.av_eq]
 refine ⟨vs, rfl, ars_cells (crs_tree h), ?_⟩
 intro u hu
 cases t
 simp only [VRep] at h
 obtain ⟨Ak, ck, Av, cv, kvs, rfl, _⟩ := h
 simp only [List.mem_cons, List.not_mem_nil, or_false] at hu
 rcases hu with rfl | rfl | rfl | rfl | rfl <;> rfl
theorem AC.of_calls {P : Program} {f : FuncId} {args : List AV} {res : AV}
  (h : ∀ (S : Nat → Prop) (w : World) (κ : Id → Value) (vals : List Value), ARs w S [] κ args vals → Calls P f vals.toArray w fun e w' => Below w.heap.size w w' ∧ ∃ v, e = .returned v ∧ ∀ T : Nat → Prop, (∀ b, S b → T b) → (∀ b, w.heap.size ≤ b → T b) → AR w' T [] κ res v) : AC P f args [] res [] := by
 intro Γ vals hE hA
 have how : ∀ b, Γ.ow b = none := by
  intro b
  cases hb : Γ.ow b with
  | none => rfl
  | some i => obtain ⟨_, o, h1, _⟩ := hE.own b i hb; simp [Mem.get] at h1
 refine (h _ _ _ _ hA).mono ?_
 rintro e w' ⟨hb, v, rfl, hv⟩
 refine ⟨v, Γ.ow, Γ.κ, rfl, ⟨hv _ (fun _ h => h) (fun b hb => ⟨how b, .inr (.inl hb)⟩), fun i o h => (by simp [Mem.get] at h), fun b i h => (by rw [how b] at h; cases h), hb.os, hb.tape, hb.output, hb.size, fun b hl _ => ⟨hb.block b hl, how b⟩, fun i o o' h => (by simp [Mem.get] at h)⟩⟩
def noV : AV := .agg [.c (.int .i64 0), .c (.int .i64 0), .c (.str ByteArray.empty), .nils, .nils]
theorem noV_eq : noV = .agg [.c (.int .i64 0), .c (.int .i64 0), .c (.str ByteArray.empty), .nils, .nils] := rfl
theorem ar_noV {w : World} {S : Nat → Prop} {m : Mem} {κ : Id → Value} : AR w S m κ noV (.agg zero5) :=
 ⟨[.int .i64 0, .int .i64 0, .string ByteArray.empty, .slice none 0 0, .slice none 0 0], rfl, ⟨_, _, rfl, ⟨rfl, rfl⟩, _, _, rfl, ⟨rfl, rfl⟩, _, _, rfl, ⟨rfl, rfl⟩, _, _, rfl, rfl, _, _, rfl, rfl, rfl⟩, by
  intro u hu
  simp only [List.mem_cons, List.not_mem_nil, or_false] at hu
  rcases hu with rfl | rfl | rfl | rfl | rfl <;> rfl⟩
theorem valOf_bad (xs : List CellD) (hz : Sized xs) (hd : (dec xs).2 = none) : AC Tryz.prog 46 [cellsA xs] [] (.tup [noV, .c (.int .i64 (dec xs).1)]) [] := by
 refine AC.of_calls fun S w κ vs hv => ?_
 obtain ⟨v, vs', rfl, h1, rfl⟩ := hv
 obtain ⟨A, cap, rfl, _, hc⟩ := cr_cells.1 h1
 refine (valOf_any xs hz A cap S w hc).mono ?_
 rintro e w' ⟨hb, he⟩
 rw [hd] at he
 subst he
 exact ⟨hb, _, rfl, fun T _ _ => ⟨[_, _], rfl, _, _, rfl, ar_noV, _, _, rfl, ⟨rfl, rfl⟩, rfl⟩⟩
theorem valOf_ac (xs : List CellD) (hz : Sized xs) {t : V} (hd : (dec xs).2 = some t) : AC Tryz.prog 46 [cellsA xs] [] (.tup [t.av, .c (.int .i64 0)]) [] := by
 refine AC.of_calls fun S w κ vs hv => ?_
 obtain ⟨v, vs', rfl, h1, rfl⟩ := hv
 obtain ⟨A, cap, rfl, _, hc⟩ := cr_cells.1 h1
 refine (valOf_any xs hz A cap S w hc).mono ?_
 rintro e w' ⟨hb, he⟩
 rw [hd] at he
 obtain ⟨vs, rfl, hr⟩ := he
 exact ⟨hb, _, rfl, fun T _ hT => ⟨[_, _], rfl, _, _, rfl, ar_tree (hr.weaken fun b hb _ => hT b hb), _, _, rfl, ⟨rfl, rfl⟩, rfl⟩⟩
end Go.Proofs.YtlciedpfjhkkdaaGreatDoor
namespace Go.Proofs.YtlciedpfjhkkdaaGreatDoor
open Go.RowKit
def pathCs (p : List V × V) : List C := [.osl ((arrV p.1).enc.map CellD.cs)]
theorem all_paths (l : List (List V × V)) : ((l.map pathCs).all fun r => r.length == 1) = true := by simp [pathCs]
attribute [go_sem] all_paths
set_option maxRecDepth 10000
theorem arr_count (l : List V) : (arrV l).count = countL l + 1 := rfl
def intCs (n : Int) : List C := [.int .i64 n]
def encCs (xs : List CellD) : List C := [.sl (xs.map CellD.cs)]
theorem all_ints (l : List Int) : ((l.map intCs).all fun r => r.length == 1) = true := by simp [intCs]
theorem all_encs (l : List (List CellD)) : ((l.map encCs).all fun r => r.length == 1) = true := by simp [encCs]
theorem fl_int (n : Int) : forgetL (intCs n) = intCs n := rfl
theorem fl_enc (xs : List CellD) : forgetL (encCs xs) = encCs xs := rfl
theorem forget_ints (l : List Int) : forgetLL (l.map intCs) = l.map intCs := forget_map _ fl_int l
theorem forget_encs (l : List (List CellD)) : forgetLL (l.map encCs) = l.map encCs := forget_map _ fl_enc l
attribute [go_sem] all_ints all_encs forget_ints forget_encs intCs encCs
theorem fault_ac (xs : List CellD) : AC Tryz.prog 29 [cellsA xs] [] (.c (.int .i64 (dec xs).1)) [] := by
 refine AC.of_calls fun S w κ vs hv => ?_
 obtain ⟨v, vs', rfl, h1, rfl⟩ := hv
 obtain ⟨A, cap, rfl, _, hc⟩ := cr_cells.1 h1
 refine (specFault_any xs A cap S w hc).mono ?_
 rintro e w' ⟨rfl, hb⟩
 exact ⟨hb, _, rfl, fun T _ _ => ⟨rfl, rfl⟩⟩
theorem l1End_ac {t : V} (hw : t.wf) (hc : t.count ≤ 200) {i : Nat} (hi : i < t.kids.length) : AC Tryz.prog 171 [cellsA t.enc, .c (.int .i64 ((kp t.kids i : Nat) : Int))] [] (.c (.int .i64 ((kp t.kids (i + 1) : Nat) : Int))) [] := by
 refine AC.of_calls fun S w κ vs hv => ?_
 obtain ⟨v, vs', rfl, h1, v2, vs2, rfl, h2, rfl⟩ := hv
 obtain ⟨rfl, _⟩ := h2
 obtain ⟨A, cap, rfl, _, hcs⟩ := cr_cells.1 h1
 have := kp_le t i
 have hlen := enc_len t
 have := l1End_any t.enc (by omega) (enc_n hw) (kp t.kids i : Nat) (by omega) (by omega) A cap S w hcs
 rw [Int.toNat_natCast, end_kid hw hi (by omega)] at this
 refine this.mono ?_
 rintro e w' ⟨rfl, hb⟩
 exact ⟨hb, _, rfl, fun T _ _ => ⟨rfl, rfl⟩⟩
theorem crss_of {α : Type} {w : World} {S : Nat → Prop} {f : α → List C} : ∀ {l : List α} {rows : List (List Value)}, rows.length = l.length → (∀ i (h : i < l.length) row, rows[i]? = some row → CRs w S (f l[i]) row []) → CRss w S (l.map f) rows []
 | [], rows, hl, _ => by
  have : rows = [] := List.eq_nil_of_length_eq_zero (by simpa using hl)
  subst this
  exact ⟨rfl, rfl⟩
 | x :: l, [], hl, _ => by simp at hl
 | x :: l, r :: rows, hl, h => by
  simp only [List.map_cons, CRss]
  exact ⟨r, rows, [], [], rfl, rfl, h 0 (by simp) r rfl, crss_of (by simpa using hl) fun i hi row hr => by
   have := h (i + 1) (by simpa using hi) row (by simpa using hr)
   simpa using this⟩
theorem l1Parts_ac {t : V} (hw : t.wf) (hc : t.count ≤ 200) : AC Tryz.prog 67 [cellsA t.enc] [] (.c (.sl ((t.kids.map V.enc).map encCs))) [] := by
 refine AC.of_calls fun S w κ vs hv => ?_
 obtain ⟨v, vs', rfl, h1, rfl⟩ := hv
 obtain ⟨A, cap, rfl, hcap, hcs⟩ := cr_cells.1 h1
 refine (l1Parts_any t hw hc A cap hcap S w hcs).mono ?_
 rintro e w' ⟨⟨A', c', rfl, hcap', hr⟩, hb⟩
 refine ⟨hb, _, rfl, fun T _ hT => ?_⟩
 obtain ⟨rows, hl, hrow, hat⟩ := hr
 simp only [AR, CR]
 refine ⟨1, A', c', rows, by simp, by simpa using hcap', trivial, hrow.weaken fun b hb _ => hT b hb, crss_of hl fun i hi row hri => ?_, trivial⟩
 obtain ⟨Ai, ci, rfl, h3, h4⟩ := hat i hi row hri
 exact ⟨_, _, [], [], rfl, rfl, cr_cells.2 ⟨Ai, ci, rfl, h3, h4.weaken fun b hb _ => hT b hb⟩, rfl, rfl⟩
set_option maxRecDepth 10000
theorem l1Number_ac (n : Int) : AC Tryz.prog 100 [.c (.int .i64 n)] [] (.c (.sl ((numV n).enc.map CellD.cs))) [] := by
 have he : (numV n).enc.map CellD.cs = [[.int .i64 3, .int .i64 n, .str ByteArray.empty, .str ByteArray.empty, .int .i64 0]] := rfl
 rw [he]
 refine wEnter Tryz.func100 Tryz.ntmps100 ?_
 refine wRUN trivial ?_
 exact wRetOf (ret_of [] [(5, 0)]) Tryz.results100 he
theorem l1String_ac (s : ByteArray) : AC Tryz.prog 76 [.c (.str s)] [] (.c (.sl ((strV s).enc.map CellD.cs))) [] := by
 have he : (strV s).enc.map CellD.cs = [[.int .i64 4, .int .i64 0, .str s, .str ByteArray.empty, .int .i64 0]] := rfl
 rw [he]
 refine wEnter Tryz.func76 Tryz.ntmps76 ?_
 refine wRUN trivial ?_
 exact wRetOf (ret_of [] [(5, 0)]) Tryz.results76 he
theorem l1Children_ac {t : V} (hw : t.wf) (hc : t.count ≤ 200) : AC Tryz.prog 120 [cellsA t.enc, .c (.int .i64 0)] [] (.c (.sl ((kposL t t.kids.length).map intCs))) [] := by
 have hw0 : IntKind.i64.wrap (0 + 1) = 1 := rfl
 have hk0 : ((kp t.kids 0 : Nat) : Int) = 1 := by simp [kp, countL]
 have hkl := kids_len_le hc
 have hr0 : rowsAt (t.enc.map CellD.cs) 5 0 = true := by unfold rowsAt; rw [show (0 : Int).toNat = 0 from rfl, enc_head]; rfl
 have hg0 := enc_head t
 refine wEnter Tryz.func120 Tryz.ntmps120 ?_
 refine wRUN hw0 ?_
 refine a_loop (κ := Nat) (fun k => ⟨mkS 0 28 [(0, cellsA t.enc), (1, .c (.int .i64 0)), (5, .own (5, 0)), (6, .c (.int .i64 ((kp t.kids k : Nat) : Int))), (7, .c (.int .i64 k))],
   [((5, 0), .row false 1 2 ((kposL t k).map intCs))]⟩)
  (fun k => k ≤ t.kids.length) (fun k => t.kids.length - k) 0 (Nat.zero_le _) ?_ ?_
 ·(apply (Says.of [((5, 0), (8, 0))] []); (iterate 2 ((focus (simp only [go_sem, Nat.reduceEqDiff, Nat.reduceAdd, Nat.reduceSub, Nat.reduceLeDiff, Nat.reduceMul, Nat.reduceBEq, Nat.reduceLT, Int.reduceToNat, reduceCtorEq, hk0, kposL]; try (and_intros <;> rfl))); (focus exact rfl))); (iterate 4 (focus (simp [go_sem, hk0, kposL]; done))))
 ·intro k hk
  by_cases hlt : k < t.kids.length
  ·have hd : decide ((k : Int) < (t.kids.length : Int)) = true := by simpa using hlt
   have hw1 := wrap_succ (k := k) (by omega)
   have h1 : (kposL t k).length + 1 ≤ 1000000 := by rw [kposL_len]; omega
   have he := l1End_ac hw hc hlt
   have hn : (kposL t k).map intCs ++ [[.int .i64 ((kp t.kids k : Nat) : Int)]] = (kposL t (k + 1)).map intCs := by rw [kposL_succ, List.map_append]; rfl
   refine wRUN (j4 hr0 hg0 hd h1) ?_
   refine w7 (op_data [] he) trivial ?_
   refine wRUN hw1 ?_
   refine ⟨k + 1, by omega, by omega, ?_⟩
   exact wSays (Says.of [((5, 0), (23, 0))] []) hn
  ·have hd : decide ((k : Int) < (t.kids.length : Int)) = false := by simpa using hlt
   have hke : k = t.kids.length := by omega
   refine wRUN (j3 hr0 hg0 hd) ?_
   subst hke
   exact wRetOf (ret_of [] [(5, 0)]) Tryz.results120 hd
def keysOf (t : V) (k : Nat) : List ByteArray := (List.range k).map t.keyAt
theorem keysOf_succ (t : V) (k : Nat) : keysOf t (k + 1) = keysOf t k ++ [t.keyAt k] := by simp [keysOf, List.range_succ]
theorem keysOf_len (t : V) (k : Nat) : (keysOf t k).length = k := by simp [keysOf]
theorem enc_at_kid (t : V) {k : Nat} (h : k < t.kids.length) : (t.enc.map CellD.cs)[kp t.kids k]? = some [.int .i64 t.kids[k].kind, .int .i64 t.kids[k].num, .str t.kids[k].text, .str (t.keyAt k), .int .i64 t.kids[k].kids.length] := by
 have h1 := enc_kid t h
 have h2 : t.enc[kp t.kids k]? = some ⟨t.kids[k].kind, t.kids[k].num, t.kids[k].text, t.keyAt k, t.kids[k].kids.length⟩ := by
  have h3 : (t.enc.drop (kp t.kids k))[0]? = t.enc[kp t.kids k]? := by rw [List.getElem?_drop]; rfl
  rw [← h3, h1, cells_head]
  rfl
 rw [List.getElem?_map, h2]
 rfl
set_option maxRecDepth 10000
theorem l1Keys_ac {t : V} (hw : t.wf) (hc : t.count ≤ 200) : AC Tryz.prog 99 [cellsA t.enc] [] (.c (.sl ((keysOf t t.kids.length).map strCs))) [] := by
 have hkl := kids_len_le hc
 have hkn := kposL_len t t.kids.length
 have hch := l1Children_ac hw hc
 refine wEnter Tryz.func99 Tryz.ntmps99 ?_
 refine wRUN trivial ?_
 refine w9 (op_shared [] hch) trivial ?_
 refine wRUN trivial ?_
 refine a_loop (κ := Nat) (fun k => ⟨mkS 0 27 [(0, cellsA t.enc), (3, .own (3, 0)), (4, .c (.sl ((kposL t t.kids.length).map intCs))), (5, .c (.int .i64 k))],
   [((3, 0), .row false 1 9 ((keysOf t k).map strCs))]⟩)
  (fun k => k ≤ t.kids.length) (fun k => t.kids.length - k) 0 (Nat.zero_le _) ?_ ?_
 ·(apply (Says.of [((3, 0), (6, 0))] []); (iterate 2 ((focus (simp only [go_sem, Nat.reduceEqDiff, Nat.reduceAdd, Nat.reduceSub, Nat.reduceLeDiff, Nat.reduceMul, Nat.reduceBEq, Nat.reduceLT, Int.reduceToNat, reduceCtorEq, keysOf]; try (and_intros <;> rfl))); (focus exact rfl))); (iterate 4 (focus (simp [go_sem, keysOf]; done))))
 ·intro k hk
  by_cases hlt : k < t.kids.length
  ·have hd : decide ((k : Int) < (t.kids.length : Int)) = true := by simpa using hlt
   have hw1 := wrap_succ (k := k) (by omega)
   have h1 : (keysOf t k).length + 1 ≤ 1000000 := by rw [keysOf_len]; omega
   have hr1 : rowsAt ((kposL t t.kids.length).map intCs) 1 k = true := by simp [rowsAt, kposL, hlt, intCs]
   have hg1 : ((kposL t t.kids.length).map intCs)[k]? = some [.int .i64 ((kp t.kids k : Nat) : Int)] := by simp [kposL, hlt, intCs]
   have hg2 := enc_at_kid t hlt
   have hr2 : rowsAt (t.enc.map CellD.cs) 5 ((kp t.kids k : Nat) : Int) = true := by unfold rowsAt; rw [Int.toNat_natCast, hg2]; simp
   have hn : (keysOf t k).map strCs ++ [[.str (t.keyAt k)]] = (keysOf t (k + 1)).map strCs := by rw [keysOf_succ, List.map_append]; rfl
   refine wRUN (j8 hd hkn hr1 hg1 hr2 hg2 h1 hw1) ?_
   refine ⟨k + 1, by omega, by omega, ?_⟩
   exact wSays (Says.of [((3, 0), (25, 0))] []) hn
  ·have hd : decide ((k : Int) < (t.kids.length : Int)) = false := by simpa using hlt
   have hke : k = t.kids.length := by omega
   refine wRUN (j2 hkn hd) ?_
   subst hke
   exact wRetOf (ret_of [] [(3, 0)]) Tryz.results99 hd
theorem l1Array_ac (ps : List V) (hc : (arrV ps).count ≤ 500000) : AC Tryz.prog 98 [.c (.sl ((ps.map V.enc).map encCs))] [] (.own (0, 0)) [((0, 0), .row false 5 94 ((arrV ps).enc.map CellD.cs))] := by
 have hcl := countL_len ps
 have hcc := arr_count ps
 obtain ⟨R, hR⟩ : ∃ R : Nat → List CellD, ∀ k, R k = (arrV ps).enc.take (kp (arrV ps).kids k) := ⟨_, fun _ => rfl⟩
 have h0 : (R 0).map CellD.cs = [[.int .i64 5, .int .i64 0, .str ByteArray.empty, .str ByteArray.empty, .int .i64 ps.length]] := by
  rw [hR, enc_take_one]; rfl
 refine wEnter Tryz.func98 Tryz.ntmps98 ?_
 refine wRUN trivial ?_
 refine a_loop (κ := Nat) (fun k => ⟨mkS 0 22 [(0, .c (.sl ((ps.map V.enc).map encCs))), (3, .own (3, 0)), (4, .c (.int .i64 k))],
   [((3, 0), .row false 5 94 ((R k).map CellD.cs))]⟩)
  (fun k => k ≤ ps.length) (fun k => ps.length - k) 0 (Nat.zero_le _) ?_ ?_
 ·exact wSays (Says.of [((3, 0), (8, 0))] []) h0
 ·intro k hk
  by_cases hlt : k < ps.length
  ·have hd : decide ((k : Int) < (ps.length : Int)) = true := by simpa using hlt
   have hw1 := wrap_succ (k := k) (by omega)
   have hr1 : rowsAt ((ps.map V.enc).map encCs) 1 k = true := by simp [rowsAt, hlt, encCs]
   have hg1 : ((ps.map V.enc).map encCs)[k]? = some [.sl (ps[k].enc.map CellD.cs)] := by simp [hlt, encCs]
   have hts := enc_take_succ (arrV ps) (i := k) hlt
   have h56 : (arrV ps).kind ≠ 6 := show (5 : Int) ≠ 6 by decide
   rw [keyAt_none h56, ← hR, ← hR] at hts
   have htl := enc_take_len (arrV ps) k
   have hkl := kp_le (arrV ps) k
   have hm := countL_mem (List.getElem_mem hlt)
   have hel := enc_len ps[k]
   have h1 : (R k).length + ps[k].enc.length ≤ 1000000 := by rw [hR, htl, hel]; omega
   have hn : (R k).map CellD.cs ++ ps[k].enc.map CellD.cs = (R (k + 1)).map CellD.cs := by
    rw [hts, List.map_append]; rfl
   generalize ps[k] = u at *
   refine wRUN (j5 hd hr1 hg1 h1 hw1) ?_
   refine ⟨k + 1, by omega, by omega, ?_⟩
   exact wSays (Says.of [((3, 0), (20, 0))] []) hn
  ·have hd : decide ((k : Int) < (ps.length : Int)) = false := by simpa using hlt
   have hke : k = ps.length := by omega
   have hall : R k = (V.mk 5 0 ByteArray.empty [] ps).enc := by rw [hR, hke]; exact enc_take_all (arrV ps)
   refine wRUN hd ?_
   exact wRetOf (ret_of [((0, 0), (3, 0))] []) Tryz.results98 hall
def keep (b : Bool) (p : List V × V) : Bool := !b || p.2.kids.isEmpty
def pthCs (p : List V) : List C := [.sl ((p.map V.enc).map encCs)]
theorem all_pths (l : List (List V)) : ((l.map pthCs).all fun r => r.length == 1) = true := by simp [pthCs]
theorem fl_pth (p : List V) : forgetL (pthCs p) = pthCs p := rfl
theorem forget_pths (l : List (List V)) : forgetLL (l.map pthCs) = l.map pthCs := forget_map _ fl_pth l
attribute [go_sem] all_pths forget_pths
theorem key_more (ahead : List V) (q : V) : forgetLL ((ahead.map V.enc).map encCs ++ [[.sl (q.enc.map CellD.cs)]]) = ((ahead ++ [q]).map V.enc).map encCs := by
 rw [← forget_encs ((ahead ++ [q]).map V.enc), List.map_append, List.map_append]
 rfl
set_option maxRecDepth 10000
end Go.Proofs.YtlciedpfjhkkdaaGreatDoor
