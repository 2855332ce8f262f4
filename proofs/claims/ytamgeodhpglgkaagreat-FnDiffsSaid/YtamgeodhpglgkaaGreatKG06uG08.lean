/- Texts of this proof: G06 G07 G08. -/
import Derived.Test.YtamgeodhpglgkaaGreatKG04uG20
import Derived.Test.YtamgeodhpglgkaaGreatKB3
set_option linter.unusedSimpArgs false
set_option maxHeartbeats 8000000
namespace Go.Proofs.YtamgeodhpglgkaaGreat
open Go.RowKit
def intCs (n : Int) : List C := [.int .i64 n]
def encCs (xs : List CellD) : List C := [.sl (xs.map CellD.cs)]
theorem all_ints (l : List Int) : ((l.map intCs).all fun r => r.length == 1) = true := by simp [intCs]
theorem all_encs (l : List (List CellD)) : ((l.map encCs).all fun r => r.length == 1) = true := by simp [encCs]
theorem fl_int (n : Int) : forgetL (intCs n) = intCs n := rfl
theorem fl_enc (xs : List CellD) : forgetL (encCs xs) = encCs xs := rfl
theorem forget_ints (l : List Int) : forgetLL (l.map intCs) = l.map intCs := forget_map _ fl_int l
theorem forget_encs (l : List (List CellD)) : forgetLL (l.map encCs) = l.map encCs := forget_map _ fl_enc l
attribute [go_sem] all_ints all_encs forget_ints forget_encs intCs encCs
theorem fault_ac (xs : List CellD) : AC Tryz.prog 63 [cellsA xs] [] (.c (.int .i64 (dec xs).1)) [] := by
 refine AC.of_calls fun S w κ vs hv => ?_
 obtain ⟨v, vs', rfl, h1, rfl⟩ := hv
 obtain ⟨A, cap, rfl, _, hc⟩ := cr_cells.1 h1
 refine (specFault_any xs A cap S w hc).mono ?_
 rintro e w' ⟨rfl, hb⟩
 exact ⟨hb, _, rfl, fun T _ _ => ⟨rfl, rfl⟩⟩
theorem l1End_ac {t : V} (hw : t.wf) (hc : t.count ≤ 200) {i : Nat} (hi : i < t.kids.length) : AC Tryz.prog 273 [cellsA t.enc, .c (.int .i64 ((kp t.kids i : Nat) : Int))] [] (.c (.int .i64 ((kp t.kids (i + 1) : Nat) : Int))) [] := by
 refine AC.of_calls fun S w κ vs hv => ?_
 obtain ⟨v, vs', rfl, h1, v2, vs2, rfl, h2, rfl⟩ := hv
 obtain ⟨rfl, _⟩ := h2
 obtain ⟨A, cap, rfl, _, hcs⟩ := cr_cells.1 h1
 have := kp_le t i
 have hlen := enc_len t
 have := l1End_any t.enc (by omega) (enc_n hw) (kp t.kids i : Nat) (by omega) (by omega) A cap S w hcs
 rw [Int.toNat_natCast, end_kid hw hi (by omega)] at this
 refine this.mono ?_
 rintro e w' ⟨rfl, hb⟩
 exact ⟨hb, _, rfl, fun T _ _ => ⟨rfl, rfl⟩⟩
theorem crss_of {α : Type} {w : World} {S : Nat → Prop} {f : α → List C} : ∀ {l : List α} {rows : List (List Value)}, rows.length = l.length → (∀ i (h : i < l.length) row, rows[i]? = some row → CRs w S (f l[i]) row []) → CRss w S (l.map f) rows []
 | [], rows, hl, _ => by
  have : rows = [] := List.eq_nil_of_length_eq_zero (by simpa using hl)
  subst this
  exact ⟨rfl, rfl⟩
 | x :: l, [], hl, _ => by simp at hl
 | x :: l, r :: rows, hl, h => by
  simp only [List.map_cons, CRss]
  exact ⟨r, rows, [], [], rfl, rfl, h 0 (by simp) r rfl, crss_of (by simpa using hl) fun i hi row hr => by
   have := h (i + 1) (by simpa using hi) row (by simpa using hr)
   simpa using this⟩
theorem l1Parts_ac {t : V} (hw : t.wf) (hc : t.count ≤ 200) : AC Tryz.prog 84 [cellsA t.enc] [] (.c (.sl ((t.kids.map V.enc).map encCs))) [] := by
 refine AC.of_calls fun S w κ vs hv => ?_
 obtain ⟨v, vs', rfl, h1, rfl⟩ := hv
 obtain ⟨A, cap, rfl, hcap, hcs⟩ := cr_cells.1 h1
 refine (l1Parts_any t hw hc A cap hcap S w hcs).mono ?_
 rintro e w' ⟨⟨A', c', rfl, hcap', hr⟩, hb⟩
 refine ⟨hb, _, rfl, fun T _ hT => ?_⟩
 obtain ⟨rows, hl, hrow, hat⟩ := hr
 simp only [AR, CR]
 refine ⟨1, A', c', rows, by simp, by simpa using hcap', trivial, hrow.weaken fun b hb _ => hT b hb, crss_of hl fun i hi row hri => ?_, trivial⟩
 obtain ⟨Ai, ci, rfl, h3, h4⟩ := hat i hi row hri
 exact ⟨_, _, [], [], rfl, rfl, cr_cells.2 ⟨Ai, ci, rfl, h3, h4.weaken fun b hb _ => hT b hb⟩, rfl, rfl⟩
set_option maxRecDepth 10000
theorem l1Number_ac (n : Int) : AC Tryz.prog 225 [.c (.int .i64 n)] [] (.c (.sl ((numV n).enc.map CellD.cs))) [] := by
 have he : (numV n).enc.map CellD.cs = [[.int .i64 3, .int .i64 n, .str ByteArray.empty, .str ByteArray.empty, .int .i64 0]] := rfl
 rw [he]
 refine wEnter Tryz.func225 Tryz.ntmps225 ?_
 refine wRUN trivial ?_
 exact wRetOf (ret_of [] [(5, 0)]) Tryz.results225 he
theorem l1String_ac (s : ByteArray) : AC Tryz.prog 228 [.c (.str s)] [] (.c (.sl ((strV s).enc.map CellD.cs))) [] := by
 have he : (strV s).enc.map CellD.cs = [[.int .i64 4, .int .i64 0, .str s, .str ByteArray.empty, .int .i64 0]] := rfl
 rw [he]
 refine wEnter Tryz.func228 Tryz.ntmps228 ?_
 refine wRUN trivial ?_
 exact wRetOf (ret_of [] [(5, 0)]) Tryz.results228 he
theorem l1Children_ac {t : V} (hw : t.wf) (hc : t.count ≤ 200) : AC Tryz.prog 168 [cellsA t.enc, .c (.int .i64 0)] [] (.c (.sl ((kposL t t.kids.length).map intCs))) [] := by
 have hw0 : IntKind.i64.wrap (0 + 1) = 1 := rfl
 have hk0 : ((kp t.kids 0 : Nat) : Int) = 1 := by simp [kp, countL]
 have hkl := kids_len_le hc
 have hr0 : rowsAt (t.enc.map CellD.cs) 5 0 = true := by unfold rowsAt; rw [show (0 : Int).toNat = 0 from rfl, enc_head]; rfl
 have hg0 := enc_head t
 refine wEnter Tryz.func168 Tryz.ntmps168 ?_
 refine wRUN hw0 ?_
 refine a_loop (κ := Nat) (fun k => ⟨mkS 0 28 [(0, cellsA t.enc), (1, .c (.int .i64 0)), (5, .own (5, 0)), (6, .c (.int .i64 ((kp t.kids k : Nat) : Int))), (7, .c (.int .i64 k))],
   [((5, 0), .row false 1 2 ((kposL t k).map intCs))]⟩)
  (fun k => k ≤ t.kids.length) (fun k => t.kids.length - k) 0 (Nat.zero_le _) ?_ ?_
 ·(apply (Says.of [((5, 0), (8, 0))] []); (iterate 2 ((focus (simp only [go_sem, Nat.reduceEqDiff, Nat.reduceAdd, Nat.reduceSub, Nat.reduceLeDiff, Nat.reduceMul, Nat.reduceBEq, Nat.reduceLT, Int.reduceToNat, reduceCtorEq, hk0, kposL]; try (and_intros <;> rfl))); (focus exact rfl))); (iterate 4 (focus (simp [go_sem, hk0, kposL]; done))))
 ·intro k hk
  by_cases hlt : k < t.kids.length
  ·have hd : decide ((k : Int) < (t.kids.length : Int)) = true := by simpa using hlt
   have hw1 := wrap_succ (k := k) (by omega)
   have h1 : (kposL t k).length + 1 ≤ 1000000 := by rw [kposL_len]; omega
   have he := l1End_ac hw hc hlt
   have hn : (kposL t k).map intCs ++ [[.int .i64 ((kp t.kids k : Nat) : Int)]] = (kposL t (k + 1)).map intCs := by rw [kposL_succ, List.map_append]; rfl
   refine wRUN (j4 hr0 hg0 hd h1) ?_
   refine w7 (op_data [] he) trivial ?_
   refine wRUN hw1 ?_
   refine ⟨k + 1, by omega, by omega, ?_⟩
   exact wSays (Says.of [((5, 0), (23, 0))] []) hn
  ·have hd : decide ((k : Int) < (t.kids.length : Int)) = false := by simpa using hlt
   have hke : k = t.kids.length := by omega
   refine wRUN (j3 hr0 hg0 hd) ?_
   subst hke
   exact wRetOf (ret_of [] [(5, 0)]) Tryz.results168 hd
def keysOf (t : V) (k : Nat) : List ByteArray := (List.range k).map t.keyAt
theorem keysOf_succ (t : V) (k : Nat) : keysOf t (k + 1) = keysOf t k ++ [t.keyAt k] := by simp [keysOf, List.range_succ]
theorem keysOf_len (t : V) (k : Nat) : (keysOf t k).length = k := by simp [keysOf]
theorem enc_at_kid (t : V) {k : Nat} (h : k < t.kids.length) : (t.enc.map CellD.cs)[kp t.kids k]? = some [.int .i64 t.kids[k].kind, .int .i64 t.kids[k].num, .str t.kids[k].text, .str (t.keyAt k), .int .i64 t.kids[k].kids.length] := by
 have h1 := enc_kid t h
 have h2 : t.enc[kp t.kids k]? = some ⟨t.kids[k].kind, t.kids[k].num, t.kids[k].text, t.keyAt k, t.kids[k].kids.length⟩ := by
  have h3 : (t.enc.drop (kp t.kids k))[0]? = t.enc[kp t.kids k]? := by rw [List.getElem?_drop]; rfl
  rw [← h3, h1, cells_head]
  rfl
 rw [List.getElem?_map, h2]
 rfl
set_option maxRecDepth 10000
theorem l1Keys_ac {t : V} (hw : t.wf) (hc : t.count ≤ 200) : AC Tryz.prog 227 [cellsA t.enc] [] (.c (.sl ((keysOf t t.kids.length).map strCs))) [] := by
 have hkl := kids_len_le hc
 have hkn := kposL_len t t.kids.length
 have hch := l1Children_ac hw hc
 refine wEnter Tryz.func227 Tryz.ntmps227 ?_
 refine wRUN trivial ?_
 refine w9 (op_shared [] hch) trivial ?_
 refine wRUN trivial ?_
 refine a_loop (κ := Nat) (fun k => ⟨mkS 0 27 [(0, cellsA t.enc), (3, .own (3, 0)), (4, .c (.sl ((kposL t t.kids.length).map intCs))), (5, .c (.int .i64 k))],
   [((3, 0), .row false 1 9 ((keysOf t k).map strCs))]⟩)
  (fun k => k ≤ t.kids.length) (fun k => t.kids.length - k) 0 (Nat.zero_le _) ?_ ?_
 ·(apply (Says.of [((3, 0), (6, 0))] []); (iterate 2 ((focus (simp only [go_sem, Nat.reduceEqDiff, Nat.reduceAdd, Nat.reduceSub, Nat.reduceLeDiff, Nat.reduceMul, Nat.reduceBEq, Nat.reduceLT, Int.reduceToNat, reduceCtorEq, keysOf]; try (and_intros <;> rfl))); (focus exact rfl))); (iterate 4 (focus (simp [go_sem, keysOf]; done))))
 ·intro k hk
  by_cases hlt : k < t.kids.length
  ·have hd : decide ((k : Int) < (t.kids.length : Int)) = true := by simpa using hlt
   have hw1 := wrap_succ (k := k) (by omega)
   have h1 : (keysOf t k).length + 1 ≤ 1000000 := by rw [keysOf_len]; omega
   have hr1 : rowsAt ((kposL t t.kids.length).map intCs) 1 k = true := by simp [rowsAt, kposL, hlt, intCs]
   have hg1 : ((kposL t t.kids.length).map intCs)[k]? = some [.int .i64 ((kp t.kids k : Nat) : Int)] := by simp [kposL, hlt, intCs]
   have hg2 := enc_at_kid t hlt
   have hr2 : rowsAt (t.enc.map CellD.cs) 5 ((kp t.kids k : Nat) : Int) = true := by unfold rowsAt; rw [Int.toNat_natCast, hg2]; simp
   have hn : (keysOf t k).map strCs ++ [[.str (t.keyAt k)]] = (keysOf t (k + 1)).map strCs := by rw [keysOf_succ, List.map_append]; rfl
   refine wRUN (j8 hd hkn hr1 hg1 hr2 hg2 h1 hw1) ?_
   refine ⟨k + 1, by omega, by omega, ?_⟩
   exact wSays (Says.of [((3, 0), (25, 0))] []) hn
  ·have hd : decide ((k : Int) < (t.kids.length : Int)) = false := by simpa using hlt
   have hke : k = t.kids.length := by omega
   refine wRUN (j2 hkn hd) ?_
   subst hke
   exact wRetOf (ret_of [] [(3, 0)]) Tryz.results227 hd
theorem l1Array_ac (ps : List V) (hc : (arrV ps).count ≤ 500000) : AC Tryz.prog 229 [.c (.sl ((ps.map V.enc).map encCs))] [] (.own (0, 0)) [((0, 0), .row false 5 95 ((arrV ps).enc.map CellD.cs))] := by
 have hcl := countL_len ps
 have hcc := arr_count ps
 obtain ⟨R, hR⟩ : ∃ R : Nat → List CellD, ∀ k, R k = (arrV ps).enc.take (kp (arrV ps).kids k) := ⟨_, fun _ => rfl⟩
 have h0 : (R 0).map CellD.cs = [[.int .i64 5, .int .i64 0, .str ByteArray.empty, .str ByteArray.empty, .int .i64 ps.length]] := by
  rw [hR, enc_take_one]; rfl
 refine wEnter Tryz.func229 Tryz.ntmps229 ?_
 refine wRUN trivial ?_
 refine a_loop (κ := Nat) (fun k => ⟨mkS 0 22 [(0, .c (.sl ((ps.map V.enc).map encCs))), (3, .own (3, 0)), (4, .c (.int .i64 k))],
   [((3, 0), .row false 5 95 ((R k).map CellD.cs))]⟩)
  (fun k => k ≤ ps.length) (fun k => ps.length - k) 0 (Nat.zero_le _) ?_ ?_
 ·exact wSays (Says.of [((3, 0), (8, 0))] []) h0
 ·intro k hk
  by_cases hlt : k < ps.length
  ·have hd : decide ((k : Int) < (ps.length : Int)) = true := by simpa using hlt
   have hw1 := wrap_succ (k := k) (by omega)
   have hr1 : rowsAt ((ps.map V.enc).map encCs) 1 k = true := by simp [rowsAt, hlt, encCs]
   have hg1 : ((ps.map V.enc).map encCs)[k]? = some [.sl (ps[k].enc.map CellD.cs)] := by simp [hlt, encCs]
   have hts := enc_take_succ (arrV ps) (i := k) hlt
   have h56 : (arrV ps).kind ≠ 6 := show (5 : Int) ≠ 6 by decide
   rw [keyAt_none h56, ← hR, ← hR] at hts
   have htl := enc_take_len (arrV ps) k
   have hkl := kp_le (arrV ps) k
   have hm := countL_mem (List.getElem_mem hlt)
   have hel := enc_len ps[k]
   have h1 : (R k).length + ps[k].enc.length ≤ 1000000 := by rw [hR, htl, hel]; omega
   have hn : (R k).map CellD.cs ++ ps[k].enc.map CellD.cs = (R (k + 1)).map CellD.cs := by
    rw [hts, List.map_append]; rfl
   generalize ps[k] = u at *
   refine wRUN (j5 hd hr1 hg1 h1 hw1) ?_
   refine ⟨k + 1, by omega, by omega, ?_⟩
   exact wSays (Says.of [((3, 0), (20, 0))] []) hn
  ·have hd : decide ((k : Int) < (ps.length : Int)) = false := by simpa using hlt
   have hke : k = ps.length := by omega
   have hall : R k = (V.mk 5 0 ByteArray.empty [] ps).enc := by rw [hR, hke]; exact enc_take_all (arrV ps)
   refine wRUN hd ?_
   exact wRetOf (ret_of [((0, 0), (3, 0))] []) Tryz.results229 hall
def keep (b : Bool) (p : List V × V) : Bool := !b || p.2.kids.isEmpty
def allP (b : Bool) (l : List (List V × V)) : List (List V) := (l.filter (keep b)).map (·.1)
def pthCs (p : List V) : List C := [.sl ((p.map V.enc).map encCs)]
theorem all_pths (l : List (List V)) : ((l.map pthCs).all fun r => r.length == 1) = true := by simp [pthCs]
theorem fl_pth (p : List V) : forgetL (pthCs p) = pthCs p := rfl
theorem forget_pths (l : List (List V)) : forgetLL (l.map pthCs) = l.map pthCs := forget_map _ fl_pth l
attribute [go_sem] all_pths forget_pths
def preCs (b : Bool) (t : V) (ahead : List V) : List (List C) := if keep b (ahead, t) then [[.osl ((ahead.map V.enc).map encCs)]] else []
theorem allP_append (b : Bool) (l l' : List (List V × V)) : allP b (l ++ l') = allP b l ++ allP b l' := by simp [allP]
theorem allP_len (b : Bool) (l : List (List V × V)) : (allP b l).length ≤ l.length := by simp only [allP, List.length_map]; exact List.length_filter_le _ _
theorem preCs_len (b : Bool) (t : V) (ahead : List V) : (preCs b t ahead).length ≤ 1 := by unfold preCs; split <;> simp
theorem forget_app : ∀ (a b : List (List C)), forgetLL (a ++ b) = forgetLL a ++ forgetLL b
 | [], b => rfl
 | x :: a, b => by simp only [List.cons_append, forgetLL, forget_app a b]
theorem pre_forget (b : Bool) (t : V) (ahead : List V) (rest : List (List V × V)) : forgetLL (preCs b t ahead ++ (allP b rest).map pthCs) = (allP b ((ahead, t) :: rest)).map pthCs := by
 rw [forget_app, forget_pths]
 unfold preCs allP
 rw [List.filter_cons]
 by_cases h : keep b (ahead, t) = true
 ·rw [if_pos h, if_pos h]
  simp only [List.map_cons]
  show [[C.sl (forgetLL ((ahead.map V.enc).map encCs))]] ++ _ = _
  rw [forget_encs]
  rfl
 ·rw [if_neg h, if_neg h]
  rfl
theorem key_more (ahead : List V) (q : V) : forgetLL ((ahead.map V.enc).map encCs ++ [[.sl (q.enc.map CellD.cs)]]) = ((ahead ++ [q]).map V.enc).map encCs := by
 rw [← forget_encs ((ahead ++ [q]).map V.enc), List.map_append, List.map_append]
 rfl
set_option maxRecDepth 10000
theorem l13All_ac (b : Bool) : ∀ (m : Nat) (t : V) (ahead : List V), t.count ≤ m → t.count ≤ 200 → t.wf → ahead.length + t.count ≤ 900000 →
  AC Tryz.prog 247 [cellsA t.enc, .c (.sl ((ahead.map V.enc).map encCs)), .c (.bool b)] [] (.c (.sl ((allP b (t.paths ahead)).map pthCs))) [] := by
 intro m
 induction m with
 | zero => intro t _ hm; have := count_pos t; omega
 | succ m ih =>
  intro t ahead hm hc hw hl
  have hkc := count_kids t
  have hkl := kids_len_le hc
  have hr0 : rowsAt (t.enc.map CellD.cs) 5 0 = true := by unfold rowsAt; rw [show (0 : Int).toNat = 0 from rfl, enc_head]; rfl
  have hg0 := enc_head t
  have hn0 : 0 + ahead.length ≤ 1000000 := by omega
  have hpl := paths_len t ahead
  have hparts := l1Parts_ac hw hc
  have hkeys := l1Keys_ac hw hc
  refine wEnter Tryz.func247 Tryz.ntmps247 ?_
  rcases (by cases b <;> cases ((t.kids.length : Int) == 0) <;> simp : b = false ∨ (b = true ∧ ((t.kids.length : Int) == 0) = true) ∨ (b = true ∧ ((t.kids.length : Int) == 0) = false)) with hb | ⟨hb, hz⟩ | ⟨hb, hz⟩
  case' inl =>
   have hpre : preCs false t ahead = [[.osl ((ahead.map V.enc).map encCs)]] := by unfold preCs keep; rw [if_pos]; rfl
   refine wRUN (j4 hb hr0 hg0 hn0) ?_
  case' inr.inl =>
   have hpre : preCs true t ahead = [[.osl ((ahead.map V.enc).map encCs)]] := by unfold preCs keep; rw [if_pos]; simp at hz ⊢; exact hz
   refine wRUN (j5 hb hr0 hg0 hz hn0) ?_
  case' inr.inr =>
   have hpre : preCs true t ahead = [] := by unfold preCs keep; rw [if_neg]; simp at hz ⊢; exact hz
   refine wRUN (j5 hb hr0 hg0 hz hn0) ?_
  all_goals
   refine w9 (op_shared [] hparts) trivial ?_
   refine wRUN trivial ?_
   refine w9 (op_shared [] hkeys) trivial ?_
   refine wRUN trivial ?_
   refine a_loop (κ := Nat × List (List V × V)) (fun x => ⟨mkS 0 65 [(0, cellsA t.enc), (1, .c (.sl ((ahead.map V.enc).map encCs))), (2, .c (.bool b)), (7, .own (7, 0)), (8, .c (.sl ((t.kids.map V.enc).map encCs))), (9, .c (.sl ((keysOf t t.kids.length).map strCs))), (10, .c (.int .i64 x.1))],
     [((7, 0), .row true 1 49 (preCs b t ahead ++ (allP b x.2).map pthCs))]⟩)
    (fun x => x.1 ≤ t.kids.length ∧ x.2 ++ pathsL t.keyV x.1 (t.kids.drop x.1) ahead = pathsL t.keyV 0 t.kids ahead) (fun x => t.kids.length - x.1) (0, []) ⟨Nat.zero_le _, rfl⟩ ?_ ?_
   ·first
     | (apply (Says.of [((7, 0), (27, 0))] []); (iterate 2 ((focus (simp only [go_sem, Nat.reduceEqDiff, Nat.reduceAdd, Nat.reduceSub, Nat.reduceLeDiff, Nat.reduceMul, Nat.reduceBEq, Nat.reduceLT, Int.reduceToNat, reduceCtorEq, hpre, hb, allP]; try (and_intros <;> rfl))); (focus exact rfl))); (iterate 4 (focus (simp [go_sem, hpre, hb, allP]; done))))
     | (apply (Says.of [((7, 0), (12, 0))] []); (iterate 2 ((focus (simp only [go_sem, Nat.reduceEqDiff, Nat.reduceAdd, Nat.reduceSub, Nat.reduceLeDiff, Nat.reduceMul, Nat.reduceBEq, Nat.reduceLT, Int.reduceToNat, reduceCtorEq, hpre, hb, allP]; try (and_intros <;> rfl))); (focus exact rfl))); (iterate 4 (focus (simp [go_sem, hpre, hb, allP]; done))))
   ·rintro ⟨k, done⟩ ⟨hk, hd0⟩
    dsimp only at hk hd0 ⊢
    by_cases hlt : k < t.kids.length
    ·have hd : decide ((k : Int) < (t.kids.length : Int)) = true := by simpa using hlt
     have hw1 := wrap_succ (k := k) (by omega)
     have hr1 : rowsAt ((t.kids.map V.enc).map encCs) 1 k = true := by simp [rowsAt, hlt, encCs]
     have hg1 : ((t.kids.map V.enc).map encCs)[k]? = some [.sl (t.kids[k].enc.map CellD.cs)] := by simp [hlt, encCs]
     have hr2 : rowsAt ((keysOf t t.kids.length).map strCs) 1 k = true := by simp [rowsAt, keysOf, hlt, strCs]
     have hg2 : ((keysOf t t.kids.length).map strCs)[k]? = some [.str (t.keyAt k)] := by simp [keysOf, hlt, strCs]
     have hmem := countL_mem (List.getElem_mem hlt)
     have hwk := wf_kid hw hlt
     rw [pathsL_drop t.keyV ahead t.kids hlt] at hd0
     obtain ⟨q, hq⟩ : ∃ q, q = t.keyV k := ⟨_, rfl⟩
     rw [← hq] at hd0
     generalize t.kids[k] = u at *
     have hpu := paths_len u (ahead ++ [q])
     have hpk := pathsL_len t.keyV 0 t.kids ahead
     have hdl : done.length + (u.paths (ahead ++ [q])).length ≤ countL t.kids := by
      have := congrArg List.length hd0
      simp only [List.length_append] at this
      omega
     have h1 : ahead.length + 1 ≤ 1000000 := by omega
     have h2 : (preCs b t ahead ++ (allP b done).map pthCs).length + (allP b (u.paths (ahead ++ [q]))).length ≤ 1000000 := by
      have := preCs_len b t ahead
      have := allP_len b done
      have := allP_len b (u.paths (ahead ++ [q]))
      rw [List.length_append, List.length_map]
      omega
     have hn : preCs b t ahead ++ (allP b done).map pthCs ++ (allP b (u.paths (ahead ++ [q]))).map pthCs = preCs b t ahead ++ (allP b (done ++ u.paths (ahead ++ [q]))).map pthCs := by rw [allP_append, List.map_append, List.append_assoc]
     by_cases h6 : t.kind = 6
     ·have hb6 : (t.kind == 6) = true := by simpa using h6
      have hqs : q = strV (t.keyAt k) := by rw [hq]; unfold V.keyV; rw [if_pos h6]
      refine wRUN hd ?_
      refine w9 (op_shared [] (l1Number_ac k)) trivial ?_
      refine wRUN (j5 hr0 hg0 hb6 hr2 hg2) ?_
      have hkm : forgetLL ((ahead.map V.enc).map encCs ++ [[.sl ((V.mk 4 0 (t.keyAt k) [] []).enc.map CellD.cs)]]) = ((ahead ++ [q]).map V.enc).map encCs := by rw [← key_more, hqs]; rfl
      refine w9 (op_shared [] (l1String_ac (t.keyAt k))) trivial ?_
      refine wRUN (j4 hr1 hg1 hn0 h1) ?_
      refine w9 (op_shared [(60, 0)] (ih u (ahead ++ [q]) (by omega) (by omega) hwk (by simp only [List.length_append, List.length_singleton]; omega))) hkm ?_
      refine wRUN (j2 h2 hw1) ?_
      refine ⟨(k + 1, done ++ u.paths (ahead ++ [q])), by dsimp only; omega, ⟨by dsimp only; omega, by simpa using hd0⟩, ?_⟩
      exact wSays (Says.of [((7, 0), (63, 0))] []) hn
     ·have hb6 : (t.kind == 6) = false := by simpa using h6
      have hqs : q = numV k := by rw [hq]; unfold V.keyV; rw [if_neg h6]
      have hkm : forgetLL ((ahead.map V.enc).map encCs ++ [[.sl ((V.mk 3 k ByteArray.empty [] []).enc.map CellD.cs)]]) = ((ahead ++ [q]).map V.enc).map encCs := by rw [← key_more, hqs]; rfl
      refine wRUN hd ?_
      refine w9 (op_shared [] (l1Number_ac k)) trivial ?_
      refine wRUN (j7 hr0 hg0 hb6 hr1 hg1 hn0 h1) ?_
      refine w9 (op_shared [(60, 0)] (ih u (ahead ++ [q]) (by omega) (by omega) hwk (by simp only [List.length_append, List.length_singleton]; omega))) hkm ?_
      refine wRUN (j2 h2 hw1) ?_
      refine ⟨(k + 1, done ++ u.paths (ahead ++ [q])), by dsimp only; omega, ⟨by dsimp only; omega, by simpa using hd0⟩, ?_⟩
      exact wSays (Says.of [((7, 0), (63, 0))] []) hn
    ·have hd : decide ((k : Int) < (t.kids.length : Int)) = false := by simpa using hlt
     rw [pathsL_end _ _ _ _ (by omega), List.append_nil] at hd0
     have hfin : forgetLL (preCs b t ahead ++ (allP b done).map pthCs) = (allP b (t.paths ahead)).map pthCs := by rw [pre_forget, hd0, ← paths_eq]
     refine wRUN hd ?_
     exact wRetOf (ret_of [] [(7, 0)]) Tryz.results247 hfin
end Go.Proofs.YtamgeodhpglgkaaGreat
