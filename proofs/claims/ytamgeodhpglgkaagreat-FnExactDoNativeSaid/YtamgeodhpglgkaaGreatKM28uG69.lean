/- Texts of this proof: M28 G80 H99 M29 G86 G87 G69. -/
import Derived.Test.YtamgeodhpglgkaaGreatKG21uM23
import Derived.Test.YtamgeodhpglgkaaGreatKE6
import Derived.Test.YtamgeodhpglgkaaGreatKG9
import Derived.Test.YtamgeodhpglgkaaGreatKG14uS02
import Derived.Test.YtamgeodhpglgkaaGreatKM2
import Derived.Test.YtamgeodhpglgkaaGreatKG06uG08
import Derived.Test.YtamgeodhpglgkaaGreatKG25uG26
import Derived.Test.YtamgeodhpglgkaaGreatKG49uG52
import Derived.Deep.RegionLaw
import Derived.Shelf.RegionOpenPlain
import Derived.Laws.CopyRow
import Derived.Test.YtamgeodhpglgkaaGreatKG67
import Derived.Test.YtamgeodhpglgkaaGreatKG43
import Derived.Test.YtamgeodhpglgkaaGreatKE5
import Derived.Test.YtamgeodhpglgkaaGreatKG8
set_option linter.unusedSimpArgs false
set_option maxHeartbeats 8000000
namespace Go.Proofs.YtamgeodhpglgkaaGreat
open Go.RowKit
def words : List ByteArray := [⟨#[97]⟩, ⟨#[98]⟩, ⟨#[99]⟩, ⟨#[105, 100]⟩, ByteArray.empty, ⟨#[120, 32, 121]⟩, ⟨#[97, 98]⟩, ⟨#[34, 113, 92]⟩]
set_option maxRecDepth 10000
theorem wrapN {x : Int} {n : Nat} (h : x = (n : Int)) (hn : n < 9000000000000000000) : IntKind.i64.wrap x = (n : Int) := by
 rw [IntWalk.i64_in _ (by omega)]; exact h
theorem closed_osl (l : List (List CellD)) : closedLL (l.map oslCs) = true := by
 induction l with
 | nil => rfl
 | cons c l ih => simp only [List.map_cons, closedLL, ih, Bool.and_true, oslCs, closedL, C.closed, closed_cells]
theorem forget_osl (l : List (List CellD)) : forgetLL (l.map oslCs) = l.map encCs := by
 induction l with
 | nil => rfl
 | cons c l ih => simp only [List.map_cons, forgetLL, ih, oslCs, forgetL, C.forget, forget_cells, encCs]
attribute [go_sem] closed_osl forget_osl
theorem ar_cellsA {w : World} {S : Nat → Prop} {m : Mem} {κ : Id → Value} {xs : List CellD} {A : Option Addr} {cap : Nat} (hcap : xs.length ≤ cap) (h : Cells w S A xs) : AR w S m κ (cellsA xs) (.slice A xs.length cap) :=
 cr_cells.2 ⟨A, cap, rfl, hcap, h⟩
def sKey (q : V) : Prop := q.right ∧ q.count = 1 ∧ q.depth = 1 ∧ (q.kind = 3 ∨ q.kind = 4)
theorem sKey_ok {q : V} (h : okKey q) : sKey q := by
 obtain ⟨h1, h2, h3⟩ := okKey_right h
 refine ⟨h1, h2, h3, ?_⟩
 rcases h with ⟨s, rfl, _⟩ | ⟨n, rfl, _⟩
 ·exact .inr rfl
 ·exact .inl rfl
theorem strV_right {s : ByteArray} (h : okText s = true) : (strV s).right := by
 refine leaf_right ?_ (by decide)
 unfold cellCode
 have h2 : inB 0 (-1000000000000000) 1000000000000000 = true := by decide
 simp [cF, cR, cT, okText_empty, holds, h2, inB, h]
theorem countL_sk : ∀ {l : List V}, (∀ q ∈ l, sKey q) → countL l = l.length ∧ depthL l ≤ 1 ∧ wfL l
 | [], _ => ⟨rfl, Nat.zero_le _, trivial⟩
 | q :: l, h => by
  obtain ⟨h1, h2, h3⟩ := countL_sk (l := l) fun x hx => h x (by simp [hx])
  obtain ⟨h4, h5, h6, _⟩ := h q (by simp)
  exact ⟨by simp only [countL, List.length_cons]; omega, by simp only [depthL]; omega, h4.1, h3⟩
set_option maxRecDepth 10000
theorem row_encsV {L : List V} {i : Nat} (h : i < L.length) : rowsAt ((L.map V.enc).map encCs) 1 ((i : Nat) : Int) = true ∧ ((L.map V.enc).map encCs)[i]? = some [.sl (L[i].enc.map CellD.cs)] := ⟨by simp [rowsAt, h, encCs], by simp [h, encCs]⟩
set_option maxRecDepth 10000
theorem okRes_ways {r : Int × Option V} (h : okRes r) : (∃ v, r = (0, some v) ∧ v.right) ∨ ∃ c, c ≠ 0 ∧ r = (c, none) := by
 obtain ⟨c, o⟩ := r
 cases o with
 | none => exact .inr ⟨c, h, rfl⟩
 | some v => exact .inl ⟨v, by rw [show c = 0 from h.1], h.2⟩
set_option maxRecDepth 10000
theorem are_ac (a b : V) (k : Int) : AC Tryz.prog 148 [a.av, b.av, .c (.int .i64 k)] [] (.c (.bool (a.kind == k && b.kind == k))) [] := by
 cases h1 : a.kind == k <;> cases h2 : b.kind == k
 all_goals
  refine wEnter Tryz.func148 Tryz.ntmps148 ?_
  refine wRUN (j2 h1 h2) ?_
  exact wRet (ret_data []) Tryz.results148
theorem are_no {a b : V} {k : Int} (h : ¬ (a.kind = k ∧ b.kind = k)) : (a.kind == k && b.kind == k) = false := by
 by_cases h1 : a.kind = k
 ·have : ¬ b.kind = k := fun h2 => h ⟨h1, h2⟩
  simp [h1, this]
 ·simp [h1]
theorem are_yes {a b : V} {k : Int} (h : a.kind = k ∧ b.kind = k) : (a.kind == k && b.kind == k) = true := by simp [h.1, h.2]
theorem concat2Vals_ac (a b : List V) (h : a.length + b.length ≤ 800000) : AC Tryz.prog 315 [.c (.sl [[.sl (a.map V.cs)], [.sl (b.map V.cs)]])] [] (.own (0, 0)) [((0, 0), .row false 5 101 ((a ++ b).map V.cs))] := by
 have h1 := concatVals_ac [a, b] (by simp) (by simp; omega)
 simpa only [List.map_cons, List.map_nil, slVals, List.flatten_cons, List.flatten_nil, List.append_nil] using h1
theorem concat2Strs_ac (a b : List ByteArray) (h : a.length + b.length ≤ 800000) : AC Tryz.prog 249 [.c (.sl [[.sl (a.map strCs)], [.sl (b.map strCs)]])] [] (.own (0, 0)) [((0, 0), .row false 1 9 ((a ++ b).map strCs))] := by
 have h1 := concatStrs_ac [a, b] (by simp) (by simp; omega)
 simpa only [List.map_cons, List.map_nil, slStrs, List.flatten_cons, List.flatten_nil, List.append_nil] using h1
theorem add_ac {a b : V} (ha : a.right) (hb : b.right) : AC Tryz.prog 241 [a.av, b.av] [] (resA (addV a b)) [] := by
 have hr3 := are_ac a b 3
 have hr4 := are_ac a b 4
 have hr5 := are_ac a b 5
 have hr6 := are_ac a b 6
 obtain ⟨hak, hav⟩ := right_kl ha
 obtain ⟨hbk, hbv⟩ := right_kl hb
 unfold addV
 by_cases a0 : a.kind = 0
 ·have ba : (a.kind == 0) = true := by simpa using a0
  rw [if_pos a0, resA_ok]
  refine wEnter Tryz.func241 Tryz.ntmps241 ?_
  refine wRUN ba ?_
  refine w9 (op_shared [] (gives_ac hb)) trivial ?_
  refine wRUN trivial ?_
  exact wRet (ret_data []) Tryz.results241
 ·have ba : (a.kind == 0) = false := by simpa using a0
  rw [if_neg a0]
  by_cases b0 : b.kind = 0
  ·have bb : (b.kind == 0) = true := by simpa using b0
   rw [if_pos b0, resA_ok]
   refine wEnter Tryz.func241 Tryz.ntmps241 ?_
   refine wRUN (j2 ba bb) ?_
   refine w9 (op_shared [] (gives_ac ha)) trivial ?_
   refine wRUN trivial ?_
   exact wRet (ret_data []) Tryz.results241
  ·have bb : (b.kind == 0) = false := by simpa using b0
   rw [if_neg b0]
   by_cases h3 : a.kind = 3 ∧ b.kind = 3
   ·rw [if_pos h3]
    rw [are_yes h3] at hr3
    have n1 := right_num ha
    have n2 := right_num hb
    have hw : IntKind.i64.wrap (a.num + b.num) = a.num + b.num := wrap_in (by omega) (by omega)
    have hn := number_ac (a.num + b.num)
    have hg := gives_any (numV_fit (a.num + b.num)) (by simp [numV, V.count, countL])
    generalize numV (a.num + b.num) = z at *
    generalize giveR z = r at *
    rcases r with ⟨c, _ | u⟩
    all_goals
     simp only [resA_some, resA_none] at hg ⊢
     refine wEnter Tryz.func241 Tryz.ntmps241 ?_
     refine wRUN (j2 ba bb) ?_
     refine w7 (op_data [] hr3) trivial ?_
     refine wRUN hw ?_
     refine w9 (op_shared [] hn) trivial ?_
     refine w9 (op_shared [] hg) trivial ?_
     refine wRUN trivial ?_
     exact wRet (ret_data []) Tryz.results241
   ·rw [if_neg h3]
    rw [are_no h3] at hr3
    by_cases h4 : a.kind = 4 ∧ b.kind = 4
    ·rw [if_pos h4]
     rw [are_yes h4] at hr4
     have t1 := text_size ha
     have t2 := text_size hb
     have hsz : a.text.size + b.text.size ≤ 9223372036854775807 := by omega
     have hn := text_ac (a.text ++ b.text)
     have hg := gives_any (cat_fit ha hb) (by simp [strV, V.count, countL])
     generalize hst : strV (a.text ++ b.text) = z at *
     generalize giveR z = r at *
     rcases r with ⟨c, _ | u⟩
     all_goals
      simp only [resA_some, resA_none] at hg ⊢
      refine wEnter Tryz.func241 Tryz.ntmps241 ?_
      refine wRUN (j2 ba bb) ?_
      refine w7 (op_data [] hr3) trivial ?_
      refine wRUN trivial ?_
      refine w7 (op_data [] hr4) trivial ?_
      refine wRUN hsz ?_
      refine w9 (op_shared [] hn) trivial ?_
      refine w9 (op_shared [] hg) trivial ?_
      refine wRUN trivial ?_
      exact wRet (ret_data []) Tryz.results241
    ·rw [if_neg h4]
     rw [are_no h4] at hr4
     by_cases h5 : a.kind = 5 ∧ b.kind = 5
     ·rw [if_pos h5]
      rw [are_yes h5] at hr5
      obtain ⟨hf, hc⟩ := arr2_fit ha hb
      have hco := concat2Vals_ac a.kids b.kids (by omega)
      have hn := array_ac (a.kids ++ b.kids)
      have hg := gives_any hf (by omega)
      generalize a.kids ++ b.kids = K at *
      generalize arrV K = z at *
      generalize giveR z = r at *
      rcases r with ⟨c, _ | u⟩
      all_goals
       simp only [resA_some, resA_none] at hg ⊢
       refine wEnter Tryz.func241 Tryz.ntmps241 ?_
       refine wRUN (j2 ba bb) ?_
       refine w7 (op_data [] hr3) trivial ?_
       refine wRUN trivial ?_
       refine w7 (op_data [] hr4) trivial ?_
       refine wRUN trivial ?_
       refine w7 (op_data [] hr5) trivial ?_
       refine wRUN trivial ?_
       refine w12 (op_rowF [(47, 0)] hco) trivial ?_
       refine wRUN trivial ?_
       refine w9 (op_shared [(48, 0)] hn) trivial ?_
       refine w9 (op_shared [] hg) trivial ?_
       refine wRUN trivial ?_
       exact wRet (ret_data []) Tryz.results241
     ·rw [if_neg h5]
      rw [are_no h5] at hr5
      by_cases h6 : a.kind = 6 ∧ b.kind = 6
      ·rw [if_pos h6]
       rw [are_yes h6] at hr6
       obtain ⟨hf, hc1, hc2, hl⟩ := obj2_fit ha hb h6.1 h6.2
       have hco1 := concat2Strs_ac a.keys b.keys (by omega)
       have hco2 := concat2Vals_ac a.kids b.kids (by omega)
       have hobj := object_ac (a.keys ++ b.keys) (a.kids ++ b.kids) hl (by rw [List.length_append]; omega) (by
        intro k hk
        rcases List.mem_append.1 hk with h1 | h1
        ·have := right_keys ha k h1; omega
        ·have := right_keys hb k h1; omega)
       rw [object_av] at hobj
       have hg := gives_any hf (by omega)
       generalize objV (a.keys ++ b.keys) (a.kids ++ b.kids) = z at *
       generalize a.keys ++ b.keys = KK at *
       generalize a.kids ++ b.kids = K at *
       generalize giveR z = r at *
       rcases r with ⟨c, _ | u⟩
       all_goals
        simp only [resA_some, resA_none] at hg ⊢
        refine wEnter Tryz.func241 Tryz.ntmps241 ?_
        refine wRUN (j2 ba bb) ?_
        refine w7 (op_data [] hr3) trivial ?_
        refine wRUN trivial ?_
        refine w7 (op_data [] hr4) trivial ?_
        refine wRUN trivial ?_
        refine w7 (op_data [] hr5) trivial ?_
        refine wRUN trivial ?_
        refine w7 (op_data [] hr6) trivial ?_
        refine wRUN trivial ?_
        refine w12 (op_rowF [(59, 0)] hco1) trivial ?_
        refine wRUN trivial ?_
        refine w12 (op_rowF [(65, 0)] hco2) trivial ?_
        refine wRUN trivial ?_
        refine w9 (op_shared [(60, 0), (66, 0)] hobj) trivial ?_
        refine w9 (op_shared [] hg) trivial ?_
        refine wRUN trivial ?_
        exact wRet (ret_data []) Tryz.results241
      ·rw [if_neg h6, resA_bad]
       rw [are_no h6] at hr6
       refine wEnter Tryz.func241 Tryz.ntmps241 ?_
       refine wRUN (j2 ba bb) ?_
       refine w7 (op_data [] hr3) trivial ?_
       refine wRUN trivial ?_
       refine w7 (op_data [] hr4) trivial ?_
       refine wRUN trivial ?_
       refine w7 (op_data [] hr5) trivial ?_
       refine wRUN trivial ?_
       refine w7 (op_data [] hr6) trivial ?_
       refine wRUN trivial ?_
       refine w7 (op_data [] (refuses_ac 6)) trivial ?_
       refine wRUN trivial ?_
       exact wRet (ret_data []) Tryz.results241
end Go.Proofs.YtamgeodhpglgkaaGreat
