/- impl.valsOf; CountSame on both sides, by the engine. -/
import Derived.Test.YtamgeodhpglgkaaGreatKG43
import Derived.Test.YtamgeodhpglgkaaGreatKG45uG34
import Derived.Test.YtamgeodhpglgkaaGreatKG15uM29
import Derived.Test.YtamgeodhpglgkaaGreatKG49uG52
import Derived.Test.YtamgeodhpglgkaaGreatKG56uG26
import Derived.Test.YtamgeodhpglgkaaGreatKG06uG08
set_option linter.unusedSimpArgs false
set_option maxHeartbeats 8000000
namespace Go.Proofs.YtamgeodhpglgkaaGreat
open Go.RowKit
set_option maxRecDepth 10000
def firstBad : List (List CellD) → Int
 | [] => 0
 | x :: r => if (dec x).1 = 0 then firstBad r else (dec x).1
def treesOf (l : List (List CellD)) : List V := l.filterMap fun x => (dec x).2
theorem firstBad_drop (l : List (List CellD)) {k : Nat} (h : k < l.length) : firstBad (l.drop k) = if (dec l[k]).1 = 0 then firstBad (l.drop (k + 1)) else (dec l[k]).1 := by
 rw [List.drop_eq_getElem_cons h]
 rfl
theorem treesOf_take {l : List (List CellD)} {k : Nat} (h : k < l.length) {t : V} (hd : dec l[k] = (0, some t)) : treesOf (l.take (k + 1)) = treesOf (l.take k) ++ [t] := by
 unfold treesOf
 rw [List.take_succ_eq_append_getElem h, List.filterMap_append]
 simp [hd]
theorem treesOf_len (l : List (List CellD)) : (treesOf l).length ≤ l.length := List.length_filterMap_le _ _
theorem valsOf_bad (l : List (List CellD)) (hz : ∀ x ∈ l, Sized x) (hl : l.length ≤ 900000) (h : firstBad l ≠ 0) : AC Tryz.prog 75 [.c (.sl (l.map encCs))] [] (.tup [.nils, .c (.int .i64 (firstBad l))]) [] := by
 have hln : (l.map encCs).length = l.length := by simp
 obtain ⟨R, hR⟩ : ∃ R, R = firstBad l := ⟨_, rfl⟩
 rw [← hR] at h ⊢
 refine wEnter Tryz.func75 Tryz.ntmps75 ?_
 refine wRUN hln ?_
 refine a_loop (κ := Nat) (fun k => ⟨mkS 0 30 [(4, .own (99, 0)), (10, .c (.sl (l.map encCs))), (11, .c (.int .i64 l.length)), (12, .c (.int .i64 k))], [((99, 0), .row false 5 101 ((treesOf (l.take k)).map V.cs))]⟩)
  (fun k => k ≤ l.length ∧ R = firstBad (l.drop k)) (fun k => l.length - k) 0 ⟨Nat.zero_le _, hR⟩ ?_ ?_
 ·(apply (Says.of [((99, 0), (9, 0))] []); (iterate 2 ((focus (simp only [go_sem, Nat.reduceEqDiff, Nat.reduceAdd, Nat.reduceSub, Nat.reduceLeDiff, Nat.reduceMul, Nat.reduceBEq, Nat.reduceLT, Int.reduceToNat, reduceCtorEq, treesOf]; try (and_intros <;> rfl))); (focus exact rfl))); (iterate 4 (focus (simp [go_sem, treesOf]; done))))
 ·rintro k ⟨hk, hRk⟩
  by_cases hlt : k < l.length
  ·have hdk : decide ((k : Int) < (l.length : Int)) = true := by simpa using hlt
   have hw := wrap_succ (k := k) (by omega)
   have hr : rowsAt (l.map encCs) 1 k = true := by simp [rowsAt, hlt, encCs]
   have hg : (l.map encCs)[k]? = some [.sl (l[k].map CellD.cs)] := by simp [hlt, encCs]
   have hzk := hz _ (List.getElem_mem hlt)
   have hol : (treesOf (l.take k)).length + 1 ≤ 1000000 := by have := treesOf_len (l.take k); rw [List.length_take] at this; omega
   rw [firstBad_drop l hlt] at hRk
   by_cases h0 : (dec l[k]).1 = 0
   ·rw [if_pos h0] at hRk
    rcases dec_cases l[k] with ⟨t, ht⟩ | ⟨c, hc, hd⟩
    ·have hv := valOf_ac l[k] hzk (t := t) (by rw [ht])
     have h00 : ((0 : Int) != 0) = false := rfl
     have hrow : (treesOf (l.take k)).map V.cs ++ [[.int .i64 t.kind, .int .i64 t.num, .str t.text, .sl (t.keys.map strCs), .sl (t.kids.map V.cs)]] = (treesOf (l.take (k + 1))).map V.cs := by rw [treesOf_take hlt ht, List.map_append, List.map_cons, List.map_nil, V.cs_eq]
     generalize l[k] = x at *
     refine wRUN (j3 hdk hr hg) ?_
     refine w9 (op_shared [] hv) trivial ?_
     refine wRUN (j3 h00 hol hw) ?_
     refine ⟨k + 1, by omega, ⟨by omega, hRk⟩, ?_⟩
     exact wSays (Says.of [((99, 0), (27, 0))] []) hrow
    ·rw [hd] at h0
     exact absurd h0 hc
   ·rw [if_neg h0] at hRk
    have hv := valOf_bad l[k] hzk (by rcases dec_cases l[k] with ⟨t, ht⟩ | ⟨c, hc, hd⟩; rw [ht] at h0; exact absurd rfl h0; rw [hd])
    have hb : ((dec l[k]).1 != 0) = true := by simpa using h0
    rw [hRk]
    generalize l[k] = x at *
    refine wRUN (j3 hdk hr hg) ?_
    refine w9 (op_shared [] hv) noV_eq ?_
    refine wRUN (j2 hb noV_eq) ?_
    exact wRet (ret_data []) Tryz.results75
  ·rw [List.drop_eq_nil_of_le (by omega)] at hRk
   exact absurd hRk h
theorem valsOf_ac (l : List (List CellD)) (hz : ∀ x ∈ l, Sized x) (hl : l.length ≤ 900000) (h : firstBad l = 0) : AC Tryz.prog 75 [.c (.sl (l.map encCs))] [] (.tup [.c (.sl ((treesOf l).map V.cs)), .c (.int .i64 0)]) [] := by
 have hln : (l.map encCs).length = l.length := by simp
 refine wEnter Tryz.func75 Tryz.ntmps75 ?_
 refine wRUN hln ?_
 refine a_loop (κ := Nat) (fun k => ⟨mkS 0 30 [(4, .own (99, 0)), (10, .c (.sl (l.map encCs))), (11, .c (.int .i64 l.length)), (12, .c (.int .i64 k))], [((99, 0), .row false 5 101 ((treesOf (l.take k)).map V.cs))]⟩)
  (fun k => k ≤ l.length ∧ firstBad (l.drop k) = 0) (fun k => l.length - k) 0 ⟨Nat.zero_le _, h⟩ ?_ ?_
 ·(apply (Says.of [((99, 0), (9, 0))] []); (iterate 2 ((focus (simp only [go_sem, Nat.reduceEqDiff, Nat.reduceAdd, Nat.reduceSub, Nat.reduceLeDiff, Nat.reduceMul, Nat.reduceBEq, Nat.reduceLT, Int.reduceToNat, reduceCtorEq, treesOf]; try (and_intros <;> rfl))); (focus exact rfl))); (iterate 4 (focus (simp [go_sem, treesOf]; done))))
 ·rintro k ⟨hk, hRk⟩
  by_cases hlt : k < l.length
  ·have hdk : decide ((k : Int) < (l.length : Int)) = true := by simpa using hlt
   have hw := wrap_succ (k := k) (by omega)
   have hr : rowsAt (l.map encCs) 1 k = true := by simp [rowsAt, hlt, encCs]
   have hg : (l.map encCs)[k]? = some [.sl (l[k].map CellD.cs)] := by simp [hlt, encCs]
   have hzk := hz _ (List.getElem_mem hlt)
   have hol : (treesOf (l.take k)).length + 1 ≤ 1000000 := by have := treesOf_len (l.take k); rw [List.length_take] at this; omega
   rw [firstBad_drop l hlt] at hRk
   rcases dec_cases l[k] with ⟨t, ht⟩ | ⟨c, hc, hd⟩
   ·rw [if_pos (by rw [ht])] at hRk
    have hv := valOf_ac l[k] hzk (t := t) (by rw [ht])
    have h00 : ((0 : Int) != 0) = false := rfl
    have hrow : (treesOf (l.take k)).map V.cs ++ [[.int .i64 t.kind, .int .i64 t.num, .str t.text, .sl (t.keys.map strCs), .sl (t.kids.map V.cs)]] = (treesOf (l.take (k + 1))).map V.cs := by rw [treesOf_take hlt ht, List.map_append, List.map_cons, List.map_nil, V.cs_eq]
    generalize l[k] = x at *
    refine wRUN (j3 hdk hr hg) ?_
    refine w9 (op_shared [] hv) trivial ?_
    refine wRUN (j3 h00 hol hw) ?_
    refine ⟨k + 1, by omega, ⟨by omega, hRk⟩, ?_⟩
    exact wSays (Says.of [((99, 0), (27, 0))] []) hrow
   ·rw [if_neg (by rw [hd]; exact hc), hd] at hRk
    exact absurd hRk hc
  ·have hdk : decide ((k : Int) < (l.length : Int)) = false := by simpa using hlt
   have hke : l.take k = l := List.take_of_length_le (by omega)
   refine wRUN hdk ?_
   exact wRetOf (ret_of [] [(99, 0)]) Tryz.results75 hke
theorem two_bad (x y : List CellD) : firstBad [x, y] = bothCode x y := by
 unfold firstBad bothCode firstBad firstBad
 by_cases h1 : (dec x).1 = 0
 ·rw [if_pos h1, if_pos h1]
  by_cases h2 : (dec y).1 = 0
  ·rw [if_pos h2, h2]
  ·rw [if_neg h2]
 ·rw [if_neg h1, if_neg h1]
theorem two_vals {x y : List CellD} (hx : Sized x) (hy : Sized y) {t u : V} (h1 : dec x = (0, some t)) (h2 : dec y = (0, some u)) : AC Tryz.prog 75 [.c (.sl [[.sl (x.map CellD.cs)], [.sl (y.map CellD.cs)]])] [] (.tup [.c (.sl [[.int .i64 t.kind, .int .i64 t.num, .str t.text, .sl (t.keys.map strCs), .sl (t.kids.map V.cs)], [.int .i64 u.kind, .int .i64 u.num, .str u.text, .sl (u.keys.map strCs), .sl (u.kids.map V.cs)]]), .c (.int .i64 0)]) [] := by
 have h := valsOf_ac [x, y] (by simp [hx, hy]) (by simp) (by rw [two_bad]; unfold bothCode; rw [h1, h2]; rfl)
 have ht : treesOf [x, y] = [t, u] := by simp [treesOf, h1, h2]
 rw [ht] at h
 simp only [List.map_cons, List.map_nil, V.cs_eq] at h
 exact h
theorem two_none {x y : List CellD} (hx : Sized x) (hy : Sized y) (h : bothCode x y ≠ 0) : AC Tryz.prog 75 [.c (.sl [[.sl (x.map CellD.cs)], [.sl (y.map CellD.cs)]])] [] (.tup [.nils, .c (.int .i64 (bothCode x y))]) [] := by
 have h := valsOf_bad [x, y] (by simp [hx, hy]) (by simp) (by rw [two_bad]; exact h)
 rw [two_bad] at h
 exact h
def leavesOf (t : V) : List (List V × V) := (t.paths []).filter fun p => !notLeaf p
def sames (t u : V) : Nat := ((leavesOf t).filter (sameAt u)).length
theorem both_ways (x y : List CellD) : (bothCode x y ≠ 0) ∨ ∃ t u, dec x = (0, some t) ∧ dec y = (0, some u) ∧ bothCode x y = 0 := by
 unfold bothCode
 rcases dec_cases x with ⟨t, h1⟩ | ⟨c, hc, h1⟩
 ·rcases dec_cases y with ⟨u, h2⟩ | ⟨c, hc, h2⟩
  ·exact .inr ⟨t, u, h1, h2, by rw [h1, h2]; rfl⟩
  ·rw [h1, h2]
   exact .inl hc
 ·rw [h1]
  dsimp only
  rw [if_neg hc]
  exact .inl hc
theorem leaves_mem {t : V} {p : List V × V} (h : p ∈ leavesOf t) : p ∈ t.paths [] := (List.mem_filter.1 h).1
theorem leaves_len (t : V) : (leavesOf t).length ≤ t.count := by
 have := List.length_filter_le (fun p => !notLeaf p) (t.paths [])
 rw [paths_len] at this
 exact this
theorem implCountSame_ac (x y : List CellD) (hx : Sized x) (hy : Sized y) {t u : V} (h1 : dec x = (0, some t)) (h2 : dec y = (0, some u)) : AC Tryz.prog 28 [cellsA x, cellsA y] [] (.agg [.c (.int .i64 0), .c (.int .i64 (sames t u))]) [] := by
 have hv := two_vals hx hy h1 h2
 obtain ⟨_, w1, w2, w3⟩ := dec_ok h1
 obtain ⟨_, v1, v2, v3⟩ := dec_ok h2
 have ht : t.right := ⟨w1, w2, w3⟩
 have hu : u.right := ⟨v1, v2, v3⟩
 have h00 : ((0 : Int) != 0) = false := rfl
 have hq := leaves_ac t (by omega) (right_neat ht)
 have hlen := leaves_len t
 have hmem := fun p (h : p ∈ leavesOf t) => path_own ht (leaves_mem h)
 unfold sames
 rw [show ((t.paths []).filter fun p => !notLeaf p) = leavesOf t from rfl] at hq
 generalize leavesOf t = l at *
 have hln : (l.map placedCs).length = l.length := by simp
 have hz : ((l.take 0).filter (sameAt u)).length = 0 := rfl
 refine wEnter Tryz.func28 Tryz.ntmps28 ?_
 refine wRUN trivial ?_
 refine w9 (op_shared [(14, 0)] hv) trivial ?_
 refine wRUN h00 ?_
 refine w12 (op_rowF [] hq) trivial ?_
 refine wRUN hln ?_
 refine a_loop (κ := Nat) (fun k => ⟨mkS 0 55 [(4, .ptr (4, 0) 0), (5, .c (.sl [[.int .i64 t.kind, .int .i64 t.num, .str t.text, .sl (t.keys.map strCs), .sl (t.kids.map V.cs)], [.int .i64 u.kind, .int .i64 u.num, .str u.text, .sl (u.keys.map strCs), .sl (u.kids.map V.cs)]])), (7, .ptr (7, 0) 0), (26, .own (99, 0)), (27, .c (.int .i64 l.length)), (28, .c (.int .i64 k))],
   [((4, 0), .box [.c (.int .i64 0), .c (.int .i64 0)]), ((7, 0), .box [.c (.int .i64 0), .c (.int .i64 ((l.take k).filter (sameAt u)).length)]), ((99, 0), .row false 6 131 (l.map placedCs))]⟩)
  (fun k => k ≤ l.length) (fun k => l.length - k) 0 (Nat.zero_le _) ?_ ?_
 ·exact wSays (Says.of [((4, 0), (4, 0)), ((7, 0), (7, 0)), ((99, 0), (26, 0))] []) hz
 ·intro k hk
  by_cases hlt : k < l.length
  ·have hdk : decide ((k : Int) < (l.length : Int)) = true := by simpa using hlt
   have hw := wrap_succ (k := k) (by omega)
   have hr : rowsAt (l.map placedCs) 6 k = true := by simp [rowsAt, hlt, placedCs]
   have hg : (l.map placedCs)[k]? = some [.sl (l[k].1.map V.cs), .int .i64 l[k].2.kind, .int .i64 l[k].2.num, .str l[k].2.text, .sl (l[k].2.keys.map strCs), .sl (l[k].2.kids.map V.cs)] := by simp [hlt, placedCs]
   have htf := take_filter (d := sameAt u) hlt
   obtain ⟨m1, m2, m3, m4⟩ := hmem _ (List.getElem_mem hlt)
   have hgp := getPath_ac hu l[k].1 (by omega) m2
   have hgo := getPath_ok l[k].1 hu
   have hcl : ((l.take k).filter (sameAt u)).length ≤ 200 := by have := List.length_filter_le (sameAt u) (l.take k); rw [List.length_take] at this; omega
   obtain ⟨r, hgr⟩ : ∃ r, getPathV u l[k].1 = r := ⟨_, rfl⟩
   obtain ⟨c, o⟩ := r
   rw [hgr] at hgp hgo
   cases o with
   | none =>
    have hc : c ≠ 0 := hgo
    have hs := sameAt_none hgr
    rw [hs, if_neg (by simp), List.append_nil] at htf
    have hb : (c == 0) = false := by simpa using hc
    rw [show resA (c, none) = outA c nullV from rfl, outA_null] at hgp
    generalize l[k] = p at *
    refine wRUN (j3 hdk hr hg) ?_
    refine w9 (op_shared [] hgp) trivial ?_
    refine wRUN (j2 hb hw) ?_
    refine ⟨k + 1, by omega, by omega, ?_⟩
    exact wSays (Says.of [((4, 0), (4, 0)), ((7, 0), (7, 0)), ((99, 0), (99, 0))] []) htf
   | some v =>
    have hcv := compareVals_ac v.count v l[k].2 (Nat.le_refl _) hgo.2
    obtain ⟨hs, _⟩ := sameAt_some hgr
    have h0b : ((0 : Int) == 0) = true := rfl
    rw [show resA (c, some v) = outA 0 v from rfl, outA_eq] at hgp
    cases hb : (v.cmp l[k].2 == 0) with
    | false =>
     rw [hs, hb, if_neg (by simp), List.append_nil] at htf
     generalize v.cmp l[k].2 = cc at *
     generalize l[k] = p at *
     refine wRUN (j3 hdk hr hg) ?_
     refine w9 (op_shared [] hgp) trivial ?_
     refine wRUN h0b ?_
     refine w7 (op_data [] hcv) trivial ?_
     refine wRUN (j2 hb hw) ?_
     refine ⟨k + 1, by omega, by omega, ?_⟩
     exact wSays (Says.of [((4, 0), (4, 0)), ((7, 0), (7, 0)), ((99, 0), (99, 0))] []) htf
    | true =>
     rw [hs, hb, if_pos rfl] at htf
     have hnx : ((l.take (k + 1)).filter (sameAt u)).length = ((l.take k).filter (sameAt u)).length + 1 := by rw [htf, List.length_append]; rfl
     have hw2 := wrap_succ (k := ((l.take k).filter (sameAt u)).length) (by omega)
     generalize ((l.take k).filter (sameAt u)).length = n at *
     generalize v.cmp l[k].2 = cc at *
     generalize l[k] = p at *
     refine wRUN (j3 hdk hr hg) ?_
     refine w9 (op_shared [] hgp) trivial ?_
     refine wRUN h0b ?_
     refine w7 (op_data [] hcv) trivial ?_
     refine wRUN (j3 hb hw hw2) ?_
     refine ⟨k + 1, by omega, by omega, ?_⟩
     exact wSays (Says.of [((4, 0), (4, 0)), ((7, 0), (7, 0)), ((99, 0), (99, 0))] []) hnx
  ·have hdk : decide ((k : Int) < (l.length : Int)) = false := by simpa using hlt
   have hke : l.take k = l := List.take_of_length_le (by omega)
   rw [hke]
   refine wRUN hdk ?_
   exact wRet (ret_data []) Tryz.results28
end Go.Proofs.YtamgeodhpglgkaaGreat
