/- Texts of this proof: G15 G29 G84 G85 H22 M29. -/
import Derived.Test.YtamgeodhpglgkaaGreatKG04uG20
import Derived.Test.YtamgeodhpglgkaaGreatKE5
import Derived.Test.YtamgeodhpglgkaaGreatKM2
import Derived.Test.YtamgeodhpglgkaaGreatKG11uS02
import Derived.Test.YtamgeodhpglgkaaGreatKG83
import Derived.Test.YtamgeodhpglgkaaGreatKG69
import Derived.Test.YtamgeodhpglgkaaGreatKM23uM28
import Derived.Test.YtamgeodhpglgkaaGreatKG56uG26
import Derived.Test.YtamgeodhpglgkaaGreatKGX
import Derived.Test.YtamgeodhpglgkaaGreatKG67
import Derived.Test.YtamgeodhpglgkaaGreatKG43
import Derived.Test.YtamgeodhpglgkaaGreatKG49uG52
import Derived.Test.YtamgeodhpglgkaaGreatKGD
import Derived.Test.YtamgeodhpglgkaaGreatKG27uGE
set_option linter.unusedSimpArgs false
set_option maxHeartbeats 8000000
namespace Go.Proofs.YtamgeodhpglgkaaGreat
open Go.RowKit
def placedAv (p : List V × V) : AV := .agg [.c (.sl (p.1.map V.cs)), .c (.int .i64 p.2.kind), .c (.int .i64 p.2.num), .c (.str p.2.text), .c (.sl (p.2.keys.map strCs)), .c (.sl (p.2.kids.map V.cs))]
set_option maxRecDepth 10000
def firstIx {α : Type} (d : α → Bool) (l : List α) : Int := match l.findIdx? d with
 | some i => i
 | none => -1
theorem indexPlaced_ac (f : FuncId) (hcal : callable Tryz.prog f = true) (d : List V × V → Bool) (l : List (List V × V)) (hl : l.length ≤ 1000000) (hd : ∀ p ∈ l, AC Tryz.prog f [placedAv p] [] (.c (.bool (d p))) []) :
  AC Tryz.prog 275 [.c (.sl (l.map placedCs)), .clo f []] [] (.c (.int .i64 (firstIx d l))) [] := by
 refine wEnter Tryz.func275 Tryz.ntmps275 ?_
 refine wRUN trivial ?_
 refine a_loop (κ := Nat) (fun k => ⟨mkS 0 19 [(0, .c (.sl (l.map placedCs))), (1, .clo f []), (7, .c (.int .i64 l.length)), (8, .c (.int .i64 k))], []⟩)
  (fun k => k ≤ l.length ∧ ∀ j (h : j < l.length), j < k → d l[j] = false) (fun k => l.length - k) 0 ⟨Nat.zero_le _, by intro j h hj; omega⟩ ?_ ?_
 ·exact wSays (Says.of [] []) hl
 ·rintro k ⟨hk, hno⟩
  by_cases hlt : k < l.length
  ·have hdk : decide ((k : Int) < (l.length : Int)) = true := by simpa using hlt
   have hw := wrap_succ (k := k) (by omega)
   have hr : rowsAt (l.map placedCs) 6 k = true := by simp [rowsAt, hlt, placedCs]
   have hg : (l.map placedCs)[k]? = some [.sl (l[k].1.map V.cs), .int .i64 l[k].2.kind, .int .i64 l[k].2.num, .str l[k].2.text, .sl (l[k].2.keys.map strCs), .sl (l[k].2.kids.map V.cs)] := by simp [hlt, placedCs]
   have hc := hd l[k] (List.getElem_mem hlt)
   unfold placedAv at hc
   cases hb : d l[k] with
   | true =>
    rw [hb] at hc
    have hix : firstIx d l = k := by
     unfold firstIx
     rw [List.findIdx?_eq_some_iff_getElem.2 ⟨hlt, hb, fun j hj => by simp [hno j (by omega) hj]⟩]
    rw [hix]
    refine wRUN (j3 hdk hr hg) ?_
    refine w7 (op_data [] hc) hcal ?_
    refine wRUN trivial ?_
    exact wRet (ret_data []) Tryz.results275
   | false =>
    rw [hb] at hc
    refine wRUN (j3 hdk hr hg) ?_
    refine w7 (op_data [] hc) hcal ?_
    refine wRUN hw ?_
    refine ⟨k + 1, by omega, ⟨by omega, fun j h hj => ?_⟩, ?_⟩
    ·by_cases hjk : j = k
     ·subst hjk; exact hb
     ·exact hno j h (by omega)
    ·exact wSays (Says.of [] []) hw
  ·have hdk : decide ((k : Int) < (l.length : Int)) = false := by simpa using hlt
   have hix : firstIx d l = -1 := by
    unfold firstIx
    rw [List.findIdx?_eq_none_iff.2 fun x hx => by
     obtain ⟨i, hi, rfl⟩ := List.getElem_of_mem hx
     exact hno i hi (by omega)]
   rw [hix]
   refine wRUN hdk ?_
   exact wRet (ret_data []) Tryz.results275
theorem placed_len (p : List V × V) : (placedCs p).length = 6 := rfl
theorem take_filter {α : Type} {d : α → Bool} {l : List α} {j : Nat} (h : j < l.length) : (l.take (j + 1)).filter d = (l.take j).filter d ++ (if d l[j] then [l[j]] else []) := by
 rw [List.take_succ_eq_append_getElem h, List.filter_append]
 simp [List.filter_cons]
theorem six_of {α : Type} {l : List α} (h : l.length = 6) : ∃ a b c d e f, l = [a, b, c, d, e, f] := by
 match l, h with
 | [a, b, c, d, e, f], _ => exact ⟨a, b, c, d, e, f, rfl⟩
theorem deletePlaced_ac (f : FuncId) (hcal : callable Tryz.prog f = true) (d : List V × V → Bool) (l : List (List V × V)) (hl : l.length ≤ 1000000) (hd : ∀ p ∈ l, AC Tryz.prog f [placedAv p] [] (.c (.bool (d p))) []) :
  AC Tryz.prog 174 [.own (0, 0), .clo f []] [((0, 0), .row false 6 131 (l.map placedCs))] (.own (1, 0)) [((1, 0), .row false 6 131 ((l.filter fun p => !d p).map placedCs))] := by
 have hix := indexPlaced_ac f hcal d l hl hd
 cases hfi : l.findIdx? d with
 | none =>
  have h1 : firstIx d l = -1 := by unfold firstIx; rw [hfi]
  have hall : (l.filter fun p => !d p) = l := List.filter_eq_self.2 fun x hx => by
   have := List.findIdx?_eq_none_iff.1 hfi x hx
   simp [this]
  rw [h1] at hix
  rw [hall]
  have hm1 : ((-1 : Int) == -1) = true := rfl
  refine wEnter Tryz.func174 Tryz.ntmps174 ?_
  refine wRUN trivial ?_
  refine w7 (op_data [(0, 0)] hix) trivial ?_
  refine wRUN hm1 ?_
  exact wRetOf (ret_of [((1, 0), (0, 0))] []) Tryz.results174 hall
 | some i0 =>
  obtain ⟨hi0, hdi, hno⟩ := List.findIdx?_eq_some_iff_getElem.1 hfi
  have h1 : firstIx d l = i0 := by unfold firstIx; rw [hfi]
  rw [h1] at hix
  have hm1 : ((i0 : Int) == -1) = false := by simp
  have hw0 := wrap_succ (k := i0) (by omega)
  have hk0 : (l.take (i0 + 1)).filter (fun p => !d p) = l.take i0 := by
   rw [take_filter hi0, hdi]
   simp only [Bool.not_true, Bool.false_eq_true, if_false, List.append_nil]
   refine List.filter_eq_self.2 fun x hx => ?_
   obtain ⟨j, hj, rfl⟩ := List.getElem_of_mem hx
   rw [List.length_take] at hj
   rw [List.getElem_take]
   simpa using hno j (by omega)
  have hkl : ((l.take (i0 + 1)).filter (fun p => !d p)).length = i0 := by rw [hk0, List.length_take]; omega
  refine wEnter Tryz.func174 Tryz.ntmps174 ?_
  refine wRUN trivial ?_
  refine w7 (op_data [(0, 0)] hix) trivial ?_
  refine wRUN (j2 hm1 hw0) ?_
  refine a_loop (κ := Nat × List (List C)) (fun x => ⟨mkS 0 42 [(0, .own (0, 0)), (1, .clo f []), (5, .c (.int .i64 ((l.take x.1).filter (fun p => !d p)).length)), (6, .c (.int .i64 x.1))], [((0, 0), .row false 6 131 x.2)]⟩)
   (fun x => x.1 ≤ l.length ∧ x.2.length = l.length ∧ ((l.take x.1).filter (fun p => !d p)).length < x.1 ∧ x.2.take ((l.take x.1).filter (fun p => !d p)).length = ((l.take x.1).filter (fun p => !d p)).map placedCs ∧ x.2.drop x.1 = (l.drop x.1).map placedCs ∧ ∀ y ∈ x.2, y.length = 6) (fun x => l.length - x.1) (i0 + 1, l.map placedCs) ⟨by dsimp only; omega, by simp, by dsimp only; omega, by dsimp only; rw [hkl, hk0, List.map_take], by dsimp only; rw [List.map_drop], by intro y hy; obtain ⟨q, _, rfl⟩ := List.mem_map.1 hy; rfl⟩ ?_ ?_
  ·exact wSays (Says.of [((0, 0), (0, 0))] []) hkl
  ·rintro ⟨j, L⟩ ⟨hj, hL, hlt0, htk, hdr, h6⟩
   dsimp only at hj hL hlt0 htk hdr h6 ⊢
   by_cases hlt : j < l.length
   ·have hdk : decide ((j : Int) < (l.length : Int)) = true := by simpa using hlt
    have hw := wrap_succ (k := j) (by omega)
    have hLj : L[j]? = some (placedCs l[j]) := by
     have : (L.drop j)[0]? = L[j]? := by rw [List.getElem?_drop]; rfl
     rw [← this, hdr]
     rw [List.drop_eq_getElem_cons hlt]
     rfl
    have hg : L[j]? = some [.sl (l[j].1.map V.cs), .int .i64 l[j].2.kind, .int .i64 l[j].2.num, .str l[j].2.text, .sl (l[j].2.keys.map strCs), .sl (l[j].2.kids.map V.cs)] := hLj
    have hr : rowsAt L 6 j = true := by unfold rowsAt; rw [Int.toNat_natCast, hLj]; simp [placed_len]
    have hc := hd l[j] (List.getElem_mem hlt)
    unfold placedAv at hc
    have hnext := take_filter (d := fun p => !d p) hlt
    have hdr1 : L.drop (j + 1) = (l.drop (j + 1)).map placedCs := by
     rw [← List.drop_drop, hdr, ← List.map_drop, List.drop_drop]
    cases hb : d l[j] with
    | true =>
     rw [hb] at hc hnext
     simp only [Bool.not_true, Bool.false_eq_true, if_false, List.append_nil] at hnext
     refine wRUN (j4 hL hdk hr hg) ?_
     refine w7 (op_data [] hc) hcal ?_
     refine wRUN hw ?_
     refine ⟨(j + 1, L), by dsimp only; omega, ⟨by dsimp only; omega, hL, ?_, ?_, hdr1, h6⟩, ?_⟩
     ·dsimp only; rw [hnext]; omega
     ·dsimp only; rw [hnext]; exact htk
     ·exact wSays (Says.of [((0, 0), (0, 0))] []) hnext
    | false =>
     rw [hb] at hc hnext
     simp only [Bool.not_false, if_true] at hnext
     have hwi := wrap_succ (k := ((l.take j).filter fun p => !d p).length) (by omega)
     have hnl : ((l.take (j + 1)).filter fun p => !d p).length = ((l.take j).filter fun p => !d p).length + 1 := by rw [hnext]; simp
     generalize hI : ((l.take j).filter fun p => !d p).length = I at *
     have hIL : I < L.length := by omega
     obtain ⟨old, hold⟩ : ∃ old, L[I]? = some old := ⟨L[I], List.getElem?_eq_getElem hIL⟩
     obtain ⟨o1, o2, o3, o4, o5, o6, rfl⟩ := six_of (h6 old (List.mem_of_getElem? hold))
     have hri : rowsAt L 6 I = true := by unfold rowsAt; rw [Int.toNat_natCast, hold]; rfl
     refine wRUN (j4 hL hdk hr hg) ?_
     refine w7 (op_data [] hc) hcal ?_
     refine wRUN (j4 hri hold hwi hw) ?_
     refine ⟨(j + 1, L.set I (placedCs l[j])), by dsimp only; omega, ⟨by dsimp only; omega, by dsimp only; rw [List.length_set]; exact hL, ?_, ?_, ?_, ?_⟩, ?_⟩
     ·dsimp only; omega
     ·dsimp only
      rw [hnl, hnext, List.map_append, ← htk]
      rw [List.set_eq_take_append_cons_drop, if_pos hIL, show L.take I ++ placedCs l[j] :: L.drop (I + 1) = (L.take I ++ [placedCs l[j]]) ++ L.drop (I + 1) by simp]
      exact List.take_left' (by simp; omega)
     ·dsimp only
      rw [← hdr1]
      apply List.ext_getElem?
      intro n
      rw [List.getElem?_drop, List.getElem?_drop, List.getElem?_set_ne (by omega)]
     ·intro y hy
      rcases List.mem_or_eq_of_mem_set hy with hy | rfl
      ·exact h6 y hy
      ·rfl
     ·(apply (Says.of [((0, 0), (0, 0))] []); (iterate 2 ((focus (simp only [go_sem, Nat.reduceEqDiff, Nat.reduceAdd, Nat.reduceSub, Nat.reduceLeDiff, Nat.reduceMul, Nat.reduceBEq, Nat.reduceLT, Int.reduceToNat, reduceCtorEq, hnl, placedCs]; try (and_intros <;> rfl))); (focus exact rfl))); (iterate 4 (focus (simp [go_sem, hnl, placedCs]; done))))
   ·have hdk : decide ((j : Int) < (l.length : Int)) = false := by simpa using hlt
    have hje : l.take j = l := List.take_of_length_le (by omega)
    rw [hje] at htk hlt0 ⊢
    generalize hF : (l.filter fun p => !d p) = F at *
    have hFl : F.length ≤ L.length := by omega
    have hzz : F.length ≤ (L.take F.length ++ List.replicate (L.length - F.length) [C.sl [], .int .i64 0, .int .i64 0, .str ByteArray.empty, .sl [], .sl []]).length := by simp; omega
    have hfin : (L.take F.length ++ List.replicate (L.length - F.length) [C.sl [], .int .i64 0, .int .i64 0, .str ByteArray.empty, .sl [], .sl []]).take F.length = F.map placedCs := by
     rw [List.take_append_of_le_length (by rw [List.length_take]; omega), List.take_take, Nat.min_self, htk]
    refine wRUN (j2 hL hdk) ?_
    ((with_reducible apply op_part); (iterate 9 (focus (first | (simp only [go_sem, Nat.reduceEqDiff, Nat.reduceAdd, Nat.reduceSub, Nat.reduceLeDiff, Nat.reduceMul, Nat.reduceBEq, Nat.reduceLT, Int.reduceToNat, reduceCtorEq, hFl]; first | done | exact rfl | (and_intros <;> rfl)) | exact rfl | decide))))
    ((with_reducible apply op_clear); (iterate 12 (focus (first | (simp only [go_sem, Nat.reduceEqDiff, Nat.reduceAdd, Nat.reduceSub, Nat.reduceLeDiff, Nat.reduceMul, Nat.reduceBEq, Nat.reduceLT, Int.reduceToNat, reduceCtorEq, hFl]; first | done | exact rfl | (and_intros <;> rfl)) | exact rfl | decide))))
    refine wRUN trivial ?_
    ((with_reducible apply op_prefix); (iterate 10 (focus (first | (simp only [go_sem, Nat.reduceEqDiff, Nat.reduceAdd, Nat.reduceSub, Nat.reduceLeDiff, Nat.reduceMul, Nat.reduceBEq, Nat.reduceLT, Int.reduceToNat, reduceCtorEq, hzz]; first | done | exact rfl | (and_intros <;> rfl)) | exact rfl | decide))))
    refine wRUN trivial ?_
    exact wRetOf (ret_of [((1, 0), (41, 0))] []) Tryz.results174 hfin
def notLeaf (p : List V × V) : Bool := !p.2.kids.isEmpty
theorem isLeaf_ac (t : V) : AC Tryz.prog 177 [t.av] [] (.c (.bool t.kids.isEmpty)) [] := by
 have h0 : (((t.kids.length : Int)) == 0) = t.kids.isEmpty := by cases t.kids <;> simp; omega
 refine wEnter Tryz.func177 Tryz.ntmps177 ?_
 refine wRUN trivial ?_
 exact ret_data [] (by simp only [Tryz.results177, go_sem, Nat.reduceBEq, Nat.reduceLT]; exact rfl) (by simp only [go_sem, Nat.reduceEqDiff, Nat.reduceAdd, Nat.reduceSub, Nat.reduceLeDiff, Nat.reduceMul, Nat.reduceBEq, Nat.reduceLT, Int.reduceToNat, reduceCtorEq, h0]) rfl
theorem leavesDel_ac (p : List V × V) : AC Tryz.prog 176 [placedAv p] [] (.c (.bool (notLeaf p))) [] := by
 have h1 := isLeaf_ac p.2
 unfold placedAv
 refine wEnter Tryz.func176 Tryz.ntmps176 ?_
 refine wRUN trivial ?_
 refine w7 (op_data [] h1) trivial ?_
 refine wRUN trivial ?_
 exact ret_data [] (by simp only [Tryz.results176, go_sem, Nat.reduceBEq, Nat.reduceLT]; exact rfl) (by simp only [go_sem, Nat.reduceEqDiff, Nat.reduceAdd, Nat.reduceSub, Nat.reduceLeDiff, Nat.reduceMul, Nat.reduceBEq, Nat.reduceLT, Int.reduceToNat, reduceCtorEq, notLeaf]) rfl
theorem leaves_ac (t : V) (hc : t.count ≤ 500000) (hn : t.neat) : AC Tryz.prog 89 [t.av] [] (.own (0, 0)) [((0, 0), .row false 6 131 (((t.paths []).filter fun p => !notLeaf p).map placedCs))] := by
 have hq := paths_nil t hc hn
 have hpl := paths_len t []
 have hd := deletePlaced_ac 176 (by simp only [go_sem]) notLeaf (t.paths []) (by omega) (fun p _ => leavesDel_ac p)
 refine wEnter Tryz.func89 Tryz.ntmps89 ?_
 refine wRUN trivial ?_
 refine w12 (op_rowF [] hq) trivial ?_
 refine w10 (op_cons (4, 0) hd) trivial ?_
 refine wRUN trivial ?_
 exact wRetOf (ret_of [((0, 0), (5, 0))] []) Tryz.results89 hpl
set_option maxRecDepth 10000
theorem all_osl (l : List (List CellD)) : ((l.map oslCs).all fun r => r.length == 1) = true := by simp [oslCs]
attribute [go_sem] all_osl
set_option maxRecDepth 10000
def cmpC (x y : List CellD) : Int := match (dec x).2, (dec y).2 with
 | some t, some u => t.cmp u
 | _, _ => 0
def sameC (x y : List CellD) : Bool := (dec x).1 == 0 && ((dec y).1 == 0 && cmpC x y == 0)
theorem implCompare_ac (x y : List CellD) (hz : Sized x) (hzy : Sized y) : AC Tryz.prog 88 [cellsA x, cellsA y] [] (.c (.int .i64 (cmpC x y))) [] := by
 rcases dec_way x with ⟨h1, h2⟩ | ⟨t, h1, h3, h4, h5, h6⟩
 ·have hv := valOf_bad x hz h1
  have hb : ((dec x).1 != 0) = true := by simpa using h2
  have hc : cmpC x y = 0 := by unfold cmpC; rw [h1]
  rw [hc]
  rcases dec_way y with ⟨g1, g2⟩ | ⟨u, g1, g3, g4, g5, g6⟩
  ·have hu := valOf_bad y hzy g1
   refine wEnter Tryz.func88 Tryz.ntmps88 ?_
   refine wRUN trivial ?_
   refine w9 (op_shared [] hv) noV_eq ?_
   refine wRUN noV_eq ?_
   refine w9 (op_shared [] hu) noV_eq ?_
   refine wRUN (j2 noV_eq hb) ?_
   exact wRet (ret_data []) Tryz.results88
  ·have hu := valOf_ac y hzy (t := u) (by rw [g1])
   refine wEnter Tryz.func88 Tryz.ntmps88 ?_
   refine wRUN trivial ?_
   refine w9 (op_shared [] hv) noV_eq ?_
   refine wRUN noV_eq ?_
   refine w9 (op_shared [] hu) trivial ?_
   refine wRUN (j2 noV_eq hb) ?_
   exact wRet (ret_data []) Tryz.results88
 ·have hv := valOf_ac x hz (t := t) (by rw [h1])
  have h00 : ((0 : Int) != 0) = false := rfl
  rcases dec_way y with ⟨g1, g2⟩ | ⟨u, g1, g3, g4, g5, g6⟩
  ·have hu := valOf_bad y hzy g1
   have hb : ((dec y).1 != 0) = true := by simpa using g2
   have hc : cmpC x y = 0 := by unfold cmpC; rw [h1, g1]
   rw [hc]
   refine wEnter Tryz.func88 Tryz.ntmps88 ?_
   refine wRUN trivial ?_
   refine w9 (op_shared [] hv) trivial ?_
   refine wRUN noV_eq ?_
   refine w9 (op_shared [] hu) noV_eq ?_
   refine wRUN (j3 noV_eq hb h00) ?_
   exact wRet (ret_data []) Tryz.results88
  ·have hu := valOf_ac y hzy (t := u) (by rw [g1])
   have hc : cmpC x y = t.cmp u := by unfold cmpC; rw [h1, g1]
   have hcm := compareVals_ac t.count t u (Nat.le_refl _) ⟨h4, h5, h6⟩
   rw [hc]
   refine wEnter Tryz.func88 Tryz.ntmps88 ?_
   refine wRUN trivial ?_
   refine w9 (op_shared [] hv) trivial ?_
   refine wRUN trivial ?_
   refine w9 (op_shared [] hu) trivial ?_
   refine wRUN h00 ?_
   refine w7 (op_data [] hcm) trivial ?_
   refine wRUN trivial ?_
   exact wRet (ret_data []) Tryz.results88
theorem implSame_ac (x y : List CellD) (hz : Sized x) (hzy : Sized y) : AC Tryz.prog 27 [cellsA x, cellsA y] [] (.c (.bool (sameC x y))) [] := by
 have f1 := implFault_ac x hz
 have f2 := implFault_ac y hzy
 have f3 := implCompare_ac x y hz hzy
 unfold sameC
 generalize cmpC x y = q at *
 cases h1 : (dec x).1 == 0 with
 | false =>
  refine wEnter Tryz.func27 Tryz.ntmps27 ?_
  refine wRUN trivial ?_
  refine w7 (op_data [] f1) trivial ?_
  refine wRUN h1 ?_
  exact wRet (ret_data []) Tryz.results27
 | true =>
  cases h2 : (dec y).1 == 0 with
  | false =>
   refine wEnter Tryz.func27 Tryz.ntmps27 ?_
   refine wRUN trivial ?_
   refine w7 (op_data [] f1) trivial ?_
   refine wRUN h1 ?_
   refine w7 (op_data [] f2) trivial ?_
   refine wRUN h2 ?_
   exact wRet (ret_data []) Tryz.results27
  | true =>
   refine wEnter Tryz.func27 Tryz.ntmps27 ?_
   refine wRUN trivial ?_
   refine w7 (op_data [] f1) trivial ?_
   refine wRUN h1 ?_
   refine w7 (op_data [] f2) trivial ?_
   refine wRUN h2 ?_
   refine w7 (op_data [] f3) trivial ?_
   (repeat (first | (with_reducible first | refine a_seq ?_ | refine a_region ?_ | refine a_block ?_ | refine a_scope ?_) | ((with_reducible apply op_any); (iterate 2 (focus (first | (simp only [go_sem, Nat.reduceEqDiff, Nat.reduceAdd, Nat.reduceSub, Nat.reduceLeDiff, Nat.reduceMul, Nat.reduceBEq, Nat.reduceLT, Int.reduceToNat, reduceCtorEq, Bool.true_and]; first | done | exact rfl | (and_intros <;> rfl)) | exact rfl | decide)))) | ((with_reducible refine o_nil ?_); dsimp only; try ((with_reducible apply o_draw); (focus (simp only [go_sem]; exact rfl)); (focus decide))) | ((with_reducible first | refine a_ret ?_ | refine a_skip ?_ | refine a_label ?_); dsimp only) | ((with_reducible refine a_exit ?_); dsimp only; simp only [if_true, if_false, Nat.reduceEqDiff]) | ((with_reducible apply a_if); (focus (simp only [go_sem, Nat.reduceBEq, Nat.reduceLT, Bool.true_and]; exact rfl)); dsimp only [cond_true, cond_false]) | ((with_reducible refine a_draw ?_ ?_); (focus exact rfl))))
   exact wRet (ret_data []) Tryz.results27
theorem sameC_self {t : V} (h : t.right) : sameC t.enc t.enc = true := by
 unfold sameC cmpC
 rw [right_dec h]
 show ((0 : Int) == 0 && ((0 : Int) == 0 && t.cmp t == 0)) = true
 rw [cmp_null.2 rfl]
 rfl
theorem sameC_eq {t u : V} (ht : t.right) (hu : u.right) : sameC t.enc u.enc = (t.cmp u == 0) := by
 unfold sameC cmpC
 rw [right_dec ht, right_dec hu]
 rfl
set_option maxRecDepth 10000
theorem lwBig_ac (bs : List Nat) : AC Tryz.prog 20 [.c (.sl (bs.map byteCs))] [] (.c (.bool (decide ((bs.length : Int) > 1048576)))) [] := by
 have hln : (bs.map byteCs).length = bs.length := by simp
 refine wEnter Tryz.func20 Tryz.ntmps20 ?_
 refine wRUN hln ?_
 exact wRet (ret_data []) Tryz.results20
set_option maxRecDepth 10000
theorem sameS {t : V} (ht : t.right) : AC Tryz.prog 27 [cellsA t.enc, cellsA t.enc] [] (.c (.bool true)) [] := by
 have := implSame_ac t.enc t.enc (right_sized ht) (right_sized ht)
 rw [sameC_self ht] at this
 exact this
def sKey (q : V) : Prop := q.right ∧ q.count = 1 ∧ q.depth = 1 ∧ (q.kind = 3 ∨ q.kind = 4)
theorem sKey_ok {q : V} (h : okKey q) : sKey q := by
 obtain ⟨h1, h2, h3⟩ := okKey_right h
 refine ⟨h1, h2, h3, ?_⟩
 rcases h with ⟨s, rfl, _⟩ | ⟨n, rfl, _⟩
 ·exact .inr rfl
 ·exact .inl rfl
theorem sKey_num {n : Int} (h : -1000000000000000 ≤ n ∧ n ≤ 1000000000000000) : sKey (numV n) := ⟨numV_right h, rfl, rfl, .inl rfl⟩
theorem strV_right {s : ByteArray} (h : okText s = true) : (strV s).right := by
 refine leaf_right ?_ (by decide)
 unfold cellCode
 have h2 : inB 0 (-1000000000000000) 1000000000000000 = true := by decide
 simp [cF, cR, cT, okText_empty, holds, h2, inB, h]
theorem sKey_str {s : ByteArray} (h : okText s = true) : sKey (strV s) := ⟨strV_right h, rfl, rfl, .inr rfl⟩
mutual
theorem paths_sk : ∀ (t : V) (ahead : List V), t.right → (∀ q ∈ ahead, sKey q) → ∀ p ∈ t.paths ahead, (∀ q ∈ p.1, sKey q) ∧ p.1.length + p.2.depth ≤ ahead.length + t.depth
 | .mk kind num text keys kids, ahead, ht, ha => by
  intro p hp
  simp only [V.paths, List.mem_cons] at hp
  rcases hp with rfl | hp
  ·exact ⟨ha, Nat.le_refl _⟩
  ·have hr : ∀ k ∈ kids, k.right := fun k hk => right_mem ht hk
   have := pathsL_sk (V.mk kind num text keys kids).keyV 0 kids ahead hr (fun j hj => sKey_ok (keyV_ok ht (by simpa [V.kids] using hj))) ha p hp
   exact ⟨this.1, by simp only [V.depth]; omega⟩
theorem pathsL_sk : ∀ (key : Nat → V) (i : Nat) (ks ahead : List V), (∀ k ∈ ks, k.right) → (∀ j, j < i + ks.length → sKey (key j)) → (∀ q ∈ ahead, sKey q) → ∀ p ∈ pathsL key i ks ahead, (∀ q ∈ p.1, sKey q) ∧ p.1.length + p.2.depth ≤ ahead.length + 1 + depthL ks
 | _, _, [], _, _, _, _ => by simp [pathsL]
 | key, i, k :: ks, ahead, hr, hk, ha => by
  intro p hp
  simp only [pathsL, List.mem_append] at hp
  rcases hp with hp | hp
  ·have := paths_sk k (ahead ++ [key i]) (hr k (by simp)) (fun q hq => by
    rcases List.mem_append.1 hq with hq | hq
    ·exact ha q hq
    ·rw [List.mem_singleton.1 hq]; exact hk i (by simp)) p hp
   refine ⟨this.1, ?_⟩
   have h2 := this.2
   rw [List.length_append, List.length_singleton] at h2
   simp only [depthL]
   omega
  ·have := pathsL_sk key (i + 1) ks ahead (fun x hx => hr x (by simp [hx])) (fun j hj => hk j (by simp only [List.length_cons]; omega)) ha p hp
   exact ⟨this.1, by simp only [depthL]; omega⟩
end
theorem depth_pos (t : V) : 1 ≤ t.depth := by cases t; simp [V.depth]
def PathOk (P : List V) : Prop := P.length ≤ 15 ∧ ∀ q ∈ P, sKey q
theorem countL_sk : ∀ {l : List V}, (∀ q ∈ l, sKey q) → countL l = l.length ∧ depthL l ≤ 1 ∧ wfL l
 | [], _ => ⟨rfl, Nat.zero_le _, trivial⟩
 | q :: l, h => by
  obtain ⟨h1, h2, h3⟩ := countL_sk (l := l) fun x hx => h x (by simp [hx])
  obtain ⟨h4, h5, h6, _⟩ := h q (by simp)
  exact ⟨by simp only [countL, List.length_cons]; omega, by simp only [depthL]; omega, h4.1, h3⟩
theorem path_right {P : List V} (h : ∀ q ∈ P, sKey q) (hl : P.length ≤ 100) : (arrV P).right := by
 obtain ⟨h1, h2, h3⟩ := countL_sk h
 exact ⟨arr_wf h3 (by omega), by simp only [arrV, V.count]; omega, by simp only [arrV, V.depth]; omega⟩
theorem sk_snoc {P : List V} (h : ∀ q ∈ P, sKey q) {x : V} (hx : sKey x) : ∀ q ∈ P ++ [x], sKey q := fun q hq => by
 rcases List.mem_append.1 hq with hq | hq
 ·exact h q hq
 ·rw [List.mem_singleton.1 hq]; exact hx
theorem sk_take {P : List V} (h : ∀ q ∈ P, sKey q) (n : Nat) : ∀ q ∈ P.take n, sKey q := fun q hq => h q (List.mem_of_mem_take hq)
end Go.Proofs.YtamgeodhpglgkaaGreat
