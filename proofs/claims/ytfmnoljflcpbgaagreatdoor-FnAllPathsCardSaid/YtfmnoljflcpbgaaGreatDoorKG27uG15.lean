/- Texts of this proof: G27 G64 G65 G66 G15. -/
import Derived.Test.YtfmnoljflcpbgaaGreatDoorKM29uG87
import Derived.Test.YtfmnoljflcpbgaaGreatDoorKG08uS02
import Derived.Test.YtfmnoljflcpbgaaGreatDoorKH99uG82
import Derived.Test.YtfmnoljflcpbgaaGreatDoorKE5
import Derived.Test.YtfmnoljflcpbgaaGreatDoorKA1
import Derived.Test.YtfmnoljflcpbgaaGreatDoorKE6
import Derived.Test.YtfmnoljflcpbgaaGreatDoorKG04uG20
set_option linter.unusedSimpArgs false
set_option linter.unusedVariables false
set_option linter.unnecessarySimpa false
namespace Go.Proofs.YtfmnoljflcpbgaaGreatDoor
open Go.RowKit
set_option maxRecDepth 10000
theorem specPath_ac (ps : List CellD) : AC Tryz.prog 42 [cellsA ps] [] (.c (.int .i64 (pathDec ps).1)) [] := by
  refine AC.of_calls fun S w κ vs hv => ?_
  obtain ⟨v, vs', rfl, h1, rfl⟩ := hv
  obtain ⟨A, cap, rfl, hcap, hc⟩ := cr_cells.1 h1
  refine (specPathFault_any ps A cap hcap S w hc).mono ?_
  rintro e w' ⟨rfl, hb⟩
  exact ⟨hb, _, rfl, fun T _ _ => ⟨rfl, rfl⟩⟩
theorem l13Asked_one (xs ps : List CellD) (h0 : (dec xs).1 ≠ 0) : AC Tryz.prog 119 [cellsA xs, cellsA ps] [] (.c (.int .i64 (dec xs).1)) [] := by
  have hb : ((dec xs).1 != 0) = true := by simpa using h0
  have hv := fault_ac xs
  refine wEnter Tryz.func119 Tryz.ntmps119 ?_
  refine wRUN trivial ?_
  refine w7 (op_data [] hv) trivial ?_
  refine wRUN hb ?_
  exact wRet (ret_data []) Tryz.results119
theorem l13Asked_two (xs ps : List CellD) (h0 : (dec xs).1 = 0) : AC Tryz.prog 119 [cellsA xs, cellsA ps] [] (.c (.int .i64 (pathDec ps).1)) [] := by
  have hb : ((0 : Int) != 0) = false := rfl
  have hv := fault_ac xs
  rw [h0] at hv
  have hp := specPath_ac ps
  refine wEnter Tryz.func119 Tryz.ntmps119 ?_
  refine wRUN trivial ?_
  refine w7 (op_data [] hv) trivial ?_
  refine wRUN hb ?_
  refine w7 (op_data [] hp) trivial ?_
  refine wRUN trivial ?_
  exact wRet (ret_data []) Tryz.results119
end Go.Proofs.YtfmnoljflcpbgaaGreatDoor

/- The laws' own functions on an argument []Edit: szEdit, szEditS, toEdit, toEditS, eqEdit, eqEditS, markEditS. -/
namespace Go.Proofs.YtfmnoljflcpbgaaGreatDoor
open Go.RowKit
set_option maxRecDepth 10000
def EditD.cs (d : EditD) : List C := [.int .i64 d.op, .sl (d.path.map CellD.cs), .sl (d.x.map CellD.cs)]
def EditD.os (d : EditD) : List C := [.int .i64 d.op, .osl (d.path.map CellD.cs), .osl (d.x.map CellD.cs)]
def EditD.av (d : EditD) : AV := .agg [.c (.int .i64 d.op), .c (.sl (d.path.map CellD.cs)), .c (.sl (d.x.map CellD.cs))]
theorem forget_edits (l : List EditD) : forgetLL (l.map EditD.os) = l.map EditD.cs := by
  induction l with
  | nil => rfl
  | cons d l ih => simp only [List.map_cons, forgetLL, ih, EditD.os, EditD.cs, forgetL, C.forget, forget_cells]
theorem closed_edits (l : List EditD) : closedLL (l.map EditD.os) = true := by
  induction l with
  | nil => rfl
  | cons d l ih => simp only [List.map_cons, closedLL, ih, Bool.and_true, EditD.os, closedL, C.closed, closed_cells]
theorem all_edits (l : List EditD) : ((l.map EditD.os).all fun r => r.length == 3) = true := by simp [EditD.os]
attribute [go_sem] forget_edits closed_edits all_edits EditD.av
end Go.Proofs.YtfmnoljflcpbgaaGreatDoor

/- impl.editFault, EditsFault; spec.l14Edit, EditsFault, by the engine. -/
namespace Go.Proofs.YtfmnoljflcpbgaaGreatDoor
open Go.RowKit
set_option maxRecDepth 10000
theorem implFault_ac (xs : List CellD) (hz : Sized xs) : AC Tryz.prog 91 [cellsA xs] [] (.c (.int .i64 (dec xs).1)) [] := by
  rcases dec_cases xs with ⟨t, ht⟩ | ⟨c, _, ht⟩
  · have hv := valOf_ac xs hz (t := t) (by rw [ht])
    rw [ht]
    refine wEnter Tryz.func91 Tryz.ntmps91 ?_
    refine wRUN trivial ?_
    refine w9 (op_shared [] hv) trivial ?_
    refine wRUN trivial ?_
    exact wRet (ret_data []) Tryz.results91
  · have hv := valOf_bad xs hz (by rw [ht])
    refine wEnter Tryz.func91 Tryz.ntmps91 ?_
    refine wRUN trivial ?_
    refine w9 (op_shared [] hv) noV_eq ?_
    refine wRUN noV_eq ?_
    exact wRet (ret_data []) Tryz.results91
end Go.Proofs.YtfmnoljflcpbgaaGreatDoor

/- slices.IndexFunc, slices.DeleteFunc at values with their paths; (impl.val).leaves, by the engine. -/
namespace Go.Proofs.YtfmnoljflcpbgaaGreatDoor
open Go.RowKit
def placedAv (p : List V × V) : AV := .agg [.c (.sl (p.1.map V.cs)), .c (.int .i64 p.2.kind), .c (.int .i64 p.2.num), .c (.str p.2.text), .c (.sl (p.2.keys.map strCs)), .c (.sl (p.2.kids.map V.cs))]
set_option maxRecDepth 10000
/-- The first place at which something holds, or -1. -/
def firstIx {α : Type} (d : α → Bool) (l : List α) : Int := match l.findIdx? d with
  | some i => i
  | none => -1
set_option maxHeartbeats 2000000 in
theorem indexPlaced_ac (f : FuncId) (hcal : callable Tryz.prog f = true) (d : List V × V → Bool) (l : List (List V × V)) (hl : l.length ≤ 1000000) (hd : ∀ p ∈ l, AC Tryz.prog f [placedAv p] [] (.c (.bool (d p))) []) :
    AC Tryz.prog 181 [.c (.sl (l.map placedCs)), .clo f []] [] (.c (.int .i64 (firstIx d l))) [] := by
  refine wEnter Tryz.func181 Tryz.ntmps181 ?_
  refine wRUN trivial ?_
  refine a_loop (κ := Nat) (fun k => ⟨mkS 0 19 [(0, .c (.sl (l.map placedCs))), (1, .clo f []), (7, .c (.int .i64 l.length)), (8, .c (.int .i64 k))], []⟩)
    (fun k => k ≤ l.length ∧ ∀ j (h : j < l.length), j < k → d l[j] = false) (fun k => l.length - k) 0 ⟨Nat.zero_le _, by intro j h hj; omega⟩ ?_ ?_
  · exact wSays (Says.of [] []) hl
  · rintro k ⟨hk, hno⟩
    by_cases hlt : k < l.length
    · have hdk : decide ((k : Int) < (l.length : Int)) = true := by simpa using hlt
      have hw := wrap_succ (k := k) (by omega)
      have hr : rowsAt (l.map placedCs) 6 k = true := by simp [rowsAt, hlt, placedCs]
      have hg : (l.map placedCs)[k]? = some [.sl (l[k].1.map V.cs), .int .i64 l[k].2.kind, .int .i64 l[k].2.num, .str l[k].2.text, .sl (l[k].2.keys.map strCs), .sl (l[k].2.kids.map V.cs)] := by simp [hlt, placedCs]
      have hc := hd l[k] (List.getElem_mem hlt)
      unfold placedAv at hc
      cases hb : d l[k] with
      | true =>
        rw [hb] at hc
        have hix : firstIx d l = k := by
          unfold firstIx
          rw [List.findIdx?_eq_some_iff_getElem.2 ⟨hlt, hb, fun j hj => by simp [hno j (by omega) hj]⟩]
        rw [hix]
        refine wRUN (j3 hdk hr hg) ?_
        refine w7 (op_data [] hc) hcal ?_
        refine wRUN trivial ?_
        exact wRet (ret_data []) Tryz.results181
      | false =>
        rw [hb] at hc
        refine wRUN (j3 hdk hr hg) ?_
        refine w7 (op_data [] hc) hcal ?_
        refine wRUN hw ?_
        refine ⟨k + 1, by omega, ⟨by omega, fun j h hj => ?_⟩, ?_⟩
        · by_cases hjk : j = k
          · subst hjk; exact hb
          · exact hno j h (by omega)
        · exact wSays (Says.of [] []) hw
    · have hdk : decide ((k : Int) < (l.length : Int)) = false := by simpa using hlt
      have hix : firstIx d l = -1 := by
        unfold firstIx
        rw [List.findIdx?_eq_none_iff.2 fun x hx => by
          obtain ⟨i, hi, rfl⟩ := List.getElem_of_mem hx
          exact hno i hi (by omega)]
      rw [hix]
      refine wRUN hdk ?_
      exact wRet (ret_data []) Tryz.results181
theorem placed_len (p : List V × V) : (placedCs p).length = 6 := rfl
theorem take_filter {α : Type} {d : α → Bool} {l : List α} {j : Nat} (h : j < l.length) : (l.take (j + 1)).filter d = (l.take j).filter d ++ (if d l[j] then [l[j]] else []) := by
  rw [List.take_succ_eq_append_getElem h, List.filter_append]
  simp [List.filter_cons]
theorem six_of {α : Type} {l : List α} (h : l.length = 6) : ∃ a b c d e f, l = [a, b, c, d, e, f] := by
  match l, h with
  | [a, b, c, d, e, f], _ => exact ⟨a, b, c, d, e, f, rfl⟩
set_option maxHeartbeats 8000000 in
theorem deletePlaced_ac (f : FuncId) (hcal : callable Tryz.prog f = true) (d : List V × V → Bool) (l : List (List V × V)) (hl : l.length ≤ 1000000) (hd : ∀ p ∈ l, AC Tryz.prog f [placedAv p] [] (.c (.bool (d p))) []) :
    AC Tryz.prog 143 [.own (0, 0), .clo f []] [((0, 0), .row false 6 154 (l.map placedCs))] (.own (1, 0)) [((1, 0), .row false 6 154 ((l.filter fun p => !d p).map placedCs))] := by
  have hix := indexPlaced_ac f hcal d l hl hd
  cases hfi : l.findIdx? d with
  | none =>
    have h1 : firstIx d l = -1 := by unfold firstIx; rw [hfi]
    have hall : (l.filter fun p => !d p) = l := List.filter_eq_self.2 fun x hx => by
      have := List.findIdx?_eq_none_iff.1 hfi x hx
      simp [this]
    rw [h1] at hix
    rw [hall]
    have hm1 : ((-1 : Int) == -1) = true := rfl
    refine wEnter Tryz.func143 Tryz.ntmps143 ?_
    refine wRUN trivial ?_
    refine w7 (op_data [(0, 0)] hix) trivial ?_
    refine wRUN hm1 ?_
    exact wRetOf (ret_of [((1, 0), (0, 0))] []) Tryz.results143 hall
  | some i0 =>
    obtain ⟨hi0, hdi, hno⟩ := List.findIdx?_eq_some_iff_getElem.1 hfi
    have h1 : firstIx d l = i0 := by unfold firstIx; rw [hfi]
    rw [h1] at hix
    have hm1 : ((i0 : Int) == -1) = false := by simp
    have hw0 := wrap_succ (k := i0) (by omega)
    have hk0 : (l.take (i0 + 1)).filter (fun p => !d p) = l.take i0 := by
      rw [take_filter hi0, hdi]
      simp only [Bool.not_true, Bool.false_eq_true, if_false, List.append_nil]
      refine List.filter_eq_self.2 fun x hx => ?_
      obtain ⟨j, hj, rfl⟩ := List.getElem_of_mem hx
      rw [List.length_take] at hj
      rw [List.getElem_take]
      simpa using hno j (by omega)
    have hkl : ((l.take (i0 + 1)).filter (fun p => !d p)).length = i0 := by rw [hk0, List.length_take]; omega
    refine wEnter Tryz.func143 Tryz.ntmps143 ?_
    refine wRUN trivial ?_
    refine w7 (op_data [(0, 0)] hix) trivial ?_
    refine wRUN (j2 hm1 hw0) ?_
    refine a_loop (κ := Nat × List (List C)) (fun x => ⟨mkS 0 42 [(0, .own (0, 0)), (1, .clo f []), (5, .c (.int .i64 ((l.take x.1).filter (fun p => !d p)).length)), (6, .c (.int .i64 x.1))], [((0, 0), .row false 6 154 x.2)]⟩)
      (fun x => x.1 ≤ l.length ∧ x.2.length = l.length ∧ ((l.take x.1).filter (fun p => !d p)).length < x.1 ∧ x.2.take ((l.take x.1).filter (fun p => !d p)).length = ((l.take x.1).filter (fun p => !d p)).map placedCs ∧ x.2.drop x.1 = (l.drop x.1).map placedCs ∧ ∀ y ∈ x.2, y.length = 6) (fun x => l.length - x.1) (i0 + 1, l.map placedCs) ⟨by dsimp only; omega, by simp, by dsimp only; omega, by dsimp only; rw [hkl, hk0, List.map_take], by dsimp only; rw [List.map_drop], by intro y hy; obtain ⟨q, _, rfl⟩ := List.mem_map.1 hy; rfl⟩ ?_ ?_
    · exact wSays (Says.of [((0, 0), (0, 0))] []) hkl
    · rintro ⟨j, L⟩ ⟨hj, hL, hlt0, htk, hdr, h6⟩
      dsimp only at hj hL hlt0 htk hdr h6 ⊢
      by_cases hlt : j < l.length
      · have hdk : decide ((j : Int) < (l.length : Int)) = true := by simpa using hlt
        have hw := wrap_succ (k := j) (by omega)
        have hLj : L[j]? = some (placedCs l[j]) := by
          have : (L.drop j)[0]? = L[j]? := by rw [List.getElem?_drop]; rfl
          rw [← this, hdr]
          rw [List.drop_eq_getElem_cons hlt]
          rfl
        have hg : L[j]? = some [.sl (l[j].1.map V.cs), .int .i64 l[j].2.kind, .int .i64 l[j].2.num, .str l[j].2.text, .sl (l[j].2.keys.map strCs), .sl (l[j].2.kids.map V.cs)] := hLj
        have hr : rowsAt L 6 j = true := by unfold rowsAt; rw [Int.toNat_natCast, hLj]; simp [placed_len]
        have hc := hd l[j] (List.getElem_mem hlt)
        unfold placedAv at hc
        have hnext := take_filter (d := fun p => !d p) hlt
        have hdr1 : L.drop (j + 1) = (l.drop (j + 1)).map placedCs := by
          rw [← List.drop_drop, hdr, ← List.map_drop, List.drop_drop]
        cases hb : d l[j] with
        | true =>
          rw [hb] at hc hnext
          simp only [Bool.not_true, Bool.false_eq_true, if_false, List.append_nil] at hnext
          refine wRUN (j4 hL hdk hr hg) ?_
          refine w7 (op_data [] hc) hcal ?_
          refine wRUN hw ?_
          refine ⟨(j + 1, L), by dsimp only; omega, ⟨by dsimp only; omega, hL, ?_, ?_, hdr1, h6⟩, ?_⟩
          · dsimp only; rw [hnext]; omega
          · dsimp only; rw [hnext]; exact htk
          · exact wSays (Says.of [((0, 0), (0, 0))] []) hnext
        | false =>
          rw [hb] at hc hnext
          simp only [Bool.not_false, if_true] at hnext
          have hwi := wrap_succ (k := ((l.take j).filter fun p => !d p).length) (by omega)
          have hnl : ((l.take (j + 1)).filter fun p => !d p).length = ((l.take j).filter fun p => !d p).length + 1 := by rw [hnext]; simp
          generalize hI : ((l.take j).filter fun p => !d p).length = I at *
          have hIL : I < L.length := by omega
          obtain ⟨old, hold⟩ : ∃ old, L[I]? = some old := ⟨L[I], List.getElem?_eq_getElem hIL⟩
          obtain ⟨o1, o2, o3, o4, o5, o6, rfl⟩ := six_of (h6 old (List.mem_of_getElem? hold))
          have hri : rowsAt L 6 I = true := by unfold rowsAt; rw [Int.toNat_natCast, hold]; rfl
          refine wRUN (j4 hL hdk hr hg) ?_
          refine w7 (op_data [] hc) hcal ?_
          refine wRUN (j4 hri hold hwi hw) ?_
          refine ⟨(j + 1, L.set I (placedCs l[j])), by dsimp only; omega, ⟨by dsimp only; omega, by dsimp only; rw [List.length_set]; exact hL, ?_, ?_, ?_, ?_⟩, ?_⟩
          · dsimp only; omega
          · dsimp only
            rw [hnl, hnext, List.map_append, ← htk]
            rw [List.set_eq_take_append_cons_drop, if_pos hIL, show L.take I ++ placedCs l[j] :: L.drop (I + 1) = (L.take I ++ [placedCs l[j]]) ++ L.drop (I + 1) by simp]
            exact List.take_left' (by simp; omega)
          · dsimp only
            rw [← hdr1]
            apply List.ext_getElem?
            intro n
            rw [List.getElem?_drop, List.getElem?_drop, List.getElem?_set_ne (by omega)]
          · intro y hy
            rcases List.mem_or_eq_of_mem_set hy with hy | rfl
            · exact h6 y hy
            · rfl
          · (apply (Says.of [((0, 0), (0, 0))] []); (iterate 2 ((focus (simp only [go_sem, Nat.reduceEqDiff, Nat.reduceAdd, Nat.reduceSub, Nat.reduceLeDiff, Nat.reduceMul, Nat.reduceBEq, Nat.reduceLT, Int.reduceToNat, reduceCtorEq, hnl, placedCs]; try (and_intros <;> rfl))); (focus exact rfl))); (iterate 4 (focus (simp [go_sem, hnl, placedCs]; done))))
      · have hdk : decide ((j : Int) < (l.length : Int)) = false := by simpa using hlt
        have hje : l.take j = l := List.take_of_length_le (by omega)
        rw [hje] at htk hlt0 ⊢
        generalize hF : (l.filter fun p => !d p) = F at *
        have hFl : F.length ≤ L.length := by omega
        have hzz : F.length ≤ (L.take F.length ++ List.replicate (L.length - F.length) [C.sl [], .int .i64 0, .int .i64 0, .str ByteArray.empty, .sl [], .sl []]).length := by simp; omega
        have hfin : (L.take F.length ++ List.replicate (L.length - F.length) [C.sl [], .int .i64 0, .int .i64 0, .str ByteArray.empty, .sl [], .sl []]).take F.length = F.map placedCs := by
          rw [List.take_append_of_le_length (by rw [List.length_take]; omega), List.take_take, Nat.min_self, htk]
        refine wRUN (j2 hL hdk) ?_
        ((with_reducible apply op_part); (iterate 9 (focus (first | (simp only [go_sem, Nat.reduceEqDiff, Nat.reduceAdd, Nat.reduceSub, Nat.reduceLeDiff, Nat.reduceMul, Nat.reduceBEq, Nat.reduceLT, Int.reduceToNat, reduceCtorEq, hFl]; first | done | exact rfl | (and_intros <;> rfl)) | exact rfl | decide))))
        ((with_reducible apply op_clear); (iterate 12 (focus (first | (simp only [go_sem, Nat.reduceEqDiff, Nat.reduceAdd, Nat.reduceSub, Nat.reduceLeDiff, Nat.reduceMul, Nat.reduceBEq, Nat.reduceLT, Int.reduceToNat, reduceCtorEq, hFl]; first | done | exact rfl | (and_intros <;> rfl)) | exact rfl | decide))))
        refine wRUN trivial ?_
        ((with_reducible apply op_prefix); (iterate 10 (focus (first | (simp only [go_sem, Nat.reduceEqDiff, Nat.reduceAdd, Nat.reduceSub, Nat.reduceLeDiff, Nat.reduceMul, Nat.reduceBEq, Nat.reduceLT, Int.reduceToNat, reduceCtorEq, hzz]; first | done | exact rfl | (and_intros <;> rfl)) | exact rfl | decide))))
        refine wRUN trivial ?_
        exact wRetOf (ret_of [((1, 0), (41, 0))] []) Tryz.results143 hfin
/-- Has a value something in it? -/
def notLeaf (p : List V × V) : Bool := !p.2.kids.isEmpty
theorem isLeaf_ac (t : V) : AC Tryz.prog 113 [t.av] [] (.c (.bool t.kids.isEmpty)) [] := by
  have h0 : (((t.kids.length : Int)) == 0) = t.kids.isEmpty := by cases t.kids <;> simp; omega
  refine wEnter Tryz.func113 Tryz.ntmps113 ?_
  refine wRUN trivial ?_
  exact ret_data [] (by simp only [Tryz.results113, go_sem, Nat.reduceBEq, Nat.reduceLT]; exact rfl) (by simp only [go_sem, Nat.reduceEqDiff, Nat.reduceAdd, Nat.reduceSub, Nat.reduceLeDiff, Nat.reduceMul, Nat.reduceBEq, Nat.reduceLT, Int.reduceToNat, reduceCtorEq, h0]) rfl
theorem leavesDel_ac (p : List V × V) : AC Tryz.prog 144 [placedAv p] [] (.c (.bool (notLeaf p))) [] := by
  have h1 := isLeaf_ac p.2
  unfold placedAv
  refine wEnter Tryz.func144 Tryz.ntmps144 ?_
  refine wRUN trivial ?_
  refine w7 (op_data [] h1) trivial ?_
  refine wRUN trivial ?_
  exact ret_data [] (by simp only [Tryz.results144, go_sem, Nat.reduceBEq, Nat.reduceLT]; exact rfl) (by simp only [go_sem, Nat.reduceEqDiff, Nat.reduceAdd, Nat.reduceSub, Nat.reduceLeDiff, Nat.reduceMul, Nat.reduceBEq, Nat.reduceLT, Int.reduceToNat, reduceCtorEq, notLeaf]) rfl
theorem leaves_ac (t : V) (hc : t.count ≤ 500000) (hn : t.neat) : AC Tryz.prog 88 [t.av] [] (.own (0, 0)) [((0, 0), .row false 6 154 (((t.paths []).filter fun p => !notLeaf p).map placedCs))] := by
  have hq := paths_nil t hc hn
  have hpl := paths_len t []
  have hd := deletePlaced_ac 144 (by simp only [go_sem]) notLeaf (t.paths []) (by omega) (fun p _ => leavesDel_ac p)
  refine wEnter Tryz.func88 Tryz.ntmps88 ?_
  refine wRUN trivial ?_
  refine w12 (op_rowF [] hq) trivial ?_
  refine w10 (op_cons (4, 0) hd) trivial ?_
  refine wRUN trivial ?_
  exact wRetOf (ret_of [((0, 0), (5, 0))] []) Tryz.results88 hpl
end Go.Proofs.YtfmnoljflcpbgaaGreatDoor
