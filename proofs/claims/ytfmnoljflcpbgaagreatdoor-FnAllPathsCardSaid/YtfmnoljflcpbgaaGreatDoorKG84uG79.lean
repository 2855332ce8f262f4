/- Texts of this proof: G84 G85 H22 H05 G88 M31 M13 M14 G35 G79. -/
import Derived.Test.YtfmnoljflcpbgaaGreatDoorKG83
import Derived.Test.YtfmnoljflcpbgaaGreatDoorKE6
import Derived.Test.YtfmnoljflcpbgaaGreatDoorKG08uS02
import Derived.Shelf.SortM.Plain
import Derived.Shelf.SortM.SortNone
import Derived.Test.YtfmnoljflcpbgaaGreatDoorKG04uG20
import Derived.Test.YtfmnoljflcpbgaaGreatDoorKM2
import Derived.Sort.OwnSorted
import Derived.Test.YtfmnoljflcpbgaaGreatDoorKG01uG03
import Derived.Lib.AppendZerosOnto
import Derived.Shelf.RegionOpenPlain
import Derived.Test.YtfmnoljflcpbgaaGreatDoorKG43
import Derived.Test.YtfmnoljflcpbgaaGreatDoorKG22
import Derived.Test.YtfmnoljflcpbgaaGreatDoorKG23uG24
import Derived.Test.YtfmnoljflcpbgaaGreatDoorKE5
import Derived.Test.YtfmnoljflcpbgaaGreatDoorKM3uM28
import Derived.Test.YtfmnoljflcpbgaaGreatDoorKM29uG87
import Derived.Deep.RegionLaw
import Derived.Laws.CopyRow
import Derived.Test.YtfmnoljflcpbgaaGreatDoorKG27uG15
import Derived.Test.YtfmnoljflcpbgaaGreatDoorKA1
import Derived.Test.YtfmnoljflcpbgaaGreatDoorKG06uG07
import Derived.Lib.SlicesCompact
set_option linter.unusedSimpArgs false
set_option linter.unusedVariables false
set_option linter.unnecessarySimpa false
namespace Go.Proofs.YtfmnoljflcpbgaaGreatDoor
open Go.RowKit
set_option maxRecDepth 10000
/-- What CompareValues tells. -/
def cmpC (x y : List CellD) : Int := match (dec x).2, (dec y).2 with
  | some t, some u => t.cmp u
  | _, _ => 0
def sameC (x y : List CellD) : Bool := (dec x).1 == 0 && ((dec y).1 == 0 && cmpC x y == 0)
theorem implCompare_ac (x y : List CellD) (hz : Sized x) (hzy : Sized y) : AC Tryz.prog 92 [cellsA x, cellsA y] [] (.c (.int .i64 (cmpC x y))) [] := by
  rcases dec_way x with ⟨h1, h2⟩ | ⟨t, h1, h3, h4, h5, h6⟩
  · have hv := valOf_bad x hz h1
    have hb : ((dec x).1 != 0) = true := by simpa using h2
    have hc : cmpC x y = 0 := by unfold cmpC; rw [h1]
    rw [hc]
    rcases dec_way y with ⟨g1, g2⟩ | ⟨u, g1, g3, g4, g5, g6⟩
    · have hu := valOf_bad y hzy g1
      refine wEnter Tryz.func92 Tryz.ntmps92 ?_
      refine wRUN trivial ?_
      refine w9 (op_shared [] hv) noV_eq ?_
      refine wRUN noV_eq ?_
      refine w9 (op_shared [] hu) noV_eq ?_
      refine wRUN (j2 noV_eq hb) ?_
      exact wRet (ret_data []) Tryz.results92
    · have hu := valOf_ac y hzy (t := u) (by rw [g1])
      refine wEnter Tryz.func92 Tryz.ntmps92 ?_
      refine wRUN trivial ?_
      refine w9 (op_shared [] hv) noV_eq ?_
      refine wRUN noV_eq ?_
      refine w9 (op_shared [] hu) trivial ?_
      refine wRUN (j2 noV_eq hb) ?_
      exact wRet (ret_data []) Tryz.results92
  · have hv := valOf_ac x hz (t := t) (by rw [h1])
    have h00 : ((0 : Int) != 0) = false := rfl
    rcases dec_way y with ⟨g1, g2⟩ | ⟨u, g1, g3, g4, g5, g6⟩
    · have hu := valOf_bad y hzy g1
      have hb : ((dec y).1 != 0) = true := by simpa using g2
      have hc : cmpC x y = 0 := by unfold cmpC; rw [h1, g1]
      rw [hc]
      refine wEnter Tryz.func92 Tryz.ntmps92 ?_
      refine wRUN trivial ?_
      refine w9 (op_shared [] hv) trivial ?_
      refine wRUN noV_eq ?_
      refine w9 (op_shared [] hu) noV_eq ?_
      refine wRUN (j3 noV_eq hb h00) ?_
      exact wRet (ret_data []) Tryz.results92
    · have hu := valOf_ac y hzy (t := u) (by rw [g1])
      have hc : cmpC x y = t.cmp u := by unfold cmpC; rw [h1, g1]
      have hcm := compareVals_ac t.count t u (Nat.le_refl _) ⟨h4, h5, h6⟩
      rw [hc]
      refine wEnter Tryz.func92 Tryz.ntmps92 ?_
      refine wRUN trivial ?_
      refine w9 (op_shared [] hv) trivial ?_
      refine wRUN trivial ?_
      refine w9 (op_shared [] hu) trivial ?_
      refine wRUN h00 ?_
      refine w7 (op_data [] hcm) trivial ?_
      refine wRUN trivial ?_
      exact wRet (ret_data []) Tryz.results92
theorem implSame_ac (x y : List CellD) (hz : Sized x) (hzy : Sized y) : AC Tryz.prog 39 [cellsA x, cellsA y] [] (.c (.bool (sameC x y))) [] := by
  have f1 := implFault_ac x hz
  have f2 := implFault_ac y hzy
  have f3 := implCompare_ac x y hz hzy
  unfold sameC
  generalize cmpC x y = q at *
  cases h1 : (dec x).1 == 0 with
  | false =>
    refine wEnter Tryz.func39 Tryz.ntmps39 ?_
    refine wRUN trivial ?_
    refine w7 (op_data [] f1) trivial ?_
    refine wRUN h1 ?_
    exact wRet (ret_data []) Tryz.results39
  | true =>
    cases h2 : (dec y).1 == 0 with
    | false =>
      refine wEnter Tryz.func39 Tryz.ntmps39 ?_
      refine wRUN trivial ?_
      refine w7 (op_data [] f1) trivial ?_
      refine wRUN h1 ?_
      refine w7 (op_data [] f2) trivial ?_
      refine wRUN h2 ?_
      exact wRet (ret_data []) Tryz.results39
    | true =>
      refine wEnter Tryz.func39 Tryz.ntmps39 ?_
      refine wRUN trivial ?_
      refine w7 (op_data [] f1) trivial ?_
      refine wRUN h1 ?_
      refine w7 (op_data [] f2) trivial ?_
      refine wRUN h2 ?_
      refine w7 (op_data [] f3) trivial ?_
      (repeat (first | (with_reducible first | refine a_seq ?_ | refine a_region ?_ | refine a_block ?_ | refine a_scope ?_) | ((with_reducible apply op_any); (iterate 2 (focus (first | (simp only [go_sem, Nat.reduceEqDiff, Nat.reduceAdd, Nat.reduceSub, Nat.reduceLeDiff, Nat.reduceMul, Nat.reduceBEq, Nat.reduceLT, Int.reduceToNat, reduceCtorEq, Bool.true_and]; first | done | exact rfl | (and_intros <;> rfl)) | exact rfl | decide)))) | ((with_reducible refine o_nil ?_); dsimp only; try ((with_reducible apply o_draw); (focus (simp only [go_sem]; exact rfl)); (focus decide))) | ((with_reducible first | refine a_ret ?_ | refine a_skip ?_ | refine a_label ?_); dsimp only) | ((with_reducible refine a_exit ?_); dsimp only; simp only [if_true, if_false, Nat.reduceEqDiff]) | ((with_reducible apply a_if); (focus (simp only [go_sem, Nat.reduceBEq, Nat.reduceLT, Bool.true_and]; exact rfl)); dsimp only [cond_true, cond_false]) | ((with_reducible refine a_draw ?_ ?_); (focus exact rfl))))
      exact wRet (ret_data []) Tryz.results39
theorem sameC_self {t : V} (h : t.right) : sameC t.enc t.enc = true := by
  unfold sameC cmpC
  rw [right_dec h]
  show ((0 : Int) == 0 && ((0 : Int) == 0 && t.cmp t == 0)) = true
  rw [cmp_null.2 rfl]
  rfl
end Go.Proofs.YtfmnoljflcpbgaaGreatDoor

/- spec.DrawBinary, laws.lwAt, laws.lwBig, impl.Truthy, by the engine. -/
namespace Go.Proofs.YtfmnoljflcpbgaaGreatDoor
open Go.RowKit
set_option maxRecDepth 10000
theorem lwBig_ac (bs : List Nat) : AC Tryz.prog 33 [.c (.sl (bs.map byteCs))] [] (.c (.bool (decide ((bs.length : Int) > 1048576)))) [] := by
  have hln : (bs.map byteCs).length = bs.length := by simp
  refine wEnter Tryz.func33 Tryz.ntmps33 ?_
  refine wRUN hln ?_
  exact wRet (ret_data []) Tryz.results33
end Go.Proofs.YtfmnoljflcpbgaaGreatDoor

/- laws.FnSums: the walk of the law, by the engine. -/
namespace Go.Proofs.YtfmnoljflcpbgaaGreatDoor
open Go.RowKit
set_option maxRecDepth 10000
theorem faultS {t : V} (ht : t.right) : AC Tryz.prog 91 [cellsA t.enc] [] (.c (.int .i64 0)) [] := by
  have := implFault_ac t.enc (right_sized ht)
  rw [right_dec ht] at this
  exact this
theorem sameS {t : V} (ht : t.right) : AC Tryz.prog 39 [cellsA t.enc, cellsA t.enc] [] (.c (.bool true)) [] := by
  have := implSame_ac t.enc t.enc (right_sized ht) (right_sized ht)
  rw [sameC_self ht] at this
  exact this
end Go.Proofs.YtfmnoljflcpbgaaGreatDoor

/- impl.GetPath, by the engine. -/
namespace Go.Proofs.YtfmnoljflcpbgaaGreatDoor
open Go.RowKit
set_option maxRecDepth 10000
theorem implGetPath_ok (xs ps : List CellD) (hz : Sized xs) (hzp : Sized ps) {u : V} (h : askPath xs ps getPathV = (0, some u)) (hu : u.right) :
    AC Tryz.prog 38 [cellsA xs, cellsA ps] [] (.agg [.c (.int .i64 0), .own (0, 0)]) [((0, 0), .row false 5 69 (u.enc.map CellD.cs))] := by
  rcases ask_way xs ps getPathV with ⟨_, _, h3⟩ | ⟨t, hd, hx, ht, ⟨c, _, _, h3⟩ | ⟨s, hs, hps, _, _, hp, h3⟩⟩
  · rw [h3] at h; simp at h
  · rw [h3] at h; simp at h
  · rw [h3] at h
    have hkl := kids_len_le hs.2.1
    have hg := getPath_ac ht s.kids (by omega) (fun k hk => right_mem hs hk)
    rw [h, resA_some] at hg
    have hw := withPath_ac 90 (by simp only [go_sem]) xs ps hz hzp hd hp hu hg
    refine wEnter Tryz.func38 Tryz.ntmps38 ?_
    refine wRUN trivial ?_
    refine w12 (op_rowT [] hw) trivial ?_
    refine wRUN trivial ?_
    exact wRetOf (ret_of [((0, 0), (7, 0))] []) Tryz.results38 hd
theorem implGetPath_bad (xs ps : List CellD) (hz : Sized xs) (hzp : Sized ps) {c : Int} (hc : c ≠ 0) (h : askPath xs ps getPathV = (c, none)) :
    AC Tryz.prog 38 [cellsA xs, cellsA ps] [] (.agg [.c (.int .i64 c), .nils]) [] := by
  have key : AC Tryz.prog 89 [cellsA xs, cellsA ps, .clo 90 []] [] (.agg [.c (.int .i64 c), .nils]) [] := by
    rcases ask_way xs ps getPathV with ⟨h1, h2, h3⟩ | ⟨t, hd, hx, ht, ⟨c', hc', hp, h3⟩ | ⟨s, hs, hps, _, _, hp, h3⟩⟩
    · rw [h3] at h
      simp only [Prod.mk.injEq, and_true] at h
      subst h
      exact withPath_none 90 xs ps hz h1 h2
    · rw [h3] at h
      simp only [Prod.mk.injEq, and_true] at h
      subst h
      exact withPath_bad 90 xs ps hz hzp hd hc hp
    · rw [h3] at h
      have hkl := kids_len_le hs.2.1
      have hg := getPath_ac ht s.kids (by omega) (fun k hk => right_mem hs hk)
      rw [h, resA_none] at hg
      exact withPath_no 90 (by simp only [go_sem]) xs ps hz hzp hd hp hc hg
  refine wEnter Tryz.func38 Tryz.ntmps38 ?_
  refine wRUN trivial ?_
  refine w7 (op_data [] key) trivial ?_
  refine wRUN trivial ?_
  exact wRet (ret_data []) Tryz.results38
end Go.Proofs.YtfmnoljflcpbgaaGreatDoor

/- spec.l13Two, DrawSetPath; impl.EachOf, PathFault, SetPath, GetPath, DropPath with shared results, by the engine. -/
namespace Go.Proofs.YtfmnoljflcpbgaaGreatDoor
open Go.RowKit
set_option maxRecDepth 10000
theorem getR_ok (xs ps : List CellD) : okRes (askPath xs ps getPathV) := by
  rcases ask_way xs ps getPathV with ⟨h1, h2, h3⟩ | ⟨t, hd, hx, ht, ⟨c, hc, hp, h3⟩ | ⟨s, hs, hps, _, hbk, hp, h3⟩⟩
  · rw [h3]; exact h2
  · rw [h3]; exact hc
  · rw [h3]; exact getPath_ok s.kids ht
theorem implGetPathS_ac (xs ps : List CellD) (hz : Sized xs) (hzp : Sized ps) : AC Tryz.prog 38 [cellsA xs, cellsA ps] [] (vrA (askPath xs ps getPathV)) [] := by
  rcases okRes_ways (getR_ok xs ps) with ⟨v, h, hv⟩ | ⟨c, hc, h⟩
  · have hb := implGetPath_ok xs ps hz hzp h hv
    rw [h]
    unfold vrA
    (apply (AC.says [] [(0, 0)] hb); (focus (simp only [go_sem, Nat.reduceEqDiff, Nat.reduceAdd, Nat.reduceSub, Nat.reduceLeDiff, Nat.reduceMul, Nat.reduceBEq, Nat.reduceLT, Int.reduceToNat, reduceCtorEq]; try (and_intros <;> rfl))); (focus exact rfl); (focus (simp only [go_sem, Nat.reduceEqDiff, Nat.reduceAdd, Nat.reduceSub, Nat.reduceLeDiff, Nat.reduceMul, Nat.reduceBEq, Nat.reduceLT, Int.reduceToNat, reduceCtorEq]; try (and_intros <;> rfl))); (focus exact rfl); (iterate 4 (focus (simp [go_sem]; done))))
  · have hb := implGetPath_bad xs ps hz hzp hc h
    rw [h]
    unfold vrA
    (apply (AC.says [] [] hb); (focus (simp only [go_sem, Nat.reduceEqDiff, Nat.reduceAdd, Nat.reduceSub, Nat.reduceLeDiff, Nat.reduceMul, Nat.reduceBEq, Nat.reduceLT, Int.reduceToNat, reduceCtorEq]; try (and_intros <;> rfl))); (focus exact rfl); (focus (simp only [go_sem, Nat.reduceEqDiff, Nat.reduceAdd, Nat.reduceSub, Nat.reduceLeDiff, Nat.reduceMul, Nat.reduceBEq, Nat.reduceLT, Int.reduceToNat, reduceCtorEq]; try (and_intros <;> rfl))); (focus exact rfl); (iterate 4 (focus (simp [go_sem]; done))))
end Go.Proofs.YtfmnoljflcpbgaaGreatDoor

/- The plain mathematics of a value and all that is in it. -/
namespace Go.Proofs.YtfmnoljflcpbgaaGreatDoor
open Go.RowKit
mutual
/-- A value and all values in it, each ahead of those in it. -/
def V.deep : V → List V
  | .mk kind num text keys kids => .mk kind num text keys kids :: deepL kids
def deepL : List V → List V
  | [] => []
  | k :: ks => k.deep ++ deepL ks
end
mutual
theorem deep_len : ∀ (t : V), t.deep.length = t.count
  | .mk kind num text keys kids => by simp only [V.deep, V.count, List.length_cons, deepL_len kids]
theorem deepL_len : ∀ (ks : List V), (deepL ks).length = countL ks
  | [] => rfl
  | k :: ks => by simp only [deepL, countL, List.length_append, deep_len k, deepL_len ks]
end
mutual
theorem deep_right : ∀ (t : V), t.right → ∀ s ∈ t.deep, s.right ∧ s.count ≤ t.count ∧ s.depth ≤ t.depth
  | .mk kind num text keys kids, h => fun s hs => by
    simp only [V.deep, List.mem_cons] at hs
    rcases hs with rfl | hs
    · exact ⟨h, Nat.le_refl _, Nat.le_refl _⟩
    · have := deepL_right kids (fun k hk => right_mem h hk) s hs
      exact ⟨this.1, by simp only [V.count]; omega, by simp only [V.depth]; omega⟩
theorem deepL_right : ∀ (ks : List V), (∀ k ∈ ks, k.right) → ∀ s ∈ deepL ks, s.right ∧ s.count ≤ countL ks ∧ s.depth ≤ depthL ks
  | [], _ => fun s hs => by simp [deepL] at hs
  | k :: ks, h => fun s hs => by
    simp only [deepL, List.mem_append] at hs
    rcases hs with hs | hs
    · have := deep_right k (h k (by simp)) s hs
      exact ⟨this.1, by simp only [countL]; omega, by simp only [depthL]; omega⟩
    · have := deepL_right ks (fun x hx => h x (by simp [hx])) s hs
      exact ⟨this.1, by simp only [countL]; omega, by simp only [depthL]; omega⟩
end
mutual
/-- The cells from a place on begin with those of what stands there. -/
theorem deep_drop : ∀ (t : V) (key : ByteArray) (i : Nat) (h : i < t.deep.length), ∃ key' rest, (t.cells key).drop i = (t.deep[i]).cells key' ++ rest
  | .mk kind num text keys kids, key, 0, h => ⟨key, [], by simp [V.deep]⟩
  | .mk kind num text keys kids, key, i + 1, h => by
    have hl : i < (deepL kids).length := by simpa [V.deep] using h
    obtain ⟨k', rest, e⟩ := deepL_drop kind keys kids i hl
    refine ⟨k', rest, ?_⟩
    simp only [V.cells, V.deep, List.drop_succ_cons, List.getElem_cons_succ]
    exact e
theorem deepL_drop : ∀ (kind : Int) (keys : List ByteArray) (ks : List V) (i : Nat) (h : i < (deepL ks).length), ∃ key' rest, (cellsL kind keys ks).drop i = ((deepL ks)[i]).cells key' ++ rest
  | _, _, [], i, h => absurd h (by simp [deepL])
  | kind, keys, k :: ks, i, h => by
    simp only [cellsL, deepL]
    have hkl : (k.cells (if kind = 6 then keys.headD ByteArray.empty else ByteArray.empty)).length = k.count := cells_len _ _
    have hdl := deep_len k
    by_cases hi : i < k.deep.length
    · obtain ⟨k', rest, e⟩ := deep_drop k (if kind = 6 then keys.headD ByteArray.empty else ByteArray.empty) i hi
      refine ⟨k', rest ++ cellsL kind keys.tail ks, ?_⟩
      rw [List.getElem_append_left hi, List.drop_append_of_le_length (by omega), e, List.append_assoc]
    · have hl2 : i - k.deep.length < (deepL ks).length := by
        have : i < k.deep.length + (deepL ks).length := by simpa [deepL] using h
        omega
      obtain ⟨k', rest, e⟩ := deepL_drop kind keys.tail ks (i - k.deep.length) hl2
      refine ⟨k', rest, ?_⟩
      rw [List.getElem_append_right (by omega), List.drop_append, List.drop_eq_nil_of_le (by omega), List.nil_append, hkl, ← hdl]
      exact e
end
end Go.Proofs.YtfmnoljflcpbgaaGreatDoor

/- The plain mathematics of instructions: their faults, their heights. -/
namespace Go.Proofs.YtfmnoljflcpbgaaGreatDoor
open Go.RowKit
/-- An instruction as data. -/
structure InD where
  op : Int
  arg : Int
  val : List CellD
def between (n lo hi : Int) : Bool := decide (n ≥ lo) && decide (n ≤ hi)
end Go.Proofs.YtfmnoljflcpbgaaGreatDoor

/- The plain mathematics of heights: what the loops keep. -/
namespace Go.Proofs.YtfmnoljflcpbgaaGreatDoor
open Go.RowKit
/-- The list is so long, and its numbers lie between -1 and b. -/
def HInv (n : Nat) (b : Int) (out : List Int) : Prop := out.length = n ∧ ∀ v ∈ out, -1 ≤ v ∧ v ≤ b
theorem HInv.get {n : Nat} {b : Int} {out : List Int} (h : HInv n b out) (hb : 0 ≤ b) (m : Nat) : -1 ≤ out.getD m 0 ∧ out.getD m 0 ≤ b := by
  rw [List.getD_eq_getElem?_getD]
  by_cases hm : m < out.length
  · rw [List.getElem?_eq_getElem hm, Option.getD_some]
    exact h.2 _ (List.getElem_mem hm)
  · rw [List.getElem?_eq_none (by omega), Option.getD_none]
    omega
theorem HInv.set {n : Nat} {b : Int} {out : List Int} (h : HInv n b out) {m : Nat} {x : Int} (hx : -1 ≤ x ∧ x ≤ b) : HInv n b (out.set m x) := by
  refine ⟨by rw [List.length_set]; exact h.1, fun v hv => ?_⟩
  rcases List.mem_or_eq_of_mem_set hv with hv | rfl
  · exact h.2 v hv
  · exact hx
theorem HInv.up {n : Nat} {b c : Int} {out : List Int} (h : HInv n b out) (hc : b ≤ c) : HInv n c out := ⟨h.1, fun v hv => by have := h.2 v hv; omega⟩
theorem getD_set_ne {out : List Int} {m k : Nat} {x : Int} (h : m ≠ k) : (out.set m x).getD k 0 = out.getD k 0 := by
  rw [List.getD_eq_getElem?_getD, List.getD_eq_getElem?_getD, List.getElem?_set_ne h]
end Go.Proofs.YtfmnoljflcpbgaaGreatDoor

/- impl's functions of one instruction: hasPlace, hasReg, hasVal, hasArg, argOk, inFault, effect, behind, by the engine. -/
namespace Go.Proofs.YtfmnoljflcpbgaaGreatDoor
open Go.RowKit
set_option maxRecDepth 10000
def InD.cs (d : InD) : List C := [.int .i64 d.op, .int .i64 d.arg, .sl (d.val.map CellD.cs)]
def InD.av (d : InD) : AV := .agg [.c (.int .i64 d.op), .c (.int .i64 d.arg), .c (.sl (d.val.map CellD.cs))]
attribute [go_sem] InD.av
end Go.Proofs.YtfmnoljflcpbgaaGreatDoor

/- slices.Index, Contains at []int64; slices.Clone at []Cell; impl.isLeftOut; hasPlace of a struct not all of which is known, by the engine. -/
namespace Go.Proofs.YtfmnoljflcpbgaaGreatDoor
open Go.RowKit
set_option maxRecDepth 10000
set_option maxHeartbeats 1000000 in
theorem cloneCells_ac (l : List CellD) (hl : l.length ≤ 1000000) : AC Tryz.prog 94 [.c (.sl (l.map CellD.cs))] [] (.own (0, 0)) [((0, 0), .row false 5 69 (l.map CellD.cs))] := by
  have ha := all_cells l
  have hl0 : 0 + l.length ≤ 1000000 := by omega
  refine wEnter Tryz.func94 Tryz.ntmps94 ?_
  refine wRUN1 trivial ?_
  refine a_region ?_
  refine wRUN1 trivial ?_
  refine a_regionN ?_
  (repeat ((with_reducible apply n_eff); (iterate 2 (focus (first | (simp only [go_sem, Nat.reduceEqDiff, Nat.reduceAdd, Nat.reduceSub, Nat.reduceLeDiff, Nat.reduceMul, Nat.reduceBEq, Nat.reduceLT, Int.reduceToNat, reduceCtorEq]; first | done | exact rfl | (and_intros <;> rfl)) | exact rfl | decide)))))
  (apply n_isnil; (focus (first | (simp only [go_sem, Nat.reduceEqDiff, Nat.reduceAdd, Nat.reduceSub, Nat.reduceLeDiff, Nat.reduceMul, Nat.reduceBEq, Nat.reduceLT, Int.reduceToNat, reduceCtorEq]; first | done | exact rfl | (and_intros <;> rfl)) | exact rfl | decide)); (focus (first | (simp only [go_sem, Nat.reduceEqDiff, Nat.reduceAdd, Nat.reduceSub, Nat.reduceLeDiff, Nat.reduceMul, Nat.reduceBEq, Nat.reduceLT, Int.reduceToNat, reduceCtorEq]; first | done | exact rfl | (and_intros <;> rfl)) | exact rfl | decide)); (focus (first | (simp only [go_sem, Nat.reduceEqDiff, Nat.reduceAdd, Nat.reduceSub, Nat.reduceLeDiff, Nat.reduceMul, Nat.reduceBEq, Nat.reduceLT, Int.reduceToNat, reduceCtorEq]; first | done | exact rfl | (and_intros <;> rfl)) | exact rfl | decide)); (focus (first | (simp only [go_sem, Nat.reduceEqDiff, Nat.reduceAdd, Nat.reduceSub, Nat.reduceLeDiff, Nat.reduceMul, Nat.reduceBEq, Nat.reduceLT, Int.reduceToNat, reduceCtorEq]; first | done | exact rfl | (and_intros <;> rfl)) | exact rfl | decide)); (focus (first | (simp only [go_sem, Nat.reduceEqDiff, Nat.reduceAdd, Nat.reduceSub, Nat.reduceLeDiff, Nat.reduceMul, Nat.reduceBEq, Nat.reduceLT, Int.reduceToNat, reduceCtorEq]; first | done | exact rfl | (and_intros <;> rfl)) | exact rfl | decide)))
  · intro hnil
    have hnil2 : l = [] := List.map_eq_nil_iff.1 hnil
    subst hnil2
    refine n_nil ?_
    dsimp only
    refine wRUN trivial ?_
    exact wRetOf (ret_of [] []) Tryz.results94 @List.map_nil.{0,0}
  · refine n_nil ?_
    dsimp only
    refine wRUN (j3 hl ha hl0) ?_
    exact wRetOf (ret_of [((0, 0), (7, 0))] []) Tryz.results94 hl
end Go.Proofs.YtfmnoljflcpbgaaGreatDoor
