/- Texts of this proof: G84 G85 H22 H30. -/
import Derived.Test.YtlciedpfjhkkdaaGreatDoorKG83
import Derived.Test.YtlciedpfjhkkdaaGreatDoorKG43uD22
import Derived.Test.YtlciedpfjhkkdaaGreatDoorKG04uM23
import Derived.Test.YtlciedpfjhkkdaaGreatDoorKG22uG9
import Derived.Test.YtlciedpfjhkkdaaGreatDoorKG06uS02
import Derived.Test.YtlciedpfjhkkdaaGreatDoorKM2
import Derived.Test.YtlciedpfjhkkdaaGreatDoorKE5
import Derived.Test.YtlciedpfjhkkdaaGreatDoorKE6
import Derived.Test.YtlciedpfjhkkdaaGreatDoorKG8
import Derived.Lib.AppendZerosOnto
import Derived.Shelf.RegionOpenPlain
import Derived.Deep.RegionLaw
import Derived.Laws.CopyRow
import Derived.Test.YtlciedpfjhkkdaaGreatDoorKR09uM43
import Derived.Test.YtlciedpfjhkkdaaGreatDoorKD24
import Derived.Test.YtlciedpfjhkkdaaGreatDoorKR16uG82
import Derived.Test.YtlciedpfjhkkdaaGreatDoorKM50
set_option linter.unusedSimpArgs false
set_option linter.unusedVariables false
set_option linter.unnecessarySimpa false
set_option maxHeartbeats 8000000
namespace Go.Proofs.YtlciedpfjhkkdaaGreatDoor
open Go.RowKit
set_option maxRecDepth 10000
def cmpC (x y : List CellD) : Int := match (dec x).2, (dec y).2 with
 | some t, some u => t.cmp u
 | _, _ => 0
def sameC (x y : List CellD) : Bool := (dec x).1 == 0 && ((dec y).1 == 0 && cmpC x y == 0)
theorem implCompare_ac (x y : List CellD) (hz : Sized x) (hzy : Sized y) : AC Tryz.prog 57 [cellsA x, cellsA y] [] (.c (.int .i64 (cmpC x y))) [] := by
 rcases dec_way x with ⟨h1, h2⟩ | ⟨t, h1, h3, h4, h5, h6⟩
 ·have hv := valOf_bad x hz h1
  have hb : ((dec x).1 != 0) = true := by simpa using h2
  have hc : cmpC x y = 0 := by unfold cmpC; rw [h1]
  rw [hc]
  rcases dec_way y with ⟨g1, g2⟩ | ⟨u, g1, g3, g4, g5, g6⟩
  ·have hu := valOf_bad y hzy g1
   refine wEnter Tryz.func57 Tryz.ntmps57 ?_
   refine wRUN trivial ?_
   refine w9 (op_shared [] hv) noV_eq ?_
   refine wRUN noV_eq ?_
   refine w9 (op_shared [] hu) noV_eq ?_
   refine wRUN (j2 noV_eq hb) ?_
   exact wRet (ret_data []) Tryz.results57
  ·have hu := valOf_ac y hzy (t := u) (by rw [g1])
   refine wEnter Tryz.func57 Tryz.ntmps57 ?_
   refine wRUN trivial ?_
   refine w9 (op_shared [] hv) noV_eq ?_
   refine wRUN noV_eq ?_
   refine w9 (op_shared [] hu) trivial ?_
   refine wRUN (j2 noV_eq hb) ?_
   exact wRet (ret_data []) Tryz.results57
 ·have hv := valOf_ac x hz (t := t) (by rw [h1])
  have h00 : ((0 : Int) != 0) = false := rfl
  rcases dec_way y with ⟨g1, g2⟩ | ⟨u, g1, g3, g4, g5, g6⟩
  ·have hu := valOf_bad y hzy g1
   have hb : ((dec y).1 != 0) = true := by simpa using g2
   have hc : cmpC x y = 0 := by unfold cmpC; rw [h1, g1]
   rw [hc]
   refine wEnter Tryz.func57 Tryz.ntmps57 ?_
   refine wRUN trivial ?_
   refine w9 (op_shared [] hv) trivial ?_
   refine wRUN noV_eq ?_
   refine w9 (op_shared [] hu) noV_eq ?_
   refine wRUN (j3 noV_eq hb h00) ?_
   exact wRet (ret_data []) Tryz.results57
  ·have hu := valOf_ac y hzy (t := u) (by rw [g1])
   have hc : cmpC x y = t.cmp u := by unfold cmpC; rw [h1, g1]
   have hcm := compareVals_ac t.count t u (Nat.le_refl _) ⟨h4, h5, h6⟩
   rw [hc]
   refine wEnter Tryz.func57 Tryz.ntmps57 ?_
   refine wRUN trivial ?_
   refine w9 (op_shared [] hv) trivial ?_
   refine wRUN trivial ?_
   refine w9 (op_shared [] hu) trivial ?_
   refine wRUN h00 ?_
   refine w7 (op_data [] hcm) trivial ?_
   refine wRUN trivial ?_
   exact wRet (ret_data []) Tryz.results57
theorem implSame_ac (x y : List CellD) (hz : Sized x) (hzy : Sized y) : AC Tryz.prog 21 [cellsA x, cellsA y] [] (.c (.bool (sameC x y))) [] := by
 have f1 := implFault_ac x hz
 have f2 := implFault_ac y hzy
 have f3 := implCompare_ac x y hz hzy
 unfold sameC
 generalize cmpC x y = q at *
 cases h1 : (dec x).1 == 0 with
 | false =>
  refine wEnter Tryz.func21 Tryz.ntmps21 ?_
  refine wRUN trivial ?_
  refine w7 (op_data [] f1) trivial ?_
  refine wRUN h1 ?_
  exact wRet (ret_data []) Tryz.results21
 | true =>
  cases h2 : (dec y).1 == 0 with
  | false =>
   refine wEnter Tryz.func21 Tryz.ntmps21 ?_
   refine wRUN trivial ?_
   refine w7 (op_data [] f1) trivial ?_
   refine wRUN h1 ?_
   refine w7 (op_data [] f2) trivial ?_
   refine wRUN h2 ?_
   exact wRet (ret_data []) Tryz.results21
  | true =>
   refine wEnter Tryz.func21 Tryz.ntmps21 ?_
   refine wRUN trivial ?_
   refine w7 (op_data [] f1) trivial ?_
   refine wRUN h1 ?_
   refine w7 (op_data [] f2) trivial ?_
   refine wRUN h2 ?_
   refine w7 (op_data [] f3) trivial ?_
   (repeat (first | (with_reducible first | refine a_seq ?_ | refine a_region ?_ | refine a_block ?_ | refine a_scope ?_) | ((with_reducible apply op_any); (iterate 2 (focus (first | (simp only [go_sem, Nat.reduceEqDiff, Nat.reduceAdd, Nat.reduceSub, Nat.reduceLeDiff, Nat.reduceMul, Nat.reduceBEq, Nat.reduceLT, Int.reduceToNat, reduceCtorEq, Bool.true_and]; first | done | exact rfl | (and_intros <;> rfl)) | exact rfl | decide)))) | ((with_reducible refine o_nil ?_); dsimp only; try ((with_reducible apply o_draw); (focus (simp only [go_sem]; exact rfl)); (focus decide))) | ((with_reducible first | refine a_ret ?_ | refine a_skip ?_ | refine a_label ?_); dsimp only) | ((with_reducible refine a_exit ?_); dsimp only; simp only [if_true, if_false, Nat.reduceEqDiff]) | ((with_reducible apply a_if); (focus (simp only [go_sem, Nat.reduceBEq, Nat.reduceLT, Bool.true_and]; exact rfl)); dsimp only [cond_true, cond_false]) | ((with_reducible refine a_draw ?_ ?_); (focus exact rfl))))
   exact wRet (ret_data []) Tryz.results21
theorem sameC_self {t : V} (h : t.right) : sameC t.enc t.enc = true := by
 unfold sameC cmpC
 rw [right_dec h]
 show ((0 : Int) == 0 && ((0 : Int) == 0 && t.cmp t == 0)) = true
 rw [cmp_null.2 rfl]
 rfl
set_option maxRecDepth 10000
theorem lwBig_ac (bs : List Nat) : AC Tryz.prog 14 [.c (.sl (bs.map byteCs))] [] (.c (.bool (decide ((bs.length : Int) > 1048576)))) [] := by
 have hln : (bs.map byteCs).length = bs.length := by simp
 refine wEnter Tryz.func14 Tryz.ntmps14 ?_
 refine wRUN hln ?_
 exact wRet (ret_data []) Tryz.results14
set_option maxRecDepth 10000
theorem sameS {t : V} (ht : t.right) : AC Tryz.prog 21 [cellsA t.enc, cellsA t.enc] [] (.c (.bool true)) [] := by
 have := implSame_ac t.enc t.enc (right_sized ht) (right_sized ht)
 rw [sameC_self ht] at this
 exact this
end Go.Proofs.YtlciedpfjhkkdaaGreatDoor
namespace Go.Proofs.YtlciedpfjhkkdaaGreatDoor
open Go.RowKit
set_option maxRecDepth 10000
variable {o o1 o2 : Obj}
abbrev teM (o o1 o2 : Obj) : Mem := [((8, 0), .blk (tabR o) []), ((8, 1), .gen (errsR o1 o2))]
theorem drawEnc_ac (bs : List Nat) (hb : BytesOk bs) : ∃ xs, Sized xs ∧ xs.length ≤ 250 ∧ AC Tryz.prog 27 [.c (.sl (bs.map byteCs))] [] (cellsA xs) [] := by
 have s0 := l1Source_ac bs
 obtain ⟨xs, a1, ⟨g1, g2, g3, g4⟩, c1⟩ := l1Bent_ac bs hb 0 (by omega)
 refine ⟨xs, g2, g1, ?_⟩
 refine wEnter Tryz.func27 Tryz.ntmps27 ?_
 refine wRUN trivial ?_
 refine w12 (op_rowF [] s0) trivial ?_
 refine wRUN trivial ?_
 refine wCall (op_any_call [((0, 0), (4, 0))] [((0, 0), (4, 0)), ((0, 1), (5, 0))] c1) trivial ?_
 refine wRUN trivial ?_
 exact wRetOf (ret_of [] [(5, 0)]) Tryz.results27 g1
theorem encodeVal_ok {t : V} (ht : t.right) : AC Tryz.prog 28 [cellsA t.enc] (tabM o) (.agg [.c (.int .i64 0), .c (.str t.txt)]) (tabM o) := by
 have hv := valOf_ac t.enc (right_sized ht) (t := t) (by rw [right_dec ht])
 have he := encodeR_ac (o := o) ht
 have h00 : ((0 : Int) != 0) = false := rfl
 refine wEnter Tryz.func28 Tryz.ntmps28 ?_
 refine wRUN trivial ?_
 refine w9 (op_shared [] hv) trivial ?_
 refine wRUN h00 ?_
 refine wCall (op_any_call [((8, 0), (8, 0))] [((8, 0), (8, 0))] he) trivial ?_
 refine wRUN trivial ?_
 exact wRetOf (ret_of [((8, 0), (8, 0))] []) Tryz.results28 h00
theorem encodeVal_bad (xs : List CellD) (hz : Sized xs) (hd : (dec xs).2 = none) (hc : (dec xs).1 ≠ 0) : AC Tryz.prog 28 [cellsA xs] [] (.agg [.c (.int .i64 (dec xs).1), .c (.str ByteArray.empty)]) [] := by
 have hv := valOf_bad xs hz hd
 have h0 : ((dec xs).1 != 0) = true := by simpa using hc
 generalize (dec xs).1 = c at *
 unfold noV at hv
 refine wEnter Tryz.func28 Tryz.ntmps28 ?_
 refine wRUN trivial ?_
 refine w7 (op_data [] hv) trivial ?_
 refine wRUN h0 ?_
 exact wRet (ret_data []) Tryz.results28
theorem implDecodeS_ok (s : ByteArray) {c : Int × Nat} {v : V} (h : decodeR s = (c, some v)) : AC Tryz.prog 10 [.c (.str s)] (errM o1 o2) (.agg [.c (.int .i64 0), .c (.int .i64 0), cellsA v.enc]) (errM o1 o2) := by
 have h := implDecode_ok (o1 := o1) (o2 := o2) s h
 (apply (AC.says [((8, 1), (8, 1))] [(0, 0)] h); (focus (simp only [go_sem, Nat.reduceEqDiff, Nat.reduceAdd, Nat.reduceSub, Nat.reduceLeDiff, Nat.reduceMul, Nat.reduceBEq, Nat.reduceLT, Int.reduceToNat, reduceCtorEq]; try (and_intros <;> rfl))); (focus exact rfl); (focus (simp only [go_sem, Nat.reduceEqDiff, Nat.reduceAdd, Nat.reduceSub, Nat.reduceLeDiff, Nat.reduceMul, Nat.reduceBEq, Nat.reduceLT, Int.reduceToNat, reduceCtorEq]; try (and_intros <;> rfl))); (focus exact rfl); (iterate 4 (focus (simp [go_sem]; done))))
theorem decode_big {s : ByteArray} (h : 4000 < s.size) : decodeR s = ((2, 0), none) := by unfold decodeR; rw [if_pos h]
theorem around_size (t : ByteArray) : (bS 32 ++ t ++ bS 10).size = t.size + 2 := by
 rw [ByteArray.size_append, ByteArray.size_append]
 show 1 + t.size + 1 = _
 omega
theorem lawTexts_ac (bs : List Nat) (hbb : ∀ b ∈ bs, b < 256) : AC Tryz.prog 6 [.c (.sl (bs.map byteCs))] (teM o o1 o2) (.c (.bool true)) (teM o o1 o2) := by
 have hbig := lwBig_ac bs
 by_cases hl : bs.length ≤ 1048576
 ·have hd : decide ((bs.length : Int) > 1048576) = false := decide_eq_false (by omega)
  rw [hd] at hbig
  have hb : BytesOk bs := ⟨hl, hbb⟩
  obtain ⟨xs, zx, _, hdraw⟩ := drawEnc_ac bs hb
  rcases dec_cases xs with ⟨t, hdec⟩ | ⟨c, hc, hdec⟩
  ·obtain ⟨rfl, ht⟩ := right_of_dec hdec
   have hE := encodeVal_ok (o := o) ht
   have hsz := txt_size' ht
   have hsame := sameS ht
   have h00 : ((0 : Int) != 0) = false := rfl
   have h0e : ((0 : Int) == 0) = true := rfl
   have h22 : ((2 : Int) == 2) = true := rfl
   have h2e : ((2 : Int) == 0) = false := rfl
   obtain ⟨u1, hu1⟩ : ∃ u : ByteArray, u = bS 32 ++ t.txt := ⟨_, rfl⟩
   obtain ⟨w, hw⟩ : ∃ u : ByteArray, u = u1 ++ bS 10 := ⟨_, rfl⟩
   have hab1 : (⟨#[32]⟩ ++ t.txt : ByteArray) = u1 := hu1.symm
   have hab : (u1 ++ ⟨#[10]⟩ : ByteArray) = w := hw.symm
   have hs1 : 1 + t.txt.size ≤ 9223372036854775807 := by omega
   have hasz : w.size = t.txt.size + 2 := by rw [hw, hu1]; exact around_size _
   have hs2 : u1.size + 1 ≤ 9223372036854775807 := by
    have h1 : w.size = u1.size + 1 := by rw [hw, ByteArray.size_append]; rfl
    omega
   have hbtw : _ → decodeR w = ((0, 0), some t) := fun h => by rw [hw, hu1]; exact decode_between ht h
   have hw2 : IntKind.i64.wrap ((t.txt.size : Int) + 2) = ((t.txt.size + 2 : Nat) : Int) := wrap_plus (b := 2) (by omega)
   have hown := fun h => decode_own ht h
   by_cases h4 : 4000 < t.txt.size
   ·have g4 : decide ((t.txt.size : Int) > 4000) = true := decide_eq_true (by omega)
    have hD := implDecode_bad (o1 := o1) (o2 := o2) t.txt (by omega) (decode_big h4)
    change AC _ _ _ _ (.agg [.c (.int .i64 2), .c (.int .i64 0), .nils]) _ at hD
    refine wEnter Tryz.func6 Tryz.ntmps6 ?_
    refine wRUN trivial ?_
    refine w7 (op_data [] hbig) trivial ?_
    refine wRUN trivial ?_
    refine w9 (op_shared [] hdraw) trivial ?_
    refine wRUN trivial ?_
    refine wCall (op_any_call [((8, 0), (8, 0))] [((8, 0), (8, 0))] hE) trivial ?_
    refine wRUN h00 ?_
    refine wCall (op_any_call [((8, 1), (8, 1))] [((8, 1), (8, 1))] hD) trivial ?_
    refine wRUN (j2 g4 h22) ?_
    exact wRetOf (ret_of [((8, 0), (8, 0)), ((8, 1), (8, 1))] []) Tryz.results6 h00
   ·have g4 : decide ((t.txt.size : Int) > 4000) = false := decide_eq_false (by omega)
    have hD := implDecodeS_ok (o1 := o1) (o2 := o2) t.txt (hown (by omega))
    by_cases h42 : 4000 < t.txt.size + 2
    ·have g42 : decide (((t.txt.size + 2 : Nat) : Int) > 4000) = true := decide_eq_true (by omega)
     have hD2 := implDecode_bad (o1 := o1) (o2 := o2) w (by omega) (decode_big (by omega))
     change AC _ _ _ _ (.agg [.c (.int .i64 2), .c (.int .i64 0), .nils]) _ at hD2
     refine wEnter Tryz.func6 Tryz.ntmps6 ?_
     refine wRUN trivial ?_
     refine w7 (op_data [] hbig) trivial ?_
     refine wRUN trivial ?_
     refine w9 (op_shared [] hdraw) trivial ?_
     refine wRUN trivial ?_
     refine wCall (op_any_call [((8, 0), (8, 0))] [((8, 0), (8, 0))] hE) trivial ?_
     refine wRUN h00 ?_
     refine wCallB (op_callB [] [((8, 1), (8, 1))] [((8, 1), (8, 1))] hD) trivial ?_
     refine wRUN (j5 g4 hs1 hab1 hs2 hab) ?_
     refine wCall (op_any_call [((8, 1), (8, 1))] [((8, 1), (8, 1))] hD2) trivial ?_
     refine wRUN (j3 h0e hw2 g42) ?_
     refine w7 (op_data [] hsame) trivial ?_
     refine wRUN (j2 hw2 g42) ?_
     exact wRetOf (ret_of [((8, 0), (8, 0)), ((8, 1), (8, 1))] []) Tryz.results6 h00
    ·have g42 : decide (((t.txt.size + 2 : Nat) : Int) > 4000) = false := decide_eq_false (by omega)
     have hD2 := implDecodeS_ok (o1 := o1) (o2 := o2) w (hbtw (by omega))
     refine wEnter Tryz.func6 Tryz.ntmps6 ?_
     refine wRUN trivial ?_
     refine w7 (op_data [] hbig) trivial ?_
     refine wRUN trivial ?_
     refine w9 (op_shared [] hdraw) trivial ?_
     refine wRUN trivial ?_
     refine wCall (op_any_call [((8, 0), (8, 0))] [((8, 0), (8, 0))] hE) trivial ?_
     refine wRUN h00 ?_
     refine wCallB (op_callB [] [((8, 1), (8, 1))] [((8, 1), (8, 1))] hD) trivial ?_
     refine wRUN (j5 g4 hs1 hab1 hs2 hab) ?_
     refine wCallB (op_callB [] [((8, 1), (8, 1))] [((8, 1), (8, 1))] hD2) trivial ?_
     refine wRUN (j3 h0e hw2 g42) ?_
     refine w7 (op_data [] hsame) trivial ?_
     refine wRUN (j3 h0e hw2 g42) ?_
     refine w7 (op_data [] hsame) trivial ?_
     refine wRUN trivial ?_
     exact wRetOf (ret_of [((8, 0), (8, 0)), ((8, 1), (8, 1))] []) Tryz.results6 h00
  ·have hE := encodeVal_bad xs zx (by rw [hdec]) (by rw [hdec]; exact hc)
   have hS := fault_ac xs
   rw [hdec] at hE hS
   have h0 : (c != 0) = true := by simpa using hc
   have h1 : (c == c) = true := by simp
   refine wEnter Tryz.func6 Tryz.ntmps6 ?_
   refine wRUN trivial ?_
   refine w7 (op_data [] hbig) trivial ?_
   refine wRUN trivial ?_
   refine w9 (op_shared [] hdraw) trivial ?_
   refine wRUN trivial ?_
   refine w7 (op_data [] hE) trivial ?_
   refine wRUN h0 ?_
   refine w7 (op_data [] hS) trivial ?_
   refine wRUN (j2 h0 h1) ?_
   exact wRetOf (ret_of [((8, 0), (8, 0)), ((8, 1), (8, 1))] []) Tryz.results6 h1
 ·have hd : decide ((bs.length : Int) > 1048576) = true := decide_eq_true (by omega)
  rw [hd] at hbig
  refine wEnter Tryz.func6 Tryz.ntmps6 ?_
  refine wRUN trivial ?_
  refine w7 (op_data [] hbig) trivial ?_
  refine wRUN trivial ?_
  exact wRetOf (ret_of [((8, 0), (8, 0)), ((8, 1), (8, 1))] []) Tryz.results6 hd
end Go.Proofs.YtlciedpfjhkkdaaGreatDoor
