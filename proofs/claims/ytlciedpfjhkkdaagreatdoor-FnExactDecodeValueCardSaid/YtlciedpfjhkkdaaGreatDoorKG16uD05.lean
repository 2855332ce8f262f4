/- Texts of this proof: G16 G64 G65 G66 G34 G31 M38 M49 D03 D04 E39 M51 D05. -/
import Derived.Test.YtlciedpfjhkkdaaGreatDoorKL1uS02
import Derived.Test.YtlciedpfjhkkdaaGreatDoorKE5
import Derived.Test.YtlciedpfjhkkdaaGreatDoorKA1
import Derived.Test.YtlciedpfjhkkdaaGreatDoorKE6
import Derived.Test.YtlciedpfjhkkdaaGreatDoorKR11uR14
import Derived.Test.YtlciedpfjhkkdaaGreatDoorKD02uG08
import Derived.Test.YtlciedpfjhkkdaaGreatDoorKG04uM29
import Derived.Test.YtlciedpfjhkkdaaGreatDoorKM2
import Derived.Test.YtlciedpfjhkkdaaGreatDoorKG22uG9
import Derived.Test.YtlciedpfjhkkdaaGreatDoorKM46
import Derived.Test.YtlciedpfjhkkdaaGreatDoorKG8
import Derived.Deep.RegionLaw
import Derived.Shelf.RegionOpenPlain
import Derived.Laws.CopyRow
import Derived.Test.YtlciedpfjhkkdaaGreatDoorKG81uR10
import Derived.Test.YtlciedpfjhkkdaaGreatDoorKE35uD01
import Derived.Laws.Strings3
set_option linter.unusedSimpArgs false
set_option linter.unusedVariables false
set_option linter.unnecessarySimpa false
set_option maxHeartbeats 8000000
namespace Go.Proofs.YtlciedpfjhkkdaaGreatDoor
open Go.RowKit
set_option maxRecDepth 10000
theorem markCellS_nil (K : Nat) : AC Tryz.prog 42 [.nils, .c (.int .i64 K)] [] (.c (.int .i64 K)) [] := by
 have hd : decide ((0 : Int) < 0) = false := rfl
 refine wEnter Tryz.func42 Tryz.ntmps42 ?_
 refine wRUN trivial ?_
 refine a_loop (κ := Nat) (fun k => ⟨mkS 0 50 [(0, .nils), (1, .c (.int .i64 K)), (5, .c (.int .i64 0))], []⟩)
  (fun _ => True) (fun k => k) 0 trivial ?_ ?_
 ·exact wSays (Says.of [] []) hd
 ·intro k hk
  refine wRUN hd ?_
  exact wRet (ret_data []) Tryz.results42
set_option maxRecDepth 10000
def EditD.cs (d : EditD) : List C := [.int .i64 d.op, .sl (d.path.map CellD.cs), .sl (d.x.map CellD.cs)]
def EditD.os (d : EditD) : List C := [.int .i64 d.op, .osl (d.path.map CellD.cs), .osl (d.x.map CellD.cs)]
def EditD.av (d : EditD) : AV := .agg [.c (.int .i64 d.op), .c (.sl (d.path.map CellD.cs)), .c (.sl (d.x.map CellD.cs))]
theorem forget_edits (l : List EditD) : forgetLL (l.map EditD.os) = l.map EditD.cs := by
 induction l with
 | nil => rfl
 | cons d l ih => simp only [List.map_cons, forgetLL, ih, EditD.os, EditD.cs, forgetL, C.forget, forget_cells]
theorem closed_edits (l : List EditD) : closedLL (l.map EditD.os) = true := by
 induction l with
 | nil => rfl
 | cons d l ih => simp only [List.map_cons, closedLL, ih, Bool.and_true, EditD.os, closedL, C.closed, closed_cells]
theorem all_edits (l : List EditD) : ((l.map EditD.os).all fun r => r.length == 3) = true := by simp [EditD.os]
attribute [go_sem] forget_edits closed_edits all_edits EditD.av
set_option maxRecDepth 10000
theorem l1ArrayS_ac (ps : List V) (hc : (arrV ps).count ≤ 500000) : AC Tryz.prog 98 [.c (.sl ((ps.map V.enc).map encCs))] [] (.c (.sl ((arrV ps).enc.map CellD.cs))) [] := by
 have h := l1Array_ac ps hc
 (apply (AC.says [] [(0, 0)] h); (focus (simp only [go_sem, Nat.reduceEqDiff, Nat.reduceAdd, Nat.reduceSub, Nat.reduceLeDiff, Nat.reduceMul, Nat.reduceBEq, Nat.reduceLT, Int.reduceToNat, reduceCtorEq]; try (and_intros <;> rfl))); (focus exact rfl); (focus (simp only [go_sem, Nat.reduceEqDiff, Nat.reduceAdd, Nat.reduceSub, Nat.reduceLeDiff, Nat.reduceMul, Nat.reduceBEq, Nat.reduceLT, Int.reduceToNat, reduceCtorEq]; try (and_intros <;> rfl))); (focus exact rfl); (iterate 4 (focus (simp [go_sem]; done))))
set_option maxRecDepth 10000
theorem count_right {q : V} (h : q.right) : AC Tryz.prog 40 [q.av] [] (.own (0, 0)) [((0, 0), .row false 5 94 (q.enc.map CellD.cs))] :=
 cells_ac q.count q (Nat.le_refl _) (by have := h.2.1; omega) (right_neat h)
def small (t : V) : Int × Option V := if t.count ≤ 200 then okR t else badR 2
def Sub (s : ByteArray) (i : Nat) (l : List UInt8) : Prop := ∃ r, s.data.toList.drop i = l ++ r
theorem bAt_list (s : ByteArray) (i : Nat) : bAt s i = match s.data.toList[i]? with | some b => b.toNat | none => 256 := by
 rcases Nat.lt_or_ge i s.size with h | h
 ·obtain ⟨b, h1, h2⟩ := bAt_in h
  have h3 : s.data.toList[i]? = some b := by
   have : s[i]? = some s[i] := getElem?_pos s i h
   rw [this] at h1
   have hl : i < s.data.toList.length := by rw [Array.length_toList]; exact h
   rw [List.getElem?_eq_getElem hl, Array.getElem_toList]
   exact h1
  rw [h3, h2]
 ·have hl : s.data.toList[i]? = none := List.getElem?_eq_none (by rw [Array.length_toList]; exact h)
  rw [hl, bAt_end h]
theorem Sub.right {s : ByteArray} {i : Nat} {a b : List UInt8} (h : Sub s i (a ++ b)) : Sub s (i + a.length) b := by
 obtain ⟨r, h⟩ := h
 refine ⟨r, ?_⟩
 rw [← List.drop_drop, h, List.append_assoc, List.drop_left]
theorem Sub.tail {s : ByteArray} {i : Nat} {b : UInt8} {l : List UInt8} (h : Sub s i (b :: l)) : Sub s (i + 1) l := Sub.right (a := [b]) h
theorem Sub.size {s : ByteArray} {i : Nat} {l : List UInt8} (h : Sub s i l) (hl : l ≠ []) : i + l.length ≤ s.size := by
 obtain ⟨r, h⟩ := h
 have h1 := congrArg List.length h
 rw [List.length_drop, List.length_append, Array.length_toList] at h1
 have h2 : s.data.size = s.size := rfl
 have h3 := List.length_pos_iff.2 hl
 omega
theorem len_list (a : ByteArray) : a.data.toList.length = a.size := Array.length_toList
set_option maxRecDepth 10000
def rdA (R : Rd V) (x : ByteArray) : AV := match R with
 | .ok v e => rdOk (.c (.sl (v.enc.map CellD.cs))) x e
 | .bad c p => rdBad c p
theorem wrap_plus {a b : Nat} (h : a + b < 9000000000000000000) : IntKind.i64.wrap ((a : Int) + (b : Int)) = ((a + b : Nat) : Int) := by
 rw [i64_in (by omega) (by omega)]; omega
theorem l2Word_ac (s : ByteArray) (hs : s.size ≤ 1000000) (i : Nat) (hi : i ≤ s.size) (w : ByteArray) (hw : w.size ≤ 100) (m : Int) :
  AC Tryz.prog 73 [.c (.str s), .c (.int .i64 i), .c (.str w), .c (.int .i64 m)] [] (rdA (wordR s (kindV m) i (w.data.toList.map UInt8.toNat) 0) ByteArray.empty) [] := by
 have hlen : (w.data.toList.map UInt8.toNat).length = w.size := by simp
 obtain ⟨l, hl⟩ : ∃ l, w.data.toList.map UInt8.toNat = l := ⟨_, rfl⟩
 rw [hl] at hlen ⊢
 obtain ⟨R, hR⟩ : ∃ R, wordR s (kindV m) i l 0 = R := ⟨_, rfl⟩
 rw [hR]
 refine wEnter Tryz.func73 Tryz.ntmps73 ?_
 refine wRUN trivial ?_
 refine a_loop (κ := Nat) (fun k => ⟨mkS 0 45 [(0, .c (.str s)), (1, .c (.int .i64 i)), (2, .c (.str w)), (3, .c (.int .i64 m)), (8, .ptr (8, 0) 0), (9, .c (.int .i64 k))], [((8, 0), .box [.nils, .c (.str ByteArray.empty), .c (.int .i64 0), .c (.int .i64 0), .c (.int .i64 0)])]⟩)
  (fun k => k ≤ w.size ∧ wordR s (kindV m) i (l.drop k) k = R) (fun k => w.size - k) 0 ⟨Nat.zero_le _, hR⟩ ?_ ?_
 ·exact wSays (Says.of [((8, 0), (8, 0))] []) hi
 ·rintro k ⟨hk, hgo⟩
  by_cases hlt : k < w.size
  ·have hdk : decide ((k : Int) < (w.size : Int)) = true := by simpa using hlt
   have hwk := wrap_succ (k := k) (by omega)
   have hwp := wrap_plus (a := i) (b := k) (by omega)
   obtain ⟨b, hb, hb2⟩ := bAt_in hlt
   have hlk : l[k]? = some b.toNat := by
    have := bAt_list w k
    rw [← hl, List.getElem?_map]
    cases hq : w.data.toList[k]? with
    | none => rw [List.getElem?_eq_none_iff, len_list] at hq; omega
    | some b' =>
     rw [hq, hb2] at this
     simp only at this
     rw [Option.map_some, this]
   obtain ⟨hkl, hke⟩ := List.getElem?_eq_some_iff.1 hlk
   rw [List.drop_eq_getElem_cons hkl, hke] at hgo
   simp only [wordR] at hgo
   have hbad := l2Bad_ac 5 (i + k)
   by_cases hin : i + k < s.size
   ·have hge : decide (((i + k : Nat) : Int) ≥ (s.size : Int)) = false := by simp; omega
    obtain ⟨b1, h1, h2⟩ := bAt_in hin
    rw [h2] at hgo
    by_cases heq : b1.toNat = b.toNat
    ·rw [if_pos heq] at hgo
     have hne : (((b1.toNat : Nat) : Int) != ((b.toNat : Nat) : Int)) = false := by simp [heq]
     refine wRUN (j7 hdk hwp hge h1 hb hne hwk) ?_
     refine ⟨k + 1, by omega, ⟨by omega, hgo⟩, ?_⟩
     exact wSays (Says.of [((8, 0), (8, 0))] []) hwk
    ·rw [if_neg heq] at hgo
     subst hgo
     have hne : (((b1.toNat : Nat) : Int) != ((b.toNat : Nat) : Int)) = true := by simp; omega
     unfold rdA
     unfold rdBad at hbad ⊢
     refine wRUN (j6 hdk hwp hge h1 hb hne) ?_
     refine w7 (op_data [] hbad) trivial ?_
     refine wRUN trivial ?_
     exact wRet (ret_data []) Tryz.results73
   ·have hge : decide (((i + k : Nat) : Int) ≥ (s.size : Int)) = true := by simp; omega
    rw [bAt_end (by omega), if_neg (by have := b.toNat_lt; omega)] at hgo
    subst hgo
    unfold rdA
    unfold rdBad at hbad ⊢
    refine wRUN (j3 hdk hwp hge) ?_
    refine w7 (op_data [] hbad) trivial ?_
    refine wRUN trivial ?_
    exact wRet (ret_data []) Tryz.results73
  ·have hdk : decide ((k : Int) < (w.size : Int)) = false := by simpa using hlt
   have hkw : k = w.size := by omega
   rw [List.drop_eq_nil_of_le (by omega)] at hgo
   simp only [wordR] at hgo
   subst hgo
   have hwp := wrap_plus (a := i) (b := w.size) (by omega)
   have hme := mkV_enc m
   unfold rdA rdOk kindV
   rw [hkw] at hdk ⊢
   refine wRUN (j2 hdk hwp) ?_
   exact wRetOf (ret_of [] [(39, 0)]) Tryz.results73 hme
set_option maxRecDepth 10000
theorem byte_eq {b : UInt8} {s : ByteArray} {i : Nat} (h : bAt s i = b.toNat) (n : Nat) : (((b.toNat : Nat) : Int) == ((n : Nat) : Int)) = (bAt s i == n) := by
 rw [cast_beq, h]
theorem l2Number_ok (s : ByteArray) (hs : s.size ≤ 1000000) (i : Nat) (hi : i < s.size) (hd : digB (bAt s (numA s i)) = true) : AC Tryz.prog 132 [.c (.str s), .c (.int .i64 i)] [] (.tup [.c (.int .i64 (numE s i)), .c (.int .i64 0)]) [] := by
 have ha0 := bAt_lt (s := s) (i := numA s i) (by have := dig_lt hd; omega)
 have hdi : decide ((i : Int) < (s.size : Int)) = true := by simpa using hi
 obtain ⟨b, hg, hb⟩ := bAt_in hi
 obtain ⟨b2, hg2, hb2⟩ := bAt_in ha0
 have hdg := l2Digit_ac b2.toNat
 rw [← hb2, hd] at hdg
 have hbn2 : ((b2.toNat : Nat) : Int) = ((bAt s (numA s i) : Nat) : Int) := by rw [hb2]
 have hbn : ((b.toNat : Nat) : Int) = ((bAt s i : Nat) : Int) := by rw [hb]
 have hwi := wrap_succ (k := i) (by omega)
 have hga : decide (((numA s i : Nat) : Int) ≥ (s.size : Int)) = false := by simp; omega
 have hwa := wrap_succ (k := numA s i) (by omega)
 have hEz : bAt s (numA s i) = 48 → numE s i = numA s i + 1 := fun h => by unfold numE; rw [if_pos h]
 have hEn : bAt s (numA s i) ≠ 48 → digE s (numA s i) = numE s i := fun h => by unfold numE; rw [if_neg h]
 have fin : ∀ a, numA s i = a → ∀ j, a ≤ j → j ≤ s.size → digE s j = numE s i → True := fun _ _ _ _ _ _ => trivial
 clear fin
 have hA : (bAt s i = 45 ∧ numA s i = i + 1) ∨ (bAt s i ≠ 45 ∧ numA s i = i) := by
  unfold numA
  by_cases h : bAt s i = 45
  ·exact .inl ⟨h, if_pos h⟩
  ·exact .inr ⟨h, if_neg h⟩
 generalize numA s i = a at *
 generalize numE s i = e at *
 rcases hA with ⟨h45, hA⟩ | ⟨h45, hA⟩
 all_goals
  first
   | have q45 : (((bAt s i : Nat) : Int) == 45) = true := by simp; omega
   | have q45 : (((bAt s i : Nat) : Int) == 45) = false := by simp; omega
  subst hA
  by_cases h48 : b2.toNat = 48
  ·have q48 : (((b2.toNat : Nat) : Int) == 48) = true := by simp; omega
   have r48 := q48
   rw [hbn2] at r48
   have he := hEz (by omega)
   subst he
   refine wEnter Tryz.func132 Tryz.ntmps132 ?_
   refine wRUN (j8 hdi hg hbn q45 hwi hga hg2 hbn2) ?_
   refine w7 (op_data [] hdg) trivial ?_
   refine wRUN (j4 hg2 hbn2 r48 hwa) ?_
   exact wRet (ret_data []) Tryz.results132
  ·have q48 : (((b2.toNat : Nat) : Int) == 48) = false := by simp; omega
   have r48 := q48
   rw [hbn2] at r48
   have he := hEn (by omega)
   refine wEnter Tryz.func132 Tryz.ntmps132 ?_
   refine wRUN (j8 hdi hg hbn q45 hwi hga hg2 hbn2) ?_
   refine w7 (op_data [] hdg) trivial ?_
   refine wRUN (j3 hg2 hbn2 r48) ?_
   refine a_loop (κ := Nat) (fun j => ⟨mkS 0 49 [(0, .c (.str s)), (1, .c (.int .i64 j))], []⟩) (fun j => j ≤ s.size ∧ digE s j = e) (fun j => s.size - j) _ ⟨by omega, he⟩ ?_ ?_
   ·exact wSays (Says.of [] []) he
   ·rintro j ⟨hj, hje⟩
    by_cases hlt : j < s.size
    ·have hdk : decide ((j : Int) < (s.size : Int)) = true := by simpa using hlt
     have hwj := wrap_succ (k := j) (by omega)
     obtain ⟨b3, hg3, hb3⟩ := bAt_in hlt
     have hdg3 := l2Digit_ac b3.toNat
     have hbn3 : ((b3.toNat : Nat) : Int) = ((bAt s j : Nat) : Int) := by rw [hb3]
     rw [← hb3] at hdg3
     cases hdb : digB (bAt s j) with
     | true =>
      rw [hdb] at hdg3
      refine wRUN (j3 hdk hg3 hbn3) ?_
      refine w7 (op_data [] hdg3) trivial ?_
      refine wRUN hwj ?_
      refine ⟨j + 1, by omega, ⟨by omega, by rw [← digE_dig hdb, hje]⟩, ?_⟩
      exact wSays (Says.of [] []) hwj
     | false =>
      rw [hdb] at hdg3
      rw [digE_stop hdb] at hje
      subst hje
      refine wRUN (j3 hdk hg3 hbn3) ?_
      refine w7 (op_data [] hdg3) trivial ?_
      refine wRUN trivial ?_
      exact wRet (ret_data []) Tryz.results132
    ·have hdk : decide ((j : Int) < (s.size : Int)) = false := by simpa using hlt
     rw [digE_stop (by rw [bAt_end (by omega)]; rfl)] at hje
     subst hje
     refine wRUN hdk ?_
     exact wRet (ret_data []) Tryz.results132
theorem l2Number_bad (s : ByteArray) (hs : s.size ≤ 1000000) (i : Nat) (hi : i < s.size) (hd : digB (bAt s (numA s i)) = false) : AC Tryz.prog 132 [.c (.str s), .c (.int .i64 i)] [] (.tup [.c (.int .i64 (-1)), .c (.int .i64 (numA s i))]) [] := by
 have hdi : decide ((i : Int) < (s.size : Int)) = true := by simpa using hi
 obtain ⟨b, hg, hb⟩ := bAt_in hi
 have hbn : ((b.toNat : Nat) : Int) = ((bAt s i : Nat) : Int) := by rw [hb]
 have hwi := wrap_succ (k := i) (by omega)
 have hA : (bAt s i = 45 ∧ numA s i = i + 1) ∨ (bAt s i ≠ 45 ∧ numA s i = i) := by
  unfold numA
  by_cases h : bAt s i = 45
  ·exact .inl ⟨h, if_pos h⟩
  ·exact .inr ⟨h, if_neg h⟩
 generalize numA s i = a at *
 by_cases ha0 : a < s.size
 ·obtain ⟨b2, hg2, hb2⟩ := bAt_in ha0
  have hdg := l2Digit_ac b2.toNat
  rw [← hb2, hd] at hdg
  have hbn2 : ((b2.toNat : Nat) : Int) = ((bAt s a : Nat) : Int) := by rw [hb2]
  have hga : decide (((a : Nat) : Int) ≥ (s.size : Int)) = false := by simp; omega
  rcases hA with ⟨h45, hA⟩ | ⟨h45, hA⟩
  all_goals
   first
    | have q45 : (((bAt s i : Nat) : Int) == 45) = true := by simp; omega
    | have q45 : (((bAt s i : Nat) : Int) == 45) = false := by simp; omega
   subst hA
   refine wEnter Tryz.func132 Tryz.ntmps132 ?_
   refine wRUN (j8 hdi hg hbn q45 hwi hga hg2 hbn2) ?_
   refine w7 (op_data [] hdg) trivial ?_
   refine wRUN trivial ?_
   exact wRet (ret_data []) Tryz.results132
 ·have hga : decide (((a : Nat) : Int) ≥ (s.size : Int)) = true := by simp; omega
  rcases hA with ⟨h45, hA⟩ | ⟨h45, hA⟩
  ·have q45 : (((bAt s i : Nat) : Int) == 45) = true := by simp; omega
   subst hA
   refine wEnter Tryz.func132 Tryz.ntmps132 ?_
   refine wRUN (j6 hdi hg hbn q45 hwi hga) ?_
   exact wRet (ret_data []) Tryz.results132
  ·omega
end Go.Proofs.YtlciedpfjhkkdaaGreatDoor
namespace Go.Proofs.YtlciedpfjhkkdaaGreatDoor
open Go.RowKit
section
variable {P : Program} {o : Oper} {σ : ASt} {t : TypeId}
theorem run_subFrom {x lo : Operand} {s : ByteArray} {i : Int} (ho : o.op = .slice t x (some lo) none none) (hx : σ.ev x = .c (.str s)) (hlo : σ.ev lo = .c (.int .i64 i)) (ht : P.underlying t = some .string)
  (h0 : 0 ≤ i) (h1 : i ≤ s.size) : OpRun P o σ ⟨[], [], .c (.str (s.extract i.toNat s.size))⟩ := by
 refine OpRun.pure fun Γ σ' a w ow κ hag hr => ?_
 have e1 := AR.str (hag.ev hr (by rw [ho]; simp [Op.operands]) hx)
 have e2 := (hag.ev hr (by rw [ho]; simp [Op.operands]) hlo).1
 refine ⟨.string (s.extract i.toNat s.size), ?_, ⟨rfl, rfl⟩⟩
 have hrun := run_slice_string_from_if (P := P) w t s .i64 i ht
 rw [if_pos ⟨h0, h1⟩] at hrun
 unfold execOp
 rw [ho]
 simp [e1, e2, hrun, run_sliceAt_string _ t _ _ _ _ ht]
end
section
variable {P : Program} {σ τ : ASt} {ops : Array Oper} {r : List Oper} {fs : List AEff} {K : ASt → List AEff → Prop} {E : AEff} {d : Option Tmp} {ty' : TypeId} {pos : String} {af : Array Edge} {gd : Option (Nat × Bool)}
theorem op_subFrom {t : TypeId} {x lo : Operand} {s y : ByteArray} {i : Int} (hy : s.extract i.toNat s.size = y) (h0 : 0 ≤ i) (h1 : i ≤ s.size) (ht : P.underlying t = some .string)
  (hg : gate ops σ ⟨d, .slice t x (some lo) none none, ty', pos, af, gd⟩ = some true) (hx : σ.ev x = .c (.str s)) (hlo : σ.ev lo = .c (.int .i64 i))
  (hE : (⟨[], [], .c (.str y)⟩ : AEff) = E) (hτ : σ.upd d E = τ) (h : awpOps P ops r τ (fs ++ [E]) K) : awpOps P ops (⟨d, .slice t x (some lo) none none, ty', pos, af, gd⟩ :: r) σ fs K := by
 subst hE hy
 exact op_known hg (run_subFrom rfl hx hlo ht h0 h1).sound hτ h
end
end Go.Proofs.YtlciedpfjhkkdaaGreatDoor
namespace Go.Proofs.YtlciedpfjhkkdaaGreatDoor
open Go.RowKit
theorem ext_size {s : ByteArray} {a e : Nat} (h : e ≤ s.size) : (s.extract a e).size = e - a := by
 rw [ByteArray.size_extract]
 omega
theorem ext_list (s : ByteArray) (a e : Nat) : (s.extract a e).data.toList = (s.data.toList.take e).drop a := by
 rw [Lib.extract_data, List.drop_take]
theorem ext_at {s : ByteArray} {a e k : Nat} (h : e ≤ s.size) (hk : a + k < e) : bAt (s.extract a e) k = bAt s (a + k) := by
 rw [bAt_list, bAt_list, ext_list, List.getElem?_drop, List.getElem?_take]
 rw [if_pos hk]
set_option maxRecDepth 10000
theorem decN_in {s : ByteArray} {a k : Nat} (hk : k ≤ 16) (h : ∀ j, a ≤ j → j < a + k → digB (bAt s j) = true) : decN s a k < 10000000000000000 := by
 have h1 := decN_lt k h
 have h2 : (10 : Nat) ^ k ≤ 10 ^ 16 := Nat.pow_le_pow_right (by decide) hk
 have h3 : (10 : Nat) ^ 16 = 10000000000000000 := by decide
 omega
theorem decN_bound {s : ByteArray} {a k : Nat} (hk : k ≤ 16) (h : ∀ j, a ≤ j → j < a + k → digB (bAt s j) = true) {b : Nat} (hb : 48 ≤ b ∧ b ≤ 57) :
  IntKind.i64.wrap ((decN s a k : Int) * 10) = ((decN s a k * 10 : Nat) : Int) ∧ IntKind.u8.wrap ((b : Int) - 48) = ((b - 48 : Nat) : Int) ∧ IntKind.i64.wrap ((b - 48 : Nat) : Int) = ((b - 48 : Nat) : Int) ∧ IntKind.i64.wrap (((decN s a k * 10 : Nat) : Int) + ((b - 48 : Nat) : Int)) = ((decN s a k * 10 + (b - 48) : Nat) : Int) := by
 have h1 := decN_in hk h
 refine ⟨?_, ?_, i64_in (by omega) (by omega), ?_⟩
 ·rw [i64_in (by omega) (by omega)]; omega
 ·rw [u8_in (by omega) (by omega)]; omega
 ·rw [i64_in (by omega) (by omega)]; omega
end Go.Proofs.YtlciedpfjhkkdaaGreatDoor
