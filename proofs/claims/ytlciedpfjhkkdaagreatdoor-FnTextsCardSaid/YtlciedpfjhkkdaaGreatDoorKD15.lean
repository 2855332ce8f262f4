/- The program's reader: numbers. -/
import Derived.Test.YtlciedpfjhkkdaaGreatDoorKD14
import Derived.Test.YtlciedpfjhkkdaaGreatDoorKG22uG9
set_option linter.unusedSimpArgs false
set_option linter.unusedVariables false
set_option linter.unnecessarySimpa false
set_option maxHeartbeats 8000000
namespace Go.Proofs.YtlciedpfjhkkdaaGreatDoor
open Go.RowKit
set_option maxRecDepth 10000
variable {o1 o2 : Obj}
def numA2 (m : Bool) (u : ByteArray) : AV := if 16 < u.size ∨ 1000000000000000 < decN u 0 u.size then .tup [.c (.int .i64 0), .c (.int .i64 3)] else .tup [.c (.int .i64 (if m then -((decN u 0 u.size : Nat) : Int) else ((decN u 0 u.size : Nat) : Int))), .c (.int .i64 0)]
theorem ifaceT : Tryz.prog.underlying 183 = some (.interface (Tryz.prog.methodsAt 183)) := by kernel_rfl
theorem numberOf_ac (t : ByteArray) (hs : t.size ≤ 1000000) (h0 : 0 < t.size) {m : Bool} {u : ByteArray} (hm : (bAt t 0 == 45) = m) (hu : (if m then t.extract 1 t.size else t) = u) (hu0 : 0 < u.size) (hd : ∀ j, j < u.size → digB (bAt u j) = true) :
  AC Tryz.prog 181 [.c (.str t)] (errM o1 o2) (numA2 m u) (errM o1 o2) := by
 have htr := trim_ac t h0 hm hu
 unfold numA2
 rcases parseB_text t h0 hm hu hu0 hd with hp | ⟨hp, hbig⟩
 ·have hpa := parse_ok_ac t hs _ hp
  have hz : (-1000000000000000 ≤ (if m = true then -((decN u 0 u.size : Nat) : Int) else ((decN u 0 u.size : Nat) : Int)) ∧ (if m = true then -((decN u 0 u.size : Nat) : Int) else ((decN u 0 u.size : Nat) : Int)) ≤ 1000000000000000) ↔ ¬ 1000000000000000 < decN u 0 u.size := by
   cases m
   ·simp only [Bool.false_eq_true, if_false]; omega
   ·simp only [if_true]; omega
  generalize (if m = true then -((decN u 0 u.size : Nat) : Int) else ((decN u 0 u.size : Nat) : Int)) = z at *
  generalize decN u 0 u.size = dn at *
  have hwi := within_ac z (-1000000000000000) 1000000000000000
  by_cases h16 : 16 < u.size
  ·have g16 : decide ((u.size : Int) > 16) = true := decide_eq_true (by omega)
   rw [if_pos (.inl h16)]
   refine wEnter Tryz.func181 Tryz.ntmps181 ?_
   refine wRUN trivial ?_
   refine w7 (op_data [] hpa) trivial ?_
   refine wRUN trivial ?_
   (apply (op_nilEq ifaceT); (focus (first | (simp only [go_sem, Nat.reduceEqDiff, Nat.reduceAdd, Nat.reduceSub, Nat.reduceLeDiff, Nat.reduceMul, Nat.reduceBEq, Nat.reduceLT, Int.reduceToNat, reduceCtorEq]; first | done | exact rfl | (and_intros <;> rfl)) | exact rfl | decide)); (focus (first | (simp only [go_sem, Nat.reduceEqDiff, Nat.reduceAdd, Nat.reduceSub, Nat.reduceLeDiff, Nat.reduceMul, Nat.reduceBEq, Nat.reduceLT, Int.reduceToNat, reduceCtorEq]; first | done | exact rfl | (and_intros <;> rfl)) | exact rfl | decide)); (focus (first | (simp only [go_sem, Nat.reduceEqDiff, Nat.reduceAdd, Nat.reduceSub, Nat.reduceLeDiff, Nat.reduceMul, Nat.reduceBEq, Nat.reduceLT, Int.reduceToNat, reduceCtorEq]; first | done | exact rfl | (and_intros <;> rfl)) | exact rfl | decide)); (focus (first | (simp only [go_sem, Nat.reduceEqDiff, Nat.reduceAdd, Nat.reduceSub, Nat.reduceLeDiff, Nat.reduceMul, Nat.reduceBEq, Nat.reduceLT, Int.reduceToNat, reduceCtorEq]; first | done | exact rfl | (and_intros <;> rfl)) | exact rfl | decide)); (focus (first | (simp only [go_sem, Nat.reduceEqDiff, Nat.reduceAdd, Nat.reduceSub, Nat.reduceLeDiff, Nat.reduceMul, Nat.reduceBEq, Nat.reduceLT, Int.reduceToNat, reduceCtorEq]; first | done | exact rfl | (and_intros <;> rfl)) | exact rfl | decide)); (focus (first | (simp only [go_sem, Nat.reduceEqDiff, Nat.reduceAdd, Nat.reduceSub, Nat.reduceLeDiff, Nat.reduceMul, Nat.reduceBEq, Nat.reduceLT, Int.reduceToNat, reduceCtorEq]; first | done | exact rfl | (and_intros <;> rfl)) | exact rfl | decide)))
   refine wRUN trivial ?_
   refine w7 (op_data [] htr) trivial ?_
   refine wRUN g16 ?_
   exact wRetOf (ret_of [((8, 1), (8, 1))] []) Tryz.results181 h16
  ·have g16 : decide ((u.size : Int) > 16) = false := decide_eq_false (by omega)
   by_cases hbig : 1000000000000000 < dn
   ·have hb : (decide (z ≥ -1000000000000000) && decide (z ≤ 1000000000000000)) = false := by
     rw [Bool.eq_false_iff]
     intro h
     simp only [Bool.and_eq_true, decide_eq_true_eq] at h
     exact hz.1 ⟨h.1, h.2⟩ hbig
    rw [hb] at hwi
    rw [if_pos (.inr hbig)]
    refine wEnter Tryz.func181 Tryz.ntmps181 ?_
    refine wRUN trivial ?_
    refine w7 (op_data [] hpa) trivial ?_
    refine wRUN trivial ?_
    (apply (op_nilEq ifaceT); (focus (first | (simp only [go_sem, Nat.reduceEqDiff, Nat.reduceAdd, Nat.reduceSub, Nat.reduceLeDiff, Nat.reduceMul, Nat.reduceBEq, Nat.reduceLT, Int.reduceToNat, reduceCtorEq]; first | done | exact rfl | (and_intros <;> rfl)) | exact rfl | decide)); (focus (first | (simp only [go_sem, Nat.reduceEqDiff, Nat.reduceAdd, Nat.reduceSub, Nat.reduceLeDiff, Nat.reduceMul, Nat.reduceBEq, Nat.reduceLT, Int.reduceToNat, reduceCtorEq]; first | done | exact rfl | (and_intros <;> rfl)) | exact rfl | decide)); (focus (first | (simp only [go_sem, Nat.reduceEqDiff, Nat.reduceAdd, Nat.reduceSub, Nat.reduceLeDiff, Nat.reduceMul, Nat.reduceBEq, Nat.reduceLT, Int.reduceToNat, reduceCtorEq]; first | done | exact rfl | (and_intros <;> rfl)) | exact rfl | decide)); (focus (first | (simp only [go_sem, Nat.reduceEqDiff, Nat.reduceAdd, Nat.reduceSub, Nat.reduceLeDiff, Nat.reduceMul, Nat.reduceBEq, Nat.reduceLT, Int.reduceToNat, reduceCtorEq]; first | done | exact rfl | (and_intros <;> rfl)) | exact rfl | decide)); (focus (first | (simp only [go_sem, Nat.reduceEqDiff, Nat.reduceAdd, Nat.reduceSub, Nat.reduceLeDiff, Nat.reduceMul, Nat.reduceBEq, Nat.reduceLT, Int.reduceToNat, reduceCtorEq]; first | done | exact rfl | (and_intros <;> rfl)) | exact rfl | decide)); (focus (first | (simp only [go_sem, Nat.reduceEqDiff, Nat.reduceAdd, Nat.reduceSub, Nat.reduceLeDiff, Nat.reduceMul, Nat.reduceBEq, Nat.reduceLT, Int.reduceToNat, reduceCtorEq]; first | done | exact rfl | (and_intros <;> rfl)) | exact rfl | decide)))
    refine wRUN trivial ?_
    refine w7 (op_data [] htr) trivial ?_
    refine wRUN g16 ?_
    refine w7 (op_data [] hwi) trivial ?_
    refine wRUN trivial ?_
    exact wRetOf (ret_of [((8, 1), (8, 1))] []) Tryz.results181 h16
   ·have hb : (decide (z ≥ -1000000000000000) && decide (z ≤ 1000000000000000)) = true := by
     obtain ⟨q1, q2⟩ := hz.2 hbig
     simp only [Bool.and_eq_true, decide_eq_true_eq]
     exact ⟨q1, q2⟩
    rw [hb] at hwi
    rw [if_neg (by omega)]
    refine wEnter Tryz.func181 Tryz.ntmps181 ?_
    refine wRUN trivial ?_
    refine w7 (op_data [] hpa) trivial ?_
    refine wRUN trivial ?_
    (apply (op_nilEq ifaceT); (focus (first | (simp only [go_sem, Nat.reduceEqDiff, Nat.reduceAdd, Nat.reduceSub, Nat.reduceLeDiff, Nat.reduceMul, Nat.reduceBEq, Nat.reduceLT, Int.reduceToNat, reduceCtorEq]; first | done | exact rfl | (and_intros <;> rfl)) | exact rfl | decide)); (focus (first | (simp only [go_sem, Nat.reduceEqDiff, Nat.reduceAdd, Nat.reduceSub, Nat.reduceLeDiff, Nat.reduceMul, Nat.reduceBEq, Nat.reduceLT, Int.reduceToNat, reduceCtorEq]; first | done | exact rfl | (and_intros <;> rfl)) | exact rfl | decide)); (focus (first | (simp only [go_sem, Nat.reduceEqDiff, Nat.reduceAdd, Nat.reduceSub, Nat.reduceLeDiff, Nat.reduceMul, Nat.reduceBEq, Nat.reduceLT, Int.reduceToNat, reduceCtorEq]; first | done | exact rfl | (and_intros <;> rfl)) | exact rfl | decide)); (focus (first | (simp only [go_sem, Nat.reduceEqDiff, Nat.reduceAdd, Nat.reduceSub, Nat.reduceLeDiff, Nat.reduceMul, Nat.reduceBEq, Nat.reduceLT, Int.reduceToNat, reduceCtorEq]; first | done | exact rfl | (and_intros <;> rfl)) | exact rfl | decide)); (focus (first | (simp only [go_sem, Nat.reduceEqDiff, Nat.reduceAdd, Nat.reduceSub, Nat.reduceLeDiff, Nat.reduceMul, Nat.reduceBEq, Nat.reduceLT, Int.reduceToNat, reduceCtorEq]; first | done | exact rfl | (and_intros <;> rfl)) | exact rfl | decide)); (focus (first | (simp only [go_sem, Nat.reduceEqDiff, Nat.reduceAdd, Nat.reduceSub, Nat.reduceLeDiff, Nat.reduceMul, Nat.reduceBEq, Nat.reduceLT, Int.reduceToNat, reduceCtorEq]; first | done | exact rfl | (and_intros <;> rfl)) | exact rfl | decide)))
    refine wRUN trivial ?_
    refine w7 (op_data [] htr) trivial ?_
    refine wRUN g16 ?_
    refine w7 (op_data [] hwi) trivial ?_
    refine wRUN trivial ?_
    exact wRetOf (ret_of [((8, 1), (8, 1))] []) Tryz.results181 h16
 ·have hpa := parse_range_ac (o1 := o1) (o2 := o2) t hs hp
  rw [if_pos (.inr hbig)]
  refine wEnter Tryz.func181 Tryz.ntmps181 ?_
  refine wRUN trivial ?_
  refine wCall (op_any_call [((8, 1), (8, 1))] [((8, 1), (8, 1)), ((1, 0), (8, 0))] hpa) trivial ?_
  refine wRUN trivial ?_
  (apply (op_errEq ifaceT); (focus (first | (simp only [go_sem, Nat.reduceEqDiff, Nat.reduceAdd, Nat.reduceSub, Nat.reduceLeDiff, Nat.reduceMul, Nat.reduceBEq, Nat.reduceLT, Int.reduceToNat, reduceCtorEq]; first | done | exact rfl | (and_intros <;> rfl)) | exact rfl | decide)); (focus (first | (simp only [go_sem, Nat.reduceEqDiff, Nat.reduceAdd, Nat.reduceSub, Nat.reduceLeDiff, Nat.reduceMul, Nat.reduceBEq, Nat.reduceLT, Int.reduceToNat, reduceCtorEq]; first | done | exact rfl | (and_intros <;> rfl)) | exact rfl | decide)); (focus (first | (simp only [go_sem, Nat.reduceEqDiff, Nat.reduceAdd, Nat.reduceSub, Nat.reduceLeDiff, Nat.reduceMul, Nat.reduceBEq, Nat.reduceLT, Int.reduceToNat, reduceCtorEq]; first | done | exact rfl | (and_intros <;> rfl)) | exact rfl | decide)); (focus (first | (simp only [go_sem, Nat.reduceEqDiff, Nat.reduceAdd, Nat.reduceSub, Nat.reduceLeDiff, Nat.reduceMul, Nat.reduceBEq, Nat.reduceLT, Int.reduceToNat, reduceCtorEq]; first | done | exact rfl | (and_intros <;> rfl)) | exact rfl | decide)); (focus (first | (simp only [go_sem, Nat.reduceEqDiff, Nat.reduceAdd, Nat.reduceSub, Nat.reduceLeDiff, Nat.reduceMul, Nat.reduceBEq, Nat.reduceLT, Int.reduceToNat, reduceCtorEq]; first | done | exact rfl | (and_intros <;> rfl)) | exact rfl | decide)); (focus (first | (simp only [go_sem, Nat.reduceEqDiff, Nat.reduceAdd, Nat.reduceSub, Nat.reduceLeDiff, Nat.reduceMul, Nat.reduceBEq, Nat.reduceLT, Int.reduceToNat, reduceCtorEq]; first | done | exact rfl | (and_intros <;> rfl)) | exact rfl | decide)); (focus (first | (simp only [go_sem, Nat.reduceEqDiff, Nat.reduceAdd, Nat.reduceSub, Nat.reduceLeDiff, Nat.reduceMul, Nat.reduceBEq, Nat.reduceLT, Int.reduceToNat, reduceCtorEq]; first | done | exact rfl | (and_intros <;> rfl)) | exact rfl | decide)))
  refine wRUN trivial ?_
  exact wRetOf (ret_of [((8, 1), (8, 1))] []) Tryz.results181 hbig
theorem fail_okB (i b : Nat) (c : Int) (p : Nat) : (⟨i, 0, b⟩ : DS).fail c p = ⟨i, c, p⟩ := rfl
abbrev dsE (o1 o2 : Obj) (s : ByteArray) (d : DS) : Mem := [((0, 0), boxD s d), ((8, 1), .gen (errsR o1 o2))]
theorem dsE_eq (o1 o2 : Obj) (s : ByteArray) (d : DS) : dsE o1 o2 s d = [((0, 0), .box [.c (.str s), .c (.int .i64 d.pl), .c (.int .i64 d.code), .c (.int .i64 d.bad)]), ((8, 1), .gen (errsR o1 o2))] := rfl
theorem number_rd_ac (s : ByteArray) (hs : s.size ≤ 1000000) (i : Nat) (hi : i < s.size) (bb : Nat) : AC Tryz.prog 137 [.ptr (0, 0) 0] (dsE o1 o2 s ⟨i, 0, bb⟩) (numI s i bb).1.av (dsE o1 o2 s (numI s i bb).2) := by
 have t3 := Tryz.underlying9
 have htk := take_ac s hs ⟨i, 0, bb⟩ (by show i ≤ s.size; omega) 45 (by decide)
 have hA : (⟨i, 0, bb⟩ : DS).take s 45 = ⟨numA s i, 0, bb⟩ := by
  unfold DS.take numA
  rw [show (⟨i, 0, bb⟩ : DS).is s 45 = (bAt s i == 45) by unfold DS.is; simp]
  by_cases h : bAt s i = 45 <;> simp [h, DS.go]
 rw [hA] at htk
 obtain ⟨b0, hb0⟩ : ∃ b, (⟨i, 0, bb⟩ : DS).is s 45 = b := ⟨_, rfl⟩
 rw [hb0] at htk
 obtain ⟨ha1, _, ha2⟩ := numA_le hi
 have hda := digitsAt_ac s hs (numA s i) ha2
 obtain ⟨de1, de2, de3, de4⟩ := digE_in ha2
 unfold numI
 cases hd : digB (bAt s (numA s i)) with
 | false =>
  rw [digE_stop hd] at hda
  have hf := fail_ac s ⟨numA s i, 0, bb⟩ 5 (numA s i)
  have hz : ((((numA s i - numA s i : Nat) : Nat) : Int) == 0) = true := by simp
  simp only [if_true]
  rw [fail_okB] at hf
  simp only [dsM_eq, dsE_eq] at htk hf ⊢
  generalize numA s i = a at *
  refine wEnter Tryz.func137 Tryz.ntmps137 ?_
  refine wRUN trivial ?_
  refine wCall (op_any_call [((0, 0), (0, 0))] [((0, 0), (0, 0))] htk) trivial ?_
  refine wRUN trivial ?_
  refine w7 (op_data [] hda) trivial ?_
  refine wRUN hz ?_
  refine wCall (op_any_call [((0, 0), (0, 0))] [((0, 0), (0, 0))] hf) trivial ?_
  refine wRUN trivial ?_
  exact wRetOf (ret_of [((0, 0), (0, 0)), ((8, 1), (8, 1))] []) Tryz.results137 hz
 | true =>
  obtain ⟨he1, he2, _⟩ := numE_in hi hd
  have hz : (((digE s (numA s i) - numA s i : Nat) : Int) == 0) = false := by
   have : digE s (numA s i) ≠ numA s i := fun h => by rw [h, hd] at de3; cases de3
   simp
   omega
  have hal := bAt_lt (s := s) (i := numA s i) (by have := dig_lt hd; omega)
  obtain ⟨b, hg, hb⟩ := bAt_in hal
  have hbn : ((b.toNat : Nat) : Int) = ((bAt s (numA s i) : Nat) : Int) := by rw [hb]
  have hcase : ((((bAt s (numA s i) : Nat) : Int) == 48) = true ∧ IntKind.i64.wrap (((numA s i : Nat) : Int) + 1) = ((numE s i : Nat) : Int)) ∨ ((((bAt s (numA s i) : Nat) : Int) == 48) = false ∧ IntKind.i64.wrap (((numA s i : Nat) : Int) + ((digE s (numA s i) - numA s i : Nat) : Int)) = ((numE s i : Nat) : Int)) := by
   unfold numE
   by_cases h : bAt s (numA s i) = 48
   ·refine .inl ⟨by simp [h], ?_⟩
    rw [if_pos h]
    exact wrap_succ (by omega)
   ·refine .inr ⟨by simp; omega, ?_⟩
    rw [if_neg h, wrap_plus (by omega)]
    congr 1
    omega
  obtain ⟨m, u, p1, p2, hm, hu, hu0, hd2, hB, hV⟩ := numText_parts s i hi hd
  have hno := numberOf_ac (o1 := o1) (o2 := o2) (s.extract i (numE s i)) (by omega) p1 hm hu hu0 hd2
  have hno2 : AC Tryz.prog 181 [.c (.str (s.extract i (numE s i)))] (errM o1 o2) (if numBig s i then .tup [.c (.int .i64 0), .c (.int .i64 3)] else .tup [.c (.int .i64 (numV' s i)), .c (.int .i64 0)]) (errM o1 o2) := by
   rw [hB, hV]
   unfold numA2 at hno
   simpa using hno
  clear hno hB hV
  have hdot : (∃ b2 : UInt8, decide (((numE s i : Nat) : Int) < (s.size : Int)) = true ∧ s[numE s i]? = some b2 ∧ decide (dotI b2.toNat ≥ 0) = true ∧ dotB (bAt s (numE s i)) = true) ∨ (∃ b2 : UInt8, decide (((numE s i : Nat) : Int) < (s.size : Int)) = true ∧ s[numE s i]? = some b2 ∧ decide (dotI b2.toNat ≥ 0) = false ∧ dotB (bAt s (numE s i)) = false) ∨ (decide (((numE s i : Nat) : Int) < (s.size : Int)) = false ∧ dotB (bAt s (numE s i)) = false) := by
   by_cases hlt : numE s i < s.size
   ·obtain ⟨b2, hg2, hb2⟩ := bAt_in hlt
    have hdi := dotI_ge (n := b2.toNat) b2.toNat_lt
    rw [← hb2] at hdi
    have gl : decide (((numE s i : Nat) : Int) < (s.size : Int)) = true := decide_eq_true (by omega)
    cases hq : dotB (bAt s (numE s i)) with
    | true => exact .inl ⟨b2, gl, hg2, by rw [← hb2, hdi, hq], rfl⟩
    | false => exact .inr (.inl ⟨b2, gl, hg2, by rw [← hb2, hdi, hq], rfl⟩)
   ·exact .inr (.inr ⟨decide_eq_false (by omega), by rw [bAt_end (by omega)]; rfl⟩)
  have hib : ∀ b2 : UInt8, AC Tryz.prog 182 [.c (.str ⟨#[46, 101, 69]⟩), .c (.int .u8 (b2.toNat : Nat))] [] (.c (.int .i64 (dotI b2.toNat))) [] := fun b2 => indexByte_ac _ b2.toNat_lt
  have h00 : ((0 : Int) != 0) = false := rfl
  have h30 : ((3 : Int) != 0) = true := rfl
  have hf1 := fail_ac s ⟨numE s i, 0, bb⟩ 3 i
  have hf2 := fail_ac s ⟨numE s i, 3, i⟩ 3 (numE s i)
  have hf3 := fail_ac s ⟨numE s i, 0, bb⟩ 3 (numE s i)
  rw [fail_okB] at hf1 hf3
  rw [fail_err (by simp)] at hf2
  have hn0 := number_ac 0
  have hnv := number_ac (numV' s i)
  simp only [Bool.true_eq_false, if_false]
  generalize numV' s i = z at *
  generalize bAt s (numA s i) = ba at *
  generalize dotB (bAt s (numE s i)) = db at *
  generalize digE s (numA s i) = ea at *
  generalize numA s i = a at *
  generalize numE s i = e at *
  cases hB : numBig s i with
  | true =>
   rw [hB] at hno2
   simp only [if_true] at hno2 ⊢
   simp only [dsM_eq, dsE_eq] at htk hf1 hf2 hf3 ⊢
   rcases hcase with ⟨q48, hwe⟩ | ⟨q48, hwe⟩
   all_goals
    rcases hdot with ⟨b2, gl, hg2, gd, _⟩ | ⟨b2, gl, hg2, gd, _⟩ | ⟨gl, _⟩
    all_goals
     refine wEnter Tryz.func137 Tryz.ntmps137 ?_
     refine wRUN trivial ?_
     refine wCall (op_any_call [((0, 0), (0, 0))] [((0, 0), (0, 0))] htk) trivial ?_
     refine wRUN trivial ?_
     refine w7 (op_data [] hda) trivial ?_
     refine wRUN (j5 hz hg hbn q48 hwe) ?_
     (apply (op_sub (y := s.extract i e) (i := (i : Int)) (j := (e : Int)) (s := s) rfl (by omega) (by omega) (by omega) t3); (focus (first | (simp only [go_sem, Nat.reduceEqDiff, Nat.reduceAdd, Nat.reduceSub, Nat.reduceLeDiff, Nat.reduceMul, Nat.reduceBEq, Nat.reduceLT, Int.reduceToNat, reduceCtorEq]; first | done | exact rfl | (and_intros <;> rfl)) | exact rfl | decide)); (focus (first | (simp only [go_sem, Nat.reduceEqDiff, Nat.reduceAdd, Nat.reduceSub, Nat.reduceLeDiff, Nat.reduceMul, Nat.reduceBEq, Nat.reduceLT, Int.reduceToNat, reduceCtorEq]; first | done | exact rfl | (and_intros <;> rfl)) | exact rfl | decide)); (focus (first | (simp only [go_sem, Nat.reduceEqDiff, Nat.reduceAdd, Nat.reduceSub, Nat.reduceLeDiff, Nat.reduceMul, Nat.reduceBEq, Nat.reduceLT, Int.reduceToNat, reduceCtorEq]; first | done | exact rfl | (and_intros <;> rfl)) | exact rfl | decide)); (focus (first | (simp only [go_sem, Nat.reduceEqDiff, Nat.reduceAdd, Nat.reduceSub, Nat.reduceLeDiff, Nat.reduceMul, Nat.reduceBEq, Nat.reduceLT, Int.reduceToNat, reduceCtorEq]; first | done | exact rfl | (and_intros <;> rfl)) | exact rfl | decide)); (focus (first | (simp only [go_sem, Nat.reduceEqDiff, Nat.reduceAdd, Nat.reduceSub, Nat.reduceLeDiff, Nat.reduceMul, Nat.reduceBEq, Nat.reduceLT, Int.reduceToNat, reduceCtorEq]; first | done | exact rfl | (and_intros <;> rfl)) | exact rfl | decide)); (focus (first | (simp only [go_sem, Nat.reduceEqDiff, Nat.reduceAdd, Nat.reduceSub, Nat.reduceLeDiff, Nat.reduceMul, Nat.reduceBEq, Nat.reduceLT, Int.reduceToNat, reduceCtorEq]; first | done | exact rfl | (and_intros <;> rfl)) | exact rfl | decide)); (focus (first | (simp only [go_sem, Nat.reduceEqDiff, Nat.reduceAdd, Nat.reduceSub, Nat.reduceLeDiff, Nat.reduceMul, Nat.reduceBEq, Nat.reduceLT, Int.reduceToNat, reduceCtorEq]; first | done | exact rfl | (and_intros <;> rfl)) | exact rfl | decide)))
     refine wRUN trivial ?_
     refine wCall (op_any_call [((8, 1), (8, 1))] [((8, 1), (8, 1))] hno2) trivial ?_
     refine wRUN h30 ?_
     refine wCall (op_any_call [((0, 0), (0, 0))] [((0, 0), (0, 0))] hf1) trivial ?_
    ·refine wRUN (j2 gl hg2) ?_
     refine w7 (op_data [] (hib b2)) trivial ?_
     refine wRUN gd ?_
     refine wCall (op_any_call [((0, 0), (0, 0))] [((0, 0), (0, 0))] hf2) trivial ?_
     refine wRUN trivial ?_
     refine w9 (op_shared [] hn0) trivial ?_
     refine wRUN trivial ?_
     exact wRetOf (ret_of [((0, 0), (0, 0)), ((8, 1), (8, 1))] []) Tryz.results137 hz
    ·refine wRUN (j2 gl hg2) ?_
     refine w7 (op_data [] (hib b2)) trivial ?_
     refine wRUN gd ?_
     refine w9 (op_shared [] hn0) trivial ?_
     refine wRUN trivial ?_
     exact wRetOf (ret_of [((0, 0), (0, 0)), ((8, 1), (8, 1))] []) Tryz.results137 hz
    ·refine wRUN gl ?_
     refine w9 (op_shared [] hn0) trivial ?_
     refine wRUN trivial ?_
     exact wRetOf (ret_of [((0, 0), (0, 0)), ((8, 1), (8, 1))] []) Tryz.results137 hz
  | false =>
   rw [hB] at hno2
   simp only [Bool.false_eq_true, if_false] at hno2 ⊢
   simp only [dsM_eq, dsE_eq] at htk hf1 hf2 hf3
   rcases hcase with ⟨q48, hwe⟩ | ⟨q48, hwe⟩
   all_goals
    rcases hdot with ⟨b2, gl, hg2, gd, rfl⟩ | ⟨b2, gl, hg2, gd, rfl⟩ | ⟨gl, rfl⟩
    all_goals
     simp only [if_true, Bool.false_eq_true, if_false, dsE_eq]
     refine wEnter Tryz.func137 Tryz.ntmps137 ?_
     refine wRUN trivial ?_
     refine wCall (op_any_call [((0, 0), (0, 0))] [((0, 0), (0, 0))] htk) trivial ?_
     refine wRUN trivial ?_
     refine w7 (op_data [] hda) trivial ?_
     refine wRUN (j5 hz hg hbn q48 hwe) ?_
     (apply (op_sub (y := s.extract i e) (i := (i : Int)) (j := (e : Int)) (s := s) rfl (by omega) (by omega) (by omega) t3); (focus (first | (simp only [go_sem, Nat.reduceEqDiff, Nat.reduceAdd, Nat.reduceSub, Nat.reduceLeDiff, Nat.reduceMul, Nat.reduceBEq, Nat.reduceLT, Int.reduceToNat, reduceCtorEq]; first | done | exact rfl | (and_intros <;> rfl)) | exact rfl | decide)); (focus (first | (simp only [go_sem, Nat.reduceEqDiff, Nat.reduceAdd, Nat.reduceSub, Nat.reduceLeDiff, Nat.reduceMul, Nat.reduceBEq, Nat.reduceLT, Int.reduceToNat, reduceCtorEq]; first | done | exact rfl | (and_intros <;> rfl)) | exact rfl | decide)); (focus (first | (simp only [go_sem, Nat.reduceEqDiff, Nat.reduceAdd, Nat.reduceSub, Nat.reduceLeDiff, Nat.reduceMul, Nat.reduceBEq, Nat.reduceLT, Int.reduceToNat, reduceCtorEq]; first | done | exact rfl | (and_intros <;> rfl)) | exact rfl | decide)); (focus (first | (simp only [go_sem, Nat.reduceEqDiff, Nat.reduceAdd, Nat.reduceSub, Nat.reduceLeDiff, Nat.reduceMul, Nat.reduceBEq, Nat.reduceLT, Int.reduceToNat, reduceCtorEq]; first | done | exact rfl | (and_intros <;> rfl)) | exact rfl | decide)); (focus (first | (simp only [go_sem, Nat.reduceEqDiff, Nat.reduceAdd, Nat.reduceSub, Nat.reduceLeDiff, Nat.reduceMul, Nat.reduceBEq, Nat.reduceLT, Int.reduceToNat, reduceCtorEq]; first | done | exact rfl | (and_intros <;> rfl)) | exact rfl | decide)); (focus (first | (simp only [go_sem, Nat.reduceEqDiff, Nat.reduceAdd, Nat.reduceSub, Nat.reduceLeDiff, Nat.reduceMul, Nat.reduceBEq, Nat.reduceLT, Int.reduceToNat, reduceCtorEq]; first | done | exact rfl | (and_intros <;> rfl)) | exact rfl | decide)); (focus (first | (simp only [go_sem, Nat.reduceEqDiff, Nat.reduceAdd, Nat.reduceSub, Nat.reduceLeDiff, Nat.reduceMul, Nat.reduceBEq, Nat.reduceLT, Int.reduceToNat, reduceCtorEq]; first | done | exact rfl | (and_intros <;> rfl)) | exact rfl | decide)))
     refine wRUN trivial ?_
     refine wCall (op_any_call [((8, 1), (8, 1))] [((8, 1), (8, 1))] hno2) trivial ?_
    ·refine wRUN (j3 h00 gl hg2) ?_
     refine w7 (op_data [] (hib b2)) trivial ?_
     refine wRUN gd ?_
     refine wCall (op_any_call [((0, 0), (0, 0))] [((0, 0), (0, 0))] hf3) trivial ?_
     refine wRUN trivial ?_
     refine w9 (op_shared [] hnv) trivial ?_
     refine wRUN trivial ?_
     exact wRetOf (ret_of [((0, 0), (0, 0)), ((8, 1), (8, 1))] []) Tryz.results137 hz
    ·refine wRUN (j3 h00 gl hg2) ?_
     refine w7 (op_data [] (hib b2)) trivial ?_
     refine wRUN gd ?_
     refine w9 (op_shared [] hnv) trivial ?_
     refine wRUN trivial ?_
     exact wRetOf (ret_of [((0, 0), (0, 0)), ((8, 1), (8, 1))] []) Tryz.results137 hz
    ·refine wRUN (j2 h00 gl) ?_
     refine w9 (op_shared [] hnv) trivial ?_
     refine wRUN trivial ?_
     exact wRetOf (ret_of [((0, 0), (0, 0)), ((8, 1), (8, 1))] []) Tryz.results137 hz
end Go.Proofs.YtlciedpfjhkkdaaGreatDoor
