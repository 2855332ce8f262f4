/- The reference's reader: a whole number. -/
import Derived.Test.YtlciedpfjhkkdaaGreatDoorKD06
set_option linter.unusedSimpArgs false
set_option linter.unusedVariables false
set_option linter.unnecessarySimpa false
set_option maxHeartbeats 8000000
namespace Go.Proofs.YtlciedpfjhkkdaaGreatDoor
open Go.RowKit
set_option maxRecDepth 10000
def numRd (s : ByteArray) (i : Nat) : Rd V := match numR s i with
 | .bad c p => .bad c p
 | .ok n e => .ok (numV n) e
theorem l2Whole_ac (s : ByteArray) (hs : s.size ≤ 1000000) (i : Nat) (hi : i < s.size) : AC Tryz.prog 77 [.c (.str s), .c (.int .i64 i)] [] (rdA (numRd s i) ByteArray.empty) [] := by
 have t3 := Tryz.underlying9
 unfold numRd numR
 cases hd : digB (bAt s (numA s i)) with
 | false =>
  have hn := l2Number_bad s hs i hi hd
  have hbad := l2Bad_ac 5 (numA s i)
  simp only [if_true]
  unfold rdA
  unfold rdBad at hbad ⊢
  generalize numA s i = a at *
  have hm1 : decide ((-1 : Int) < 0) = true := rfl
  refine wEnter Tryz.func77 Tryz.ntmps77 ?_
  refine wRUN trivial ?_
  refine w7 (op_data [] hn) trivial ?_
  refine wRUN hm1 ?_
  refine w7 (op_data [] hbad) trivial ?_
  refine wRUN trivial ?_
  exact wRet (ret_data []) Tryz.results77
 | true =>
  have hn := l2Number_ok s hs i hi hd
  obtain ⟨he1, he2, _⟩ := numE_in hi hd
  obtain ⟨ha1, _, _⟩ := numA_le hi
  have hv := numText_ac s hs i hi hd
  simp only [Bool.true_eq_false, if_false]
  have hl0 : decide (((numE s i : Nat) : Int) < 0) = false := decide_eq_false (by omega)
  cases hb : numBig s i with
  | true =>
   have hbad := l2Bad_ac 3 i
   rw [hb] at hv
   simp only [if_true] at hv ⊢
   unfold rdA
   unfold rdBad at hbad ⊢
   generalize numE s i = e at *
   refine wEnter Tryz.func77 Tryz.ntmps77 ?_
   refine wRUN trivial ?_
   refine w7 (op_data [] hn) trivial ?_
   refine wRUN hl0 ?_
   (apply (op_sub (y := s.extract i e) (i := (i : Int)) (j := (e : Int)) (s := s) rfl (by omega) (by omega) (by omega) t3); (focus (first | (simp only [go_sem, Nat.reduceEqDiff, Nat.reduceAdd, Nat.reduceSub, Nat.reduceLeDiff, Nat.reduceMul, Nat.reduceBEq, Nat.reduceLT, Int.reduceToNat, reduceCtorEq]; first | done | exact rfl | (and_intros <;> rfl)) | exact rfl | decide)); (focus (first | (simp only [go_sem, Nat.reduceEqDiff, Nat.reduceAdd, Nat.reduceSub, Nat.reduceLeDiff, Nat.reduceMul, Nat.reduceBEq, Nat.reduceLT, Int.reduceToNat, reduceCtorEq]; first | done | exact rfl | (and_intros <;> rfl)) | exact rfl | decide)); (focus (first | (simp only [go_sem, Nat.reduceEqDiff, Nat.reduceAdd, Nat.reduceSub, Nat.reduceLeDiff, Nat.reduceMul, Nat.reduceBEq, Nat.reduceLT, Int.reduceToNat, reduceCtorEq]; first | done | exact rfl | (and_intros <;> rfl)) | exact rfl | decide)); (focus (first | (simp only [go_sem, Nat.reduceEqDiff, Nat.reduceAdd, Nat.reduceSub, Nat.reduceLeDiff, Nat.reduceMul, Nat.reduceBEq, Nat.reduceLT, Int.reduceToNat, reduceCtorEq]; first | done | exact rfl | (and_intros <;> rfl)) | exact rfl | decide)); (focus (first | (simp only [go_sem, Nat.reduceEqDiff, Nat.reduceAdd, Nat.reduceSub, Nat.reduceLeDiff, Nat.reduceMul, Nat.reduceBEq, Nat.reduceLT, Int.reduceToNat, reduceCtorEq]; first | done | exact rfl | (and_intros <;> rfl)) | exact rfl | decide)); (focus (first | (simp only [go_sem, Nat.reduceEqDiff, Nat.reduceAdd, Nat.reduceSub, Nat.reduceLeDiff, Nat.reduceMul, Nat.reduceBEq, Nat.reduceLT, Int.reduceToNat, reduceCtorEq]; first | done | exact rfl | (and_intros <;> rfl)) | exact rfl | decide)); (focus (first | (simp only [go_sem, Nat.reduceEqDiff, Nat.reduceAdd, Nat.reduceSub, Nat.reduceLeDiff, Nat.reduceMul, Nat.reduceBEq, Nat.reduceLT, Int.reduceToNat, reduceCtorEq]; first | done | exact rfl | (and_intros <;> rfl)) | exact rfl | decide)))
   refine wRUN trivial ?_
   refine w7 (op_data [] hv) trivial ?_
   refine wRUN trivial ?_
   refine w7 (op_data [] hbad) trivial ?_
   refine wRUN trivial ?_
   exact wRet (ret_data []) Tryz.results77
  | false =>
   have hbad := l2Bad_ac 3 (numE s i)
   rw [hb] at hv
   simp only [Bool.false_eq_true, if_false] at hv ⊢
   have hno := l1Number_ac (numV' s i)
   have hdot : ∀ b : UInt8, s[numE s i]? = some b → dotB (bAt s (numE s i)) = (((((b.toNat : Nat) : Int) == 46) || (((b.toNat : Nat) : Int) == 101)) || (((b.toNat : Nat) : Int) == 69)) := fun b hbb => by
    have : bAt s (numE s i) = b.toNat := by unfold bAt; rw [hbb]
    rw [this]
    unfold dotB
    rw [Bool.eq_iff_iff]; simp; omega
   have hend : s.size ≤ numE s i → dotB (bAt s (numE s i)) = false := fun h => by rw [bAt_end h]; rfl
   generalize numV' s i = z at *
   generalize numE s i = e at *
   generalize dotB (bAt s e) = dt at *
   by_cases hes : e < s.size
   ·have hde : decide ((e : Int) < (s.size : Int)) = true := by simpa using hes
    obtain ⟨b, hg, _⟩ := bAt_in hes
    have hdt := hdot b hg
    obtain ⟨bz, hbz⟩ : ∃ bz, ((b.toNat : Nat) : Int) = bz := ⟨_, rfl⟩
    rw [hbz] at hdt
    have tail : ∀ (e1 e2 e3 : Bool), (bz == 46) = e1 → (bz == 101) = e2 → (bz == 69) = e3 → AC Tryz.prog 77 [.c (.str s), .c (.int .i64 i)] [] (rdA (if (e1 || e2 || e3) then Rd.bad 3 e else Rd.ok (numV z) e) ByteArray.empty) [] := by
     intro e1 e2 e3 h1 h2 h3
     unfold rdA
     cases e1 with
     | true =>
      simp only [Bool.true_or, if_true]
      unfold rdBad at hbad ⊢
      refine wEnter Tryz.func77 Tryz.ntmps77 ?_
      refine wRUN trivial ?_
      refine w7 (op_data [] hn) trivial ?_
      refine wRUN hl0 ?_
      (apply (op_sub (y := s.extract i e) (i := (i : Int)) (j := (e : Int)) (s := s) rfl (by omega) (by omega) (by omega) t3); (focus (first | (simp only [go_sem, Nat.reduceEqDiff, Nat.reduceAdd, Nat.reduceSub, Nat.reduceLeDiff, Nat.reduceMul, Nat.reduceBEq, Nat.reduceLT, Int.reduceToNat, reduceCtorEq]; first | done | exact rfl | (and_intros <;> rfl)) | exact rfl | decide)); (focus (first | (simp only [go_sem, Nat.reduceEqDiff, Nat.reduceAdd, Nat.reduceSub, Nat.reduceLeDiff, Nat.reduceMul, Nat.reduceBEq, Nat.reduceLT, Int.reduceToNat, reduceCtorEq]; first | done | exact rfl | (and_intros <;> rfl)) | exact rfl | decide)); (focus (first | (simp only [go_sem, Nat.reduceEqDiff, Nat.reduceAdd, Nat.reduceSub, Nat.reduceLeDiff, Nat.reduceMul, Nat.reduceBEq, Nat.reduceLT, Int.reduceToNat, reduceCtorEq]; first | done | exact rfl | (and_intros <;> rfl)) | exact rfl | decide)); (focus (first | (simp only [go_sem, Nat.reduceEqDiff, Nat.reduceAdd, Nat.reduceSub, Nat.reduceLeDiff, Nat.reduceMul, Nat.reduceBEq, Nat.reduceLT, Int.reduceToNat, reduceCtorEq]; first | done | exact rfl | (and_intros <;> rfl)) | exact rfl | decide)); (focus (first | (simp only [go_sem, Nat.reduceEqDiff, Nat.reduceAdd, Nat.reduceSub, Nat.reduceLeDiff, Nat.reduceMul, Nat.reduceBEq, Nat.reduceLT, Int.reduceToNat, reduceCtorEq]; first | done | exact rfl | (and_intros <;> rfl)) | exact rfl | decide)); (focus (first | (simp only [go_sem, Nat.reduceEqDiff, Nat.reduceAdd, Nat.reduceSub, Nat.reduceLeDiff, Nat.reduceMul, Nat.reduceBEq, Nat.reduceLT, Int.reduceToNat, reduceCtorEq]; first | done | exact rfl | (and_intros <;> rfl)) | exact rfl | decide)); (focus (first | (simp only [go_sem, Nat.reduceEqDiff, Nat.reduceAdd, Nat.reduceSub, Nat.reduceLeDiff, Nat.reduceMul, Nat.reduceBEq, Nat.reduceLT, Int.reduceToNat, reduceCtorEq]; first | done | exact rfl | (and_intros <;> rfl)) | exact rfl | decide)))
      refine wRUN trivial ?_
      refine w7 (op_data [] hv) trivial ?_
      refine wRUN (j4 hde hg hbz h1) ?_
      refine w7 (op_data [] hbad) trivial ?_
      refine wRUN trivial ?_
      exact wRet (ret_data []) Tryz.results77
     | false => cases e2 with
      | true =>
       simp only [Bool.true_or, Bool.or_true, if_true]
       unfold rdBad at hbad ⊢
       refine wEnter Tryz.func77 Tryz.ntmps77 ?_
       refine wRUN trivial ?_
       refine w7 (op_data [] hn) trivial ?_
       refine wRUN hl0 ?_
       (apply (op_sub (y := s.extract i e) (i := (i : Int)) (j := (e : Int)) (s := s) rfl (by omega) (by omega) (by omega) t3); (focus (first | (simp only [go_sem, Nat.reduceEqDiff, Nat.reduceAdd, Nat.reduceSub, Nat.reduceLeDiff, Nat.reduceMul, Nat.reduceBEq, Nat.reduceLT, Int.reduceToNat, reduceCtorEq]; first | done | exact rfl | (and_intros <;> rfl)) | exact rfl | decide)); (focus (first | (simp only [go_sem, Nat.reduceEqDiff, Nat.reduceAdd, Nat.reduceSub, Nat.reduceLeDiff, Nat.reduceMul, Nat.reduceBEq, Nat.reduceLT, Int.reduceToNat, reduceCtorEq]; first | done | exact rfl | (and_intros <;> rfl)) | exact rfl | decide)); (focus (first | (simp only [go_sem, Nat.reduceEqDiff, Nat.reduceAdd, Nat.reduceSub, Nat.reduceLeDiff, Nat.reduceMul, Nat.reduceBEq, Nat.reduceLT, Int.reduceToNat, reduceCtorEq]; first | done | exact rfl | (and_intros <;> rfl)) | exact rfl | decide)); (focus (first | (simp only [go_sem, Nat.reduceEqDiff, Nat.reduceAdd, Nat.reduceSub, Nat.reduceLeDiff, Nat.reduceMul, Nat.reduceBEq, Nat.reduceLT, Int.reduceToNat, reduceCtorEq]; first | done | exact rfl | (and_intros <;> rfl)) | exact rfl | decide)); (focus (first | (simp only [go_sem, Nat.reduceEqDiff, Nat.reduceAdd, Nat.reduceSub, Nat.reduceLeDiff, Nat.reduceMul, Nat.reduceBEq, Nat.reduceLT, Int.reduceToNat, reduceCtorEq]; first | done | exact rfl | (and_intros <;> rfl)) | exact rfl | decide)); (focus (first | (simp only [go_sem, Nat.reduceEqDiff, Nat.reduceAdd, Nat.reduceSub, Nat.reduceLeDiff, Nat.reduceMul, Nat.reduceBEq, Nat.reduceLT, Int.reduceToNat, reduceCtorEq]; first | done | exact rfl | (and_intros <;> rfl)) | exact rfl | decide)); (focus (first | (simp only [go_sem, Nat.reduceEqDiff, Nat.reduceAdd, Nat.reduceSub, Nat.reduceLeDiff, Nat.reduceMul, Nat.reduceBEq, Nat.reduceLT, Int.reduceToNat, reduceCtorEq]; first | done | exact rfl | (and_intros <;> rfl)) | exact rfl | decide)))
       refine wRUN trivial ?_
       refine w7 (op_data [] hv) trivial ?_
       refine wRUN (j5 hde hg hbz h1 h2) ?_
       refine w7 (op_data [] hbad) trivial ?_
       refine wRUN trivial ?_
       exact wRet (ret_data []) Tryz.results77
      | false => cases e3 with
       | true =>
        simp only [Bool.or_true, if_true]
        unfold rdBad at hbad ⊢
        refine wEnter Tryz.func77 Tryz.ntmps77 ?_
        refine wRUN trivial ?_
        refine w7 (op_data [] hn) trivial ?_
        refine wRUN hl0 ?_
        (apply (op_sub (y := s.extract i e) (i := (i : Int)) (j := (e : Int)) (s := s) rfl (by omega) (by omega) (by omega) t3); (focus (first | (simp only [go_sem, Nat.reduceEqDiff, Nat.reduceAdd, Nat.reduceSub, Nat.reduceLeDiff, Nat.reduceMul, Nat.reduceBEq, Nat.reduceLT, Int.reduceToNat, reduceCtorEq]; first | done | exact rfl | (and_intros <;> rfl)) | exact rfl | decide)); (focus (first | (simp only [go_sem, Nat.reduceEqDiff, Nat.reduceAdd, Nat.reduceSub, Nat.reduceLeDiff, Nat.reduceMul, Nat.reduceBEq, Nat.reduceLT, Int.reduceToNat, reduceCtorEq]; first | done | exact rfl | (and_intros <;> rfl)) | exact rfl | decide)); (focus (first | (simp only [go_sem, Nat.reduceEqDiff, Nat.reduceAdd, Nat.reduceSub, Nat.reduceLeDiff, Nat.reduceMul, Nat.reduceBEq, Nat.reduceLT, Int.reduceToNat, reduceCtorEq]; first | done | exact rfl | (and_intros <;> rfl)) | exact rfl | decide)); (focus (first | (simp only [go_sem, Nat.reduceEqDiff, Nat.reduceAdd, Nat.reduceSub, Nat.reduceLeDiff, Nat.reduceMul, Nat.reduceBEq, Nat.reduceLT, Int.reduceToNat, reduceCtorEq]; first | done | exact rfl | (and_intros <;> rfl)) | exact rfl | decide)); (focus (first | (simp only [go_sem, Nat.reduceEqDiff, Nat.reduceAdd, Nat.reduceSub, Nat.reduceLeDiff, Nat.reduceMul, Nat.reduceBEq, Nat.reduceLT, Int.reduceToNat, reduceCtorEq]; first | done | exact rfl | (and_intros <;> rfl)) | exact rfl | decide)); (focus (first | (simp only [go_sem, Nat.reduceEqDiff, Nat.reduceAdd, Nat.reduceSub, Nat.reduceLeDiff, Nat.reduceMul, Nat.reduceBEq, Nat.reduceLT, Int.reduceToNat, reduceCtorEq]; first | done | exact rfl | (and_intros <;> rfl)) | exact rfl | decide)); (focus (first | (simp only [go_sem, Nat.reduceEqDiff, Nat.reduceAdd, Nat.reduceSub, Nat.reduceLeDiff, Nat.reduceMul, Nat.reduceBEq, Nat.reduceLT, Int.reduceToNat, reduceCtorEq]; first | done | exact rfl | (and_intros <;> rfl)) | exact rfl | decide)))
        refine wRUN trivial ?_
        refine w7 (op_data [] hv) trivial ?_
        refine wRUN (j6 hde hg hbz h1 h2 h3) ?_
        refine w7 (op_data [] hbad) trivial ?_
        refine wRUN trivial ?_
        exact wRet (ret_data []) Tryz.results77
       | false =>
        simp only [Bool.or_false, Bool.false_eq_true, if_false]
        unfold rdOk
        refine wEnter Tryz.func77 Tryz.ntmps77 ?_
        refine wRUN trivial ?_
        refine w7 (op_data [] hn) trivial ?_
        refine wRUN hl0 ?_
        (apply (op_sub (y := s.extract i e) (i := (i : Int)) (j := (e : Int)) (s := s) rfl (by omega) (by omega) (by omega) t3); (focus (first | (simp only [go_sem, Nat.reduceEqDiff, Nat.reduceAdd, Nat.reduceSub, Nat.reduceLeDiff, Nat.reduceMul, Nat.reduceBEq, Nat.reduceLT, Int.reduceToNat, reduceCtorEq]; first | done | exact rfl | (and_intros <;> rfl)) | exact rfl | decide)); (focus (first | (simp only [go_sem, Nat.reduceEqDiff, Nat.reduceAdd, Nat.reduceSub, Nat.reduceLeDiff, Nat.reduceMul, Nat.reduceBEq, Nat.reduceLT, Int.reduceToNat, reduceCtorEq]; first | done | exact rfl | (and_intros <;> rfl)) | exact rfl | decide)); (focus (first | (simp only [go_sem, Nat.reduceEqDiff, Nat.reduceAdd, Nat.reduceSub, Nat.reduceLeDiff, Nat.reduceMul, Nat.reduceBEq, Nat.reduceLT, Int.reduceToNat, reduceCtorEq]; first | done | exact rfl | (and_intros <;> rfl)) | exact rfl | decide)); (focus (first | (simp only [go_sem, Nat.reduceEqDiff, Nat.reduceAdd, Nat.reduceSub, Nat.reduceLeDiff, Nat.reduceMul, Nat.reduceBEq, Nat.reduceLT, Int.reduceToNat, reduceCtorEq]; first | done | exact rfl | (and_intros <;> rfl)) | exact rfl | decide)); (focus (first | (simp only [go_sem, Nat.reduceEqDiff, Nat.reduceAdd, Nat.reduceSub, Nat.reduceLeDiff, Nat.reduceMul, Nat.reduceBEq, Nat.reduceLT, Int.reduceToNat, reduceCtorEq]; first | done | exact rfl | (and_intros <;> rfl)) | exact rfl | decide)); (focus (first | (simp only [go_sem, Nat.reduceEqDiff, Nat.reduceAdd, Nat.reduceSub, Nat.reduceLeDiff, Nat.reduceMul, Nat.reduceBEq, Nat.reduceLT, Int.reduceToNat, reduceCtorEq]; first | done | exact rfl | (and_intros <;> rfl)) | exact rfl | decide)); (focus (first | (simp only [go_sem, Nat.reduceEqDiff, Nat.reduceAdd, Nat.reduceSub, Nat.reduceLeDiff, Nat.reduceMul, Nat.reduceBEq, Nat.reduceLT, Int.reduceToNat, reduceCtorEq]; first | done | exact rfl | (and_intros <;> rfl)) | exact rfl | decide)))
        refine wRUN trivial ?_
        refine w7 (op_data [] hv) trivial ?_
        refine wRUN (j6 hde hg hbz h1 h2 h3) ?_
        refine w9 (op_shared [] hno) trivial ?_
        refine wRUN trivial ?_
        exact wRet (ret_data []) Tryz.results77
    have ht := tail _ _ _ rfl rfl rfl
    rw [← hdt] at ht
    revert ht
    cases dt with
    | true => exact fun h => h
    | false => exact fun h => h
   ·have hde : decide ((e : Int) < (s.size : Int)) = false := by simpa using hes
    rw [hend (by omega)]
    simp only [Bool.false_eq_true, if_false]
    unfold rdA rdOk
    refine wEnter Tryz.func77 Tryz.ntmps77 ?_
    refine wRUN trivial ?_
    refine w7 (op_data [] hn) trivial ?_
    refine wRUN hl0 ?_
    (apply (op_sub (y := s.extract i e) (i := (i : Int)) (j := (e : Int)) (s := s) rfl (by omega) (by omega) (by omega) t3); (focus (first | (simp only [go_sem, Nat.reduceEqDiff, Nat.reduceAdd, Nat.reduceSub, Nat.reduceLeDiff, Nat.reduceMul, Nat.reduceBEq, Nat.reduceLT, Int.reduceToNat, reduceCtorEq]; first | done | exact rfl | (and_intros <;> rfl)) | exact rfl | decide)); (focus (first | (simp only [go_sem, Nat.reduceEqDiff, Nat.reduceAdd, Nat.reduceSub, Nat.reduceLeDiff, Nat.reduceMul, Nat.reduceBEq, Nat.reduceLT, Int.reduceToNat, reduceCtorEq]; first | done | exact rfl | (and_intros <;> rfl)) | exact rfl | decide)); (focus (first | (simp only [go_sem, Nat.reduceEqDiff, Nat.reduceAdd, Nat.reduceSub, Nat.reduceLeDiff, Nat.reduceMul, Nat.reduceBEq, Nat.reduceLT, Int.reduceToNat, reduceCtorEq]; first | done | exact rfl | (and_intros <;> rfl)) | exact rfl | decide)); (focus (first | (simp only [go_sem, Nat.reduceEqDiff, Nat.reduceAdd, Nat.reduceSub, Nat.reduceLeDiff, Nat.reduceMul, Nat.reduceBEq, Nat.reduceLT, Int.reduceToNat, reduceCtorEq]; first | done | exact rfl | (and_intros <;> rfl)) | exact rfl | decide)); (focus (first | (simp only [go_sem, Nat.reduceEqDiff, Nat.reduceAdd, Nat.reduceSub, Nat.reduceLeDiff, Nat.reduceMul, Nat.reduceBEq, Nat.reduceLT, Int.reduceToNat, reduceCtorEq]; first | done | exact rfl | (and_intros <;> rfl)) | exact rfl | decide)); (focus (first | (simp only [go_sem, Nat.reduceEqDiff, Nat.reduceAdd, Nat.reduceSub, Nat.reduceLeDiff, Nat.reduceMul, Nat.reduceBEq, Nat.reduceLT, Int.reduceToNat, reduceCtorEq]; first | done | exact rfl | (and_intros <;> rfl)) | exact rfl | decide)); (focus (first | (simp only [go_sem, Nat.reduceEqDiff, Nat.reduceAdd, Nat.reduceSub, Nat.reduceLeDiff, Nat.reduceMul, Nat.reduceBEq, Nat.reduceLT, Int.reduceToNat, reduceCtorEq]; first | done | exact rfl | (and_intros <;> rfl)) | exact rfl | decide)))
    refine wRUN trivial ?_
    refine w7 (op_data [] hv) trivial ?_
    refine wRUN hde ?_
    refine w9 (op_shared [] hno) trivial ?_
    refine wRUN trivial ?_
    exact wRet (ret_data []) Tryz.results77
end Go.Proofs.YtlciedpfjhkkdaaGreatDoor
