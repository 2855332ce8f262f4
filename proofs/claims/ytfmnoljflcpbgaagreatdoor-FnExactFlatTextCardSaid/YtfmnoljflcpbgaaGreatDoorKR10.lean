/- spec.l2Digits, l2Decimal, by the engine: a number's digits. -/
import Derived.Test.YtfmnoljflcpbgaaGreatDoorKE35uG02
import Derived.Test.YtfmnoljflcpbgaaGreatDoorKE6
import Derived.Test.YtfmnoljflcpbgaaGreatDoorKG04
import Derived.Test.YtfmnoljflcpbgaaGreatDoorKR09
import Derived.Lib.ItoaLen
import Derived.Lib.ItoaMem
set_option linter.unusedSimpArgs false
set_option linter.unusedVariables false
set_option linter.unnecessarySimpa false
namespace Go.Proofs.YtfmnoljflcpbgaaGreatDoor
open Go.RowKit
set_option maxRecDepth 10000
theorem str_mk_append (a b : List UInt8) : (⟨a.toArray⟩ : ByteArray) ++ ⟨b.toArray⟩ = ⟨(a ++ b).toArray⟩ := by
  apply ByteArray.ext
  simp
theorem digits_size (n : Nat) (h : n ≤ 9223372036854775807) : (⟨(Lib.decDigits n).toArray⟩ : ByteArray).size ≤ 21 := by
  have h1 := Lib.itoa_length_le n (by omega) (by omega)
  rw [Lib.itoa_nonneg] at h1
  show (Lib.decDigits n).toArray.size ≤ 21
  simpa using h1
theorem digit_cells (n : Nat) (h : n < 10) : byteRows [UInt8.ofNat (48 + n)] = [[.int .u8 (48 + (n : Int))]] := by
  have : (UInt8.ofNat (48 + n)).toNat = 48 + n := by simp; omega
  simp only [byteRows, List.map_cons, List.map_nil, this]
  rfl
theorem u8_wrap {n : Int} (h0 : 0 ≤ n) (h1 : n < 256) : IntKind.u8.wrap n = n := IntWalk.u8_in _ (by omega)
set_option maxHeartbeats 8000000 in
theorem digits_ac : ∀ (k n : Nat), n < k → n ≤ 9223372036854775807 → AC Tryz.prog 70 [.c (.int .i64 n)] [] (.c (.str ⟨(Lib.decDigits n).toArray⟩)) [] := by
  intro k
  induction k with
  | zero => intro n h; omega
  | succ k ih =>
    intro n hn hm
    have t1 := Tryz.underlying52
    have t2 := Tryz.underlying5
    have t3 := Tryz.underlying9
    by_cases h : n < 10
    · have hd : decide ((n : Int) < 10) = true := decide_eq_true (by omega)
      have hb := digit_cells n h
      have h1 : IntKind.i64.wrap (48 + (n : Int)) = 48 + (n : Int) := IntWalk.i64_in _ (by omega)
      have h2 : IntKind.u8.wrap (48 + (n : Int)) = 48 + (n : Int) := u8_wrap (by omega) (by omega)
      rw [Lib.decDigits_one h]
      generalize hy : (⟨[UInt8.ofNat (48 + n)].toArray⟩ : ByteArray) = y
      refine wEnter Tryz.func70 Tryz.ntmps70 ?_
      refine wRUN (j3 hd h1 h2) ?_
      (apply (op_conv [UInt8.ofNat (48 + n)] hy (by simp) t1 t2 t3); (focus (first | (simp only [go_sem, Nat.reduceEqDiff, Nat.reduceAdd, Nat.reduceSub, Nat.reduceLeDiff, Nat.reduceMul, Nat.reduceBEq, Nat.reduceLT, Int.reduceToNat, reduceCtorEq]; first | done | exact rfl | (and_intros <;> rfl)) | exact rfl | decide)); (focus (first | (simp only [go_sem, Nat.reduceEqDiff, Nat.reduceAdd, Nat.reduceSub, Nat.reduceLeDiff, Nat.reduceMul, Nat.reduceBEq, Nat.reduceLT, Int.reduceToNat, reduceCtorEq]; first | done | exact rfl | (and_intros <;> rfl)) | exact rfl | decide)); (focus (first | (simp only [go_sem, Nat.reduceEqDiff, Nat.reduceAdd, Nat.reduceSub, Nat.reduceLeDiff, Nat.reduceMul, Nat.reduceBEq, Nat.reduceLT, Int.reduceToNat, reduceCtorEq]; first | done | exact rfl | (and_intros <;> rfl)) | exact rfl | decide)); (focus (first | (simp only [go_sem, Nat.reduceEqDiff, Nat.reduceAdd, Nat.reduceSub, Nat.reduceLeDiff, Nat.reduceMul, Nat.reduceBEq, Nat.reduceLT, Int.reduceToNat, reduceCtorEq, hb]; first | done | exact rfl | (and_intros <;> rfl)) | exact rfl | decide)); (focus (first | (simp only [go_sem, Nat.reduceEqDiff, Nat.reduceAdd, Nat.reduceSub, Nat.reduceLeDiff, Nat.reduceMul, Nat.reduceBEq, Nat.reduceLT, Int.reduceToNat, reduceCtorEq]; first | done | exact rfl | (and_intros <;> rfl)) | exact rfl | decide)); (focus (first | (simp only [go_sem, Nat.reduceEqDiff, Nat.reduceAdd, Nat.reduceSub, Nat.reduceLeDiff, Nat.reduceMul, Nat.reduceBEq, Nat.reduceLT, Int.reduceToNat, reduceCtorEq]; first | done | exact rfl | (and_intros <;> rfl)) | exact rfl | decide)))
      refine wRUN (j3 hd h1 h2) ?_
      exact wRet (ret_data []) Tryz.results70
    · have hd : decide ((n : Int) < 10) = false := decide_eq_false (by omega)
      have hq : IntKind.i64.wrap ((n : Int).tdiv 10) = ((n / 10 : Nat) : Int) := by
        rw [show ((n : Int).tdiv 10) = ((n / 10 : Nat) : Int) by rw [Int.tdiv_eq_ediv_of_nonneg (by omega)]; rfl]
        exact IntWalk.i64_in _ (by omega)
      have hr : (n : Int).tmod 10 = ((n % 10 : Nat) : Int) := by rw [Int.tmod_eq_emod_of_nonneg (by omega)]; rfl
      have hrw : IntKind.i64.wrap ((n % 10 : Nat) : Int) = ((n % 10 : Nat) : Int) := IntWalk.i64_in _ (by omega)
      have h1 : IntKind.i64.wrap (48 + ((n % 10 : Nat) : Int)) = 48 + ((n % 10 : Nat) : Int) := IntWalk.i64_in _ (by omega)
      have h2 : IntKind.u8.wrap (48 + ((n % 10 : Nat) : Int)) = 48 + ((n % 10 : Nat) : Int) := u8_wrap (by omega) (by omega)
      have hb := digit_cells (n % 10) (by omega)
      have ihn := ih (n / 10) (by omega) (by omega)
      have hs1 := digits_size (n / 10) (by omega)
      have hs2 : (⟨(Lib.decDigits (n / 10)).toArray⟩ : ByteArray).size + (⟨[UInt8.ofNat (48 + n % 10)].toArray⟩ : ByteArray).size ≤ 9223372036854775807 := by
        have : (⟨[UInt8.ofNat (48 + n % 10)].toArray⟩ : ByteArray).size = 1 := rfl
        omega
      have happ : (⟨(Lib.decDigits (n / 10)).toArray⟩ : ByteArray) ++ ⟨[UInt8.ofNat (48 + n % 10)].toArray⟩ = ⟨(Lib.decDigits n).toArray⟩ := by
        rw [str_mk_append]
        congr 2
        rw [Lib.decDigits.eq_1 n, dif_neg h]
      generalize hx : (⟨(Lib.decDigits (n / 10)).toArray⟩ : ByteArray) = x at *
      generalize hm0 : n % 10 = m0 at *
      generalize hy : (⟨[UInt8.ofNat (48 + m0)].toArray⟩ : ByteArray) = y at *
      refine wEnter Tryz.func70 Tryz.ntmps70 ?_
      refine wRUN (j6 hd hq hr hrw h1 h2) ?_
      refine w7 (op_data [] ihn) trivial ?_
      refine wRUN (j6 hd hq hr hrw h1 h2) ?_
      (apply (op_conv [UInt8.ofNat (48 + m0)] hy (by simp) t1 t2 t3); (focus (first | (simp only [go_sem, Nat.reduceEqDiff, Nat.reduceAdd, Nat.reduceSub, Nat.reduceLeDiff, Nat.reduceMul, Nat.reduceBEq, Nat.reduceLT, Int.reduceToNat, reduceCtorEq]; first | done | exact rfl | (and_intros <;> rfl)) | exact rfl | decide)); (focus (first | (simp only [go_sem, Nat.reduceEqDiff, Nat.reduceAdd, Nat.reduceSub, Nat.reduceLeDiff, Nat.reduceMul, Nat.reduceBEq, Nat.reduceLT, Int.reduceToNat, reduceCtorEq]; first | done | exact rfl | (and_intros <;> rfl)) | exact rfl | decide)); (focus (first | (simp only [go_sem, Nat.reduceEqDiff, Nat.reduceAdd, Nat.reduceSub, Nat.reduceLeDiff, Nat.reduceMul, Nat.reduceBEq, Nat.reduceLT, Int.reduceToNat, reduceCtorEq]; first | done | exact rfl | (and_intros <;> rfl)) | exact rfl | decide)); (focus (first | (simp only [go_sem, Nat.reduceEqDiff, Nat.reduceAdd, Nat.reduceSub, Nat.reduceLeDiff, Nat.reduceMul, Nat.reduceBEq, Nat.reduceLT, Int.reduceToNat, reduceCtorEq, hb]; first | done | exact rfl | (and_intros <;> rfl)) | exact rfl | decide)); (focus (first | (simp only [go_sem, Nat.reduceEqDiff, Nat.reduceAdd, Nat.reduceSub, Nat.reduceLeDiff, Nat.reduceMul, Nat.reduceBEq, Nat.reduceLT, Int.reduceToNat, reduceCtorEq]; first | done | exact rfl | (and_intros <;> rfl)) | exact rfl | decide)); (focus (first | (simp only [go_sem, Nat.reduceEqDiff, Nat.reduceAdd, Nat.reduceSub, Nat.reduceLeDiff, Nat.reduceMul, Nat.reduceBEq, Nat.reduceLT, Int.reduceToNat, reduceCtorEq]; first | done | exact rfl | (and_intros <;> rfl)) | exact rfl | decide)))
      refine wRUN (j2 hs2 happ) ?_
      exact wRet (ret_data []) Tryz.results70
theorem itoa_of_nonneg {n : Int} (h : ¬ n < 0) : Lib.itoa n = Lib.decDigits n.toNat := by unfold Lib.itoa; rw [if_neg h]
theorem itoa_of_neg {n : Int} (h : n < 0) : Lib.itoa n = 45 :: Lib.decDigits n.natAbs := by unfold Lib.itoa; rw [if_pos h]
set_option maxHeartbeats 8000000 in
theorem decimal_ac (n : Int) (h0 : -9223372036854775807 ≤ n) (h1 : n ≤ 9223372036854775807) : AC Tryz.prog 99 [.c (.int .i64 n)] [] (.c (.str (numS n))) [] := by
  by_cases h : n < 0
  · have hd : decide (n < 0) = true := decide_eq_true h
    have hw : IntKind.i64.wrap (0 - n) = ((n.natAbs : Nat) : Int) := by rw [IntWalk.i64_in _ (by omega)]; omega
    have hc := digits_ac (n.natAbs + 1) n.natAbs (by omega) (by omega)
    have hs := digits_size n.natAbs (by omega)
    have happ : (⟨#[45]⟩ : ByteArray) ++ ⟨(Lib.decDigits n.natAbs).toArray⟩ = numS n := by
      unfold numS
      rw [itoa_of_neg h]
      exact str_mk_append [45] _
    have hsz : 1 + (⟨(Lib.decDigits n.natAbs).toArray⟩ : ByteArray).size ≤ 9223372036854775807 := by omega
    generalize (⟨(Lib.decDigits n.natAbs).toArray⟩ : ByteArray) = x at *
    refine wEnter Tryz.func99 Tryz.ntmps99 ?_
    refine wRUN (j2 hd hw) ?_
    refine w7 (op_data [] hc) trivial ?_
    refine wRUN (j2 hsz happ) ?_
    exact wRet (ret_data []) Tryz.results99
  · have hd : decide (n < 0) = false := decide_eq_false h
    have hc := digits_ac (n.toNat + 1) n.toNat (by omega) (by omega)
    have hn : ((n.toNat : Nat) : Int) = n := by omega
    have hx : (⟨(Lib.decDigits n.toNat).toArray⟩ : ByteArray) = numS n := by
      unfold numS
      rw [itoa_of_nonneg h]
    rw [hn, hx] at hc
    refine wEnter Tryz.func99 Tryz.ntmps99 ?_
    refine wRUN hd ?_
    refine w7 (op_data [] hc) trivial ?_
    refine wRUN trivial ?_
    exact wRet (ret_data []) Tryz.results99
end Go.Proofs.YtfmnoljflcpbgaaGreatDoor
