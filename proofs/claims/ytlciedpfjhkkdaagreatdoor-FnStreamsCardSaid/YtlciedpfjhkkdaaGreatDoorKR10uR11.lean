/- Texts of this proof: R10 R11. -/
import Derived.Test.YtlciedpfjhkkdaaGreatDoorKM47uR09
import Derived.Test.YtlciedpfjhkkdaaGreatDoorKE6
import Derived.Test.YtlciedpfjhkkdaaGreatDoorKG04uG20
import Derived.Lib.ItoaLen
import Derived.Lib.ItoaMem
import Derived.Test.YtlciedpfjhkkdaaGreatDoorKR07uR08
set_option linter.unusedSimpArgs false
set_option linter.unusedVariables false
set_option linter.unnecessarySimpa false
set_option maxHeartbeats 8000000
namespace Go.Proofs.YtlciedpfjhkkdaaGreatDoor
open Go.RowKit
set_option maxRecDepth 10000
theorem str_mk_append (a b : List UInt8) : (⟨a.toArray⟩ : ByteArray) ++ ⟨b.toArray⟩ = ⟨(a ++ b).toArray⟩ := by
 apply ByteArray.ext
 simp
theorem digits_size (n : Nat) (h : n ≤ 9223372036854775807) : (⟨(Lib.decDigits n).toArray⟩ : ByteArray).size ≤ 21 := by
 have h1 := Lib.itoa_length_le n (by omega) (by omega)
 rw [Lib.itoa_nonneg] at h1
 show (Lib.decDigits n).toArray.size ≤ 21
 simpa using h1
theorem digit_cells (n : Nat) (h : n < 10) : byteRows [UInt8.ofNat (48 + n)] = [[.int .u8 (48 + (n : Int))]] := by
 have : (UInt8.ofNat (48 + n)).toNat = 48 + n := by simp; omega
 simp only [byteRows, List.map_cons, List.map_nil, this]
 rfl
theorem u8_wrap {n : Int} (h0 : 0 ≤ n) (h1 : n < 256) : IntKind.u8.wrap n = n := IntWalk.u8_in _ (by omega)
theorem digits_ac : ∀ (k n : Nat), n < k → n ≤ 9223372036854775807 → AC Tryz.prog 206 [.c (.int .i64 n)] [] (.c (.str ⟨(Lib.decDigits n).toArray⟩)) [] := by
 intro k
 induction k with
 | zero => intro n h; omega
 | succ k ih =>
  intro n hn hm
  have t1 := Tryz.underlying29
  have t2 := Tryz.underlying5
  have t3 := Tryz.underlying9
  by_cases h : n < 10
  ·have hd : decide ((n : Int) < 10) = true := decide_eq_true (by omega)
   have hb := digit_cells n h
   have h1 : IntKind.i64.wrap (48 + (n : Int)) = 48 + (n : Int) := IntWalk.i64_in _ (by omega)
   have h2 : IntKind.u8.wrap (48 + (n : Int)) = 48 + (n : Int) := u8_wrap (by omega) (by omega)
   rw [Lib.decDigits_one h]
   generalize hy : (⟨[UInt8.ofNat (48 + n)].toArray⟩ : ByteArray) = y
   refine wEnter Tryz.func206 Tryz.ntmps206 ?_
   refine wRUN (j3 hd h1 h2) ?_
   (apply (op_conv [UInt8.ofNat (48 + n)] hy (by simp) t1 t2 t3); (focus (first | (simp only [go_sem, Nat.reduceEqDiff, Nat.reduceAdd, Nat.reduceSub, Nat.reduceLeDiff, Nat.reduceMul, Nat.reduceBEq, Nat.reduceLT, Int.reduceToNat, reduceCtorEq]; first | done | exact rfl | (and_intros <;> rfl)) | exact rfl | decide)); (focus (first | (simp only [go_sem, Nat.reduceEqDiff, Nat.reduceAdd, Nat.reduceSub, Nat.reduceLeDiff, Nat.reduceMul, Nat.reduceBEq, Nat.reduceLT, Int.reduceToNat, reduceCtorEq]; first | done | exact rfl | (and_intros <;> rfl)) | exact rfl | decide)); (focus (first | (simp only [go_sem, Nat.reduceEqDiff, Nat.reduceAdd, Nat.reduceSub, Nat.reduceLeDiff, Nat.reduceMul, Nat.reduceBEq, Nat.reduceLT, Int.reduceToNat, reduceCtorEq]; first | done | exact rfl | (and_intros <;> rfl)) | exact rfl | decide)); (focus (first | (simp only [go_sem, Nat.reduceEqDiff, Nat.reduceAdd, Nat.reduceSub, Nat.reduceLeDiff, Nat.reduceMul, Nat.reduceBEq, Nat.reduceLT, Int.reduceToNat, reduceCtorEq, hb]; first | done | exact rfl | (and_intros <;> rfl)) | exact rfl | decide)); (focus (first | (simp only [go_sem, Nat.reduceEqDiff, Nat.reduceAdd, Nat.reduceSub, Nat.reduceLeDiff, Nat.reduceMul, Nat.reduceBEq, Nat.reduceLT, Int.reduceToNat, reduceCtorEq]; first | done | exact rfl | (and_intros <;> rfl)) | exact rfl | decide)); (focus (first | (simp only [go_sem, Nat.reduceEqDiff, Nat.reduceAdd, Nat.reduceSub, Nat.reduceLeDiff, Nat.reduceMul, Nat.reduceBEq, Nat.reduceLT, Int.reduceToNat, reduceCtorEq]; first | done | exact rfl | (and_intros <;> rfl)) | exact rfl | decide)))
   refine wRUN (j3 hd h1 h2) ?_
   exact wRet (ret_data []) Tryz.results206
  ·have hd : decide ((n : Int) < 10) = false := decide_eq_false (by omega)
   have hq : IntKind.i64.wrap ((n : Int).tdiv 10) = ((n / 10 : Nat) : Int) := by
    rw [show ((n : Int).tdiv 10) = ((n / 10 : Nat) : Int) by rw [Int.tdiv_eq_ediv_of_nonneg (by omega)]; rfl]
    exact IntWalk.i64_in _ (by omega)
   have hr : (n : Int).tmod 10 = ((n % 10 : Nat) : Int) := by rw [Int.tmod_eq_emod_of_nonneg (by omega)]; rfl
   have hrw : IntKind.i64.wrap ((n % 10 : Nat) : Int) = ((n % 10 : Nat) : Int) := IntWalk.i64_in _ (by omega)
   have h1 : IntKind.i64.wrap (48 + ((n % 10 : Nat) : Int)) = 48 + ((n % 10 : Nat) : Int) := IntWalk.i64_in _ (by omega)
   have h2 : IntKind.u8.wrap (48 + ((n % 10 : Nat) : Int)) = 48 + ((n % 10 : Nat) : Int) := u8_wrap (by omega) (by omega)
   have hb := digit_cells (n % 10) (by omega)
   have ihn := ih (n / 10) (by omega) (by omega)
   have hs1 := digits_size (n / 10) (by omega)
   have hs2 : (⟨(Lib.decDigits (n / 10)).toArray⟩ : ByteArray).size + (⟨[UInt8.ofNat (48 + n % 10)].toArray⟩ : ByteArray).size ≤ 9223372036854775807 := by
    have : (⟨[UInt8.ofNat (48 + n % 10)].toArray⟩ : ByteArray).size = 1 := rfl
    omega
   have happ : (⟨(Lib.decDigits (n / 10)).toArray⟩ : ByteArray) ++ ⟨[UInt8.ofNat (48 + n % 10)].toArray⟩ = ⟨(Lib.decDigits n).toArray⟩ := by
    rw [str_mk_append]
    congr 2
    rw [Lib.decDigits.eq_1 n, dif_neg h]
   generalize hx : (⟨(Lib.decDigits (n / 10)).toArray⟩ : ByteArray) = x at *
   generalize hm0 : n % 10 = m0 at *
   generalize hy : (⟨[UInt8.ofNat (48 + m0)].toArray⟩ : ByteArray) = y at *
   refine wEnter Tryz.func206 Tryz.ntmps206 ?_
   refine wRUN (j6 hd hq hr hrw h1 h2) ?_
   refine w7 (op_data [] ihn) trivial ?_
   refine wRUN (j6 hd hq hr hrw h1 h2) ?_
   (apply (op_conv [UInt8.ofNat (48 + m0)] hy (by simp) t1 t2 t3); (focus (first | (simp only [go_sem, Nat.reduceEqDiff, Nat.reduceAdd, Nat.reduceSub, Nat.reduceLeDiff, Nat.reduceMul, Nat.reduceBEq, Nat.reduceLT, Int.reduceToNat, reduceCtorEq]; first | done | exact rfl | (and_intros <;> rfl)) | exact rfl | decide)); (focus (first | (simp only [go_sem, Nat.reduceEqDiff, Nat.reduceAdd, Nat.reduceSub, Nat.reduceLeDiff, Nat.reduceMul, Nat.reduceBEq, Nat.reduceLT, Int.reduceToNat, reduceCtorEq]; first | done | exact rfl | (and_intros <;> rfl)) | exact rfl | decide)); (focus (first | (simp only [go_sem, Nat.reduceEqDiff, Nat.reduceAdd, Nat.reduceSub, Nat.reduceLeDiff, Nat.reduceMul, Nat.reduceBEq, Nat.reduceLT, Int.reduceToNat, reduceCtorEq]; first | done | exact rfl | (and_intros <;> rfl)) | exact rfl | decide)); (focus (first | (simp only [go_sem, Nat.reduceEqDiff, Nat.reduceAdd, Nat.reduceSub, Nat.reduceLeDiff, Nat.reduceMul, Nat.reduceBEq, Nat.reduceLT, Int.reduceToNat, reduceCtorEq, hb]; first | done | exact rfl | (and_intros <;> rfl)) | exact rfl | decide)); (focus (first | (simp only [go_sem, Nat.reduceEqDiff, Nat.reduceAdd, Nat.reduceSub, Nat.reduceLeDiff, Nat.reduceMul, Nat.reduceBEq, Nat.reduceLT, Int.reduceToNat, reduceCtorEq]; first | done | exact rfl | (and_intros <;> rfl)) | exact rfl | decide)); (focus (first | (simp only [go_sem, Nat.reduceEqDiff, Nat.reduceAdd, Nat.reduceSub, Nat.reduceLeDiff, Nat.reduceMul, Nat.reduceBEq, Nat.reduceLT, Int.reduceToNat, reduceCtorEq]; first | done | exact rfl | (and_intros <;> rfl)) | exact rfl | decide)))
   refine wRUN (j2 hs2 happ) ?_
   exact wRet (ret_data []) Tryz.results206
theorem itoa_of_nonneg {n : Int} (h : ¬ n < 0) : Lib.itoa n = Lib.decDigits n.toNat := by unfold Lib.itoa; rw [if_neg h]
theorem itoa_of_neg {n : Int} (h : n < 0) : Lib.itoa n = 45 :: Lib.decDigits n.natAbs := by unfold Lib.itoa; rw [if_pos h]
theorem decimal_ac (n : Int) (h0 : -9223372036854775807 ≤ n) (h1 : n ≤ 9223372036854775807) : AC Tryz.prog 176 [.c (.int .i64 n)] [] (.c (.str (numS n))) [] := by
 by_cases h : n < 0
 ·have hd : decide (n < 0) = true := decide_eq_true h
  have hw : IntKind.i64.wrap (0 - n) = ((n.natAbs : Nat) : Int) := by rw [IntWalk.i64_in _ (by omega)]; omega
  have hc := digits_ac (n.natAbs + 1) n.natAbs (by omega) (by omega)
  have hs := digits_size n.natAbs (by omega)
  have happ : (⟨#[45]⟩ : ByteArray) ++ ⟨(Lib.decDigits n.natAbs).toArray⟩ = numS n := by
   unfold numS
   rw [itoa_of_neg h]
   exact str_mk_append [45] _
  have hsz : 1 + (⟨(Lib.decDigits n.natAbs).toArray⟩ : ByteArray).size ≤ 9223372036854775807 := by omega
  generalize (⟨(Lib.decDigits n.natAbs).toArray⟩ : ByteArray) = x at *
  refine wEnter Tryz.func176 Tryz.ntmps176 ?_
  refine wRUN (j2 hd hw) ?_
  refine w7 (op_data [] hc) trivial ?_
  refine wRUN (j2 hsz happ) ?_
  exact wRet (ret_data []) Tryz.results176
 ·have hd : decide (n < 0) = false := decide_eq_false h
  have hc := digits_ac (n.toNat + 1) n.toNat (by omega) (by omega)
  have hn : ((n.toNat : Nat) : Int) = n := by omega
  have hx : (⟨(Lib.decDigits n.toNat).toArray⟩ : ByteArray) = numS n := by
   unfold numS
   rw [itoa_of_nonneg h]
  rw [hn, hx] at hc
  refine wEnter Tryz.func176 Tryz.ntmps176 ?_
  refine wRUN hd ?_
  refine w7 (op_data [] hc) trivial ?_
  refine wRUN trivial ?_
  exact wRet (ret_data []) Tryz.results176
set_option maxRecDepth 10000
theorem encodeString_ac (s : ByteArray) (hs : s.size ≤ 1000000) : AC Tryz.prog 113 [.c (.str s)] [] (.c (.str (encS s))) [] := by
 refine AC.of_calls fun S w κ vs hv => ?_
 obtain ⟨v, vs', rfl, ⟨rfl, _⟩, rfl⟩ := hv
 refine (encodeString_walk s hs w).mono ?_
 rintro e w' ⟨rfl, hb⟩
 exact ⟨hb, _, rfl, fun T _ _ => ⟨rfl, rfl⟩⟩
def escK (s : ByteArray) (k : Nat) : ByteArray := ⟨#[34]⟩ ++ ⟨(escL (s.data.toList.take k)).toArray⟩
theorem escK_zero (s : ByteArray) : escK s 0 = ⟨#[34]⟩ := rfl
theorem escK_size (s : ByteArray) (hs : s.size ≤ 1000000) (k : Nat) : (escK s k).size ≤ 2000001 := by
 have h1 := escL_len (s.data.toList.take k)
 have h2 : cz (s.data.toList.take k) ≤ (s.data.toList.take k).length := List.length_filter_le _ _
 have h3 : s.data.toList.length = s.size := Array.length_toList
 have h4 : (s.data.toList.take k).length ≤ s.data.toList.length := by rw [List.length_take]; omega
 have h5 : (escK s k).size = 1 + (escL (s.data.toList.take k)).length := by
  unfold escK
  rw [ByteArray.size_append]
  rfl
 omega
theorem escK_all (s : ByteArray) : escK s s.size ++ ⟨#[34]⟩ = encS s := by
 have h3 : s.data.toList.length = s.size := Array.length_toList
 unfold escK encS
 rw [← h3, List.take_length]
theorem escK_next (s : ByteArray) {k : Nat} {b : UInt8} (h : s.data.toList[k]? = some b) : escK s (k + 1) = escK s k ++ ⟨(escB b).toArray⟩ := by
 obtain ⟨hk, rfl⟩ := List.getElem?_eq_some_iff.1 h
 unfold escK escL
 rw [List.take_succ_eq_append_getElem hk, List.flatMap_append, ← str_mk_append, ByteArray.append_assoc]
 simp
theorem str_at {s : ByteArray} {k : Nat} (h : k < s.size) : s[k]? = some s.data.toList[k]! ∧ s.data.toList[k]? = some s.data.toList[k]! := by
 have h3 : s.data.toList.length = s.size := Array.length_toList
 have h4 : k < s.data.toList.length := by omega
 rw [List.getElem!_eq_getElem?_getD, List.getElem?_eq_getElem h4]
 refine ⟨?_, rfl⟩
 rw [getElem?_pos s k h]
 rfl
theorem str_sub {s : ByteArray} {k : Nat} {b : UInt8} (h : s.data.toList[k]? = some b) : s.extract k (k + 1) = ⟨#[b]⟩ := by
 obtain ⟨hk, rfl⟩ := List.getElem?_eq_some_iff.1 h
 apply ByteArray.ext
 apply Array.ext'
 rw [ByteArray.data_extract, Array.toList_extract, List.extract_eq_take_drop]
 rw [List.drop_eq_getElem_cons hk]
 simp
theorem quote_ac (s : ByteArray) (hs : s.size ≤ 1000000) : AC Tryz.prog 177 [.c (.str s)] [] (.c (.str (encS s))) [] := by
 have t3 := Tryz.underlying9
 refine wEnter Tryz.func177 Tryz.ntmps177 ?_
 refine wRUN1 trivial ?_
 refine a_region ?_
 refine wRUN1 trivial ?_
 refine a_region ?_
 refine wRUN1 trivial ?_
 refine a_region ?_
 refine wRUN1 trivial ?_
 refine a_loop (κ := Nat) (fun k => ⟨mkS 0 32 [(0, .c (.str s)), (3, .c (.str (escK s k))), (4, .c (.int .i64 k))], []⟩) (fun k => k ≤ s.size) (fun k => s.size - k) 0 (Nat.zero_le _) ?_ ?_
 ·(apply (Says.of [] []); (iterate 2 ((focus (simp only [go_sem, Nat.reduceEqDiff, Nat.reduceAdd, Nat.reduceSub, Nat.reduceLeDiff, Nat.reduceMul, Nat.reduceBEq, Nat.reduceLT, Int.reduceToNat, reduceCtorEq, escK_zero]; try (and_intros <;> rfl))); (focus exact rfl))); (iterate 4 (focus (simp [go_sem, escK_zero]; done))))
 ·intro k hk1
  have hz := escK_size s hs k
  by_cases hlt : k < s.size
  ·have hdk : decide ((k : Int) < (s.size : Int)) = true := by simpa using hlt
   have hw := wrap_succ (k := k) (by omega)
   obtain ⟨hg, hg2⟩ := str_at hlt
   generalize s.data.toList[k]! = b at *
   have hsub := str_sub hg2
   have hnx := escK_next s hg2
   have hsb : (s.extract ((k : Nat) : Int).toNat (((k + 1 : Nat)) : Int).toNat) = ⟨#[b]⟩ := hsub
   have hk2 : ((k + 1 : Nat) : Int) ≤ (s.size : Int) := by omega
   have hx1 : (escK s k).size + 1 ≤ 9223372036854775807 := by omega
   by_cases hsp : b = 34 ∨ b = 92
   ·have hu2 : (escK s k ++ ⟨#[92]⟩).size + 1 ≤ 9223372036854775807 := by rw [ByteArray.size_append]; have : (⟨#[92]⟩ : ByteArray).size = 1 := rfl; omega
    have hnx2 : (escK s k ++ ⟨#[92]⟩) ++ ⟨#[b]⟩ = escK s (k + 1) := by
     rw [hnx, ByteArray.append_assoc]
     rcases hsp with rfl | rfl <;> rfl
    generalize hu : escK s k ++ ⟨#[92]⟩ = u at *
    rcases hsp with rfl | rfl
    ·have e1 : (((34 : UInt8).toNat : Int) == 34) = true := rfl
     refine wRUN (j6 hdk hg e1 hx1 hu hw) ?_
     (apply (op_sub (y := ⟨#[34]⟩) (i := (k : Int)) (j := ((k + 1 : Nat) : Int)) (s := s) hsb (by omega) (by omega) hk2 t3); (focus (first | (simp only [go_sem, Nat.reduceEqDiff, Nat.reduceAdd, Nat.reduceSub, Nat.reduceLeDiff, Nat.reduceMul, Nat.reduceBEq, Nat.reduceLT, Int.reduceToNat, reduceCtorEq]; first | done | exact rfl | (and_intros <;> rfl)) | exact rfl | decide)); (focus (first | (simp only [go_sem, Nat.reduceEqDiff, Nat.reduceAdd, Nat.reduceSub, Nat.reduceLeDiff, Nat.reduceMul, Nat.reduceBEq, Nat.reduceLT, Int.reduceToNat, reduceCtorEq]; first | done | exact rfl | (and_intros <;> rfl)) | exact rfl | decide)); (focus (first | (simp only [go_sem, Nat.reduceEqDiff, Nat.reduceAdd, Nat.reduceSub, Nat.reduceLeDiff, Nat.reduceMul, Nat.reduceBEq, Nat.reduceLT, Int.reduceToNat, reduceCtorEq]; first | done | exact rfl | (and_intros <;> rfl)) | exact rfl | decide)); (focus (first | (simp only [go_sem, Nat.reduceEqDiff, Nat.reduceAdd, Nat.reduceSub, Nat.reduceLeDiff, Nat.reduceMul, Nat.reduceBEq, Nat.reduceLT, Int.reduceToNat, reduceCtorEq]; first | done | exact rfl | (and_intros <;> rfl)) | exact rfl | decide)); (focus (first | (simp only [go_sem, Nat.reduceEqDiff, Nat.reduceAdd, Nat.reduceSub, Nat.reduceLeDiff, Nat.reduceMul, Nat.reduceBEq, Nat.reduceLT, Int.reduceToNat, reduceCtorEq]; first | done | exact rfl | (and_intros <;> rfl)) | exact rfl | decide)); (focus (first | (simp only [go_sem, Nat.reduceEqDiff, Nat.reduceAdd, Nat.reduceSub, Nat.reduceLeDiff, Nat.reduceMul, Nat.reduceBEq, Nat.reduceLT, Int.reduceToNat, reduceCtorEq]; first | done | exact rfl | (and_intros <;> rfl)) | exact rfl | decide)); (focus (first | (simp only [go_sem, Nat.reduceEqDiff, Nat.reduceAdd, Nat.reduceSub, Nat.reduceLeDiff, Nat.reduceMul, Nat.reduceBEq, Nat.reduceLT, Int.reduceToNat, reduceCtorEq]; first | done | exact rfl | (and_intros <;> rfl)) | exact rfl | decide)))
     refine wRUN (j3 hu2 hnx2 hw) ?_
     refine ⟨k + 1, by omega, by omega, ?_⟩
     exact wSays (Says.of [] []) trivial
    ·have e1 : (((92 : UInt8).toNat : Int) == 34) = false := rfl
     have e2 : (((92 : UInt8).toNat : Int) == 92) = true := rfl
     refine wRUN (j7 hdk hg e1 e2 hx1 hu hw) ?_
     (apply (op_sub (y := ⟨#[92]⟩) (i := (k : Int)) (j := ((k + 1 : Nat) : Int)) (s := s) hsb (by omega) (by omega) hk2 t3); (focus (first | (simp only [go_sem, Nat.reduceEqDiff, Nat.reduceAdd, Nat.reduceSub, Nat.reduceLeDiff, Nat.reduceMul, Nat.reduceBEq, Nat.reduceLT, Int.reduceToNat, reduceCtorEq]; first | done | exact rfl | (and_intros <;> rfl)) | exact rfl | decide)); (focus (first | (simp only [go_sem, Nat.reduceEqDiff, Nat.reduceAdd, Nat.reduceSub, Nat.reduceLeDiff, Nat.reduceMul, Nat.reduceBEq, Nat.reduceLT, Int.reduceToNat, reduceCtorEq]; first | done | exact rfl | (and_intros <;> rfl)) | exact rfl | decide)); (focus (first | (simp only [go_sem, Nat.reduceEqDiff, Nat.reduceAdd, Nat.reduceSub, Nat.reduceLeDiff, Nat.reduceMul, Nat.reduceBEq, Nat.reduceLT, Int.reduceToNat, reduceCtorEq]; first | done | exact rfl | (and_intros <;> rfl)) | exact rfl | decide)); (focus (first | (simp only [go_sem, Nat.reduceEqDiff, Nat.reduceAdd, Nat.reduceSub, Nat.reduceLeDiff, Nat.reduceMul, Nat.reduceBEq, Nat.reduceLT, Int.reduceToNat, reduceCtorEq]; first | done | exact rfl | (and_intros <;> rfl)) | exact rfl | decide)); (focus (first | (simp only [go_sem, Nat.reduceEqDiff, Nat.reduceAdd, Nat.reduceSub, Nat.reduceLeDiff, Nat.reduceMul, Nat.reduceBEq, Nat.reduceLT, Int.reduceToNat, reduceCtorEq]; first | done | exact rfl | (and_intros <;> rfl)) | exact rfl | decide)); (focus (first | (simp only [go_sem, Nat.reduceEqDiff, Nat.reduceAdd, Nat.reduceSub, Nat.reduceLeDiff, Nat.reduceMul, Nat.reduceBEq, Nat.reduceLT, Int.reduceToNat, reduceCtorEq]; first | done | exact rfl | (and_intros <;> rfl)) | exact rfl | decide)); (focus (first | (simp only [go_sem, Nat.reduceEqDiff, Nat.reduceAdd, Nat.reduceSub, Nat.reduceLeDiff, Nat.reduceMul, Nat.reduceBEq, Nat.reduceLT, Int.reduceToNat, reduceCtorEq]; first | done | exact rfl | (and_intros <;> rfl)) | exact rfl | decide)))
     refine wRUN (j3 hu2 hnx2 hw) ?_
     refine ⟨k + 1, by omega, by omega, ?_⟩
     exact wSays (Says.of [] []) trivial
   ·have e1 : ((b.toNat : Int) == 34) = false := by
     rw [beq_eq_false_iff_ne]
     intro h
     exact hsp (.inl (UInt8.toNat_inj.1 (Int.ofNat_inj.1 h)))
    have e2 : ((b.toNat : Int) == 92) = false := by
     rw [beq_eq_false_iff_ne]
     intro h
     exact hsp (.inr (UInt8.toNat_inj.1 (Int.ofNat_inj.1 h)))
    have hnx2 : escK s k ++ ⟨#[b]⟩ = escK s (k + 1) := by
     rw [hnx]
     congr 1
     simp only [not_or] at hsp
     simp [escB, hsp.1, hsp.2]
    refine wRUN (j5 hdk hg e1 e2 hw) ?_
    (apply (op_sub (y := ⟨#[b]⟩) (i := (k : Int)) (j := ((k + 1 : Nat) : Int)) (s := s) hsb (by omega) (by omega) hk2 t3); (focus (first | (simp only [go_sem, Nat.reduceEqDiff, Nat.reduceAdd, Nat.reduceSub, Nat.reduceLeDiff, Nat.reduceMul, Nat.reduceBEq, Nat.reduceLT, Int.reduceToNat, reduceCtorEq]; first | done | exact rfl | (and_intros <;> rfl)) | exact rfl | decide)); (focus (first | (simp only [go_sem, Nat.reduceEqDiff, Nat.reduceAdd, Nat.reduceSub, Nat.reduceLeDiff, Nat.reduceMul, Nat.reduceBEq, Nat.reduceLT, Int.reduceToNat, reduceCtorEq]; first | done | exact rfl | (and_intros <;> rfl)) | exact rfl | decide)); (focus (first | (simp only [go_sem, Nat.reduceEqDiff, Nat.reduceAdd, Nat.reduceSub, Nat.reduceLeDiff, Nat.reduceMul, Nat.reduceBEq, Nat.reduceLT, Int.reduceToNat, reduceCtorEq]; first | done | exact rfl | (and_intros <;> rfl)) | exact rfl | decide)); (focus (first | (simp only [go_sem, Nat.reduceEqDiff, Nat.reduceAdd, Nat.reduceSub, Nat.reduceLeDiff, Nat.reduceMul, Nat.reduceBEq, Nat.reduceLT, Int.reduceToNat, reduceCtorEq]; first | done | exact rfl | (and_intros <;> rfl)) | exact rfl | decide)); (focus (first | (simp only [go_sem, Nat.reduceEqDiff, Nat.reduceAdd, Nat.reduceSub, Nat.reduceLeDiff, Nat.reduceMul, Nat.reduceBEq, Nat.reduceLT, Int.reduceToNat, reduceCtorEq]; first | done | exact rfl | (and_intros <;> rfl)) | exact rfl | decide)); (focus (first | (simp only [go_sem, Nat.reduceEqDiff, Nat.reduceAdd, Nat.reduceSub, Nat.reduceLeDiff, Nat.reduceMul, Nat.reduceBEq, Nat.reduceLT, Int.reduceToNat, reduceCtorEq]; first | done | exact rfl | (and_intros <;> rfl)) | exact rfl | decide)); (focus (first | (simp only [go_sem, Nat.reduceEqDiff, Nat.reduceAdd, Nat.reduceSub, Nat.reduceLeDiff, Nat.reduceMul, Nat.reduceBEq, Nat.reduceLT, Int.reduceToNat, reduceCtorEq]; first | done | exact rfl | (and_intros <;> rfl)) | exact rfl | decide)))
    refine wRUN (j3 hx1 hnx2 hw) ?_
    refine ⟨k + 1, by omega, by omega, ?_⟩
    exact wSays (Says.of [] []) trivial
  ·have hdk : decide ((k : Int) < (s.size : Int)) = false := by simpa using hlt
   obtain rfl : k = s.size := by omega
   have hx1 : (escK s s.size).size + 1 ≤ 9223372036854775807 := by omega
   have ha := escK_all s
   refine wRUN (j3 hdk hx1 ha) ?_
   exact wRet (ret_data []) Tryz.results177
end Go.Proofs.YtlciedpfjhkkdaaGreatDoor
