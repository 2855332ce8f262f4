/- spec.l2Quote, by the engine; impl.encodeString as a contract. -/
import Derived.Test.YtfmnoljflcpbgaaGreatDoorKR09uR10
import Derived.Test.YtfmnoljflcpbgaaGreatDoorKR07uR08
set_option linter.unusedSimpArgs false
set_option linter.unusedVariables false
set_option linter.unnecessarySimpa false
namespace Go.Proofs.YtfmnoljflcpbgaaGreatDoor
open Go.RowKit
set_option maxRecDepth 10000
theorem encodeString_ac (s : ByteArray) (hs : s.size ≤ 1000000) : AC Tryz.prog 104 [.c (.str s)] [] (.c (.str (encS s))) [] := by
  refine AC.of_calls fun S w κ vs hv => ?_
  obtain ⟨v, vs', rfl, ⟨rfl, _⟩, rfl⟩ := hv
  refine (encodeString_walk s hs w).mono ?_
  rintro e w' ⟨rfl, hb⟩
  exact ⟨hb, _, rfl, fun T _ _ => ⟨rfl, rfl⟩⟩
/-- The first k bytes, as JSON has them. -/
def escK (s : ByteArray) (k : Nat) : ByteArray := ⟨#[34]⟩ ++ ⟨(escL (s.data.toList.take k)).toArray⟩
theorem escK_zero (s : ByteArray) : escK s 0 = ⟨#[34]⟩ := rfl
theorem escK_size (s : ByteArray) (hs : s.size ≤ 1000000) (k : Nat) : (escK s k).size ≤ 2000001 := by
  have h1 := escL_len (s.data.toList.take k)
  have h2 : cz (s.data.toList.take k) ≤ (s.data.toList.take k).length := List.length_filter_le _ _
  have h3 : s.data.toList.length = s.size := Array.length_toList
  have h4 : (s.data.toList.take k).length ≤ s.data.toList.length := by rw [List.length_take]; omega
  have h5 : (escK s k).size = 1 + (escL (s.data.toList.take k)).length := by
    unfold escK
    rw [ByteArray.size_append]
    rfl
  omega
theorem escK_all (s : ByteArray) : escK s s.size ++ ⟨#[34]⟩ = encS s := by
  have h3 : s.data.toList.length = s.size := Array.length_toList
  unfold escK encS
  rw [← h3, List.take_length]
theorem escK_next (s : ByteArray) {k : Nat} {b : UInt8} (h : s.data.toList[k]? = some b) : escK s (k + 1) = escK s k ++ ⟨(escB b).toArray⟩ := by
  obtain ⟨hk, rfl⟩ := List.getElem?_eq_some_iff.1 h
  unfold escK escL
  rw [List.take_succ_eq_append_getElem hk, List.flatMap_append, ← str_mk_append, ByteArray.append_assoc]
  simp
theorem str_at {s : ByteArray} {k : Nat} (h : k < s.size) : s[k]? = some s.data.toList[k]! ∧ s.data.toList[k]? = some s.data.toList[k]! := by
  have h3 : s.data.toList.length = s.size := Array.length_toList
  have h4 : k < s.data.toList.length := by omega
  rw [List.getElem!_eq_getElem?_getD, List.getElem?_eq_getElem h4]
  refine ⟨?_, rfl⟩
  rw [getElem?_pos s k h]
  rfl
theorem str_sub {s : ByteArray} {k : Nat} {b : UInt8} (h : s.data.toList[k]? = some b) : s.extract k (k + 1) = ⟨#[b]⟩ := by
  obtain ⟨hk, rfl⟩ := List.getElem?_eq_some_iff.1 h
  apply ByteArray.ext
  apply Array.ext'
  rw [ByteArray.data_extract, Array.toList_extract, List.extract_eq_take_drop]
  rw [List.drop_eq_getElem_cons hk]
  simp
set_option maxHeartbeats 8000000 in
theorem quote_ac (s : ByteArray) (hs : s.size ≤ 1000000) : AC Tryz.prog 100 [.c (.str s)] [] (.c (.str (encS s))) [] := by
  have t3 := Tryz.underlying9
  refine wEnter Tryz.func100 Tryz.ntmps100 ?_
  refine wRUN1 trivial ?_
  refine a_region ?_
  refine wRUN1 trivial ?_
  refine a_region ?_
  refine wRUN1 trivial ?_
  refine a_region ?_
  refine wRUN1 trivial ?_
  refine a_loop (κ := Nat) (fun k => ⟨mkS 0 32 [(0, .c (.str s)), (3, .c (.str (escK s k))), (4, .c (.int .i64 k))], []⟩) (fun k => k ≤ s.size) (fun k => s.size - k) 0 (Nat.zero_le _) ?_ ?_
  · (apply (Says.of [] []); (iterate 2 ((focus (simp only [go_sem, Nat.reduceEqDiff, Nat.reduceAdd, Nat.reduceSub, Nat.reduceLeDiff, Nat.reduceMul, Nat.reduceBEq, Nat.reduceLT, Int.reduceToNat, reduceCtorEq, escK_zero]; try (and_intros <;> rfl))); (focus exact rfl))); (iterate 4 (focus (simp [go_sem, escK_zero]; done))))
  · intro k hk1
    have hz := escK_size s hs k
    by_cases hlt : k < s.size
    · have hdk : decide ((k : Int) < (s.size : Int)) = true := by simpa using hlt
      have hw := wrap_succ (k := k) (by omega)
      obtain ⟨hg, hg2⟩ := str_at hlt
      generalize s.data.toList[k]! = b at *
      have hsub := str_sub hg2
      have hnx := escK_next s hg2
      have hsb : (s.extract ((k : Nat) : Int).toNat (((k + 1 : Nat)) : Int).toNat) = ⟨#[b]⟩ := hsub
      have hk2 : ((k + 1 : Nat) : Int) ≤ (s.size : Int) := by omega
      have hx1 : (escK s k).size + 1 ≤ 9223372036854775807 := by omega
      by_cases hsp : b = 34 ∨ b = 92
      · have hu2 : (escK s k ++ ⟨#[92]⟩).size + 1 ≤ 9223372036854775807 := by rw [ByteArray.size_append]; have : (⟨#[92]⟩ : ByteArray).size = 1 := rfl; omega
        have hnx2 : (escK s k ++ ⟨#[92]⟩) ++ ⟨#[b]⟩ = escK s (k + 1) := by
          rw [hnx, ByteArray.append_assoc]
          rcases hsp with rfl | rfl <;> rfl
        generalize hu : escK s k ++ ⟨#[92]⟩ = u at *
        rcases hsp with rfl | rfl
        · have e1 : (((34 : UInt8).toNat : Int) == 34) = true := rfl
          refine wRUN (j6 hdk hg e1 hx1 hu hw) ?_
          (apply (op_sub (y := ⟨#[34]⟩) (i := (k : Int)) (j := ((k + 1 : Nat) : Int)) (s := s) hsb (by omega) (by omega) hk2 t3); (focus (first | (simp only [go_sem, Nat.reduceEqDiff, Nat.reduceAdd, Nat.reduceSub, Nat.reduceLeDiff, Nat.reduceMul, Nat.reduceBEq, Nat.reduceLT, Int.reduceToNat, reduceCtorEq]; first | done | exact rfl | (and_intros <;> rfl)) | exact rfl | decide)); (focus (first | (simp only [go_sem, Nat.reduceEqDiff, Nat.reduceAdd, Nat.reduceSub, Nat.reduceLeDiff, Nat.reduceMul, Nat.reduceBEq, Nat.reduceLT, Int.reduceToNat, reduceCtorEq]; first | done | exact rfl | (and_intros <;> rfl)) | exact rfl | decide)); (focus (first | (simp only [go_sem, Nat.reduceEqDiff, Nat.reduceAdd, Nat.reduceSub, Nat.reduceLeDiff, Nat.reduceMul, Nat.reduceBEq, Nat.reduceLT, Int.reduceToNat, reduceCtorEq]; first | done | exact rfl | (and_intros <;> rfl)) | exact rfl | decide)); (focus (first | (simp only [go_sem, Nat.reduceEqDiff, Nat.reduceAdd, Nat.reduceSub, Nat.reduceLeDiff, Nat.reduceMul, Nat.reduceBEq, Nat.reduceLT, Int.reduceToNat, reduceCtorEq]; first | done | exact rfl | (and_intros <;> rfl)) | exact rfl | decide)); (focus (first | (simp only [go_sem, Nat.reduceEqDiff, Nat.reduceAdd, Nat.reduceSub, Nat.reduceLeDiff, Nat.reduceMul, Nat.reduceBEq, Nat.reduceLT, Int.reduceToNat, reduceCtorEq]; first | done | exact rfl | (and_intros <;> rfl)) | exact rfl | decide)); (focus (first | (simp only [go_sem, Nat.reduceEqDiff, Nat.reduceAdd, Nat.reduceSub, Nat.reduceLeDiff, Nat.reduceMul, Nat.reduceBEq, Nat.reduceLT, Int.reduceToNat, reduceCtorEq]; first | done | exact rfl | (and_intros <;> rfl)) | exact rfl | decide)); (focus (first | (simp only [go_sem, Nat.reduceEqDiff, Nat.reduceAdd, Nat.reduceSub, Nat.reduceLeDiff, Nat.reduceMul, Nat.reduceBEq, Nat.reduceLT, Int.reduceToNat, reduceCtorEq]; first | done | exact rfl | (and_intros <;> rfl)) | exact rfl | decide)))
          refine wRUN (j3 hu2 hnx2 hw) ?_
          refine ⟨k + 1, by omega, by omega, ?_⟩
          exact wSays (Says.of [] []) trivial
        · have e1 : (((92 : UInt8).toNat : Int) == 34) = false := rfl
          have e2 : (((92 : UInt8).toNat : Int) == 92) = true := rfl
          refine wRUN (j7 hdk hg e1 e2 hx1 hu hw) ?_
          (apply (op_sub (y := ⟨#[92]⟩) (i := (k : Int)) (j := ((k + 1 : Nat) : Int)) (s := s) hsb (by omega) (by omega) hk2 t3); (focus (first | (simp only [go_sem, Nat.reduceEqDiff, Nat.reduceAdd, Nat.reduceSub, Nat.reduceLeDiff, Nat.reduceMul, Nat.reduceBEq, Nat.reduceLT, Int.reduceToNat, reduceCtorEq]; first | done | exact rfl | (and_intros <;> rfl)) | exact rfl | decide)); (focus (first | (simp only [go_sem, Nat.reduceEqDiff, Nat.reduceAdd, Nat.reduceSub, Nat.reduceLeDiff, Nat.reduceMul, Nat.reduceBEq, Nat.reduceLT, Int.reduceToNat, reduceCtorEq]; first | done | exact rfl | (and_intros <;> rfl)) | exact rfl | decide)); (focus (first | (simp only [go_sem, Nat.reduceEqDiff, Nat.reduceAdd, Nat.reduceSub, Nat.reduceLeDiff, Nat.reduceMul, Nat.reduceBEq, Nat.reduceLT, Int.reduceToNat, reduceCtorEq]; first | done | exact rfl | (and_intros <;> rfl)) | exact rfl | decide)); (focus (first | (simp only [go_sem, Nat.reduceEqDiff, Nat.reduceAdd, Nat.reduceSub, Nat.reduceLeDiff, Nat.reduceMul, Nat.reduceBEq, Nat.reduceLT, Int.reduceToNat, reduceCtorEq]; first | done | exact rfl | (and_intros <;> rfl)) | exact rfl | decide)); (focus (first | (simp only [go_sem, Nat.reduceEqDiff, Nat.reduceAdd, Nat.reduceSub, Nat.reduceLeDiff, Nat.reduceMul, Nat.reduceBEq, Nat.reduceLT, Int.reduceToNat, reduceCtorEq]; first | done | exact rfl | (and_intros <;> rfl)) | exact rfl | decide)); (focus (first | (simp only [go_sem, Nat.reduceEqDiff, Nat.reduceAdd, Nat.reduceSub, Nat.reduceLeDiff, Nat.reduceMul, Nat.reduceBEq, Nat.reduceLT, Int.reduceToNat, reduceCtorEq]; first | done | exact rfl | (and_intros <;> rfl)) | exact rfl | decide)); (focus (first | (simp only [go_sem, Nat.reduceEqDiff, Nat.reduceAdd, Nat.reduceSub, Nat.reduceLeDiff, Nat.reduceMul, Nat.reduceBEq, Nat.reduceLT, Int.reduceToNat, reduceCtorEq]; first | done | exact rfl | (and_intros <;> rfl)) | exact rfl | decide)))
          refine wRUN (j3 hu2 hnx2 hw) ?_
          refine ⟨k + 1, by omega, by omega, ?_⟩
          exact wSays (Says.of [] []) trivial
      · have e1 : ((b.toNat : Int) == 34) = false := by
          rw [beq_eq_false_iff_ne]
          intro h
          exact hsp (.inl (UInt8.toNat_inj.1 (Int.ofNat_inj.1 h)))
        have e2 : ((b.toNat : Int) == 92) = false := by
          rw [beq_eq_false_iff_ne]
          intro h
          exact hsp (.inr (UInt8.toNat_inj.1 (Int.ofNat_inj.1 h)))
        have hnx2 : escK s k ++ ⟨#[b]⟩ = escK s (k + 1) := by
          rw [hnx]
          congr 1
          simp only [not_or] at hsp
          simp [escB, hsp.1, hsp.2]
        refine wRUN (j5 hdk hg e1 e2 hw) ?_
        (apply (op_sub (y := ⟨#[b]⟩) (i := (k : Int)) (j := ((k + 1 : Nat) : Int)) (s := s) hsb (by omega) (by omega) hk2 t3); (focus (first | (simp only [go_sem, Nat.reduceEqDiff, Nat.reduceAdd, Nat.reduceSub, Nat.reduceLeDiff, Nat.reduceMul, Nat.reduceBEq, Nat.reduceLT, Int.reduceToNat, reduceCtorEq]; first | done | exact rfl | (and_intros <;> rfl)) | exact rfl | decide)); (focus (first | (simp only [go_sem, Nat.reduceEqDiff, Nat.reduceAdd, Nat.reduceSub, Nat.reduceLeDiff, Nat.reduceMul, Nat.reduceBEq, Nat.reduceLT, Int.reduceToNat, reduceCtorEq]; first | done | exact rfl | (and_intros <;> rfl)) | exact rfl | decide)); (focus (first | (simp only [go_sem, Nat.reduceEqDiff, Nat.reduceAdd, Nat.reduceSub, Nat.reduceLeDiff, Nat.reduceMul, Nat.reduceBEq, Nat.reduceLT, Int.reduceToNat, reduceCtorEq]; first | done | exact rfl | (and_intros <;> rfl)) | exact rfl | decide)); (focus (first | (simp only [go_sem, Nat.reduceEqDiff, Nat.reduceAdd, Nat.reduceSub, Nat.reduceLeDiff, Nat.reduceMul, Nat.reduceBEq, Nat.reduceLT, Int.reduceToNat, reduceCtorEq]; first | done | exact rfl | (and_intros <;> rfl)) | exact rfl | decide)); (focus (first | (simp only [go_sem, Nat.reduceEqDiff, Nat.reduceAdd, Nat.reduceSub, Nat.reduceLeDiff, Nat.reduceMul, Nat.reduceBEq, Nat.reduceLT, Int.reduceToNat, reduceCtorEq]; first | done | exact rfl | (and_intros <;> rfl)) | exact rfl | decide)); (focus (first | (simp only [go_sem, Nat.reduceEqDiff, Nat.reduceAdd, Nat.reduceSub, Nat.reduceLeDiff, Nat.reduceMul, Nat.reduceBEq, Nat.reduceLT, Int.reduceToNat, reduceCtorEq]; first | done | exact rfl | (and_intros <;> rfl)) | exact rfl | decide)); (focus (first | (simp only [go_sem, Nat.reduceEqDiff, Nat.reduceAdd, Nat.reduceSub, Nat.reduceLeDiff, Nat.reduceMul, Nat.reduceBEq, Nat.reduceLT, Int.reduceToNat, reduceCtorEq]; first | done | exact rfl | (and_intros <;> rfl)) | exact rfl | decide)))
        refine wRUN (j3 hx1 hnx2 hw) ?_
        refine ⟨k + 1, by omega, by omega, ?_⟩
        exact wSays (Says.of [] []) trivial
    · have hdk : decide ((k : Int) < (s.size : Int)) = false := by simpa using hlt
      obtain rfl : k = s.size := by omega
      have hx1 : (escK s s.size).size + 1 ≤ 9223372036854775807 := by omega
      have ha := escK_all s
      refine wRUN (j3 hdk hx1 ha) ?_
      exact wRet (ret_data []) Tryz.results100
end Go.Proofs.YtfmnoljflcpbgaaGreatDoor
