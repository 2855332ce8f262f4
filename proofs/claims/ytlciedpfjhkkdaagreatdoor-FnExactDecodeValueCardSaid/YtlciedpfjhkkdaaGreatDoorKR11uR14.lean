/- Texts of this proof: R11 G26 G55 R12 R14. -/
import Derived.Test.YtlciedpfjhkkdaaGreatDoorKG81uR10
import Derived.Test.YtlciedpfjhkkdaaGreatDoorKR07uR08
import Derived.Test.YtlciedpfjhkkdaaGreatDoorKD02uG08
import Derived.Test.YtlciedpfjhkkdaaGreatDoorKL1uS02
import Derived.Test.YtlciedpfjhkkdaaGreatDoorKE5
import Derived.Test.YtlciedpfjhkkdaaGreatDoorKM2
import Derived.Test.YtlciedpfjhkkdaaGreatDoorKG22uG9
import Derived.Test.YtlciedpfjhkkdaaGreatDoorKG04uM29
set_option linter.unusedSimpArgs false
set_option linter.unusedVariables false
set_option linter.unnecessarySimpa false
set_option maxHeartbeats 8000000
namespace Go.Proofs.YtlciedpfjhkkdaaGreatDoor
open Go.RowKit
set_option maxRecDepth 10000
theorem encodeString_ac (s : ByteArray) (hs : s.size ≤ 1000000) : AC Tryz.prog 113 [.c (.str s)] [] (.c (.str (encS s))) [] := by
 refine AC.of_calls fun S w κ vs hv => ?_
 obtain ⟨v, vs', rfl, ⟨rfl, _⟩, rfl⟩ := hv
 refine (encodeString_walk s hs w).mono ?_
 rintro e w' ⟨rfl, hb⟩
 exact ⟨hb, _, rfl, fun T _ _ => ⟨rfl, rfl⟩⟩
def escK (s : ByteArray) (k : Nat) : ByteArray := ⟨#[34]⟩ ++ ⟨(escL (s.data.toList.take k)).toArray⟩
theorem escK_zero (s : ByteArray) : escK s 0 = ⟨#[34]⟩ := rfl
theorem escK_size (s : ByteArray) (hs : s.size ≤ 1000000) (k : Nat) : (escK s k).size ≤ 2000001 := by
 have h1 := escL_len (s.data.toList.take k)
 have h2 : cz (s.data.toList.take k) ≤ (s.data.toList.take k).length := List.length_filter_le _ _
 have h3 : s.data.toList.length = s.size := Array.length_toList
 have h4 : (s.data.toList.take k).length ≤ s.data.toList.length := by rw [List.length_take]; omega
 have h5 : (escK s k).size = 1 + (escL (s.data.toList.take k)).length := by
  unfold escK
  rw [ByteArray.size_append]
  rfl
 omega
theorem escK_all (s : ByteArray) : escK s s.size ++ ⟨#[34]⟩ = encS s := by
 have h3 : s.data.toList.length = s.size := Array.length_toList
 unfold escK encS
 rw [← h3, List.take_length]
theorem escK_next (s : ByteArray) {k : Nat} {b : UInt8} (h : s.data.toList[k]? = some b) : escK s (k + 1) = escK s k ++ ⟨(escB b).toArray⟩ := by
 obtain ⟨hk, rfl⟩ := List.getElem?_eq_some_iff.1 h
 unfold escK escL
 rw [List.take_succ_eq_append_getElem hk, List.flatMap_append, ← str_mk_append, ByteArray.append_assoc]
 simp
theorem str_at {s : ByteArray} {k : Nat} (h : k < s.size) : s[k]? = some s.data.toList[k]! ∧ s.data.toList[k]? = some s.data.toList[k]! := by
 have h3 : s.data.toList.length = s.size := Array.length_toList
 have h4 : k < s.data.toList.length := by omega
 rw [List.getElem!_eq_getElem?_getD, List.getElem?_eq_getElem h4]
 refine ⟨?_, rfl⟩
 rw [getElem?_pos s k h]
 rfl
theorem str_sub {s : ByteArray} {k : Nat} {b : UInt8} (h : s.data.toList[k]? = some b) : s.extract k (k + 1) = ⟨#[b]⟩ := by
 obtain ⟨hk, rfl⟩ := List.getElem?_eq_some_iff.1 h
 apply ByteArray.ext
 apply Array.ext'
 rw [ByteArray.data_extract, Array.toList_extract, List.extract_eq_take_drop]
 rw [List.drop_eq_getElem_cons hk]
 simp
theorem quote_ac (s : ByteArray) (hs : s.size ≤ 1000000) : AC Tryz.prog 177 [.c (.str s)] [] (.c (.str (encS s))) [] := by
 have t3 := Tryz.underlying9
 refine wEnter Tryz.func177 Tryz.ntmps177 ?_
 refine wRUN1 trivial ?_
 refine a_region ?_
 refine wRUN1 trivial ?_
 refine a_region ?_
 refine wRUN1 trivial ?_
 refine a_region ?_
 refine wRUN1 trivial ?_
 refine a_loop (κ := Nat) (fun k => ⟨mkS 0 32 [(0, .c (.str s)), (3, .c (.str (escK s k))), (4, .c (.int .i64 k))], []⟩) (fun k => k ≤ s.size) (fun k => s.size - k) 0 (Nat.zero_le _) ?_ ?_
 ·(apply (Says.of [] []); (iterate 2 ((focus (simp only [go_sem, Nat.reduceEqDiff, Nat.reduceAdd, Nat.reduceSub, Nat.reduceLeDiff, Nat.reduceMul, Nat.reduceBEq, Nat.reduceLT, Int.reduceToNat, reduceCtorEq, escK_zero]; try (and_intros <;> rfl))); (focus exact rfl))); (iterate 4 (focus (simp [go_sem, escK_zero]; done))))
 ·intro k hk1
  have hz := escK_size s hs k
  by_cases hlt : k < s.size
  ·have hdk : decide ((k : Int) < (s.size : Int)) = true := by simpa using hlt
   have hw := wrap_succ (k := k) (by omega)
   obtain ⟨hg, hg2⟩ := str_at hlt
   generalize s.data.toList[k]! = b at *
   have hsub := str_sub hg2
   have hnx := escK_next s hg2
   have hsb : (s.extract ((k : Nat) : Int).toNat (((k + 1 : Nat)) : Int).toNat) = ⟨#[b]⟩ := hsub
   have hk2 : ((k + 1 : Nat) : Int) ≤ (s.size : Int) := by omega
   have hx1 : (escK s k).size + 1 ≤ 9223372036854775807 := by omega
   by_cases hsp : b = 34 ∨ b = 92
   ·have hu2 : (escK s k ++ ⟨#[92]⟩).size + 1 ≤ 9223372036854775807 := by rw [ByteArray.size_append]; have : (⟨#[92]⟩ : ByteArray).size = 1 := rfl; omega
    have hnx2 : (escK s k ++ ⟨#[92]⟩) ++ ⟨#[b]⟩ = escK s (k + 1) := by
     rw [hnx, ByteArray.append_assoc]
     rcases hsp with rfl | rfl <;> rfl
    generalize hu : escK s k ++ ⟨#[92]⟩ = u at *
    rcases hsp with rfl | rfl
    ·have e1 : (((34 : UInt8).toNat : Int) == 34) = true := rfl
     refine wRUN (j6 hdk hg e1 hx1 hu hw) ?_
     (apply (op_sub (y := ⟨#[34]⟩) (i := (k : Int)) (j := ((k + 1 : Nat) : Int)) (s := s) hsb (by omega) (by omega) hk2 t3); (focus (first | (simp only [go_sem, Nat.reduceEqDiff, Nat.reduceAdd, Nat.reduceSub, Nat.reduceLeDiff, Nat.reduceMul, Nat.reduceBEq, Nat.reduceLT, Int.reduceToNat, reduceCtorEq]; first | done | exact rfl | (and_intros <;> rfl)) | exact rfl | decide)); (focus (first | (simp only [go_sem, Nat.reduceEqDiff, Nat.reduceAdd, Nat.reduceSub, Nat.reduceLeDiff, Nat.reduceMul, Nat.reduceBEq, Nat.reduceLT, Int.reduceToNat, reduceCtorEq]; first | done | exact rfl | (and_intros <;> rfl)) | exact rfl | decide)); (focus (first | (simp only [go_sem, Nat.reduceEqDiff, Nat.reduceAdd, Nat.reduceSub, Nat.reduceLeDiff, Nat.reduceMul, Nat.reduceBEq, Nat.reduceLT, Int.reduceToNat, reduceCtorEq]; first | done | exact rfl | (and_intros <;> rfl)) | exact rfl | decide)); (focus (first | (simp only [go_sem, Nat.reduceEqDiff, Nat.reduceAdd, Nat.reduceSub, Nat.reduceLeDiff, Nat.reduceMul, Nat.reduceBEq, Nat.reduceLT, Int.reduceToNat, reduceCtorEq]; first | done | exact rfl | (and_intros <;> rfl)) | exact rfl | decide)); (focus (first | (simp only [go_sem, Nat.reduceEqDiff, Nat.reduceAdd, Nat.reduceSub, Nat.reduceLeDiff, Nat.reduceMul, Nat.reduceBEq, Nat.reduceLT, Int.reduceToNat, reduceCtorEq]; first | done | exact rfl | (and_intros <;> rfl)) | exact rfl | decide)); (focus (first | (simp only [go_sem, Nat.reduceEqDiff, Nat.reduceAdd, Nat.reduceSub, Nat.reduceLeDiff, Nat.reduceMul, Nat.reduceBEq, Nat.reduceLT, Int.reduceToNat, reduceCtorEq]; first | done | exact rfl | (and_intros <;> rfl)) | exact rfl | decide)); (focus (first | (simp only [go_sem, Nat.reduceEqDiff, Nat.reduceAdd, Nat.reduceSub, Nat.reduceLeDiff, Nat.reduceMul, Nat.reduceBEq, Nat.reduceLT, Int.reduceToNat, reduceCtorEq]; first | done | exact rfl | (and_intros <;> rfl)) | exact rfl | decide)))
     refine wRUN (j3 hu2 hnx2 hw) ?_
     refine ⟨k + 1, by omega, by omega, ?_⟩
     exact wSays (Says.of [] []) trivial
    ·have e1 : (((92 : UInt8).toNat : Int) == 34) = false := rfl
     have e2 : (((92 : UInt8).toNat : Int) == 92) = true := rfl
     refine wRUN (j7 hdk hg e1 e2 hx1 hu hw) ?_
     (apply (op_sub (y := ⟨#[92]⟩) (i := (k : Int)) (j := ((k + 1 : Nat) : Int)) (s := s) hsb (by omega) (by omega) hk2 t3); (focus (first | (simp only [go_sem, Nat.reduceEqDiff, Nat.reduceAdd, Nat.reduceSub, Nat.reduceLeDiff, Nat.reduceMul, Nat.reduceBEq, Nat.reduceLT, Int.reduceToNat, reduceCtorEq]; first | done | exact rfl | (and_intros <;> rfl)) | exact rfl | decide)); (focus (first | (simp only [go_sem, Nat.reduceEqDiff, Nat.reduceAdd, Nat.reduceSub, Nat.reduceLeDiff, Nat.reduceMul, Nat.reduceBEq, Nat.reduceLT, Int.reduceToNat, reduceCtorEq]; first | done | exact rfl | (and_intros <;> rfl)) | exact rfl | decide)); (focus (first | (simp only [go_sem, Nat.reduceEqDiff, Nat.reduceAdd, Nat.reduceSub, Nat.reduceLeDiff, Nat.reduceMul, Nat.reduceBEq, Nat.reduceLT, Int.reduceToNat, reduceCtorEq]; first | done | exact rfl | (and_intros <;> rfl)) | exact rfl | decide)); (focus (first | (simp only [go_sem, Nat.reduceEqDiff, Nat.reduceAdd, Nat.reduceSub, Nat.reduceLeDiff, Nat.reduceMul, Nat.reduceBEq, Nat.reduceLT, Int.reduceToNat, reduceCtorEq]; first | done | exact rfl | (and_intros <;> rfl)) | exact rfl | decide)); (focus (first | (simp only [go_sem, Nat.reduceEqDiff, Nat.reduceAdd, Nat.reduceSub, Nat.reduceLeDiff, Nat.reduceMul, Nat.reduceBEq, Nat.reduceLT, Int.reduceToNat, reduceCtorEq]; first | done | exact rfl | (and_intros <;> rfl)) | exact rfl | decide)); (focus (first | (simp only [go_sem, Nat.reduceEqDiff, Nat.reduceAdd, Nat.reduceSub, Nat.reduceLeDiff, Nat.reduceMul, Nat.reduceBEq, Nat.reduceLT, Int.reduceToNat, reduceCtorEq]; first | done | exact rfl | (and_intros <;> rfl)) | exact rfl | decide)); (focus (first | (simp only [go_sem, Nat.reduceEqDiff, Nat.reduceAdd, Nat.reduceSub, Nat.reduceLeDiff, Nat.reduceMul, Nat.reduceBEq, Nat.reduceLT, Int.reduceToNat, reduceCtorEq]; first | done | exact rfl | (and_intros <;> rfl)) | exact rfl | decide)))
     refine wRUN (j3 hu2 hnx2 hw) ?_
     refine ⟨k + 1, by omega, by omega, ?_⟩
     exact wSays (Says.of [] []) trivial
   ·have e1 : ((b.toNat : Int) == 34) = false := by
     rw [beq_eq_false_iff_ne]
     intro h
     exact hsp (.inl (UInt8.toNat_inj.1 (Int.ofNat_inj.1 h)))
    have e2 : ((b.toNat : Int) == 92) = false := by
     rw [beq_eq_false_iff_ne]
     intro h
     exact hsp (.inr (UInt8.toNat_inj.1 (Int.ofNat_inj.1 h)))
    have hnx2 : escK s k ++ ⟨#[b]⟩ = escK s (k + 1) := by
     rw [hnx]
     congr 1
     simp only [not_or] at hsp
     simp [escB, hsp.1, hsp.2]
    refine wRUN (j5 hdk hg e1 e2 hw) ?_
    (apply (op_sub (y := ⟨#[b]⟩) (i := (k : Int)) (j := ((k + 1 : Nat) : Int)) (s := s) hsb (by omega) (by omega) hk2 t3); (focus (first | (simp only [go_sem, Nat.reduceEqDiff, Nat.reduceAdd, Nat.reduceSub, Nat.reduceLeDiff, Nat.reduceMul, Nat.reduceBEq, Nat.reduceLT, Int.reduceToNat, reduceCtorEq]; first | done | exact rfl | (and_intros <;> rfl)) | exact rfl | decide)); (focus (first | (simp only [go_sem, Nat.reduceEqDiff, Nat.reduceAdd, Nat.reduceSub, Nat.reduceLeDiff, Nat.reduceMul, Nat.reduceBEq, Nat.reduceLT, Int.reduceToNat, reduceCtorEq]; first | done | exact rfl | (and_intros <;> rfl)) | exact rfl | decide)); (focus (first | (simp only [go_sem, Nat.reduceEqDiff, Nat.reduceAdd, Nat.reduceSub, Nat.reduceLeDiff, Nat.reduceMul, Nat.reduceBEq, Nat.reduceLT, Int.reduceToNat, reduceCtorEq]; first | done | exact rfl | (and_intros <;> rfl)) | exact rfl | decide)); (focus (first | (simp only [go_sem, Nat.reduceEqDiff, Nat.reduceAdd, Nat.reduceSub, Nat.reduceLeDiff, Nat.reduceMul, Nat.reduceBEq, Nat.reduceLT, Int.reduceToNat, reduceCtorEq]; first | done | exact rfl | (and_intros <;> rfl)) | exact rfl | decide)); (focus (first | (simp only [go_sem, Nat.reduceEqDiff, Nat.reduceAdd, Nat.reduceSub, Nat.reduceLeDiff, Nat.reduceMul, Nat.reduceBEq, Nat.reduceLT, Int.reduceToNat, reduceCtorEq]; first | done | exact rfl | (and_intros <;> rfl)) | exact rfl | decide)); (focus (first | (simp only [go_sem, Nat.reduceEqDiff, Nat.reduceAdd, Nat.reduceSub, Nat.reduceLeDiff, Nat.reduceMul, Nat.reduceBEq, Nat.reduceLT, Int.reduceToNat, reduceCtorEq]; first | done | exact rfl | (and_intros <;> rfl)) | exact rfl | decide)); (focus (first | (simp only [go_sem, Nat.reduceEqDiff, Nat.reduceAdd, Nat.reduceSub, Nat.reduceLeDiff, Nat.reduceMul, Nat.reduceBEq, Nat.reduceLT, Int.reduceToNat, reduceCtorEq]; first | done | exact rfl | (and_intros <;> rfl)) | exact rfl | decide)))
    refine wRUN (j3 hx1 hnx2 hw) ?_
    refine ⟨k + 1, by omega, by omega, ?_⟩
    exact wSays (Says.of [] []) trivial
  ·have hdk : decide ((k : Int) < (s.size : Int)) = false := by simpa using hlt
   obtain rfl : k = s.size := by omega
   have hx1 : (escK s s.size).size + 1 ≤ 9223372036854775807 := by omega
   have ha := escK_all s
   refine wRUN (j3 hdk hx1 ha) ?_
   exact wRet (ret_data []) Tryz.results177
set_option maxRecDepth 10000
theorem l1In_ac (n lo hi : Int) : AC Tryz.prog 115 [.c (.int .i64 n), .c (.int .i64 lo), .c (.int .i64 hi)] [] (.c (.bool (decide (n ≥ lo) && decide (n ≤ hi)))) [] := by
 cases h1 : decide (n ≥ lo) <;> cases h2 : decide (n ≤ hi)
 all_goals
  refine wEnter Tryz.func115 Tryz.ntmps115 ?_
  refine wRUN (j2 h1 h2) ?_
  exact wRet (ret_data []) Tryz.results115
set_option maxRecDepth 10000
theorem enc_rows (t : V) : rowsAt (t.enc.map CellD.cs) 5 0 = true := by unfold rowsAt; rw [show (0 : Int).toNat = 0 from rfl, enc_head]; rfl
set_option maxRecDepth 10000
def elS (v : V) : ByteArray := if v.kind = 4 then encS v.text else numS v.num
def elS' (v : V) : ByteArray := ⟨#[91]⟩ ++ elS v ++ ⟨#[93]⟩
def pathS (ks : List V) : ByteArray := ks.foldl (fun a v => a ++ elS' v) ⟨#[46]⟩
theorem one_size (b : UInt8) : (⟨#[b]⟩ : ByteArray).size = 1 := rfl
theorem numS_size {n : Int} (h : -1000000000000000 ≤ n ∧ n ≤ 1000000000000000) : (numS n).size ≤ 21 := by
 have h1 := Lib.itoa_length_le n (by omega) (by omega)
 show (Lib.itoa n).toArray.size ≤ 21
 simpa using h1
theorem encS_size {s : ByteArray} (h : s.size ≤ 60) : (encS s).size ≤ 122 := by
 have h1 := escL_len s.data.toList
 have h2 : cz s.data.toList ≤ s.data.toList.length := List.length_filter_le _ _
 have h3 : s.data.toList.length = s.size := Array.length_toList
 unfold encS
 rw [ByteArray.size_append, ByteArray.size_append, one_size]
 have : (⟨(escL s.data.toList).toArray⟩ : ByteArray).size = (escL s.data.toList).length := by show (escL s.data.toList).toArray.size = _; simp
 omega
theorem elS_size {v : V} (hv : v.right) : (elS v).size ≤ 122 := by
 unfold elS
 split
 ·exact encS_size (okText_size (right_text hv))
 ·have := numS_size (right_num hv); omega
theorem pathS_next {ks : List V} {k : Nat} {v : V} (h : ks[k]? = some v) : pathS (ks.take (k + 1)) = pathS (ks.take k) ++ elS' v := by
 obtain ⟨hk, rfl⟩ := List.getElem?_eq_some_iff.1 h
 unfold pathS
 rw [List.take_succ_eq_append_getElem hk, List.foldl_append]
 rfl
theorem pathS_size {ks : List V} (hr : ∀ v ∈ ks, v.right) : ∀ k, k ≤ ks.length → (pathS (ks.take k)).size ≤ 1 + 124 * k := by
 intro k
 induction k with
 | zero => intro _; simp [pathS]; exact Nat.le_of_eq (one_size 46)
 | succ k ih =>
  intro hk
  have h1 := ih (by omega)
  have hv : ks[k]? = some ks[k] := List.getElem?_eq_getElem (by omega)
  have h2 := elS_size (hr _ (List.getElem_mem (by omega : k < ks.length)))
  rw [pathS_next hv, ByteArray.size_append]
  unfold elS'
  rw [ByteArray.size_append, ByteArray.size_append, one_size, one_size]
  omega
theorem encLeaf_ac {t : V} (ht : t.right) (hb : badKid t = false) : AC Tryz.prog 125 [cellsA t.enc] [] (.c (.str (elS t))) [] := by
 have ra := enc_rows t
 have ga := enc_head t
 have hn := right_num ht
 have hs := okText_size (right_text ht)
 unfold elS
 by_cases k4 : t.kind = 4
 ·have b0 : (t.kind == 0) = false := by simp [k4]
  have b1 : (t.kind == 1) = false := by simp [k4]
  have b2 : (t.kind == 2) = false := by simp [k4]
  have b3 : (t.kind == 3) = false := by simp [k4]
  have b4 : (t.kind == 4) = true := by simp [k4]
  have h1 := quote_ac t.text (by omega)
  rw [if_pos k4]
  refine wEnter Tryz.func125 Tryz.ntmps125 ?_
  refine wRUN (j7 ra ga b0 b1 b2 b3 b4) ?_
  refine w7 (op_data [] h1) trivial ?_
  refine wRUN trivial ?_
  exact wRet (ret_data []) Tryz.results125
 ·have k3 : t.kind = 3 := by
   unfold badKid at hb
   simpa [k4] using hb
  have b0 : (t.kind == 0) = false := by simp [k3]
  have b1 : (t.kind == 1) = false := by simp [k3]
  have b2 : (t.kind == 2) = false := by simp [k3]
  have b3 : (t.kind == 3) = true := by simp [k3]
  have h1 := decimal_ac t.num (by omega) (by omega)
  rw [if_neg k4]
  refine wEnter Tryz.func125 Tryz.ntmps125 ?_
  refine wRUN (j6 ra ga b0 b1 b2 b3) ?_
  refine w7 (op_data [] h1) trivial ?_
  refine wRUN trivial ?_
  exact wRet (ret_data []) Tryz.results125
def joinS (sep : ByteArray) : List ByteArray → ByteArray
 | [] => ByteArray.empty
 | x :: r => match r with
  | [] => x
  | _ => x ++ sep ++ joinS sep r
theorem joinS_cons (sep x : ByteArray) {r : List ByteArray} (h : r ≠ []) : joinS sep (x :: r) = x ++ sep ++ joinS sep r := by
 cases r with
 | nil => exact absurd rfl h
 | cons y r => rfl
theorem joinS_snoc (sep : ByteArray) : ∀ (l : List ByteArray) (x : ByteArray), l ≠ [] → joinS sep (l ++ [x]) = joinS sep l ++ sep ++ x
 | [], _, h => absurd rfl h
 | [y], x, _ => rfl
 | y :: z :: r, x, _ => by
  rw [List.cons_append, joinS_cons sep y (by simp), joinS_snoc sep (z :: r) x (by simp), joinS_cons sep y (by simp)]
  simp only [ByteArray.append_assoc]
theorem joinS_size (sep : ByteArray) : ∀ l : List ByteArray, (joinS sep l).size ≤ (l.map fun x => x.size + sep.size).sum
 | [] => Nat.zero_le _
 | [y] => by simp [joinS]
 | y :: z :: r => by
  have h1 := joinS_size sep (z :: r)
  rw [joinS_cons sep y (by simp), ByteArray.size_append, ByteArray.size_append, List.map_cons, List.sum_cons]
  omega
theorem joinS_next (sep : ByteArray) {l : List ByteArray} {k : Nat} (h : k < l.length) : joinS sep (l.take (k + 1)) = if k = 0 then l[k] else joinS sep (l.take k) ++ sep ++ l[k] := by
 rw [List.take_succ_eq_append_getElem h]
 split
 ·rename_i h0
  subst h0
  rfl
 ·rename_i h0
  refine joinS_snoc sep _ _ fun e => ?_
  have h1 : (l.take k).length = 0 := by rw [e]; rfl
  rw [List.length_take] at h1
  omega
def nullS : ByteArray := ⟨#[110, 117, 108, 108]⟩
def falseS : ByteArray := ⟨#[102, 97, 108, 115, 101]⟩
def trueS : ByteArray := ⟨#[116, 114, 117, 101]⟩
abbrev bS (b : UInt8) : ByteArray := ⟨#[b]⟩
mutual
def V.txt : V → ByteArray
 | .mk kind num text keys kids => if kind = 0 then nullS else if kind = 1 then falseS else if kind = 2 then trueS else if kind = 3 then numS num else if kind = 4 then encS text
  else if kind = 5 then bS 91 ++ joinS (bS 44) (partsT kind keys kids) ++ bS 93 else bS 123 ++ joinS (bS 44) (partsT kind keys kids) ++ bS 125
def partsT (kind : Int) (keys : List ByteArray) : List V → List ByteArray
 | [] => []
 | x :: r => (if kind = 6 then encS (keys.headD ByteArray.empty) ++ bS 58 ++ x.txt else x.txt) :: partsT kind keys.tail r
end
def V.part (t : V) (i : Nat) (x : V) : ByteArray := if t.kind = 6 then encS (t.keyAt i) ++ bS 58 ++ x.txt else x.txt
def V.parts (t : V) : List ByteArray := partsT t.kind t.keys t.kids
theorem partsT_len (kind : Int) : ∀ (kids : List V) (keys : List ByteArray), (partsT kind keys kids).length = kids.length
 | [], _ => by simp [partsT]
 | x :: r, keys => by simp [partsT, partsT_len kind r]
theorem parts_len (t : V) : t.parts.length = t.kids.length := partsT_len _ _ _
theorem partsT_get (kind : Int) : ∀ (kids : List V) (keys : List ByteArray) (i : Nat) (h : i < kids.length), (partsT kind keys kids)[i]? = some (if kind = 6 then encS ((keys.drop i).headD ByteArray.empty) ++ bS 58 ++ kids[i].txt else kids[i].txt)
 | [], _, i, h => by simp at h
 | x :: r, keys, 0, _ => by simp [partsT]
 | x :: r, keys, i + 1, h => by
  have h1 := partsT_get kind r keys.tail i (by simpa using h)
  simp only [partsT, List.getElem?_cons_succ, h1, List.getElem_cons_succ]
  rw [show keys.tail.drop i = keys.drop (i + 1) by cases keys <;> simp]
theorem parts_get (t : V) {i : Nat} (h : i < t.kids.length) : t.parts[i]? = some (t.part i t.kids[i]) := by
 have h1 := partsT_get t.kind t.kids t.keys i h
 unfold V.parts V.part
 rw [h1]
 unfold V.keyAt
 split <;> rfl
theorem parts_at (t : V) {i : Nat} (h : i < t.kids.length) : t.parts[i]'(by rw [parts_len]; exact h) = t.part i t.kids[i] := by
 have h1 := parts_get t h
 rw [List.getElem?_eq_getElem (by rw [parts_len]; exact h)] at h1
 exact Option.some.inj h1
theorem txt_arr {t : V} (h : t.kind = 5) : t.txt = bS 91 ++ joinS (bS 44) t.parts ++ bS 93 := by
 cases t; simp only [kind_mk] at h; subst h; rfl
theorem txt_obj {t : V} (h : t.kind = 6) : t.txt = bS 123 ++ joinS (bS 44) t.parts ++ bS 125 := by
 cases t; simp only [kind_mk] at h; subst h; rfl
theorem txt_null {t : V} (h : t.kind = 0) : t.txt = nullS := by cases t; simp only [kind_mk] at h; subst h; rfl
theorem txt_false {t : V} (h : t.kind = 1) : t.txt = falseS := by cases t; simp only [kind_mk] at h; subst h; rfl
theorem txt_true {t : V} (h : t.kind = 2) : t.txt = trueS := by cases t; simp only [kind_mk] at h; subst h; rfl
theorem txt_num {t : V} (h : t.kind = 3) : t.txt = numS t.num := by cases t; simp only [kind_mk] at h; subst h; rfl
theorem txt_str {t : V} (h : t.kind = 4) : t.txt = encS t.text := by cases t; simp only [kind_mk] at h; subst h; rfl
theorem right_kind {t : V} (h : t.right) : 0 ≤ t.kind ∧ t.kind ≤ 6 := by
 have hc := right_head h
 unfold CellD.code cellCode at hc
 cases hh : inB t.kind 0 6
 ·simp [hh] at hc
 ·simp [inB] at hh
  omega
theorem right_keyAt {t : V} (h : t.right) (i : Nat) : (t.keyAt i).size ≤ 60 := by
 unfold V.keyAt
 split
 ·rename_i h6
  rcases Nat.lt_or_ge i t.keys.length with hi | hi
  ·rw [List.drop_eq_getElem_cons hi]
   exact okText_size ((right_asc h h6).2.1 _ (List.getElem_mem hi))
  ·rw [List.drop_eq_nil_of_le hi]; exact Nat.zero_le _
 ·exact Nat.zero_le _
theorem parts_sum {t : V} (hr : t.right) (ih : ∀ x ∈ t.kids, x.txt.size + 124 ≤ 250 * x.count) : ∀ m, m ≤ t.kids.length → (joinS (bS 44) (t.parts.take m)).size ≤ 250 * countL t.kids := by
 intro m hm
 refine Nat.le_trans (joinS_size _ _) ?_
 have key : ∀ m, m ≤ t.kids.length → ((t.parts.take m).map fun x => x.size + (bS 44).size).sum ≤ 250 * countL (t.kids.take m) := by
  intro m
  induction m with
  | zero => intro _; simp
  | succ m ihm =>
   intro hm
   have h1 := ihm (by omega)
   have hm' : m < t.kids.length := by omega
   have hmem : t.kids[m] ∈ t.kids := List.getElem_mem hm'
   have h2 := ih _ hmem
   have h3 := encS_size (right_keyAt hr m)
   rw [List.take_succ_eq_append_getElem (by rw [parts_len]; omega), List.take_succ_eq_append_getElem hm', parts_at t hm', List.map_append, List.sum_append, countL_snoc]
   have h4 : (t.part m t.kids[m]).size + 1 ≤ 250 * t.kids[m].count := by
    unfold V.part
    split
    ·rw [ByteArray.size_append, ByteArray.size_append, one_size]; omega
    ·omega
   have h5 : (bS 44).size = 1 := rfl
   simp only [h5] at h1
   simp only [List.map_cons, List.map_nil, List.sum_cons, List.sum_nil, h5]
   omega
 have h1 := key m hm
 have h2 := countL_take_le t.kids m
 omega
theorem txt_size : ∀ (n : Nat) (t : V), t.count ≤ n → t.right → t.txt.size + 124 ≤ 250 * t.count := by
 intro n
 induction n with
 | zero => intro t hn _; have := count_pos t; omega
 | succ n ih =>
  intro t hn hr
  have hp := count_pos t
  have hk := right_kind hr
  have hcc := count_kids t
  have hparts := parts_sum hr (fun x hx => ih x (by have := countL_mem hx; omega) (right_mem hr hx)) t.kids.length (Nat.le_refl _)
  rw [List.take_of_length_le (by rw [parts_len]; exact Nat.le_refl _)] at hparts
  have hcase : t.kind = 0 ∨ t.kind = 1 ∨ t.kind = 2 ∨ t.kind = 3 ∨ t.kind = 4 ∨ t.kind = 5 ∨ t.kind = 6 := by omega
  rcases hcase with h | h | h | h | h | h | h
  ·rw [txt_null h]; have : nullS.size = 4 := rfl; omega
  ·rw [txt_false h]; have : falseS.size = 5 := rfl; omega
  ·rw [txt_true h]; have : trueS.size = 4 := rfl; omega
  ·rw [txt_num h]; have := numS_size (right_num hr); omega
  ·rw [txt_str h]; have := encS_size (okText_size (right_text hr)); omega
  ·rw [txt_arr h, ByteArray.size_append, ByteArray.size_append, one_size, one_size]; omega
  ·rw [txt_obj h, ByteArray.size_append, ByteArray.size_append, one_size, one_size]; omega
theorem txt_size' {t : V} (h : t.right) : t.txt.size ≤ 50000 := by
 have h1 := txt_size _ t (Nat.le_refl _) h
 have := h.2.1
 omega
theorem join_size {t : V} (h : t.right) {k : Nat} (hk : k ≤ t.kids.length) : (joinS (bS 44) (t.parts.take k)).size ≤ 50000 := by
 have h1 := parts_sum h (fun x hx => txt_size _ x (Nat.le_refl _) (right_mem h hx)) k hk
 have h2 := count_kids t
 have := h.2.1
 omega
theorem part_size {t : V} (h : t.right) {k : Nat} (hk : k < t.kids.length) : (t.part k t.kids[k]).size ≤ 50200 := by
 have h2 := txt_size' (right_mem h (List.getElem_mem hk))
 have h3 := encS_size (right_keyAt h k)
 unfold V.part
 split
 ·rw [ByteArray.size_append, ByteArray.size_append, one_size]; omega
 ·omega
end Go.Proofs.YtlciedpfjhkkdaaGreatDoor
