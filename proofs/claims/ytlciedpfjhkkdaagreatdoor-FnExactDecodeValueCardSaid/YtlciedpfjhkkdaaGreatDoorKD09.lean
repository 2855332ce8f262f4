/- The reference's reader: strings. -/
import Derived.Test.YtlciedpfjhkkdaaGreatDoorKD08
set_option linter.unusedSimpArgs false
set_option linter.unusedVariables false
set_option linter.unnecessarySimpa false
set_option maxHeartbeats 8000000
namespace Go.Proofs.YtlciedpfjhkkdaaGreatDoor
open Go.RowKit
set_option maxRecDepth 10000
def rdT (R : Rd ByteArray) : AV := match R with
 | .ok t e => rdOk .nils t e
 | .bad c p => rdBad c p
theorem sub_one {s : ByteArray} {i : Nat} (h : i < s.size) : s.extract i (i + 1) = bOne (bAt s i) := by
 obtain ⟨b, h1, h2⟩ := bAt_in h
 rw [h2]
 unfold bOne
 have h3 := h1
 rw [getElem?_pos s i h] at h3
 cases h3
 apply ByteArray.ext
 apply Array.toList_inj.1
 rw [show (⟨#[UInt8.ofNat s[i].toNat]⟩ : ByteArray).data = #[UInt8.ofNat s[i].toNat] from rfl, UInt8.ofNat_toNat]
 show (s.extract i (i + 1)).data.toList = [s[i]]
 rw [ext_list, List.take_succ_eq_append_getElem (by simpa using h), List.drop_append_of_le_length (by simp; omega), List.drop_eq_nil_of_le (by rw [List.length_take]; exact Nat.min_le_left _ _)]
 rfl
theorem l2String_ac (s : ByteArray) (hs : s.size ≤ 1000000) (i : Nat) (hi : i < s.size) : AC Tryz.prog 75 [.c (.str s), .c (.int .i64 i)] [] (rdT (strGo s i (s.size + 1) (i + 1) ByteArray.empty)) [] := by
 have t3 := Tryz.underlying9
 have t1 := Tryz.underlying29
 have t2 := Tryz.underlying5
 have hw1 := wrap_succ (k := i) (by omega)
 have h00 : ((0 : Int) != 0) = false := rfl
 obtain ⟨R, hR⟩ : ∃ R, strGo s i (s.size + 1) (i + 1) ByteArray.empty = R := ⟨_, rfl⟩
 rw [hR]
 refine wEnter Tryz.func75 Tryz.ntmps75 ?_
 refine wRUN hw1 ?_
 refine a_loop (κ := Nat × ByteArray) (fun k => ⟨mkS 0 79 [(0, .c (.str s)), (1, .c (.int .i64 i)), (4, .ptr (4, 0) 0), (5, .c (.str k.2)), (6, .c (.int .i64 k.1))], [((4, 0), .box [.nils, .c (.str ByteArray.empty), .c (.int .i64 0), .c (.int .i64 0), .c (.int .i64 0)])]⟩)
  (fun k => k.1 ≤ s.size ∧ k.2.size ≤ k.1 ∧ ∃ n, s.size - k.1 < n ∧ strGo s i n k.1 k.2 = R) (fun k => s.size - k.1) (i + 1, ByteArray.empty) ⟨by dsimp only; omega, Nat.zero_le _, s.size + 1, by dsimp only; omega, hR⟩ ?_ ?_
 ·exact wSays (Says.of [((4, 0), (4, 0))] []) hw1
 ·rintro ⟨k, out⟩ ⟨hk, hout, n, hn, hgo⟩
  dsimp only at hk hout hn hgo ⊢
  obtain ⟨n, rfl⟩ : ∃ m, n = m + 1 := ⟨n - 1, by omega⟩
  unfold strGo at hgo
  by_cases hlt : k < s.size
  ·have hdk : decide ((k : Int) < (s.size : Int)) = true := by simpa using hlt
   have hdg : decide ((k : Int) ≥ (s.size : Int)) = false := decide_eq_false (by omega)
   rw [if_neg (by omega)] at hgo
   obtain ⟨b, hg, hb⟩ := bAt_in hlt
   have hbn : ((b.toNat : Nat) : Int) = ((bAt s k : Nat) : Int) := by rw [hb]
   by_cases h34 : bAt s k = 34
   ·have e34 : (((bAt s k : Nat) : Int) != 34) = false := by simp [h34]
    rw [if_pos h34] at hgo
    by_cases h60 : 60 < out.size
    ·have g60 : decide ((out.size : Int) > 60) = true := decide_eq_true (by omega)
     rw [if_pos h60] at hgo
     subst hgo
     have hbad := l2Bad_ac 2 i
     unfold rdT
     unfold rdBad at hbad ⊢
     refine wRUN (j6 hdk hg hbn e34 hdg g60) ?_
     refine w7 (op_data [] hbad) trivial ?_
     refine wRUN trivial ?_
     exact wRet (ret_data []) Tryz.results75
    ·have g60 : decide ((out.size : Int) > 60) = false := decide_eq_false (by omega)
     rw [if_neg h60] at hgo
     subst hgo
     have hwk := wrap_succ (k := k) (by omega)
     unfold rdT rdOk
     refine wRUN (j7 hdk hg hbn e34 hdg g60 hwk) ?_
     exact wRet (ret_data []) Tryz.results75
   ·have e34 : (((bAt s k : Nat) : Int) != 34) = true := by simp; omega
    rw [if_neg h34] at hgo
    by_cases hr : bAt s k < 32 ∨ 126 < bAt s k
    ·rw [if_pos hr] at hgo
     subst hgo
     have hbad := l2Bad_ac 5 k
     unfold rdT
     unfold rdBad at hbad ⊢
     by_cases h32 : bAt s k < 32
     ·have g32 : decide (((bAt s k : Nat) : Int) < 32) = true := decide_eq_true (by omega)
      refine wRUN (j5 hdk hg hbn e34 g32) ?_
      refine w7 (op_data [] hbad) trivial ?_
      refine wRUN trivial ?_
      exact wRet (ret_data []) Tryz.results75
     ·have g32 : decide (((bAt s k : Nat) : Int) < 32) = false := decide_eq_false (by omega)
      have g126 : decide (((bAt s k : Nat) : Int) > 126) = true := decide_eq_true (by omega)
      refine wRUN (j6 hdk hg hbn e34 g32 g126) ?_
      refine w7 (op_data [] hbad) trivial ?_
      refine wRUN trivial ?_
      exact wRet (ret_data []) Tryz.results75
    ·rw [if_neg hr] at hgo
     have g32 : decide (((bAt s k : Nat) : Int) < 32) = false := decide_eq_false (by omega)
     have g126 : decide (((bAt s k : Nat) : Int) > 126) = false := decide_eq_false (by omega)
     by_cases h92 : bAt s k = 92
     ·have e92 : (((bAt s k : Nat) : Int) != 92) = false := by simp [h92]
      rw [if_neg (by simp [h92])] at hgo
      have hesc := l2Escape_ac s hs k hlt
      have hf := escR_fine hlt
      cases hE : escR s k with
      | bad c p =>
       rw [hE] at hgo hesc hf
       simp only at hgo
       subst hgo
       have hc0 : (c != 0) = true := by simpa using rdCode_ne hf.1
       unfold rdT
       unfold escA at hesc
       unfold rdBad at hesc ⊢
       refine wRUN (j7 hdk hg hbn e34 g32 g126 e92) ?_
       refine w7 (op_data [] hesc) trivial ?_
       refine wRUN hc0 ?_
       exact wRet (ret_data []) Tryz.results75
      | ok c e =>
       rw [hE] at hgo hesc hf
       simp only at hgo
       obtain ⟨f1, f2, f3, f4⟩ := hf
       unfold escA rdOk at hesc
       have hcb : ((c : Nat) : Int) = (((UInt8.ofNat c).toNat : Nat) : Int) := by
        rw [UInt8.toNat_ofNat', Nat.mod_eq_of_lt (by omega)]
       have hb1 : byteRows [UInt8.ofNat c] = [[C.int .u8 (c : Int)]] := by simp only [byteRows, List.map_cons, List.map_nil]; rw [← hcb]
       have hy : (⟨[UInt8.ofNat c].toArray⟩ : ByteArray) = bOne c := rfl
       have hx1 : out.size + (bOne c).size ≤ 9223372036854775807 := by rw [bOne_size]; omega
       refine wRUN (j7 hdk hg hbn e34 g32 g126 e92) ?_
       refine w7 (op_data [] hesc) trivial ?_
       refine wRUN h00 ?_
       (apply (op_conv [UInt8.ofNat c] hy (by simp) t1 t2 t3); (focus (first | (simp only [go_sem, Nat.reduceEqDiff, Nat.reduceAdd, Nat.reduceSub, Nat.reduceLeDiff, Nat.reduceMul, Nat.reduceBEq, Nat.reduceLT, Int.reduceToNat, reduceCtorEq]; first | done | exact rfl | (and_intros <;> rfl)) | exact rfl | decide)); (focus (first | (simp only [go_sem, Nat.reduceEqDiff, Nat.reduceAdd, Nat.reduceSub, Nat.reduceLeDiff, Nat.reduceMul, Nat.reduceBEq, Nat.reduceLT, Int.reduceToNat, reduceCtorEq]; first | done | exact rfl | (and_intros <;> rfl)) | exact rfl | decide)); (focus (first | (simp only [go_sem, Nat.reduceEqDiff, Nat.reduceAdd, Nat.reduceSub, Nat.reduceLeDiff, Nat.reduceMul, Nat.reduceBEq, Nat.reduceLT, Int.reduceToNat, reduceCtorEq]; first | done | exact rfl | (and_intros <;> rfl)) | exact rfl | decide)); (focus (first | (simp only [go_sem, Nat.reduceEqDiff, Nat.reduceAdd, Nat.reduceSub, Nat.reduceLeDiff, Nat.reduceMul, Nat.reduceBEq, Nat.reduceLT, Int.reduceToNat, reduceCtorEq, hb1]; first | done | exact rfl | (and_intros <;> rfl)) | exact rfl | decide)); (focus (first | (simp only [go_sem, Nat.reduceEqDiff, Nat.reduceAdd, Nat.reduceSub, Nat.reduceLeDiff, Nat.reduceMul, Nat.reduceBEq, Nat.reduceLT, Int.reduceToNat, reduceCtorEq]; first | done | exact rfl | (and_intros <;> rfl)) | exact rfl | decide)); (focus (first | (simp only [go_sem, Nat.reduceEqDiff, Nat.reduceAdd, Nat.reduceSub, Nat.reduceLeDiff, Nat.reduceMul, Nat.reduceBEq, Nat.reduceLT, Int.reduceToNat, reduceCtorEq]; first | done | exact rfl | (and_intros <;> rfl)) | exact rfl | decide)))
       refine wRUN hx1 ?_
       refine ⟨(e, out ++ bOne c), ?_, ⟨f2, ?_, n, ?_, hgo⟩, ?_⟩
       ·dsimp only; omega
       ·dsimp only; rw [snoc_size]; omega
       ·dsimp only; omega
       exact wSays (Says.of [((4, 0), (4, 0))] []) trivial
     ·have e92 : (((bAt s k : Nat) : Int) != 92) = true := by simp; omega
      rw [if_pos (by simpa using h92)] at hgo
      have hwk := wrap_succ (k := k) (by omega)
      have hx1 : out.size + (bOne (bAt s k)).size ≤ 9223372036854775807 := by rw [bOne_size]; omega
      have hsb : s.extract ((k : Nat) : Int).toNat ((k + 1 : Nat) : Int).toNat = bOne (bAt s k) := sub_one hlt
      refine wRUN (j8 hdk hg hbn e34 g32 g126 e92 hwk) ?_
      (apply (op_sub (y := bOne (bAt s k)) (i := (k : Int)) (j := ((k + 1 : Nat) : Int)) (s := s) hsb (by omega) (by omega) (by omega) t3); (focus (first | (simp only [go_sem, Nat.reduceEqDiff, Nat.reduceAdd, Nat.reduceSub, Nat.reduceLeDiff, Nat.reduceMul, Nat.reduceBEq, Nat.reduceLT, Int.reduceToNat, reduceCtorEq]; first | done | exact rfl | (and_intros <;> rfl)) | exact rfl | decide)); (focus (first | (simp only [go_sem, Nat.reduceEqDiff, Nat.reduceAdd, Nat.reduceSub, Nat.reduceLeDiff, Nat.reduceMul, Nat.reduceBEq, Nat.reduceLT, Int.reduceToNat, reduceCtorEq]; first | done | exact rfl | (and_intros <;> rfl)) | exact rfl | decide)); (focus (first | (simp only [go_sem, Nat.reduceEqDiff, Nat.reduceAdd, Nat.reduceSub, Nat.reduceLeDiff, Nat.reduceMul, Nat.reduceBEq, Nat.reduceLT, Int.reduceToNat, reduceCtorEq]; first | done | exact rfl | (and_intros <;> rfl)) | exact rfl | decide)); (focus (first | (simp only [go_sem, Nat.reduceEqDiff, Nat.reduceAdd, Nat.reduceSub, Nat.reduceLeDiff, Nat.reduceMul, Nat.reduceBEq, Nat.reduceLT, Int.reduceToNat, reduceCtorEq]; first | done | exact rfl | (and_intros <;> rfl)) | exact rfl | decide)); (focus (first | (simp only [go_sem, Nat.reduceEqDiff, Nat.reduceAdd, Nat.reduceSub, Nat.reduceLeDiff, Nat.reduceMul, Nat.reduceBEq, Nat.reduceLT, Int.reduceToNat, reduceCtorEq]; first | done | exact rfl | (and_intros <;> rfl)) | exact rfl | decide)); (focus (first | (simp only [go_sem, Nat.reduceEqDiff, Nat.reduceAdd, Nat.reduceSub, Nat.reduceLeDiff, Nat.reduceMul, Nat.reduceBEq, Nat.reduceLT, Int.reduceToNat, reduceCtorEq]; first | done | exact rfl | (and_intros <;> rfl)) | exact rfl | decide)); (focus (first | (simp only [go_sem, Nat.reduceEqDiff, Nat.reduceAdd, Nat.reduceSub, Nat.reduceLeDiff, Nat.reduceMul, Nat.reduceBEq, Nat.reduceLT, Int.reduceToNat, reduceCtorEq]; first | done | exact rfl | (and_intros <;> rfl)) | exact rfl | decide)))
      refine wRUN (j2 hx1 hwk) ?_
      refine ⟨(k + 1, out ++ bOne (bAt s k)), ?_, ⟨?_, ?_, n, ?_, hgo⟩, ?_⟩
      ·dsimp only; omega
      ·dsimp only; omega
      ·dsimp only; rw [snoc_size]; omega
      ·dsimp only; omega
      exact wSays (Says.of [((4, 0), (4, 0))] []) hwk
  ·have hdk : decide ((k : Int) < (s.size : Int)) = false := by simpa using hlt
   have hdg : decide ((k : Int) ≥ (s.size : Int)) = true := decide_eq_true (by omega)
   rw [if_pos (by omega)] at hgo
   subst hgo
   have hbad := l2Bad_ac 5 s.size
   unfold rdT
   unfold rdBad at hbad ⊢
   refine wRUN (j2 hdk hdg) ?_
   refine w7 (op_data [] hbad) trivial ?_
   refine wRUN trivial ?_
   exact wRet (ret_data []) Tryz.results75
def memR (s : ByteArray) (i : Nat) : Rd ByteArray := match strR s i with
 | .bad c p => .bad c p
 | .ok k e => if bAt s (skipB s e) ≠ 58 then .bad 5 (skipB s e) else .ok k (skipB s e + 1)
theorem l2Member_ac (s : ByteArray) (hs : s.size ≤ 1000000) (i : Nat) (hi : i ≤ s.size) : AC Tryz.prog 129 [.c (.str s), .c (.int .i64 i)] [] (rdT (memR s i)) [] := by
 have hbad := l2Bad_ac 5 i
 have h00 : ((0 : Int) != 0) = false := rfl
 unfold memR
 by_cases hlt : i < s.size
 ·have hdg : decide ((i : Int) ≥ (s.size : Int)) = false := decide_eq_false (by omega)
  obtain ⟨b, hg, hb⟩ := bAt_in hlt
  have hbn : ((b.toNat : Nat) : Int) = ((bAt s i : Nat) : Int) := by rw [hb]
  by_cases h34 : bAt s i = 34
  ·have e34 : (((bAt s i : Nat) : Int) != 34) = false := by simp [h34]
   have hst := l2String_ac s hs i hlt
   have hsf := strR_fine hi
   have hsr : strR s i = strGo s i (s.size + 1) (i + 1) ByteArray.empty := by unfold strR; rw [if_neg (by simp [h34])]
   rw [← hsr] at hst
   cases hR : strR s i with
   | bad c p =>
    rw [hR] at hst hsf
    have hc0 : (c != 0) = true := by simpa using rdCode_ne hsf.1
    simp only
    unfold rdT at hst ⊢
    unfold rdBad at hst ⊢
    refine wEnter Tryz.func129 Tryz.ntmps129 ?_
    refine wRUN (j4 hdg hg hbn e34) ?_
    refine w7 (op_data [] hst) trivial ?_
    refine wRUN hc0 ?_
    exact wRet (ret_data []) Tryz.results129
   | ok k e =>
    rw [hR] at hst hsf
    obtain ⟨f1, f2, _⟩ := hsf
    have hsk := l2Skip_ac s hs e f2
    obtain ⟨g1, g2, _⟩ := skip_in f2
    simp only
    unfold rdT at hst
    unfold rdOk at hst
    have hbad := l2Bad_ac 5 (skipB s e)
    generalize skipB s e = j at *
    by_cases h58 : bAt s j = 58
    ·have hj := bAt_lt (s := s) (i := j) (by omega)
     have hdj : decide ((j : Int) ≥ (s.size : Int)) = false := decide_eq_false (by omega)
     obtain ⟨b2, hg2, hb2⟩ := bAt_in hj
     have hbn2 : (((b2.toNat : Nat) : Int) != 58) = false := by rw [← hb2, h58]; rfl
     have hwj := wrap_succ (k := j) (by omega)
     rw [if_neg (by simp [h58])]
     unfold rdT rdOk
     refine wEnter Tryz.func129 Tryz.ntmps129 ?_
     refine wRUN (j4 hdg hg hbn e34) ?_
     refine w7 (op_data [] hst) trivial ?_
     refine wRUN h00 ?_
     refine w7 (op_data [] hsk) trivial ?_
     refine wRUN (j4 hdj hg2 hbn2 hwj) ?_
     exact wRet (ret_data []) Tryz.results129
    ·rw [if_pos (by simpa using h58)]
     unfold rdT
     unfold rdBad at hbad ⊢
     by_cases hj : j < s.size
     ·have hdj : decide ((j : Int) ≥ (s.size : Int)) = false := decide_eq_false (by omega)
      obtain ⟨b2, hg2, hb2⟩ := bAt_in hj
      have hbn2 : (((b2.toNat : Nat) : Int) != 58) = true := by rw [← hb2]; simp; omega
      refine wEnter Tryz.func129 Tryz.ntmps129 ?_
      refine wRUN (j4 hdg hg hbn e34) ?_
      refine w7 (op_data [] hst) trivial ?_
      refine wRUN h00 ?_
      refine w7 (op_data [] hsk) trivial ?_
      refine wRUN (j3 hdj hg2 hbn2) ?_
      refine w7 (op_data [] hbad) trivial ?_
      refine wRUN trivial ?_
      exact wRet (ret_data []) Tryz.results129
     ·have hdj : decide ((j : Int) ≥ (s.size : Int)) = true := decide_eq_true (by omega)
      refine wEnter Tryz.func129 Tryz.ntmps129 ?_
      refine wRUN (j4 hdg hg hbn e34) ?_
      refine w7 (op_data [] hst) trivial ?_
      refine wRUN h00 ?_
      refine w7 (op_data [] hsk) trivial ?_
      refine wRUN hdj ?_
      refine w7 (op_data [] hbad) trivial ?_
      refine wRUN trivial ?_
      exact wRet (ret_data []) Tryz.results129
  ·have e34 : (((bAt s i : Nat) : Int) != 34) = true := by simp; omega
   have hsr : strR s i = .bad 5 i := by unfold strR; rw [if_pos (by simpa using h34)]
   rw [hsr]
   simp only
   unfold rdT
   unfold rdBad at hbad ⊢
   refine wEnter Tryz.func129 Tryz.ntmps129 ?_
   refine wRUN (j4 hdg hg hbn e34) ?_
   refine w7 (op_data [] hbad) trivial ?_
   refine wRUN trivial ?_
   exact wRet (ret_data []) Tryz.results129
 ·have hdg : decide ((i : Int) ≥ (s.size : Int)) = true := decide_eq_true (by omega)
  have hsr : strR s i = .bad 5 i := by unfold strR; rw [if_pos (by rw [bAt_end (by omega)]; decide)]
  rw [hsr]
  simp only
  unfold rdT
  unfold rdBad at hbad ⊢
  refine wEnter Tryz.func129 Tryz.ntmps129 ?_
  refine wRUN hdg ?_
  refine w7 (op_data [] hbad) trivial ?_
  refine wRUN trivial ?_
  exact wRet (ret_data []) Tryz.results129
end Go.Proofs.YtlciedpfjhkkdaaGreatDoor
