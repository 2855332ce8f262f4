/- The reference's reader: the number of a number's text; a whole number. -/
import Derived.Test.YtlciedpfjhkkdaaGreatDoorKG16uD05
import Derived.Test.YtlciedpfjhkkdaaGreatDoorKE35uD01
import Derived.Test.YtlciedpfjhkkdaaGreatDoorKD02uG08
set_option linter.unusedSimpArgs false
set_option linter.unusedVariables false
set_option linter.unnecessarySimpa false
set_option maxHeartbeats 8000000
namespace Go.Proofs.YtlciedpfjhkkdaaGreatDoor
open Go.RowKit
set_option maxRecDepth 10000
def valA (m : Bool) (u : ByteArray) : AV := if 16 < u.size ∨ 1000000000000000 < decN u 0 u.size then .tup [.c (.int .i64 0), .c (.bool false)] else .tup [.c (.int .i64 (if m then -((decN u 0 u.size : Nat) : Int) else ((decN u 0 u.size : Nat) : Int))), .c (.bool true)]
theorem l2Value_ac (t : ByteArray) (h0 : 0 < t.size) (hs : t.size ≤ 1000000) (m : Bool) (u : ByteArray) (hm : (bAt t 0 == 45) = m) (hu : (if m then t.extract 1 t.size else t) = u) (hd : ∀ j, j < u.size → digB (bAt u j) = true) :
  AC Tryz.prog 133 [.c (.str t)] [] (valA m u) [] := by
 have t3 := Tryz.underlying9
 obtain ⟨b0, hg0, hb0⟩ := bAt_in h0
 have q0 : (((b0.toNat : Nat) : Int) == 45) = m := by rw [← hb0, ← hm]; exact cast_beq _ 45
 have hus : u.size ≤ 1000000 := by
  rw [← hu]
  cases m with
  | false => exact hs
  | true => rw [if_pos rfl, ext_size (Nat.le_refl _)]; omega
 have main : ∀ σ : List (Nat × AV), True := fun _ => trivial
 clear main
 unfold valA
 by_cases h16 : 16 < u.size
 ·have g16 : decide ((u.size : Int) > 16) = true := by simp; omega
  rw [if_pos (.inl h16)]
  cases m with
  | false =>
   simp only [Bool.false_eq_true, if_false] at hu
   subst hu
   refine wEnter Tryz.func133 Tryz.ntmps133 ?_
   refine wRUN (j3 hg0 q0 g16) ?_
   exact wRet (ret_data []) Tryz.results133
  | true =>
   simp only [if_true] at hu
   refine wEnter Tryz.func133 Tryz.ntmps133 ?_
   refine wRUN (j2 hg0 q0) ?_
   (apply (op_subFrom (s := t) (y := u) (i := 1) hu (by omega) (by omega) t3); (focus (first | (simp only [go_sem, Nat.reduceEqDiff, Nat.reduceAdd, Nat.reduceSub, Nat.reduceLeDiff, Nat.reduceMul, Nat.reduceBEq, Nat.reduceLT, Int.reduceToNat, reduceCtorEq]; first | done | exact rfl | (and_intros <;> rfl)) | exact rfl | decide)); (focus (first | (simp only [go_sem, Nat.reduceEqDiff, Nat.reduceAdd, Nat.reduceSub, Nat.reduceLeDiff, Nat.reduceMul, Nat.reduceBEq, Nat.reduceLT, Int.reduceToNat, reduceCtorEq]; first | done | exact rfl | (and_intros <;> rfl)) | exact rfl | decide)); (focus (first | (simp only [go_sem, Nat.reduceEqDiff, Nat.reduceAdd, Nat.reduceSub, Nat.reduceLeDiff, Nat.reduceMul, Nat.reduceBEq, Nat.reduceLT, Int.reduceToNat, reduceCtorEq]; first | done | exact rfl | (and_intros <;> rfl)) | exact rfl | decide)); (focus (first | (simp only [go_sem, Nat.reduceEqDiff, Nat.reduceAdd, Nat.reduceSub, Nat.reduceLeDiff, Nat.reduceMul, Nat.reduceBEq, Nat.reduceLT, Int.reduceToNat, reduceCtorEq]; first | done | exact rfl | (and_intros <;> rfl)) | exact rfl | decide)); (focus (first | (simp only [go_sem, Nat.reduceEqDiff, Nat.reduceAdd, Nat.reduceSub, Nat.reduceLeDiff, Nat.reduceMul, Nat.reduceBEq, Nat.reduceLT, Int.reduceToNat, reduceCtorEq]; first | done | exact rfl | (and_intros <;> rfl)) | exact rfl | decide)))
   refine wRUN g16 ?_
   exact wRet (ret_data []) Tryz.results133
 ·have g16 : decide ((u.size : Int) > 16) = false := by simp; omega
  have loop : ∀ (n : Nat), n = decN u 0 u.size → True := fun _ _ => trivial
  clear loop
  have hnx : ∀ k, decN u 0 (k + 1) = decN u 0 k * 10 + (bAt u k - 48) := fun k => by
   show decN u 0 k * 10 + (bAt u (0 + k) - 48) = _
   rw [Nat.zero_add]
  have hbd : ∀ k, k < u.size → _ := fun k (hk : k < u.size) => decN_bound (s := u) (a := 0) (k := k) (by omega) (fun j _ h2 => hd j (by omega)) (dig_lt (hd k hk))
  have hbn : ∀ k, k < u.size → ∃ b : UInt8, u[k]? = some b ∧ ((b.toNat : Nat) : Int) = ((bAt u k : Nat) : Int) := fun k hk => by
   obtain ⟨b, h1, h2⟩ := bAt_in hk
   exact ⟨b, h1, by rw [h2]⟩
  have hlt := decN_in (s := u) (a := 0) (k := u.size) (by omega) (fun j _ h2 => hd j (by omega))
  cases m with
  | false =>
   simp only [Bool.false_eq_true, if_false] at hu ⊢
   subst hu
   refine wEnter Tryz.func133 Tryz.ntmps133 ?_
   refine wRUN (j3 hg0 q0 g16) ?_
   refine a_loop (κ := Nat) (fun k => ⟨mkS 0 36 [(0, .c (.str t)), (4, .c (.bool false)), (5, .c (.int .i64 (decN t 0 k))), (6, .c (.int .i64 k))], []⟩) (fun k => k ≤ t.size) (fun k => t.size - k) 0 (Nat.zero_le _) ?_ ?_
   ·exact wSays (Says.of [] []) trivial
   ·intro k hk
    by_cases hlt2 : k < t.size
    ·have hdk : decide ((k : Int) < (t.size : Int)) = true := by simpa using hlt2
     have hw := wrap_succ (k := k) (by omega)
     obtain ⟨b, hg, hbe⟩ := hbn k hlt2
     obtain ⟨w1, w2, w3, w4⟩ := hbd k hlt2
     have hn1 := hnx k
     refine wRUN (j8 hdk hg hbe w1 w2 w3 w4 hw) ?_
     refine ⟨k + 1, by omega, by omega, ?_⟩
     exact wSays (Says.of [] []) (j2 hn1 hw)
    ·have hdk : decide ((k : Int) < (t.size : Int)) = false := by simpa using hlt2
     have hke : k = t.size := by omega
     subst hke
     by_cases hbig : 1000000000000000 < decN t 0 t.size
     ·have gb : decide (((decN t 0 t.size : Nat) : Int) > 1000000000000000) = true := by simp; omega
      rw [if_pos (.inr hbig)]
      refine wRUN (j2 hdk gb) ?_
      exact wRet (ret_data []) Tryz.results133
     ·have gb : decide (((decN t 0 t.size : Nat) : Int) > 1000000000000000) = false := by simp; omega
      rw [if_neg (by omega)]
      refine wRUN (j2 hdk gb) ?_
      exact wRet (ret_data []) Tryz.results133
  | true =>
   simp only [if_true] at hu ⊢
   refine wEnter Tryz.func133 Tryz.ntmps133 ?_
   refine wRUN (j2 hg0 q0) ?_
   (apply (op_subFrom (s := t) (y := u) (i := 1) hu (by omega) (by omega) t3); (focus (first | (simp only [go_sem, Nat.reduceEqDiff, Nat.reduceAdd, Nat.reduceSub, Nat.reduceLeDiff, Nat.reduceMul, Nat.reduceBEq, Nat.reduceLT, Int.reduceToNat, reduceCtorEq]; first | done | exact rfl | (and_intros <;> rfl)) | exact rfl | decide)); (focus (first | (simp only [go_sem, Nat.reduceEqDiff, Nat.reduceAdd, Nat.reduceSub, Nat.reduceLeDiff, Nat.reduceMul, Nat.reduceBEq, Nat.reduceLT, Int.reduceToNat, reduceCtorEq]; first | done | exact rfl | (and_intros <;> rfl)) | exact rfl | decide)); (focus (first | (simp only [go_sem, Nat.reduceEqDiff, Nat.reduceAdd, Nat.reduceSub, Nat.reduceLeDiff, Nat.reduceMul, Nat.reduceBEq, Nat.reduceLT, Int.reduceToNat, reduceCtorEq]; first | done | exact rfl | (and_intros <;> rfl)) | exact rfl | decide)); (focus (first | (simp only [go_sem, Nat.reduceEqDiff, Nat.reduceAdd, Nat.reduceSub, Nat.reduceLeDiff, Nat.reduceMul, Nat.reduceBEq, Nat.reduceLT, Int.reduceToNat, reduceCtorEq]; first | done | exact rfl | (and_intros <;> rfl)) | exact rfl | decide)); (focus (first | (simp only [go_sem, Nat.reduceEqDiff, Nat.reduceAdd, Nat.reduceSub, Nat.reduceLeDiff, Nat.reduceMul, Nat.reduceBEq, Nat.reduceLT, Int.reduceToNat, reduceCtorEq]; first | done | exact rfl | (and_intros <;> rfl)) | exact rfl | decide)))
   refine wRUN g16 ?_
   refine a_loop (κ := Nat) (fun k => ⟨mkS 0 36 [(0, .c (.str u)), (4, .c (.bool true)), (5, .c (.int .i64 (decN u 0 k))), (6, .c (.int .i64 k))], []⟩) (fun k => k ≤ u.size) (fun k => u.size - k) 0 (Nat.zero_le _) ?_ ?_
   ·exact wSays (Says.of [] []) trivial
   ·intro k hk
    by_cases hlt2 : k < u.size
    ·have hdk : decide ((k : Int) < (u.size : Int)) = true := by simpa using hlt2
     have hw := wrap_succ (k := k) (by omega)
     obtain ⟨b, hg, hbe⟩ := hbn k hlt2
     obtain ⟨w1, w2, w3, w4⟩ := hbd k hlt2
     have hn1 := hnx k
     refine wRUN (j8 hdk hg hbe w1 w2 w3 w4 hw) ?_
     refine ⟨k + 1, by omega, by omega, ?_⟩
     exact wSays (Says.of [] []) (j2 hn1 hw)
    ·have hdk : decide ((k : Int) < (u.size : Int)) = false := by simpa using hlt2
     have hke : k = u.size := by omega
     subst hke
     by_cases hbig : 1000000000000000 < decN u 0 u.size
     ·have gb : decide (((decN u 0 u.size : Nat) : Int) > 1000000000000000) = true := by simp; omega
      rw [if_pos (.inr hbig)]
      refine wRUN (j2 hdk gb) ?_
      exact wRet (ret_data []) Tryz.results133
     ·have gb : decide (((decN u 0 u.size : Nat) : Int) > 1000000000000000) = false := by simp; omega
      have wn : IntKind.i64.wrap (0 - ((decN u 0 u.size : Nat) : Int)) = -((decN u 0 u.size : Nat) : Int) := by rw [i64_in (by omega) (by omega)]; omega
      rw [if_neg (by omega)]
      refine wRUN (j3 hdk gb wn) ?_
      exact wRet (ret_data []) Tryz.results133
theorem decN_ext {s t : ByteArray} {a c : Nat} : ∀ k, (∀ j, j < k → bAt s (a + j) = bAt t (c + j)) → decN s a k = decN t c k
 | 0, _ => rfl
 | k + 1, h => by
  simp only [decN]
  rw [decN_ext k fun j hj => h j (by omega), h k (by omega)]
theorem numText_parts (s : ByteArray) (i : Nat) (hi : i < s.size) (hd : digB (bAt s (numA s i)) = true) : ∃ (m : Bool) (u : ByteArray), 0 < (s.extract i (numE s i)).size ∧ (s.extract i (numE s i)).size ≤ s.size ∧ (bAt (s.extract i (numE s i)) 0 == 45) = m ∧ (if m then (s.extract i (numE s i)).extract 1 (s.extract i (numE s i)).size else s.extract i (numE s i)) = u ∧ 0 < u.size ∧ (∀ j, j < u.size → digB (bAt u j) = true) ∧
  numBig s i = decide (16 < u.size ∨ 1000000000000000 < decN u 0 u.size) ∧ numV' s i = (if m then -((decN u 0 u.size : Nat) : Int) else ((decN u 0 u.size : Nat) : Int)) := by
 obtain ⟨h1, h2, h3⟩ := numE_in hi hd
 obtain ⟨g1, g2, g3⟩ := numA_le hi
 have hts := ext_size (s := s) (a := i) h2
 have hat : ∀ k, i + k < numE s i → bAt (s.extract i (numE s i)) k = bAt s (i + k) := fun k hk => ext_at h2 hk
 have hA : (bAt s i = 45 ∧ numA s i = i + 1) ∨ (bAt s i ≠ 45 ∧ numA s i = i) := by
  unfold numA
  by_cases h : bAt s i = 45
  ·exact .inl ⟨h, if_pos h⟩
  ·exact .inr ⟨h, if_neg h⟩
 obtain ⟨m, hm⟩ : ∃ m, (bAt (s.extract i (numE s i)) 0 == 45) = m := ⟨_, rfl⟩
 obtain ⟨u, hu⟩ : ∃ u, (if m then (s.extract i (numE s i)).extract 1 (s.extract i (numE s i)).size else s.extract i (numE s i)) = u := ⟨_, rfl⟩
 have hm0 := hm
 rw [hat 0 (by omega)] at hm0
 rw [Nat.add_zero] at hm0
 have hus : u.size = numE s i - numA s i ∧ ∀ j, j < u.size → bAt u j = bAt s (numA s i + j) := by
  rcases hA with ⟨h45, hA⟩ | ⟨h45, hA⟩
  ·have hmt : m = true := by rw [← hm0]; simpa using h45
   subst hmt
   simp only [if_true] at hu
   have hsz : u.size = numE s i - numA s i := by rw [← hu, ext_size (Nat.le_refl _), hts]; omega
   refine ⟨hsz, fun j hj => ?_⟩
   rw [← hu, ext_at (Nat.le_refl _) (by omega), hat (1 + j) (by omega)]
   congr 1
   omega
  ·have hmt : m = false := by rw [← hm0]; simpa using h45
   subst hmt
   simp only [Bool.false_eq_true, if_false] at hu
   subst hu
   refine ⟨by rw [hts, hA], fun j hj => ?_⟩
   rw [hat j (by omega), hA]
 obtain ⟨hus, hub⟩ := hus
 have hdec : decN u 0 u.size = decN s (numA s i) (numE s i - numA s i) := by
  rw [hus]
  exact decN_ext _ fun j hj => by rw [Nat.zero_add]; exact hub j (by omega)
 refine ⟨m, u, by omega, by omega, hm, hu, by omega, fun j hj => by rw [hub j hj]; exact h3 _ (by omega) (by omega), ?_, ?_⟩
 ·unfold numBig
  rw [hdec, hus]
  simp
 ·unfold numV'
  rw [hdec]
  have e2 : (m = true) = (bAt s i = 45) := by rw [← hm0]; simp
  simp only [e2]
theorem numText_ac (s : ByteArray) (hs : s.size ≤ 1000000) (i : Nat) (hi : i < s.size) (hd : digB (bAt s (numA s i)) = true) :
  AC Tryz.prog 133 [.c (.str (s.extract i (numE s i)))] [] (if numBig s i then .tup [.c (.int .i64 0), .c (.bool false)] else .tup [.c (.int .i64 (numV' s i)), .c (.bool true)]) [] := by
 obtain ⟨m, u, h1, h2, hm, hu, _, hd2, hB, hV⟩ := numText_parts s i hi hd
 have hc := l2Value_ac (s.extract i (numE s i)) h1 (by omega) m u hm hu hd2
 rw [hB, hV]
 unfold valA at hc
 simpa using hc
end Go.Proofs.YtlciedpfjhkkdaaGreatDoor
