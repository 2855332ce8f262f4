/- slices.symMergeCmpFunc at values, by the engine. -/
import Derived.Test.YtamgeodhpglgkaaGreatKM33uM34
set_option linter.unusedSimpArgs false
set_option maxHeartbeats 8000000
namespace Go.Proofs.YtamgeodhpglgkaaGreat
open Go.RowKit
set_option maxRecDepth 10000
theorem u64N {z : Nat} (h : z < 9000000000000000000) : IntKind.u64.wrap ((z : Nat) : Int) = ((z : Nat) : Int) := by
 unfold IntKind.wrap
 simp [IntKind.bits, IntKind.signed]
 omega
def SymAC (f : FuncId) (n : Nat) : Prop := ∀ (P X Y S : List V), X.length + Y.length ≤ n → X ≠ [] → Y ≠ [] → SortedV X → SortedV Y → (∀ x ∈ X, x.right) → (∀ y ∈ Y, y.right) → (P ++ X ++ Y ++ S).length ≤ 100000 →
  AC Tryz.prog 360 [.own (0, 0), .c (.int .i64 (P.length : Int)), .c (.int .i64 ((P.length + X.length : Nat) : Int)), .c (.int .i64 ((P.length + X.length + Y.length : Nat) : Int)), .clo f []] (rowM (P ++ X ++ Y ++ S)) (.tup []) (rowM (P ++ sortV (X ++ Y) ++ S))
theorem symMerge_one (f : FuncId) (hf : CmpAC f) (P : List V) (x : V) (Y S : List V) (hY : SortedV Y) (hyr : ∀ y ∈ Y, y.right) (hn : (P ++ [x] ++ Y ++ S).length ≤ 100000) :
  AC Tryz.prog 360 [.own (0, 0), .c (.int .i64 (P.length : Int)), .c (.int .i64 ((P.length + 1 : Nat) : Int)), .c (.int .i64 ((P.length + 1 + Y.length : Nat) : Int)), .clo f []] (rowM (P ++ [x] ++ Y ++ S)) (.tup []) (rowM (P ++ sortV ([x] ++ Y) ++ S)) := by
 obtain ⟨hcal, hf⟩ := hf
 simp only [List.length_append, List.length_singleton] at hn
 have w0 : IntKind.i64.wrap (((P.length + 1 : Nat) : Int) - (P.length : Int)) = 1 := wrapN (n := 1) (by omega) (by omega)
 have h11 : ((1 : Int) == 1) = true := rfl
 refine wEnter Tryz.func360 Tryz.ntmps360 ?_
 refine wRUN (j2 w0 h11) ?_
 refine a_loop (κ := Nat × Nat) (fun q => ⟨mkS 0 220 [(0, .own (0, 0)), (1, .c (.int .i64 (P.length : Int))), (4, .clo f []), (10, .c (.int .i64 ((P.length + 1 + q.1 : Nat) : Int))), (11, .c (.int .i64 ((P.length + 1 + q.2 : Nat) : Int)))], [((0, 0), rowV (P ++ [x] ++ Y ++ S))]⟩)
  (fun q => q.1 ≤ q.2 ∧ q.2 ≤ Y.length ∧ (∀ y ∈ Y.take q.1, y.cmp x < 0) ∧ (∀ y ∈ Y.drop q.2, leV x y)) (fun q => q.2 - q.1) (0, Y.length) ⟨Nat.zero_le _, Nat.le_refl _, by simp, by simp⟩ ?_ ?_
 ·exact wSays (Says.of [((0, 0), (0, 0))] []) h11
 ·rintro ⟨u, v⟩ ⟨huv, hvl, h1, h2⟩
  dsimp only at huv hvl h1 h2 ⊢
  by_cases hlt : u < v
  ·have hd : decide (((P.length + 1 + u : Nat) : Int) < ((P.length + 1 + v : Nat) : Int)) = true := decide_eq_true (by omega)
   have wa : IntKind.i64.wrap (((P.length + 1 + u : Nat) : Int) + ((P.length + 1 + v : Nat) : Int)) = ((P.length + 1 + u + (P.length + 1 + v) : Nat) : Int) := wrapN (by omega) (by omega)
   have wu := u64N (z := P.length + 1 + u + (P.length + 1 + v)) (by omega)
   obtain ⟨h, hh⟩ : ∃ h, (u + v) / 2 = h := ⟨_, rfl⟩
   have hH : (P.length + 1 + u + (P.length + 1 + v)) / 2 = P.length + 1 + h := by omega
   have wh : IntKind.i64.wrap ((P.length + 1 + h : Nat) : Int) = ((P.length + 1 + h : Nat) : Int) := wrapN rfl (by omega)
   have hw : IntKind.i64.wrap (((P.length + 1 + h : Nat) : Int) + 1) = ((P.length + 1 + (h + 1) : Nat) : Int) := wrapN (by omega) (by omega)
   have hhY : h < Y.length := by omega
   have e1 : P ++ [x] ++ Y ++ S = P ++ x :: (Y ++ S) := by simp
   have e2 : P ++ [x] ++ Y ++ S = (P ++ [x] ++ Y.take h) ++ Y[h] :: (Y.drop (h + 1) ++ S) := by
    conv => lhs; rw [← List.take_append_drop h Y, List.drop_eq_getElem_cons hhY]
    simp only [List.append_assoc, List.cons_append]
   obtain ⟨r1, g1, _⟩ := row_midN P x _ rfl e1
   obtain ⟨r2, g2, _⟩ := row_midN (n := P.length + 1 + h) _ _ _ (by simp; omega) e2
   have hcm := hf Y[h] x (hyr _ (List.getElem_mem hhY))
   have htl := take_le hY hhY
   have hdl := drop_ge hY hhY
   generalize P ++ [x] ++ Y ++ S = L at *
   generalize Y[h] = y at *
   clear e1 e2
   cases hc : decide (y.cmp x < 0) with
   | true =>
    have hlx : y.cmp x < 0 := by simpa using hc
    refine wRUN (j3 hd wa wu) ?_
    ((with_reducible apply op_half); (iterate 4 (focus (first | (simp only [go_sem, Nat.reduceEqDiff, Nat.reduceAdd, Nat.reduceSub, Nat.reduceLeDiff, Nat.reduceMul, Nat.reduceBEq, Nat.reduceLT, Int.reduceToNat, reduceCtorEq, wa, wu]; first | done | exact rfl | (and_intros <;> rfl)) | exact rfl | decide))))
    refine wRUN (j6 hH wh r1 g1 r2 g2) ?_
    refine w7 (op_data [] hcm) hcal ?_
    refine wRUN (j2 hc hw) ?_
    refine ⟨(h + 1, v), by dsimp only; omega, ⟨by dsimp only; omega, hvl, fun z hz => lt_of_le_lt (htl z hz) hlx, h2⟩, ?_⟩
    exact wSays (Says.of [((0, 0), (0, 0))] []) hw
   | false =>
    have hlx : leV x y := not_less.1 (by simpa using hc)
    refine wRUN (j3 hd wa wu) ?_
    ((with_reducible apply op_half); (iterate 4 (focus (first | (simp only [go_sem, Nat.reduceEqDiff, Nat.reduceAdd, Nat.reduceSub, Nat.reduceLeDiff, Nat.reduceMul, Nat.reduceBEq, Nat.reduceLT, Int.reduceToNat, reduceCtorEq, wa, wu]; first | done | exact rfl | (and_intros <;> rfl)) | exact rfl | decide))))
    refine wRUN (j6 hH wh r1 g1 r2 g2) ?_
    refine w7 (op_data [] hcm) hcal ?_
    refine wRUN hc ?_
    refine ⟨(u, h), by dsimp only; omega, ⟨by dsimp only; omega, by dsimp only; omega, h1, fun z hz => leV_trans hlx (hdl z hz)⟩, ?_⟩
    exact wSays (Says.of [((0, 0), (0, 0))] []) hw
  ·have hd : decide (((P.length + 1 + u : Nat) : Int) < ((P.length + 1 + v : Nat) : Int)) = false := decide_eq_false (by omega)
   have huv' : v = u := by omega
   subst huv'
   have hins := ins_one hY (x := x) (u := v) (fun y hy => less_le (h1 y hy)) h2
   have wm : IntKind.i64.wrap (((P.length + 1 + v : Nat) : Int) - 1) = ((P.length + v : Nat) : Int) := wrapN (by omega) (by omega)
   refine wRUN hd ?_
   refine a_loop (κ := Nat) (fun t => ⟨mkS 0 220 [(0, .own (0, 0)), (10, .c (.int .i64 ((P.length + 1 + v : Nat) : Int))), (13, .c (.int .i64 ((P.length + t : Nat) : Int)))], [((0, 0), rowV (P ++ Y.take t ++ x :: (Y.drop t ++ S)))]⟩)
    (fun t => t ≤ v) (fun t => v - t) 0 (Nat.zero_le _) ?_ ?_
   ·have e0 : P ++ [x] ++ Y ++ S = P ++ Y.take 0 ++ x :: (Y.drop 0 ++ S) := by simp
    have n0 : P.length + 0 = P.length := rfl
    rw [e0]
    exact wSays (Says.of [((0, 0), (0, 0))] []) n0
   ·intro t ht
    by_cases htv : t < v
    ·have hd2 : decide (((P.length + t : Nat) : Int) < ((P.length + v : Nat) : Int)) = true := decide_eq_true (by omega)
     have htY : t < Y.length := by omega
     have wt : IntKind.i64.wrap (((P.length + t : Nat) : Int) + 1) = ((P.length + (t + 1) : Nat) : Int) := wrapN (by omega) (by omega)
     have l1 : (P ++ Y.take t).length = P.length + t := by simp; omega
     have e2 : P ++ Y.take t ++ x :: (Y.drop t ++ S) = (P ++ Y.take t ++ [x]) ++ Y[t] :: (Y.drop (t + 1) ++ S) := by
      rw [List.drop_eq_getElem_cons htY]
      simp only [List.append_assoc, List.cons_append, List.nil_append]
     have l2 : (P ++ Y.take t ++ [x]).length = P.length + (t + 1) := by simp; omega
     obtain ⟨r1, g1, s1⟩ := row_midN (P ++ Y.take t) x (Y.drop t ++ S) l1 rfl
     obtain ⟨r2, g2, _⟩ := row_midN _ _ _ l2 e2
     have s1' := s1 Y[t]
     have e3 : (P ++ Y.take t) ++ Y[t] :: (Y.drop t ++ S) = (P ++ Y.take t ++ [Y[t]]) ++ Y[t] :: (Y.drop (t + 1) ++ S) := by
      rw [List.drop_eq_getElem_cons htY]
      simp only [List.append_assoc, List.cons_append, List.nil_append]
     have l3 : (P ++ Y.take t ++ [Y[t]]).length = P.length + (t + 1) := by simp; omega
     obtain ⟨r3, g3, s3⟩ := row_midN _ _ _ l3 e3
     have s3' := s3 x
     have e4 : (P ++ Y.take t ++ [Y[t]]) ++ x :: (Y.drop (t + 1) ++ S) = P ++ Y.take (t + 1) ++ x :: (Y.drop (t + 1) ++ S) := by
      rw [List.take_succ_eq_append_getElem htY]
      simp only [List.append_assoc]
     rw [e4] at s3'
     clear s1 s3 e2 e3 e4 l1 l2 l3
     generalize hL2 : P ++ Y.take (t + 1) ++ x :: (Y.drop (t + 1) ++ S) = L2 at *
     generalize (P ++ Y.take t) ++ Y[t] :: (Y.drop t ++ S) = L1 at *
     generalize P ++ Y.take t ++ x :: (Y.drop t ++ S) = L0 at *
     generalize Y[t] = y at *
     refine wRUN (j11 wm hd2 wt r1 g1 r2 g2 s1' r3 g3 s3') ?_
     refine ⟨t + 1, by omega, by omega, ?_⟩
     exact wSays (Says.of [((0, 0), (0, 0))] []) hL2
    ·have hd2 : decide (((P.length + t : Nat) : Int) < ((P.length + v : Nat) : Int)) = false := decide_eq_false (by omega)
     have htv' : t = v := by omega
     subst htv'
     have hfin : P ++ Y.take t ++ x :: (Y.drop t ++ S) = P ++ sortV ([x] ++ Y) ++ S := by
      rw [← hins]
      simp only [List.append_assoc, List.cons_append]
     rw [hfin]
     refine wRUN (j2 wm hd2) ?_
     exact wRetOf (ret_of [((0, 0), (0, 0))] []) Tryz.results360 hd2
end Go.Proofs.YtamgeodhpglgkaaGreat
