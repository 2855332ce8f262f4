/- slices.swapRangeCmpFunc, rotateCmpFunc at values, by the engine. -/
import Derived.Test.YtamgeodhpglgkaaGreatKE6
import Derived.Test.YtamgeodhpglgkaaGreatKM32
import Derived.Test.YtamgeodhpglgkaaGreatKM28uG69
set_option linter.unusedSimpArgs false
set_option maxHeartbeats 8000000
namespace Go.Proofs.YtamgeodhpglgkaaGreat
open Go.RowKit
set_option maxRecDepth 10000
abbrev rowV (L : List V) : AO := .row false 5 101 (L.map V.cs)
abbrev rowM (L : List V) : Mem := [((0, 0), rowV L)]
theorem row_mid (U : List V) (x : V) (W : List V) : rowsAt ((U ++ x :: W).map V.cs) 5 ((U.length : Nat) : Int) = true ∧ ((U ++ x :: W).map V.cs)[U.length]? = some [.int .i64 x.kind, .int .i64 x.num, .str x.text, .sl (x.keys.map strCs), .sl (x.kids.map V.cs)] ∧
  ∀ y : V, ((U ++ x :: W).map V.cs).set U.length [.int .i64 y.kind, .int .i64 y.num, .str y.text, .sl (y.keys.map strCs), .sl (y.kids.map V.cs)] = (U ++ y :: W).map V.cs := by
 have hg : ((U ++ x :: W).map V.cs)[U.length]? = some x.cs := by rw [List.getElem?_map, List.getElem?_append_right (Nat.le_refl _), Nat.sub_self]; rfl
 refine ⟨?_, by rw [hg, V.cs_eq], fun y => ?_⟩
 ·unfold rowsAt
  rw [show ((U.length : Nat) : Int).toNat = U.length from rfl, hg, V.cs_eq]
  rfl
 ·rw [← V.cs_eq, List.map_append, List.map_cons, List.set_append_right _ _ (by simp), List.length_map, Nat.sub_self, List.set_cons_zero, List.map_append, List.map_cons]
theorem row_midN (U : List V) (x : V) (W : List V) {n : Nat} (hn : U.length = n) {L : List V} (hL : L = U ++ x :: W) : rowsAt (L.map V.cs) 5 ((n : Nat) : Int) = true ∧ (L.map V.cs)[n]? = some [.int .i64 x.kind, .int .i64 x.num, .str x.text, .sl (x.keys.map strCs), .sl (x.kids.map V.cs)] ∧
  ∀ y : V, (L.map V.cs).set n [.int .i64 y.kind, .int .i64 y.num, .str y.text, .sl (y.keys.map strCs), .sl (y.kids.map V.cs)] = (U ++ y :: W).map V.cs := by
 subst hn
 rw [hL]
 exact row_mid U x W
def swapAt (P A M B S : List V) (k : Nat) : List V := P ++ (B.take k ++ A.drop k) ++ M ++ (A.take k ++ B.drop k) ++ S
theorem swapRange_ac (f : FuncId) (P A M B S : List V) (hAB : A.length = B.length) (hn : (P ++ A ++ M ++ B ++ S).length ≤ 100000) :
  AC Tryz.prog 394 [.own (0, 0), .c (.int .i64 (P.length : Int)), .c (.int .i64 ((P.length + A.length + M.length : Nat) : Int)), .c (.int .i64 (A.length : Int)), .clo f []] (rowM (P ++ A ++ M ++ B ++ S)) (.tup []) (rowM (P ++ B ++ M ++ A ++ S)) := by
 simp only [List.length_append] at hn
 have hz : (P ++ A ++ M ++ B ++ S) = swapAt P A M B S 0 := by simp [swapAt]
 rw [hz]
 refine wEnter Tryz.func394 Tryz.ntmps394 ?_
 refine wRUN trivial ?_
 refine a_loop (κ := Nat) (fun k => ⟨mkS 0 38 [(0, .own (0, 0)), (1, .c (.int .i64 (P.length : Int))), (2, .c (.int .i64 ((P.length + A.length + M.length : Nat) : Int))), (3, .c (.int .i64 (A.length : Int))), (10, .c (.int .i64 k))], [((0, 0), rowV (swapAt P A M B S k))]⟩)
  (fun k => k ≤ A.length) (fun k => A.length - k) 0 (Nat.zero_le _) ?_ ?_
 ·exact wSays (Says.of [((0, 0), (0, 0))] []) hAB
 ·intro k hk
  by_cases hlt : k < A.length
  ·have hd : decide ((k : Int) < (A.length : Int)) = true := by simpa using hlt
   have hltB : k < B.length := by omega
   have hw := wrap_succ (k := k) (by omega)
   have w1 : IntKind.i64.wrap ((P.length : Int) + (k : Int)) = ((P.length + k : Nat) : Int) := wrapN (by omega) (by omega)
   have w2 : IntKind.i64.wrap (((P.length + A.length + M.length : Nat) : Int) + (k : Int)) = ((P.length + A.length + M.length + k : Nat) : Int) := wrapN (by omega) (by omega)
   have e1 : swapAt P A M B S k = (P ++ B.take k) ++ A[k] :: (A.drop (k + 1) ++ M ++ (A.take k ++ B.drop k) ++ S) := by
    unfold swapAt
    rw [List.drop_eq_getElem_cons hlt]
    simp only [List.append_assoc, List.cons_append]
   have e2 : swapAt P A M B S k = (P ++ B.take k ++ A.drop k ++ M ++ A.take k) ++ B[k] :: (B.drop (k + 1) ++ S) := by
    unfold swapAt
    rw [List.drop_eq_getElem_cons hltB]
    simp only [List.append_assoc, List.cons_append]
   have l1 : (P ++ B.take k).length = P.length + k := by simp; omega
   have l2 : (P ++ B.take k ++ A.drop k ++ M ++ A.take k).length = P.length + A.length + M.length + k := by simp; omega
   obtain ⟨r1, g1, s1⟩ := row_midN _ _ _ l1 e1
   obtain ⟨r2, g2, _⟩ := row_midN _ _ _ l2 e2
   have e3 : (P ++ B.take k) ++ B[k] :: (A.drop (k + 1) ++ M ++ (A.take k ++ B.drop k) ++ S) = (P ++ B.take (k + 1) ++ A.drop (k + 1) ++ M ++ A.take k) ++ B[k] :: (B.drop (k + 1) ++ S) := by
    rw [List.take_succ_eq_append_getElem hltB, List.drop_eq_getElem_cons hltB]
    simp only [List.append_assoc, List.cons_append, List.nil_append]
   have l3 : (P ++ B.take (k + 1) ++ A.drop (k + 1) ++ M ++ A.take k).length = P.length + A.length + M.length + k := by simp; omega
   obtain ⟨r3, g3, s3⟩ := row_midN _ _ _ l3 e3
   have e4 : (P ++ B.take (k + 1) ++ A.drop (k + 1) ++ M ++ A.take k) ++ A[k] :: (B.drop (k + 1) ++ S) = swapAt P A M B S (k + 1) := by
    unfold swapAt
    rw [List.take_succ_eq_append_getElem hlt]
    simp only [List.append_assoc, List.cons_append, List.nil_append]
   have s1' := s1 B[k]
   have s3' := s3 A[k]
   rw [e4] at s3'
   clear s1 s3 e1 e2 e3 e4 l1 l2 l3
   generalize (P ++ B.take k) ++ B[k] :: (A.drop (k + 1) ++ M ++ (A.take k ++ B.drop k) ++ S) = L1 at *
   generalize hL2 : swapAt P A M B S (k + 1) = L2 at *
   generalize swapAt P A M B S k = L0 at *
   generalize A[k] = x at *
   generalize B[k] = y at *
   generalize P.length + k = i1 at *
   generalize P.length + A.length + M.length + k = i2 at *
   refine wRUN (j12 hd w1 w2 r1 r2 g1 g2 s1' r3 g3 s3' hw) ?_
   refine ⟨k + 1, by omega, by omega, ?_⟩
   exact wSays (Says.of [((0, 0), (0, 0))] []) hL2
  ·have hd : decide ((k : Int) < (A.length : Int)) = false := by simpa using hlt
   have hke : k = A.length := by omega
   have hfin : swapAt P A M B S A.length = P ++ B ++ M ++ A ++ S := by
    unfold swapAt
    rw [List.take_length, List.drop_length, hAB, List.take_length, List.drop_length]
    simp
   rw [hke, hfin]
   rw [hke] at hd
   refine wRUN hd ?_
   exact wRetOf (ret_of [((0, 0), (0, 0))] []) Tryz.results394 hd
theorem rotate_ac (f : FuncId) (P X Y S : List V) (hX : X ≠ []) (hY : Y ≠ []) (hn : (P ++ X ++ Y ++ S).length ≤ 100000) :
  AC Tryz.prog 385 [.own (0, 0), .c (.int .i64 (P.length : Int)), .c (.int .i64 ((P.length + X.length : Nat) : Int)), .c (.int .i64 ((P.length + X.length + Y.length : Nat) : Int)), .clo f []] (rowM (P ++ X ++ Y ++ S)) (.tup []) (rowM (P ++ Y ++ X ++ S)) := by
 simp only [List.length_append] at hn
 obtain ⟨m, hm⟩ : ∃ m, P.length + X.length = m := ⟨_, rfl⟩
 have w1 : IntKind.i64.wrap ((m : Int) - (P.length : Int)) = ((X.length : Nat) : Int) := wrapN (by omega) (by omega)
 have w2 : IntKind.i64.wrap (((m + Y.length : Nat) : Int) - (m : Int)) = ((Y.length : Nat) : Int) := wrapN (by omega) (by omega)
 obtain ⟨G, hG⟩ : ∃ G, P ++ Y ++ X ++ S = G := ⟨_, rfl⟩
 have hlen : P.length + X.length + Y.length + S.length ≤ 100000 := hn
 rw [hm, hG]
 refine wEnter Tryz.func385 Tryz.ntmps385 ?_
 refine wRUN (j2 w1 w2) ?_
 refine a_loop (κ := List V × List V × List V × List V) (fun q => ⟨mkS 0 58 [(0, .own (0, 0)), (2, .c (.int .i64 (m : Int))), (4, .clo f []), (10, .c (.int .i64 (q.2.1.length : Int))), (11, .c (.int .i64 (q.2.2.1.length : Int)))], [((0, 0), rowV (q.1 ++ q.2.1 ++ q.2.2.1 ++ q.2.2.2))]⟩)
  (fun q => q.1.length + q.2.1.length = m ∧ q.1 ++ q.2.2.1 ++ q.2.1 ++ q.2.2.2 = G ∧ 0 < q.2.1.length ∧ 0 < q.2.2.1.length ∧ q.1.length + q.2.1.length + q.2.2.1.length + q.2.2.2.length ≤ 100000) (fun q => q.2.1.length + q.2.2.1.length) (P, X, Y, S) ⟨hm, hG, List.length_pos_iff.2 hX, List.length_pos_iff.2 hY, hlen⟩ ?_ ?_
 ·exact wSays (Says.of [((0, 0), (0, 0))] []) hm
 ·rintro ⟨P', X', Y', S'⟩ ⟨i1, i2, i3, i4, i5⟩
  dsimp only at i1 i2 i3 i4 i5 ⊢
  have w3 : IntKind.i64.wrap ((m : Int) - (X'.length : Int)) = ((P'.length : Nat) : Int) := wrapN (by omega) (by omega)
  by_cases heq : X'.length = Y'.length
  ·have hb : (((X'.length : Nat) : Int) != ((Y'.length : Nat) : Int)) = false := by rw [heq]; simp
   have hsw := swapRange_ac f P' X' [] Y' S' heq (by simp only [List.length_append, List.length_nil]; omega)
   rw [show P'.length + X'.length + ([] : List V).length = m by simp; omega] at hsw
   simp only [List.append_nil] at hsw
   rw [i2] at hsw
   refine wRUN (j2 hb w3) ?_
   refine wCall (op_any_call [((0, 0), (0, 0))] [((0, 0), (0, 0))] hsw) trivial ?_
   refine wRUN trivial ?_
   exact wRetOf (ret_of [((0, 0), (0, 0))] []) Tryz.results385 hb
  ·have hb : (((X'.length : Nat) : Int) != ((Y'.length : Nat) : Int)) = true := by simp; omega
   by_cases hgt : X'.length > Y'.length
   ·have hd : decide (((X'.length : Nat) : Int) > ((Y'.length : Nat) : Int)) = true := decide_eq_true (by omega)
    have l1 : (X'.take Y'.length).length = Y'.length := by rw [List.length_take]; omega
    have l2 : (X'.drop Y'.length).length = X'.length - Y'.length := List.length_drop
    have hXX : X'.take Y'.length ++ X'.drop Y'.length = X' := List.take_append_drop _ _
    have hsw := swapRange_ac f P' (X'.take Y'.length) (X'.drop Y'.length) Y' S' l1 (by simp only [List.length_append]; omega)
    rw [show P'.length + (X'.take Y'.length).length + (X'.drop Y'.length).length = m by omega, l1] at hsw
    rw [show P' ++ X'.take Y'.length ++ X'.drop Y'.length ++ Y' ++ S' = P' ++ X' ++ Y' ++ S' by rw [List.append_assoc P', hXX]] at hsw
    have w4 : IntKind.i64.wrap ((X'.length : Int) - (Y'.length : Int)) = (((X'.drop Y'.length).length : Nat) : Int) := wrapN (by omega) (by omega)
    have i2' : (P' ++ Y') ++ X'.take Y'.length ++ X'.drop Y'.length ++ S' = G := by rw [List.append_assoc (P' ++ Y'), hXX]; exact i2
    have hy : ((X'.take Y'.length).length : Int) = (Y'.length : Int) := by rw [l1]
    refine wRUN (j3 hb hd w3) ?_
    refine wCall (op_any_call [((0, 0), (0, 0))] [((0, 0), (0, 0))] hsw) trivial ?_
    refine wRUN w4 ?_
    refine ⟨(P' ++ Y', X'.drop Y'.length, X'.take Y'.length, S'), by dsimp only; omega, ⟨by dsimp only; rw [List.length_append]; omega, i2', by dsimp only; omega, by dsimp only; omega, by dsimp only; rw [List.length_append]; omega⟩, ?_⟩
    dsimp only
    rw [hy]
    generalize X'.drop Y'.length = X2 at *
    generalize X'.take Y'.length = X1 at *
    exact wSays (Says.of [((0, 0), (0, 0))] []) hb
   ·have hd : decide (((X'.length : Nat) : Int) > ((Y'.length : Nat) : Int)) = false := decide_eq_false (by omega)
    have l1 : (Y'.take (Y'.length - X'.length)).length = Y'.length - X'.length := by rw [List.length_take]; omega
    have l2 : X'.length = (Y'.drop (Y'.length - X'.length)).length := by rw [List.length_drop]; omega
    have hYY : Y'.take (Y'.length - X'.length) ++ Y'.drop (Y'.length - X'.length) = Y' := List.take_append_drop _ _
    have hsw := swapRange_ac f P' X' (Y'.take (Y'.length - X'.length)) (Y'.drop (Y'.length - X'.length)) S' l2 (by simp only [List.length_append]; omega)
    rw [show P' ++ X' ++ Y'.take (Y'.length - X'.length) ++ Y'.drop (Y'.length - X'.length) ++ S' = P' ++ X' ++ Y' ++ S' by rw [List.append_assoc (P' ++ X'), hYY]] at hsw
    have w4 : IntKind.i64.wrap ((m : Int) + (Y'.length : Int)) = ((m + Y'.length : Nat) : Int) := wrapN (by omega) (by omega)
    have w5 : IntKind.i64.wrap (((m + Y'.length : Nat) : Int) - (X'.length : Int)) = ((P'.length + X'.length + (Y'.take (Y'.length - X'.length)).length : Nat) : Int) := wrapN (by omega) (by omega)
    have w6 : IntKind.i64.wrap ((Y'.length : Int) - (X'.length : Int)) = (((Y'.take (Y'.length - X'.length)).length : Nat) : Int) := wrapN (by omega) (by omega)
    have i2' : P' ++ Y'.take (Y'.length - X'.length) ++ Y'.drop (Y'.length - X'.length) ++ (X' ++ S') = G := by rw [List.append_assoc P', hYY, ← List.append_assoc]; exact i2
    have hy : ((Y'.drop (Y'.length - X'.length)).length : Int) = (X'.length : Int) := by rw [← l2]
    have hrow : P' ++ Y'.drop (Y'.length - X'.length) ++ Y'.take (Y'.length - X'.length) ++ X' ++ S' = P' ++ Y'.drop (Y'.length - X'.length) ++ Y'.take (Y'.length - X'.length) ++ (X' ++ S') := by simp only [List.append_assoc]
    rw [hrow] at hsw
    refine wRUN (j5 hb hd w3 w4 w5) ?_
    refine wCall (op_any_call [((0, 0), (0, 0))] [((0, 0), (0, 0))] hsw) trivial ?_
    refine wRUN w6 ?_
    refine ⟨(P', Y'.drop (Y'.length - X'.length), Y'.take (Y'.length - X'.length), X' ++ S'), by dsimp only; omega, ⟨by dsimp only; omega, i2', by dsimp only; omega, by dsimp only; omega, by dsimp only; rw [List.length_append]; omega⟩, ?_⟩
    dsimp only
    rw [hy]
    generalize Y'.drop (Y'.length - X'.length) = Y2 at *
    generalize Y'.take (Y'.length - X'.length) = Y1 at *
    exact wSays (Says.of [((0, 0), (0, 0))] []) hb
end Go.Proofs.YtamgeodhpglgkaaGreat
