/- PrettyValue and SizeText on both sides. -/
import Derived.Test.YtfmnoljflcpbgaaGreatDoorKR23
import Derived.Test.YtfmnoljflcpbgaaGreatDoorKM2uG55
set_option linter.unusedSimpArgs false
set_option linter.unusedVariables false
set_option linter.unnecessarySimpa false
namespace Go.Proofs.YtfmnoljflcpbgaaGreatDoor
open Go.RowKit
set_option maxRecDepth 10000
variable {o : Obj}
/-- What PrettyValue answers. -/
def preR (xs : List CellD) (n : Int) : Int × ByteArray :=
  if (dec xs).1 ≠ 0 then ((dec xs).1, ByteArray.empty) else if decide (n ≥ 0) && decide (n ≤ 8) then (if 60000 < ((treeOf xs).pre n.toNat 0).size then (2, ByteArray.empty) else (0, (treeOf xs).pre n.toNat 0)) else (3, ByteArray.empty)
theorem preR_size (xs : List CellD) (n : Int) : (preR xs n).2.size ≤ 60000 := by
  unfold preR
  split
  · simp
  · split
    · split
      · simp
      · simp only; omega
    · simp
set_option maxHeartbeats 8000000 in
theorem specPretty_ac (xs : List CellD) (n : Int) : AC Tryz.prog 16 [cellsA xs, .c (.int .i64 n)] [] (.agg [.c (.int .i64 (preR xs n).1), .c (.str (preR xs n).2)]) [] := by
  have h1 := fault_ac xs
  have h2 := l1In_ac n 0 8
  rcases dec_cases xs with ⟨t, ht⟩ | ⟨c, hc, hd⟩
  · obtain ⟨e1, w1, w2, w3⟩ := dec_ok ht
    have hr : t.right := ⟨w1, w2, w3⟩
    have hne : ((0 : Int) != 0) = false := rfl
    have htr := tree_is ht
    have h0 : ¬ ((dec xs).1 ≠ 0) := by rw [ht]; simp
    rw [ht] at h1
    unfold preR
    rw [if_neg h0, htr]
    cases hin : (decide (n ≥ 0) && decide (n ≤ 8)) with
    | false =>
      rw [hin] at h2
      rw [if_neg (by simp)]
      refine wEnter Tryz.func16 Tryz.ntmps16 ?_
      refine wRUN trivial ?_
      refine w7 (op_data [] h1) trivial ?_
      refine wRUN hne ?_
      refine w7 (op_data [] h2) trivial ?_
      refine wRUN trivial ?_
      exact wRetOf (ret_of [] []) Tryz.results16 hne
    | true =>
      rw [hin] at h2
      rw [if_pos rfl]
      simp only [Bool.and_eq_true, decide_eq_true_eq] at hin
      obtain ⟨d, rfl⟩ : ∃ d : Nat, n = d := ⟨n.toNat, by omega⟩
      have hd8 : d ≤ 8 := by omega
      rw [Int.toNat_natCast]
      have h3 := specPre_ac d hd8 _ t 0 (Nat.le_refl _) hr (by omega)
      rw [Nat.mul_zero, ← e1] at h3
      have hz : ((0 : Nat) : Int) = 0 := rfl
      rw [hz] at h3
      by_cases hs : 60000 < (t.pre d 0).size
      · have hb : decide (((t.pre d 0).size : Int) > 60000) = true := by simp; omega
        rw [if_pos hs]
        refine wEnter Tryz.func16 Tryz.ntmps16 ?_
        refine wRUN trivial ?_
        refine w7 (op_data [] h1) trivial ?_
        refine wRUN hne ?_
        refine w7 (op_data [] h2) trivial ?_
        refine wRUN trivial ?_
        refine w7 (op_data [] h3) trivial ?_
        refine wRUN hb ?_
        exact wRetOf (ret_of [] []) Tryz.results16 hne
      · have hb : decide (((t.pre d 0).size : Int) > 60000) = false := by simp; omega
        rw [if_neg hs]
        refine wEnter Tryz.func16 Tryz.ntmps16 ?_
        refine wRUN trivial ?_
        refine w7 (op_data [] h1) trivial ?_
        refine wRUN hne ?_
        refine w7 (op_data [] h2) trivial ?_
        refine wRUN trivial ?_
        refine w7 (op_data [] h3) trivial ?_
        refine wRUN hb ?_
        exact wRetOf (ret_of [] []) Tryz.results16 hne
  · have hb : (c != 0) = true := by simpa using hc
    rw [hd] at h1
    unfold preR
    rw [hd, if_pos hc]
    refine wEnter Tryz.func16 Tryz.ntmps16 ?_
    refine wRUN trivial ?_
    refine w7 (op_data [] h1) trivial ?_
    refine wRUN hb ?_
    exact wRetOf (ret_of [] []) Tryz.results16 hb
set_option maxHeartbeats 8000000 in
theorem implPretty_ac (xs : List CellD) (hz : Sized xs) (n : Int) : AC Tryz.prog 17 [cellsA xs, .c (.int .i64 n)] (tabM o) (.agg [.c (.int .i64 (preR xs n).1), .c (.str (preR xs n).2)]) (tabM o) := by
  have h2 := within_ac n 0 8
  rcases dec_cases xs with ⟨t, ht⟩ | ⟨c, hc, hd⟩
  · obtain ⟨e1, w1, w2, w3⟩ := dec_ok ht
    have hr : t.right := ⟨w1, w2, w3⟩
    have hne : ((0 : Int) != 0) = false := rfl
    have htr := tree_is ht
    have h0 : ¬ ((dec xs).1 ≠ 0) := by rw [ht]; simp
    have h1 := valOf_ac xs hz (t := t) (by rw [ht])
    unfold preR
    rw [if_neg h0, htr]
    cases hin : (decide (n ≥ 0) && decide (n ≤ 8)) with
    | false =>
      rw [hin] at h2
      rw [if_neg (by simp)]
      refine wEnter Tryz.func17 Tryz.ntmps17 ?_
      refine wRUN trivial ?_
      refine w9 (op_shared [] h1) trivial ?_
      refine wRUN hne ?_
      refine w7 (op_data [] h2) trivial ?_
      refine wRUN trivial ?_
      exact wRetOf (ret_of [((8, 0), (8, 0))] []) Tryz.results17 hne
    | true =>
      rw [hin] at h2
      rw [if_pos rfl]
      simp only [Bool.and_eq_true, decide_eq_true_eq] at hin
      obtain ⟨d, rfl⟩ : ∃ d : Nat, n = d := ⟨n.toNat, by omega⟩
      have hd8 : d ≤ 8 := by omega
      rw [Int.toNat_natCast]
      have h3 := implPre_ac (o := o) hd8 _ t 0 (Nat.le_refl _) hr (by
        have : d * t.depth ≤ 8 * 20 := Nat.mul_le_mul hd8 w3
        omega)
      have hz0 : ((0 : Nat) : Int) = 0 := rfl
      rw [hz0] at h3
      by_cases hs : 60000 < (t.pre d 0).size
      · have hb : decide (((t.pre d 0).size : Int) > 60000) = true := by simp; omega
        rw [if_pos hs]
        refine wEnter Tryz.func17 Tryz.ntmps17 ?_
        refine wRUN trivial ?_
        refine w9 (op_shared [] h1) trivial ?_
        refine wRUN hne ?_
        refine w7 (op_data [] h2) trivial ?_
        refine wRUN trivial ?_
        refine w10 (op_reads tab_pin tab_any (8, 0) [] h3) trivial ?_
        refine wRUN hb ?_
        exact wRetOf (ret_of [((8, 0), (8, 0))] []) Tryz.results17 hne
      · have hb : decide (((t.pre d 0).size : Int) > 60000) = false := by simp; omega
        rw [if_neg hs]
        refine wEnter Tryz.func17 Tryz.ntmps17 ?_
        refine wRUN trivial ?_
        refine w9 (op_shared [] h1) trivial ?_
        refine wRUN hne ?_
        refine w7 (op_data [] h2) trivial ?_
        refine wRUN trivial ?_
        refine w10 (op_reads tab_pin tab_any (8, 0) [] h3) trivial ?_
        refine wRUN hb ?_
        exact wRetOf (ret_of [((8, 0), (8, 0))] []) Tryz.results17 hne
  · have hb : (c != 0) = true := by simpa using hc
    have h1 := valOf_bad xs hz (by rw [hd])
    rw [hd] at h1
    unfold preR
    rw [hd, if_pos hc]
    refine wEnter Tryz.func17 Tryz.ntmps17 ?_
    refine wRUN trivial ?_
    refine w9 (op_shared [] h1) noV_eq ?_
    refine wRUN (j2 hb noV_eq) ?_
    exact wRetOf (ret_of [((8, 0), (8, 0))] []) Tryz.results17 hb
theorem preR_bad {xs : List CellD} {n : Int} (h : (preR xs n).1 ≠ 0) : (preR xs n).2 = ByteArray.empty := by
  unfold preR at h ⊢
  split
  · rfl
  · rename_i h0
    rw [if_neg h0] at h
    split
    · rename_i h1
      rw [if_pos h1] at h
      split
      · rfl
      · rename_i h2
        rw [if_neg h2] at h
        exact absurd rfl h
    · rfl
set_option maxHeartbeats 8000000 in
theorem specSize_ac (xs : List CellD) (n : Int) : AC Tryz.prog 18 [cellsA xs, .c (.int .i64 n)] [] (.agg [.c (.int .i64 (preR xs n).1), .c (.int .i64 (preR xs n).2.size)]) [] := by
  have h1 := specPretty_ac xs n
  refine wEnter Tryz.func18 Tryz.ntmps18 ?_
  refine wRUN trivial ?_
  refine w7 (op_data [] h1) trivial ?_
  refine wRUN trivial ?_
  exact wRetOf (ret_of [] []) Tryz.results18 trivial
theorem preLen_ac (s : ByteArray) (h : s.size ≤ 1000000) : AC Tryz.prog 55 [.c (.str s)] [] (.c (.int .i64 s.size)) [] := by
  refine wEnter Tryz.func55 Tryz.ntmps55 ?_
  refine wRUN trivial ?_
  exact wRetOf (ret_of [] []) Tryz.results55 h
set_option maxHeartbeats 8000000 in
theorem implSize_ac (xs : List CellD) (hz : Sized xs) (n : Int) : AC Tryz.prog 19 [cellsA xs, .c (.int .i64 n)] (tabM o) (.agg [.c (.int .i64 (preR xs n).1), .c (.int .i64 (preR xs n).2.size)]) (tabM o) := by
  have h1 := implPretty_ac (o := o) xs hz n
  have hsz := preR_size xs n
  have hl := preLen_ac (preR xs n).2 (by omega)
  by_cases h0 : (preR xs n).1 = 0
  · have hb : ((preR xs n).1 != 0) = false := by simpa using h0
    have hc : ((0 : Int)) = (preR xs n).1 := h0.symm
    refine wEnter Tryz.func19 Tryz.ntmps19 ?_
    refine wRUN trivial ?_
    refine wCall (op_any_call [((8, 0), (8, 0))] [((8, 0), (8, 0))] h1) trivial ?_
    refine wRUN hb ?_
    refine w7 (op_data [] hl) trivial ?_
    refine wRUN trivial ?_
    exact wRetOf (ret_of [((8, 0), (8, 0))] []) Tryz.results19 h0
  · have hb : ((preR xs n).1 != 0) = true := by simpa using h0
    have he := preR_bad h0
    have hs0 : (ByteArray.empty).size = 0 := rfl
    have hs1 : (((preR xs n).2.size : Nat) : Int) = 0 := by rw [he]; rfl
    rw [hs1]
    refine wEnter Tryz.func19 Tryz.ntmps19 ?_
    refine wRUN trivial ?_
    refine wCall (op_any_call [((8, 0), (8, 0))] [((8, 0), (8, 0))] h1) trivial ?_
    refine wRUN hb ?_
    exact wRetOf (ret_of [((8, 0), (8, 0))] []) Tryz.results19 hb
end Go.Proofs.YtfmnoljflcpbgaaGreatDoor
