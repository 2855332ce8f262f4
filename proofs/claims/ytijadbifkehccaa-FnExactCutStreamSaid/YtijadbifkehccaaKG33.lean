/- The laws' own functions on an argument [][]Cell: szCellSS, toCellSS. -/
import Derived.Test.YtijadbifkehccaaKG16
import Derived.Test.YtijadbifkehccaaKH99
import Derived.Test.YtijadbifkehccaaKE5
set_option linter.unusedSimpArgs false
set_option linter.unusedVariables false
set_option linter.unnecessarySimpa false
namespace Go.Proofs.Ytijadbifkehccaa
open Go.RowKit
set_option maxRecDepth 10000
def szGo : List (List CellD) → Int → Int
  | [], left => left
  | x :: r, left => if szR x left < 0 then -1 else szGo r (szR x left)
def szLR (l : List (List CellD)) (left : Int) : Int := if left - l.length < 0 then -1 else szGo l (left - l.length)
theorem szGo_le : ∀ (l : List (List CellD)) (left : Int), 0 ≤ left → szGo l left ≤ left
  | [], _, _ => Int.le_refl _
  | x :: r, left, h => by
    unfold szGo
    have := szR_le x left h
    split
    · omega
    · have := szGo_le r (szR x left) (by omega)
      omega
theorem szLR_le (l : List (List CellD)) (left : Int) (h : 0 ≤ left) : szLR l left ≤ left := by
  unfold szLR
  split
  · omega
  · have := szGo_le l (left - l.length) (by omega)
    omega
theorem szR_sub {x : List CellD} {left : Int} (h : ¬ szR x left < 0) : szR x left ≤ left - x.length := by
  unfold szR at h ⊢
  split
  · omega
  · have : (0 : Int) ≤ (bulk x : Int) := by omega
    omega
theorem szGo_tot : ∀ (l : List (List CellD)) (left : Int), 0 ≤ left → ¬ szGo l left < 0 → (tot l : Int) ≤ left ∧ ∀ x ∈ l, (x.length : Int) ≤ left
  | [], left, h, _ => by simp [tot]; exact h
  | x :: r, left, h, hn => by
    unfold szGo at hn
    by_cases hs : szR x left < 0
    · rw [if_pos hs] at hn; exact absurd (by decide) hn
    · rw [if_neg hs] at hn
      have h1 := szR_sub hs
      obtain ⟨h2, h3⟩ := szGo_tot r (szR x left) (by omega) hn
      have h4 : tot (x :: r) = x.length + tot r := by simp [tot]
      refine ⟨by rw [h4]; omega, fun y hy => ?_⟩
      rcases List.mem_cons.1 hy with rfl | hy
      · omega
      · have := h3 y hy; omega
theorem szLR_tot {l : List (List CellD)} {left : Int} (h : ¬ szLR l left < 0) (hl : left ≤ 1048576) : l.length ≤ 1048576 ∧ tot l ≤ 1048576 ∧ ∀ x ∈ l, x.length ≤ 1048576 := by
  unfold szLR at h
  by_cases hs : left - l.length < 0
  · rw [if_pos hs] at h; exact absurd (by decide) h
  · rw [if_neg hs] at h
    obtain ⟨h1, h2⟩ := szGo_tot l _ (by omega) h
    exact ⟨by omega, by omega, fun x hx => by have := h2 x hx; omega⟩
theorem szGo_drop (l : List (List CellD)) {k : Nat} (h : k < l.length) (left : Int) : szGo (l.drop k) left = if szR l[k] left < 0 then -1 else szGo (l.drop (k + 1)) (szR l[k] left) := by
  rw [List.drop_eq_getElem_cons h]
  rfl
theorem row_enc (l : List (List CellD)) {k : Nat} (h : k < l.length) : rowsAt (l.map encCs) 1 k = true ∧ (l.map encCs)[k]? = some [.sl (l[k].map CellD.cs)] := ⟨by simp [rowsAt, h, encCs], by simp [h, encCs]⟩
set_option maxHeartbeats 4000000 in
theorem szCellSS_ac (l : List (List CellD)) (hz : ∀ x ∈ l, Sized63 x) (hl : l.length ≤ 9223372036854775807) (hy : ∀ x ∈ l, x.length ≤ 9223372036854775807) (left : Int) (h0 : 0 ≤ left) (h1 : left ≤ 1048576) : AC Try.prog 23 [.c (.sl (l.map encCs)), .c (.int .i64 left)] [] (.c (.int .i64 (szLR l left))) [] := by
  have w1 : IntKind.i64.wrap (left - l.length) = left - l.length := wrap_in (by omega) (by omega)
  have hln : (l.map encCs).length = l.length := by simp
  by_cases hn : left - l.length < 0
  · have hr : szLR l left = -1 := by unfold szLR; rw [if_pos hn]
    have hd : decide (left - (l.length : Int) < 0) = true := by simpa using hn
    rw [hr]
    refine AC.intro follows_mixed Try.func23 rfl ?_; simp only [Try.ntmps23, go_sem, List.replicate, Nat.reduceAdd, Nat.reduceSub]
    (repeat (first | (with_reducible refine a_seq ?_) | (with_reducible refine a_region ?_) | ((with_reducible apply op_any); (iterate 2 (focus (first | (simp only [go_sem, Nat.reduceEqDiff, Nat.reduceAdd, Nat.reduceSub, Nat.reduceLeDiff, Nat.reduceMul, Nat.reduceBEq, Nat.reduceLT, Int.reduceToNat, reduceCtorEq, w1, hd, hln]; first | done | exact rfl | (and_intros <;> rfl)) | exact rfl | decide)))) | ((with_reducible refine o_nil ?_); dsimp only; try ((with_reducible apply o_draw); (focus (simp only [go_sem, Nat.reduceEqDiff, Nat.reduceAdd, Nat.reduceSub, Nat.reduceLeDiff, Nat.reduceMul, Nat.reduceBEq, Nat.reduceLT, Int.reduceToNat, reduceCtorEq, w1, hd, hln]; exact rfl)); (focus decide))) | ((with_reducible refine a_ret ?_); dsimp only) | (with_reducible refine a_block ?_) | ((with_reducible refine a_exit ?_); dsimp only; simp only [if_true, if_false, Nat.reduceEqDiff]) | ((with_reducible apply a_if); (focus (first | (simp only [go_sem, Nat.reduceEqDiff, Nat.reduceAdd, Nat.reduceSub, Nat.reduceLeDiff, Nat.reduceMul, Nat.reduceBEq, Nat.reduceLT, Int.reduceToNat, reduceCtorEq, w1, hd, hln]; first | done | exact rfl | (and_intros <;> rfl)) | exact rfl | decide)); dsimp only [cond_true, cond_false]) | ((with_reducible refine a_draw ?_ ?_); (focus exact rfl)) | ((with_reducible refine a_skip ?_); dsimp only) | ((with_reducible refine a_label ?_); dsimp only) | (with_reducible refine a_scope ?_)))
    exact ret_data [] (by simp only [Try.results23, go_sem]; exact rfl) (by simp only [go_sem, Nat.reduceEqDiff, Nat.reduceAdd, Nat.reduceSub, Nat.reduceLeDiff, Nat.reduceMul, Nat.reduceBEq, Nat.reduceLT, Int.reduceToNat, reduceCtorEq]) rfl
  · have hd : decide (left - (l.length : Int) < 0) = false := by simpa using hn
    have hr : szLR l left = szGo l (left - l.length) := by unfold szLR; rw [if_neg hn]
    obtain ⟨R, hR⟩ : ∃ R, R = szLR l left := ⟨_, rfl⟩
    rw [← hR] at hr ⊢
    clear hR
    refine AC.intro follows_mixed Try.func23 rfl ?_; simp only [Try.ntmps23, go_sem, List.replicate, Nat.reduceAdd, Nat.reduceSub]
    (repeat (first | (with_reducible refine a_seq ?_) | (with_reducible refine a_region ?_) | ((with_reducible apply op_any); (iterate 2 (focus (first | (simp only [go_sem, Nat.reduceEqDiff, Nat.reduceAdd, Nat.reduceSub, Nat.reduceLeDiff, Nat.reduceMul, Nat.reduceBEq, Nat.reduceLT, Int.reduceToNat, reduceCtorEq, w1, hd, hln]; first | done | exact rfl | (and_intros <;> rfl)) | exact rfl | decide)))) | ((with_reducible refine o_nil ?_); dsimp only; try ((with_reducible apply o_draw); (focus (simp only [go_sem, Nat.reduceEqDiff, Nat.reduceAdd, Nat.reduceSub, Nat.reduceLeDiff, Nat.reduceMul, Nat.reduceBEq, Nat.reduceLT, Int.reduceToNat, reduceCtorEq, w1, hd, hln]; exact rfl)); (focus decide))) | ((with_reducible refine a_ret ?_); dsimp only) | (with_reducible refine a_block ?_) | ((with_reducible refine a_exit ?_); dsimp only; simp only [if_true, if_false, Nat.reduceEqDiff]) | ((with_reducible apply a_if); (focus (first | (simp only [go_sem, Nat.reduceEqDiff, Nat.reduceAdd, Nat.reduceSub, Nat.reduceLeDiff, Nat.reduceMul, Nat.reduceBEq, Nat.reduceLT, Int.reduceToNat, reduceCtorEq, w1, hd, hln]; first | done | exact rfl | (and_intros <;> rfl)) | exact rfl | decide)); dsimp only [cond_true, cond_false]) | ((with_reducible refine a_draw ?_ ?_); (focus exact rfl)) | ((with_reducible refine a_skip ?_); dsimp only) | ((with_reducible refine a_label ?_); dsimp only) | (with_reducible refine a_scope ?_)))
    refine a_loop (κ := Nat × Int) (fun x => ⟨mkS 0 27 [(0, .c (.sl (l.map encCs))), (1, .c (.int .i64 x.2)), (5, .c (.int .i64 x.1))], []⟩)
      (fun x => x.1 ≤ l.length ∧ 0 ≤ x.2 ∧ x.2 ≤ 1048576 ∧ R = szGo (l.drop x.1) x.2) (fun x => l.length - x.1) (0, left - l.length) ⟨Nat.zero_le _, by omega, by omega, hr⟩ ?_ ?_
    · (apply (Says.of [] []); (iterate 2 ((focus (simp only [go_sem, Nat.reduceEqDiff, Nat.reduceAdd, Nat.reduceSub, Nat.reduceLeDiff, Nat.reduceMul, Nat.reduceBEq, Nat.reduceLT, Int.reduceToNat, reduceCtorEq, hd]; try (and_intros <;> rfl))); (focus exact rfl))); (iterate 4 (focus (simp [go_sem, hd]; done))))
    · rintro ⟨k, L⟩ ⟨hk, hL0, hL1, hRk⟩
      dsimp only at hk hL0 hL1 hRk ⊢
      by_cases hlt : k < l.length
      · have hdk : decide ((k : Int) < (l.length : Int)) = true := by simpa using hlt
        have hw := wrap_succ (k := k) (by omega)
        obtain ⟨hr0, hg0⟩ := row_enc l hlt
        have hmem := List.getElem_mem hlt
        have hca := szCellS_ac l[k] (hz _ hmem) (hy _ hmem) L hL0 hL1
        have hle := szR_le l[k] L hL0
        rw [szGo_drop l hlt] at hRk
        generalize l[k] = x at *
        by_cases hm : szR x L < 0
        · rw [if_pos hm] at hRk
          have hdm : decide (szR x L < 0) = true := by simpa using hm
          subst hRk
          (repeat (first | (with_reducible refine a_seq ?_) | (with_reducible refine a_region ?_) | ((with_reducible apply op_any); (iterate 2 (focus (first | (simp only [go_sem, Nat.reduceEqDiff, Nat.reduceAdd, Nat.reduceSub, Nat.reduceLeDiff, Nat.reduceMul, Nat.reduceBEq, Nat.reduceLT, Int.reduceToNat, reduceCtorEq, hdk, hr0, hg0, hln]; first | done | exact rfl | (and_intros <;> rfl)) | exact rfl | decide)))) | ((with_reducible refine o_nil ?_); dsimp only; try ((with_reducible apply o_draw); (focus (simp only [go_sem, Nat.reduceEqDiff, Nat.reduceAdd, Nat.reduceSub, Nat.reduceLeDiff, Nat.reduceMul, Nat.reduceBEq, Nat.reduceLT, Int.reduceToNat, reduceCtorEq, hdk, hr0, hg0, hln]; exact rfl)); (focus decide))) | ((with_reducible refine a_ret ?_); dsimp only) | (with_reducible refine a_block ?_) | ((with_reducible refine a_exit ?_); dsimp only; simp only [if_true, if_false, Nat.reduceEqDiff]) | ((with_reducible apply a_if); (focus (first | (simp only [go_sem, Nat.reduceEqDiff, Nat.reduceAdd, Nat.reduceSub, Nat.reduceLeDiff, Nat.reduceMul, Nat.reduceBEq, Nat.reduceLT, Int.reduceToNat, reduceCtorEq, hdk, hr0, hg0, hln]; first | done | exact rfl | (and_intros <;> rfl)) | exact rfl | decide)); dsimp only [cond_true, cond_false]) | ((with_reducible refine a_draw ?_ ?_); (focus exact rfl)) | ((with_reducible refine a_skip ?_); dsimp only) | ((with_reducible refine a_label ?_); dsimp only) | (with_reducible refine a_scope ?_)))
          (apply (op_data [] hca); (iterate 7 (focus (first | (simp only [go_sem, Nat.reduceEqDiff, Nat.reduceAdd, Nat.reduceSub, Nat.reduceLeDiff, Nat.reduceMul, Nat.reduceBEq, Nat.reduceLT, Int.reduceToNat, reduceCtorEq]; first | done | exact rfl | (and_intros <;> rfl)) | exact rfl | decide))))
          (repeat (first | (with_reducible refine a_seq ?_) | (with_reducible refine a_region ?_) | ((with_reducible apply op_any); (iterate 2 (focus (first | (simp only [go_sem, Nat.reduceEqDiff, Nat.reduceAdd, Nat.reduceSub, Nat.reduceLeDiff, Nat.reduceMul, Nat.reduceBEq, Nat.reduceLT, Int.reduceToNat, reduceCtorEq, hdm]; first | done | exact rfl | (and_intros <;> rfl)) | exact rfl | decide)))) | ((with_reducible refine o_nil ?_); dsimp only; try ((with_reducible apply o_draw); (focus (simp only [go_sem, Nat.reduceEqDiff, Nat.reduceAdd, Nat.reduceSub, Nat.reduceLeDiff, Nat.reduceMul, Nat.reduceBEq, Nat.reduceLT, Int.reduceToNat, reduceCtorEq, hdm]; exact rfl)); (focus decide))) | ((with_reducible refine a_ret ?_); dsimp only) | (with_reducible refine a_block ?_) | ((with_reducible refine a_exit ?_); dsimp only; simp only [if_true, if_false, Nat.reduceEqDiff]) | ((with_reducible apply a_if); (focus (first | (simp only [go_sem, Nat.reduceEqDiff, Nat.reduceAdd, Nat.reduceSub, Nat.reduceLeDiff, Nat.reduceMul, Nat.reduceBEq, Nat.reduceLT, Int.reduceToNat, reduceCtorEq, hdm]; first | done | exact rfl | (and_intros <;> rfl)) | exact rfl | decide)); dsimp only [cond_true, cond_false]) | ((with_reducible refine a_draw ?_ ?_); (focus exact rfl)) | ((with_reducible refine a_skip ?_); dsimp only) | ((with_reducible refine a_label ?_); dsimp only) | (with_reducible refine a_scope ?_)))
          exact ret_data [] (by simp only [Try.results23, go_sem]; exact rfl) (by simp only [go_sem, Nat.reduceEqDiff, Nat.reduceAdd, Nat.reduceSub, Nat.reduceLeDiff, Nat.reduceMul, Nat.reduceBEq, Nat.reduceLT, Int.reduceToNat, reduceCtorEq]) rfl
        · rw [if_neg hm] at hRk
          have hdm : decide (szR x L < 0) = false := by simpa using hm
          (repeat (first | (with_reducible refine a_seq ?_) | (with_reducible refine a_region ?_) | ((with_reducible apply op_any); (iterate 2 (focus (first | (simp only [go_sem, Nat.reduceEqDiff, Nat.reduceAdd, Nat.reduceSub, Nat.reduceLeDiff, Nat.reduceMul, Nat.reduceBEq, Nat.reduceLT, Int.reduceToNat, reduceCtorEq, hdk, hr0, hg0, hln]; first | done | exact rfl | (and_intros <;> rfl)) | exact rfl | decide)))) | ((with_reducible refine o_nil ?_); dsimp only; try ((with_reducible apply o_draw); (focus (simp only [go_sem, Nat.reduceEqDiff, Nat.reduceAdd, Nat.reduceSub, Nat.reduceLeDiff, Nat.reduceMul, Nat.reduceBEq, Nat.reduceLT, Int.reduceToNat, reduceCtorEq, hdk, hr0, hg0, hln]; exact rfl)); (focus decide))) | ((with_reducible refine a_ret ?_); dsimp only) | (with_reducible refine a_block ?_) | ((with_reducible refine a_exit ?_); dsimp only; simp only [if_true, if_false, Nat.reduceEqDiff]) | ((with_reducible apply a_if); (focus (first | (simp only [go_sem, Nat.reduceEqDiff, Nat.reduceAdd, Nat.reduceSub, Nat.reduceLeDiff, Nat.reduceMul, Nat.reduceBEq, Nat.reduceLT, Int.reduceToNat, reduceCtorEq, hdk, hr0, hg0, hln]; first | done | exact rfl | (and_intros <;> rfl)) | exact rfl | decide)); dsimp only [cond_true, cond_false]) | ((with_reducible refine a_draw ?_ ?_); (focus exact rfl)) | ((with_reducible refine a_skip ?_); dsimp only) | ((with_reducible refine a_label ?_); dsimp only) | (with_reducible refine a_scope ?_)))
          (apply (op_data [] hca); (iterate 7 (focus (first | (simp only [go_sem, Nat.reduceEqDiff, Nat.reduceAdd, Nat.reduceSub, Nat.reduceLeDiff, Nat.reduceMul, Nat.reduceBEq, Nat.reduceLT, Int.reduceToNat, reduceCtorEq]; first | done | exact rfl | (and_intros <;> rfl)) | exact rfl | decide))))
          (repeat (first | (with_reducible refine a_seq ?_) | (with_reducible refine a_region ?_) | ((with_reducible apply op_any); (iterate 2 (focus (first | (simp only [go_sem, Nat.reduceEqDiff, Nat.reduceAdd, Nat.reduceSub, Nat.reduceLeDiff, Nat.reduceMul, Nat.reduceBEq, Nat.reduceLT, Int.reduceToNat, reduceCtorEq, hdm, hw]; first | done | exact rfl | (and_intros <;> rfl)) | exact rfl | decide)))) | ((with_reducible refine o_nil ?_); dsimp only; try ((with_reducible apply o_draw); (focus (simp only [go_sem, Nat.reduceEqDiff, Nat.reduceAdd, Nat.reduceSub, Nat.reduceLeDiff, Nat.reduceMul, Nat.reduceBEq, Nat.reduceLT, Int.reduceToNat, reduceCtorEq, hdm, hw]; exact rfl)); (focus decide))) | ((with_reducible refine a_ret ?_); dsimp only) | (with_reducible refine a_block ?_) | ((with_reducible refine a_exit ?_); dsimp only; simp only [if_true, if_false, Nat.reduceEqDiff]) | ((with_reducible apply a_if); (focus (first | (simp only [go_sem, Nat.reduceEqDiff, Nat.reduceAdd, Nat.reduceSub, Nat.reduceLeDiff, Nat.reduceMul, Nat.reduceBEq, Nat.reduceLT, Int.reduceToNat, reduceCtorEq, hdm, hw]; first | done | exact rfl | (and_intros <;> rfl)) | exact rfl | decide)); dsimp only [cond_true, cond_false]) | ((with_reducible refine a_draw ?_ ?_); (focus exact rfl)) | ((with_reducible refine a_skip ?_); dsimp only) | ((with_reducible refine a_label ?_); dsimp only) | (with_reducible refine a_scope ?_)))
          refine ⟨(k + 1, szR x L), by dsimp only; omega, ⟨by dsimp only; omega, by dsimp only; omega, by dsimp only; omega, hRk⟩, ?_⟩
          (apply (Says.of [] []); (iterate 2 ((focus (simp only [go_sem, Nat.reduceEqDiff, Nat.reduceAdd, Nat.reduceSub, Nat.reduceLeDiff, Nat.reduceMul, Nat.reduceBEq, Nat.reduceLT, Int.reduceToNat, reduceCtorEq, hw]; try (and_intros <;> rfl))); (focus exact rfl))); (iterate 4 (focus (simp [go_sem, hw]; done))))
      · have hdk : decide ((k : Int) < (l.length : Int)) = false := by simpa using hlt
        rw [List.drop_eq_nil_of_le (by omega)] at hRk
        have hRL : R = L := hRk
        subst hRL
        (repeat (first | (with_reducible refine a_seq ?_) | (with_reducible refine a_region ?_) | ((with_reducible apply op_any); (iterate 2 (focus (first | (simp only [go_sem, Nat.reduceEqDiff, Nat.reduceAdd, Nat.reduceSub, Nat.reduceLeDiff, Nat.reduceMul, Nat.reduceBEq, Nat.reduceLT, Int.reduceToNat, reduceCtorEq, hdk, hln]; first | done | exact rfl | (and_intros <;> rfl)) | exact rfl | decide)))) | ((with_reducible refine o_nil ?_); dsimp only; try ((with_reducible apply o_draw); (focus (simp only [go_sem, Nat.reduceEqDiff, Nat.reduceAdd, Nat.reduceSub, Nat.reduceLeDiff, Nat.reduceMul, Nat.reduceBEq, Nat.reduceLT, Int.reduceToNat, reduceCtorEq, hdk, hln]; exact rfl)); (focus decide))) | ((with_reducible refine a_ret ?_); dsimp only) | (with_reducible refine a_block ?_) | ((with_reducible refine a_exit ?_); dsimp only; simp only [if_true, if_false, Nat.reduceEqDiff]) | ((with_reducible apply a_if); (focus (first | (simp only [go_sem, Nat.reduceEqDiff, Nat.reduceAdd, Nat.reduceSub, Nat.reduceLeDiff, Nat.reduceMul, Nat.reduceBEq, Nat.reduceLT, Int.reduceToNat, reduceCtorEq, hdk, hln]; first | done | exact rfl | (and_intros <;> rfl)) | exact rfl | decide)); dsimp only [cond_true, cond_false]) | ((with_reducible refine a_draw ?_ ?_); (focus exact rfl)) | ((with_reducible refine a_skip ?_); dsimp only) | ((with_reducible refine a_label ?_); dsimp only) | (with_reducible refine a_scope ?_)))
        exact ret_data [] (by simp only [Try.results23, go_sem]; exact rfl) (by simp only [go_sem, Nat.reduceEqDiff, Nat.reduceAdd, Nat.reduceSub, Nat.reduceLeDiff, Nat.reduceMul, Nat.reduceBEq, Nat.reduceLT, Int.reduceToNat, reduceCtorEq]) rfl
/-- The made row when so many are laid. -/
def madeR (l : List (List CellD)) (k : Nat) : List (List C) := (l.take k).map oslCs ++ List.replicate (l.length - k) [.sl []]
theorem madeR_zero (l : List (List CellD)) : madeR l 0 = List.replicate l.length [.sl []] := by simp [madeR]
theorem madeR_full (l : List (List CellD)) : madeR l l.length = l.map oslCs := by simp [madeR]
theorem madeR_at (l : List (List CellD)) {k : Nat} (h : k < l.length) : (madeR l k)[k]? = some [.sl []] := by
  unfold madeR
  rw [List.getElem?_append_right (by simp; omega), List.length_map, List.length_take, Nat.min_eq_left (by omega), Nat.sub_self, List.getElem?_replicate, if_pos (by omega)]
theorem madeR_rows (l : List (List CellD)) {k : Nat} (h : k < l.length) : rowsAt (madeR l k) 1 k = true := by
  unfold rowsAt
  rw [show ((k : Nat) : Int).toNat = k from rfl, madeR_at l h]
  simp
theorem madeR_set (l : List (List CellD)) {k : Nat} (h : k < l.length) : (madeR l k).set k [.osl (l[k].map CellD.cs)] = madeR l (k + 1) := by
  have hl : ((l.take k).map oslCs).length = k := by simp; omega
  unfold madeR
  rw [List.set_append_right _ _ (by omega), hl, Nat.sub_self, List.take_succ_eq_append_getElem h, List.map_append, List.append_assoc]
  have : l.length - k = (l.length - (k + 1)) + 1 := by omega
  rw [this, List.replicate_succ]
  simp [oslCs]
set_option maxHeartbeats 4000000 in
theorem toCellSS_ac (l : List (List CellD)) (hl : l.length ≤ 1048576) (hy : ∀ x ∈ l, x.length ≤ 1048576) : AC Try.prog 25 [.c (.sl (l.map encCs))] [] (.own (0, 0)) [((0, 0), .row true 1 28 (l.map oslCs))] := by
  have hln : (l.map encCs).length = l.length := by simp
  have h2 : (0 : Int) ≤ (l.length : Int) := by omega
  have h3 : (l.length : Int) ≤ 2000000 := by omega
  have hmz := madeR_zero l
  refine AC.intro follows_mixed Try.func25 rfl ?_; simp only [Try.ntmps25, go_sem, List.replicate, Nat.reduceAdd, Nat.reduceSub]
  (repeat (first | (with_reducible refine a_seq ?_) | (with_reducible refine a_region ?_) | ((with_reducible apply op_any); (iterate 2 (focus (first | (simp only [go_sem, Nat.reduceEqDiff, Nat.reduceAdd, Nat.reduceSub, Nat.reduceLeDiff, Nat.reduceMul, Nat.reduceBEq, Nat.reduceLT, Int.reduceToNat, reduceCtorEq, hln, h2, h3]; first | done | exact rfl | (and_intros <;> rfl)) | exact rfl | decide)))) | ((with_reducible refine o_nil ?_); dsimp only; try ((with_reducible apply o_draw); (focus (simp only [go_sem, Nat.reduceEqDiff, Nat.reduceAdd, Nat.reduceSub, Nat.reduceLeDiff, Nat.reduceMul, Nat.reduceBEq, Nat.reduceLT, Int.reduceToNat, reduceCtorEq, hln, h2, h3]; exact rfl)); (focus decide))) | ((with_reducible refine a_ret ?_); dsimp only) | (with_reducible refine a_block ?_) | ((with_reducible refine a_exit ?_); dsimp only; simp only [if_true, if_false, Nat.reduceEqDiff]) | ((with_reducible apply a_if); (focus (first | (simp only [go_sem, Nat.reduceEqDiff, Nat.reduceAdd, Nat.reduceSub, Nat.reduceLeDiff, Nat.reduceMul, Nat.reduceBEq, Nat.reduceLT, Int.reduceToNat, reduceCtorEq, hln, h2, h3]; first | done | exact rfl | (and_intros <;> rfl)) | exact rfl | decide)); dsimp only [cond_true, cond_false]) | ((with_reducible refine a_draw ?_ ?_); (focus exact rfl)) | ((with_reducible refine a_skip ?_); dsimp only) | ((with_reducible refine a_label ?_); dsimp only) | (with_reducible refine a_scope ?_)))
  refine a_loop (κ := Nat) (fun k => ⟨mkS 0 23 [(0, .c (.sl (l.map encCs))), (3, .own (99, 0)), (4, .c (.int .i64 k))], [((99, 0), .row true 1 28 (madeR l k))]⟩)
    (fun k => k ≤ l.length) (fun k => l.length - k) 0 (Nat.zero_le _) ?_ ?_
  · (apply (Says.of [((99, 0), (7, 0))] []); (iterate 2 ((focus (simp only [go_sem, Nat.reduceEqDiff, Nat.reduceAdd, Nat.reduceSub, Nat.reduceLeDiff, Nat.reduceMul, Nat.reduceBEq, Nat.reduceLT, Int.reduceToNat, reduceCtorEq, hmz]; try (and_intros <;> rfl))); (focus exact rfl))); (iterate 4 (focus (simp [go_sem, hmz]; done))))
  · intro k hk
    by_cases hlt : k < l.length
    · have hdk : decide ((k : Int) < (l.length : Int)) = true := by simpa using hlt
      have hw := wrap_succ (k := k) (by omega)
      obtain ⟨hr0, hg0⟩ := row_enc l hlt
      have hmem := List.getElem_mem hlt
      have hca := toCellS_ac l[k] (hy _ hmem)
      have hm1 := madeR_at l hlt
      have hm2 := madeR_rows l hlt
      have hm3 := madeR_set l hlt
      generalize l[k] = x at *
      (repeat (first | (with_reducible refine a_seq ?_) | (with_reducible refine a_region ?_) | ((with_reducible apply op_any); (iterate 2 (focus (first | (simp only [go_sem, Nat.reduceEqDiff, Nat.reduceAdd, Nat.reduceSub, Nat.reduceLeDiff, Nat.reduceMul, Nat.reduceBEq, Nat.reduceLT, Int.reduceToNat, reduceCtorEq, hdk, hr0, hg0, hln]; first | done | exact rfl | (and_intros <;> rfl)) | exact rfl | decide)))) | ((with_reducible refine o_nil ?_); dsimp only; try ((with_reducible apply o_draw); (focus (simp only [go_sem, Nat.reduceEqDiff, Nat.reduceAdd, Nat.reduceSub, Nat.reduceLeDiff, Nat.reduceMul, Nat.reduceBEq, Nat.reduceLT, Int.reduceToNat, reduceCtorEq, hdk, hr0, hg0, hln]; exact rfl)); (focus decide))) | ((with_reducible refine a_ret ?_); dsimp only) | (with_reducible refine a_block ?_) | ((with_reducible refine a_exit ?_); dsimp only; simp only [if_true, if_false, Nat.reduceEqDiff]) | ((with_reducible apply a_if); (focus (first | (simp only [go_sem, Nat.reduceEqDiff, Nat.reduceAdd, Nat.reduceSub, Nat.reduceLeDiff, Nat.reduceMul, Nat.reduceBEq, Nat.reduceLT, Int.reduceToNat, reduceCtorEq, hdk, hr0, hg0, hln]; first | done | exact rfl | (and_intros <;> rfl)) | exact rfl | decide)); dsimp only [cond_true, cond_false]) | ((with_reducible refine a_draw ?_ ?_); (focus exact rfl)) | ((with_reducible refine a_skip ?_); dsimp only) | ((with_reducible refine a_label ?_); dsimp only) | (with_reducible refine a_scope ?_)))
      (apply (op_row true [] hca); (iterate 8 (focus (first | (simp only [go_sem, Nat.reduceEqDiff, Nat.reduceAdd, Nat.reduceSub, Nat.reduceLeDiff, Nat.reduceMul, Nat.reduceBEq, Nat.reduceLT, Int.reduceToNat, reduceCtorEq]; first | done | exact rfl | (and_intros <;> rfl)) | exact rfl | decide))); (focus (intro h; cases h; done)); (iterate 1 (focus (first | (simp only [go_sem, Nat.reduceEqDiff, Nat.reduceAdd, Nat.reduceSub, Nat.reduceLeDiff, Nat.reduceMul, Nat.reduceBEq, Nat.reduceLT, Int.reduceToNat, reduceCtorEq]; first | done | exact rfl | (and_intros <;> rfl)) | exact rfl | decide))); (focus (intro _; simp only [go_sem, Nat.reduceEqDiff, Nat.reduceAdd, Nat.reduceSub, Nat.reduceLeDiff, Nat.reduceMul, Nat.reduceBEq, Nat.reduceLT, Int.reduceToNat, reduceCtorEq]; done)); (iterate 2 (focus (first | (simp only [go_sem, Nat.reduceEqDiff, Nat.reduceAdd, Nat.reduceSub, Nat.reduceLeDiff, Nat.reduceMul, Nat.reduceBEq, Nat.reduceLT, Int.reduceToNat, reduceCtorEq]; first | done | exact rfl | (and_intros <;> rfl)) | exact rfl | decide))))
      (repeat (first | (with_reducible refine a_seq ?_) | (with_reducible refine a_region ?_) | ((with_reducible apply op_any); (iterate 2 (focus (first | (simp only [go_sem, Nat.reduceEqDiff, Nat.reduceAdd, Nat.reduceSub, Nat.reduceLeDiff, Nat.reduceMul, Nat.reduceBEq, Nat.reduceLT, Int.reduceToNat, reduceCtorEq, hm2]; first | done | exact rfl | (and_intros <;> rfl)) | exact rfl | decide)))) | ((with_reducible refine o_nil ?_); dsimp only; try ((with_reducible apply o_draw); (focus (simp only [go_sem, Nat.reduceEqDiff, Nat.reduceAdd, Nat.reduceSub, Nat.reduceLeDiff, Nat.reduceMul, Nat.reduceBEq, Nat.reduceLT, Int.reduceToNat, reduceCtorEq, hm2]; exact rfl)); (focus decide))) | ((with_reducible refine a_ret ?_); dsimp only) | (with_reducible refine a_block ?_) | ((with_reducible refine a_exit ?_); dsimp only; simp only [if_true, if_false, Nat.reduceEqDiff]) | ((with_reducible apply a_if); (focus (first | (simp only [go_sem, Nat.reduceEqDiff, Nat.reduceAdd, Nat.reduceSub, Nat.reduceLeDiff, Nat.reduceMul, Nat.reduceBEq, Nat.reduceLT, Int.reduceToNat, reduceCtorEq, hm2]; first | done | exact rfl | (and_intros <;> rfl)) | exact rfl | decide)); dsimp only [cond_true, cond_false]) | ((with_reducible refine a_draw ?_ ?_); (focus exact rfl)) | ((with_reducible refine a_skip ?_); dsimp only) | ((with_reducible refine a_label ?_); dsimp only) | (with_reducible refine a_scope ?_)))
      ((with_reducible apply op_give); (iterate 13 (focus (first | (simp only [go_sem, Nat.reduceEqDiff, Nat.reduceAdd, Nat.reduceSub, Nat.reduceLeDiff, Nat.reduceMul, Nat.reduceBEq, Nat.reduceLT, Int.reduceToNat, reduceCtorEq, hm1, List.set_cons_zero, C.plain]; first | done | exact rfl | (and_intros <;> rfl)) | exact rfl | decide))))
      (repeat (first | (with_reducible refine a_seq ?_) | (with_reducible refine a_region ?_) | ((with_reducible apply op_any); (iterate 2 (focus (first | (simp only [go_sem, Nat.reduceEqDiff, Nat.reduceAdd, Nat.reduceSub, Nat.reduceLeDiff, Nat.reduceMul, Nat.reduceBEq, Nat.reduceLT, Int.reduceToNat, reduceCtorEq, hw]; first | done | exact rfl | (and_intros <;> rfl)) | exact rfl | decide)))) | ((with_reducible refine o_nil ?_); dsimp only; try ((with_reducible apply o_draw); (focus (simp only [go_sem, Nat.reduceEqDiff, Nat.reduceAdd, Nat.reduceSub, Nat.reduceLeDiff, Nat.reduceMul, Nat.reduceBEq, Nat.reduceLT, Int.reduceToNat, reduceCtorEq, hw]; exact rfl)); (focus decide))) | ((with_reducible refine a_ret ?_); dsimp only) | (with_reducible refine a_block ?_) | ((with_reducible refine a_exit ?_); dsimp only; simp only [if_true, if_false, Nat.reduceEqDiff]) | ((with_reducible apply a_if); (focus (first | (simp only [go_sem, Nat.reduceEqDiff, Nat.reduceAdd, Nat.reduceSub, Nat.reduceLeDiff, Nat.reduceMul, Nat.reduceBEq, Nat.reduceLT, Int.reduceToNat, reduceCtorEq, hw]; first | done | exact rfl | (and_intros <;> rfl)) | exact rfl | decide)); dsimp only [cond_true, cond_false]) | ((with_reducible refine a_draw ?_ ?_); (focus exact rfl)) | ((with_reducible refine a_skip ?_); dsimp only) | ((with_reducible refine a_label ?_); dsimp only) | (with_reducible refine a_scope ?_)))
      refine ⟨k + 1, by omega, by omega, ?_⟩
      (apply (Says.of [((99, 0), (99, 0))] []); (iterate 2 ((focus (simp only [go_sem, Nat.reduceEqDiff, Nat.reduceAdd, Nat.reduceSub, Nat.reduceLeDiff, Nat.reduceMul, Nat.reduceBEq, Nat.reduceLT, Int.reduceToNat, reduceCtorEq, hm3]; try (and_intros <;> rfl))); (focus exact rfl))); (iterate 4 (focus (simp [go_sem, hm3]; done))))
    · have hdk : decide ((k : Int) < (l.length : Int)) = false := by simpa using hlt
      have hke : k = l.length := by omega
      subst hke
      have hmf := madeR_full l
      (repeat (first | (with_reducible refine a_seq ?_) | (with_reducible refine a_region ?_) | ((with_reducible apply op_any); (iterate 2 (focus (first | (simp only [go_sem, Nat.reduceEqDiff, Nat.reduceAdd, Nat.reduceSub, Nat.reduceLeDiff, Nat.reduceMul, Nat.reduceBEq, Nat.reduceLT, Int.reduceToNat, reduceCtorEq, hdk, hln]; first | done | exact rfl | (and_intros <;> rfl)) | exact rfl | decide)))) | ((with_reducible refine o_nil ?_); dsimp only; try ((with_reducible apply o_draw); (focus (simp only [go_sem, Nat.reduceEqDiff, Nat.reduceAdd, Nat.reduceSub, Nat.reduceLeDiff, Nat.reduceMul, Nat.reduceBEq, Nat.reduceLT, Int.reduceToNat, reduceCtorEq, hdk, hln]; exact rfl)); (focus decide))) | ((with_reducible refine a_ret ?_); dsimp only) | (with_reducible refine a_block ?_) | ((with_reducible refine a_exit ?_); dsimp only; simp only [if_true, if_false, Nat.reduceEqDiff]) | ((with_reducible apply a_if); (focus (first | (simp only [go_sem, Nat.reduceEqDiff, Nat.reduceAdd, Nat.reduceSub, Nat.reduceLeDiff, Nat.reduceMul, Nat.reduceBEq, Nat.reduceLT, Int.reduceToNat, reduceCtorEq, hdk, hln]; first | done | exact rfl | (and_intros <;> rfl)) | exact rfl | decide)); dsimp only [cond_true, cond_false]) | ((with_reducible refine a_draw ?_ ?_); (focus exact rfl)) | ((with_reducible refine a_skip ?_); dsimp only) | ((with_reducible refine a_label ?_); dsimp only) | (with_reducible refine a_scope ?_)))
      (apply (ret_of [((0, 0), (99, 0))] []); (focus (simp only [Try.results25, go_sem, hmf]; exact rfl)); (focus (simp only [go_sem, Nat.reduceEqDiff, Nat.reduceAdd, Nat.reduceSub, Nat.reduceLeDiff, Nat.reduceMul, Nat.reduceBEq, Nat.reduceLT, Int.reduceToNat, reduceCtorEq, hmf]; try (and_intros <;> rfl))); (focus exact rfl); (focus (simp only [go_sem, Nat.reduceEqDiff, Nat.reduceAdd, Nat.reduceSub, Nat.reduceLeDiff, Nat.reduceMul, Nat.reduceBEq, Nat.reduceLT, Int.reduceToNat, reduceCtorEq, hmf]; try (and_intros <;> rfl))); (focus exact rfl); (iterate 4 (focus (simp [go_sem, hmf]; done))))
end Go.Proofs.Ytijadbifkehccaa
