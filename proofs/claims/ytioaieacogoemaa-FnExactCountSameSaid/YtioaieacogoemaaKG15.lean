/- slices.IndexFunc, slices.DeleteFunc at values with their paths; (impl.val).leaves, by the engine. -/
import Derived.Test.YtioaieacogoemaaKG04
import Derived.Test.YtioaieacogoemaaKE5
set_option linter.unusedSimpArgs false
set_option linter.unusedVariables false
set_option linter.unnecessarySimpa false
namespace Go.Proofs.Ytioaieacogoemaa
open Go.RowKit
def placedAv (p : List V × V) : AV := .agg [.c (.sl (p.1.map V.cs)), .c (.int .i64 p.2.kind), .c (.int .i64 p.2.num), .c (.str p.2.text), .c (.sl (p.2.keys.map strCs)), .c (.sl (p.2.kids.map V.cs))]
set_option maxRecDepth 10000
/-- The first place at which something holds, or -1. -/
def firstIx {α : Type} (d : α → Bool) (l : List α) : Int := match l.findIdx? d with
  | some i => i
  | none => -1
set_option maxHeartbeats 2000000 in
theorem indexPlaced_ac (f : FuncId) (hcal : callable Try.prog f = true) (d : List V × V → Bool) (l : List (List V × V)) (hl : l.length ≤ 1000000) (hd : ∀ p ∈ l, AC Try.prog f [placedAv p] [] (.c (.bool (d p))) []) :
    AC Try.prog 143 [.c (.sl (l.map placedCs)), .clo f []] [] (.c (.int .i64 (firstIx d l))) [] := by
  refine AC.intro_sp follows_mixed Try.func143 rfl Try.ntmps143 (Nat.le_of_ble_eq_true rfl) ?_; simp only [go_sem, Nat.reduceAdd]
  (repeat (first | (with_reducible first | refine a_seq ?_ | refine a_region ?_ | refine a_block ?_ | refine a_scope ?_) | ((with_reducible apply op_any); (iterate 2 (focus (first | (simp only [go_sem, Nat.reduceEqDiff, Nat.reduceAdd, Nat.reduceSub, Nat.reduceLeDiff, Nat.reduceMul, Nat.reduceBEq, Nat.reduceLT, Int.reduceToNat, reduceCtorEq]; first | done | exact rfl | (and_intros <;> rfl)) | exact rfl | decide)))) | ((with_reducible refine o_nil ?_); dsimp only; try ((with_reducible apply o_draw); (focus (simp only [go_sem]; exact rfl)); (focus decide))) | ((with_reducible first | refine a_ret ?_ | refine a_skip ?_ | refine a_label ?_); dsimp only) | ((with_reducible refine a_exit ?_); dsimp only; simp only [if_true, if_false, Nat.reduceEqDiff]) | ((with_reducible apply a_if); (focus (simp only [go_sem, Nat.reduceBEq, Nat.reduceLT]; exact rfl)); dsimp only [cond_true, cond_false]) | ((with_reducible refine a_draw ?_ ?_); (focus exact rfl))))
  refine a_loop (κ := Nat) (fun k => ⟨mkS 0 19 [(0, .c (.sl (l.map placedCs))), (1, .clo f []), (7, .c (.int .i64 l.length)), (8, .c (.int .i64 k))], []⟩)
    (fun k => k ≤ l.length ∧ ∀ j (h : j < l.length), j < k → d l[j] = false) (fun k => l.length - k) 0 ⟨Nat.zero_le _, by intro j h hj; omega⟩ ?_ ?_
  · (apply (Says.of [] []); (iterate 2 ((focus (simp only [go_sem, Nat.reduceEqDiff, Nat.reduceAdd, Nat.reduceSub, Nat.reduceLeDiff, Nat.reduceMul, Nat.reduceBEq, Nat.reduceLT, Int.reduceToNat, reduceCtorEq, hl]; try (and_intros <;> rfl))); (focus exact rfl))); (iterate 4 (focus (simp [go_sem, hl]; done))))
  · rintro k ⟨hk, hno⟩
    by_cases hlt : k < l.length
    · have hdk : decide ((k : Int) < (l.length : Int)) = true := by simpa using hlt
      have hw := wrap_succ (k := k) (by omega)
      have hr : rowsAt (l.map placedCs) 6 k = true := by simp [rowsAt, hlt, placedCs]
      have hg : (l.map placedCs)[k]? = some [.sl (l[k].1.map V.cs), .int .i64 l[k].2.kind, .int .i64 l[k].2.num, .str l[k].2.text, .sl (l[k].2.keys.map strCs), .sl (l[k].2.kids.map V.cs)] := by simp [hlt, placedCs]
      have hc := hd l[k] (List.getElem_mem hlt)
      unfold placedAv at hc
      cases hb : d l[k] with
      | true =>
        rw [hb] at hc
        have hix : firstIx d l = k := by
          unfold firstIx
          rw [List.findIdx?_eq_some_iff_getElem.2 ⟨hlt, hb, fun j hj => by simp [hno j (by omega) hj]⟩]
        rw [hix]
        (repeat (first | (with_reducible first | refine a_seq ?_ | refine a_region ?_ | refine a_block ?_ | refine a_scope ?_) | ((with_reducible apply op_any); (iterate 2 (focus (first | (simp only [go_sem, Nat.reduceEqDiff, Nat.reduceAdd, Nat.reduceSub, Nat.reduceLeDiff, Nat.reduceMul, Nat.reduceBEq, Nat.reduceLT, Int.reduceToNat, reduceCtorEq, hdk, hr, hg]; first | done | exact rfl | (and_intros <;> rfl)) | exact rfl | decide)))) | ((with_reducible refine o_nil ?_); dsimp only; try ((with_reducible apply o_draw); (focus (simp only [go_sem]; exact rfl)); (focus decide))) | ((with_reducible first | refine a_ret ?_ | refine a_skip ?_ | refine a_label ?_); dsimp only) | ((with_reducible refine a_exit ?_); dsimp only; simp only [if_true, if_false, Nat.reduceEqDiff]) | ((with_reducible apply a_if); (focus (simp only [go_sem, Nat.reduceBEq, Nat.reduceLT, hdk, hr, hg]; exact rfl)); dsimp only [cond_true, cond_false]) | ((with_reducible refine a_draw ?_ ?_); (focus exact rfl))))
        (apply (op_data [] hc); (iterate 7 (focus (first | (simp only [go_sem, Nat.reduceEqDiff, Nat.reduceAdd, Nat.reduceSub, Nat.reduceLeDiff, Nat.reduceMul, Nat.reduceBEq, Nat.reduceLT, Int.reduceToNat, reduceCtorEq, hcal]; first | done | exact rfl | (and_intros <;> rfl)) | exact rfl | decide))))
        (repeat (first | (with_reducible first | refine a_seq ?_ | refine a_region ?_ | refine a_block ?_ | refine a_scope ?_) | ((with_reducible apply op_any); (iterate 2 (focus (first | (simp only [go_sem, Nat.reduceEqDiff, Nat.reduceAdd, Nat.reduceSub, Nat.reduceLeDiff, Nat.reduceMul, Nat.reduceBEq, Nat.reduceLT, Int.reduceToNat, reduceCtorEq]; first | done | exact rfl | (and_intros <;> rfl)) | exact rfl | decide)))) | ((with_reducible refine o_nil ?_); dsimp only; try ((with_reducible apply o_draw); (focus (simp only [go_sem]; exact rfl)); (focus decide))) | ((with_reducible first | refine a_ret ?_ | refine a_skip ?_ | refine a_label ?_); dsimp only) | ((with_reducible refine a_exit ?_); dsimp only; simp only [if_true, if_false, Nat.reduceEqDiff]) | ((with_reducible apply a_if); (focus (simp only [go_sem, Nat.reduceBEq, Nat.reduceLT]; exact rfl)); dsimp only [cond_true, cond_false]) | ((with_reducible refine a_draw ?_ ?_); (focus exact rfl))))
        exact ret_data [] (by simp only [Try.results143, go_sem, Nat.reduceBEq, Nat.reduceLT]; exact rfl) (by simp only [go_sem, Nat.reduceEqDiff, Nat.reduceAdd, Nat.reduceSub, Nat.reduceLeDiff, Nat.reduceMul, Nat.reduceBEq, Nat.reduceLT, Int.reduceToNat, reduceCtorEq]) rfl
      | false =>
        rw [hb] at hc
        (repeat (first | (with_reducible first | refine a_seq ?_ | refine a_region ?_ | refine a_block ?_ | refine a_scope ?_) | ((with_reducible apply op_any); (iterate 2 (focus (first | (simp only [go_sem, Nat.reduceEqDiff, Nat.reduceAdd, Nat.reduceSub, Nat.reduceLeDiff, Nat.reduceMul, Nat.reduceBEq, Nat.reduceLT, Int.reduceToNat, reduceCtorEq, hdk, hr, hg]; first | done | exact rfl | (and_intros <;> rfl)) | exact rfl | decide)))) | ((with_reducible refine o_nil ?_); dsimp only; try ((with_reducible apply o_draw); (focus (simp only [go_sem]; exact rfl)); (focus decide))) | ((with_reducible first | refine a_ret ?_ | refine a_skip ?_ | refine a_label ?_); dsimp only) | ((with_reducible refine a_exit ?_); dsimp only; simp only [if_true, if_false, Nat.reduceEqDiff]) | ((with_reducible apply a_if); (focus (simp only [go_sem, Nat.reduceBEq, Nat.reduceLT, hdk, hr, hg]; exact rfl)); dsimp only [cond_true, cond_false]) | ((with_reducible refine a_draw ?_ ?_); (focus exact rfl))))
        (apply (op_data [] hc); (iterate 7 (focus (first | (simp only [go_sem, Nat.reduceEqDiff, Nat.reduceAdd, Nat.reduceSub, Nat.reduceLeDiff, Nat.reduceMul, Nat.reduceBEq, Nat.reduceLT, Int.reduceToNat, reduceCtorEq, hcal]; first | done | exact rfl | (and_intros <;> rfl)) | exact rfl | decide))))
        (repeat (first | (with_reducible first | refine a_seq ?_ | refine a_region ?_ | refine a_block ?_ | refine a_scope ?_) | ((with_reducible apply op_any); (iterate 2 (focus (first | (simp only [go_sem, Nat.reduceEqDiff, Nat.reduceAdd, Nat.reduceSub, Nat.reduceLeDiff, Nat.reduceMul, Nat.reduceBEq, Nat.reduceLT, Int.reduceToNat, reduceCtorEq, hw]; first | done | exact rfl | (and_intros <;> rfl)) | exact rfl | decide)))) | ((with_reducible refine o_nil ?_); dsimp only; try ((with_reducible apply o_draw); (focus (simp only [go_sem]; exact rfl)); (focus decide))) | ((with_reducible first | refine a_ret ?_ | refine a_skip ?_ | refine a_label ?_); dsimp only) | ((with_reducible refine a_exit ?_); dsimp only; simp only [if_true, if_false, Nat.reduceEqDiff]) | ((with_reducible apply a_if); (focus (simp only [go_sem, Nat.reduceBEq, Nat.reduceLT, hw]; exact rfl)); dsimp only [cond_true, cond_false]) | ((with_reducible refine a_draw ?_ ?_); (focus exact rfl))))
        refine ⟨k + 1, by omega, ⟨by omega, fun j h hj => ?_⟩, ?_⟩
        · by_cases hjk : j = k
          · subst hjk; exact hb
          · exact hno j h (by omega)
        · (apply (Says.of [] []); (iterate 2 ((focus (simp only [go_sem, Nat.reduceEqDiff, Nat.reduceAdd, Nat.reduceSub, Nat.reduceLeDiff, Nat.reduceMul, Nat.reduceBEq, Nat.reduceLT, Int.reduceToNat, reduceCtorEq, hw]; try (and_intros <;> rfl))); (focus exact rfl))); (iterate 4 (focus (simp [go_sem, hw]; done))))
    · have hdk : decide ((k : Int) < (l.length : Int)) = false := by simpa using hlt
      have hix : firstIx d l = -1 := by
        unfold firstIx
        rw [List.findIdx?_eq_none_iff.2 fun x hx => by
          obtain ⟨i, hi, rfl⟩ := List.getElem_of_mem hx
          exact hno i hi (by omega)]
      rw [hix]
      (repeat (first | (with_reducible first | refine a_seq ?_ | refine a_region ?_ | refine a_block ?_ | refine a_scope ?_) | ((with_reducible apply op_any); (iterate 2 (focus (first | (simp only [go_sem, Nat.reduceEqDiff, Nat.reduceAdd, Nat.reduceSub, Nat.reduceLeDiff, Nat.reduceMul, Nat.reduceBEq, Nat.reduceLT, Int.reduceToNat, reduceCtorEq, hdk]; first | done | exact rfl | (and_intros <;> rfl)) | exact rfl | decide)))) | ((with_reducible refine o_nil ?_); dsimp only; try ((with_reducible apply o_draw); (focus (simp only [go_sem]; exact rfl)); (focus decide))) | ((with_reducible first | refine a_ret ?_ | refine a_skip ?_ | refine a_label ?_); dsimp only) | ((with_reducible refine a_exit ?_); dsimp only; simp only [if_true, if_false, Nat.reduceEqDiff]) | ((with_reducible apply a_if); (focus (simp only [go_sem, Nat.reduceBEq, Nat.reduceLT, hdk]; exact rfl)); dsimp only [cond_true, cond_false]) | ((with_reducible refine a_draw ?_ ?_); (focus exact rfl))))
      exact ret_data [] (by simp only [Try.results143, go_sem, Nat.reduceBEq, Nat.reduceLT]; exact rfl) (by simp only [go_sem, Nat.reduceEqDiff, Nat.reduceAdd, Nat.reduceSub, Nat.reduceLeDiff, Nat.reduceMul, Nat.reduceBEq, Nat.reduceLT, Int.reduceToNat, reduceCtorEq]) rfl
theorem placed_len (p : List V × V) : (placedCs p).length = 6 := rfl
theorem take_filter {α : Type} {d : α → Bool} {l : List α} {j : Nat} (h : j < l.length) : (l.take (j + 1)).filter d = (l.take j).filter d ++ (if d l[j] then [l[j]] else []) := by
  rw [List.take_succ_eq_append_getElem h, List.filter_append]
  simp [List.filter_cons]
theorem six_of {α : Type} {l : List α} (h : l.length = 6) : ∃ a b c d e f, l = [a, b, c, d, e, f] := by
  match l, h with
  | [a, b, c, d, e, f], _ => exact ⟨a, b, c, d, e, f, rfl⟩
set_option maxHeartbeats 8000000 in
theorem deletePlaced_ac (f : FuncId) (hcal : callable Try.prog f = true) (d : List V × V → Bool) (l : List (List V × V)) (hl : l.length ≤ 1000000) (hd : ∀ p ∈ l, AC Try.prog f [placedAv p] [] (.c (.bool (d p))) []) :
    AC Try.prog 91 [.own (0, 0), .clo f []] [((0, 0), .row false 6 77 (l.map placedCs))] (.own (1, 0)) [((1, 0), .row false 6 77 ((l.filter fun p => !d p).map placedCs))] := by
  have hix := indexPlaced_ac f hcal d l hl hd
  cases hfi : l.findIdx? d with
  | none =>
    have h1 : firstIx d l = -1 := by unfold firstIx; rw [hfi]
    have hall : (l.filter fun p => !d p) = l := List.filter_eq_self.2 fun x hx => by
      have := List.findIdx?_eq_none_iff.1 hfi x hx
      simp [this]
    rw [h1] at hix
    rw [hall]
    have hm1 : ((-1 : Int) == -1) = true := rfl
    refine AC.intro_sp follows_mixed Try.func91 rfl Try.ntmps91 (Nat.le_of_ble_eq_true rfl) ?_; simp only [go_sem, Nat.reduceAdd]
    (repeat (first | (with_reducible first | refine a_seq ?_ | refine a_region ?_ | refine a_block ?_ | refine a_scope ?_) | ((with_reducible apply op_any); (iterate 2 (focus (first | (simp only [go_sem, Nat.reduceEqDiff, Nat.reduceAdd, Nat.reduceSub, Nat.reduceLeDiff, Nat.reduceMul, Nat.reduceBEq, Nat.reduceLT, Int.reduceToNat, reduceCtorEq]; first | done | exact rfl | (and_intros <;> rfl)) | exact rfl | decide)))) | ((with_reducible refine o_nil ?_); dsimp only; try ((with_reducible apply o_draw); (focus (simp only [go_sem]; exact rfl)); (focus decide))) | ((with_reducible first | refine a_ret ?_ | refine a_skip ?_ | refine a_label ?_); dsimp only) | ((with_reducible refine a_exit ?_); dsimp only; simp only [if_true, if_false, Nat.reduceEqDiff]) | ((with_reducible apply a_if); (focus (simp only [go_sem, Nat.reduceBEq, Nat.reduceLT]; exact rfl)); dsimp only [cond_true, cond_false]) | ((with_reducible refine a_draw ?_ ?_); (focus exact rfl))))
    (apply (op_data [(0, 0)] hix); (iterate 7 (focus (first | (simp only [go_sem, Nat.reduceEqDiff, Nat.reduceAdd, Nat.reduceSub, Nat.reduceLeDiff, Nat.reduceMul, Nat.reduceBEq, Nat.reduceLT, Int.reduceToNat, reduceCtorEq]; first | done | exact rfl | (and_intros <;> rfl)) | exact rfl | decide))))
    (repeat (first | (with_reducible first | refine a_seq ?_ | refine a_region ?_ | refine a_block ?_ | refine a_scope ?_) | ((with_reducible apply op_any); (iterate 2 (focus (first | (simp only [go_sem, Nat.reduceEqDiff, Nat.reduceAdd, Nat.reduceSub, Nat.reduceLeDiff, Nat.reduceMul, Nat.reduceBEq, Nat.reduceLT, Int.reduceToNat, reduceCtorEq, hm1]; first | done | exact rfl | (and_intros <;> rfl)) | exact rfl | decide)))) | ((with_reducible refine o_nil ?_); dsimp only; try ((with_reducible apply o_draw); (focus (simp only [go_sem]; exact rfl)); (focus decide))) | ((with_reducible first | refine a_ret ?_ | refine a_skip ?_ | refine a_label ?_); dsimp only) | ((with_reducible refine a_exit ?_); dsimp only; simp only [if_true, if_false, Nat.reduceEqDiff]) | ((with_reducible apply a_if); (focus (simp only [go_sem, Nat.reduceBEq, Nat.reduceLT, hm1]; exact rfl)); dsimp only [cond_true, cond_false]) | ((with_reducible refine a_draw ?_ ?_); (focus exact rfl))))
    (apply (ret_of [((1, 0), (0, 0))] []); (focus (simp only [Try.results91, go_sem, Nat.reduceBEq, Nat.reduceLT, hall]; exact rfl)); (focus (simp only [go_sem, Nat.reduceEqDiff, Nat.reduceAdd, Nat.reduceSub, Nat.reduceLeDiff, Nat.reduceMul, Nat.reduceBEq, Nat.reduceLT, Int.reduceToNat, reduceCtorEq, hall]; try (and_intros <;> rfl))); (focus exact rfl); (focus (simp only [go_sem, Nat.reduceEqDiff, Nat.reduceAdd, Nat.reduceSub, Nat.reduceLeDiff, Nat.reduceMul, Nat.reduceBEq, Nat.reduceLT, Int.reduceToNat, reduceCtorEq, hall]; try (and_intros <;> rfl))); (focus exact rfl); (iterate 4 (focus (simp [go_sem, hall]; done))))
  | some i0 =>
    obtain ⟨hi0, hdi, hno⟩ := List.findIdx?_eq_some_iff_getElem.1 hfi
    have h1 : firstIx d l = i0 := by unfold firstIx; rw [hfi]
    rw [h1] at hix
    have hm1 : ((i0 : Int) == -1) = false := by simp
    have hw0 := wrap_succ (k := i0) (by omega)
    have hk0 : (l.take (i0 + 1)).filter (fun p => !d p) = l.take i0 := by
      rw [take_filter hi0, hdi]
      simp only [Bool.not_true, Bool.false_eq_true, if_false, List.append_nil]
      refine List.filter_eq_self.2 fun x hx => ?_
      obtain ⟨j, hj, rfl⟩ := List.getElem_of_mem hx
      rw [List.length_take] at hj
      rw [List.getElem_take]
      simpa using hno j (by omega)
    have hkl : ((l.take (i0 + 1)).filter (fun p => !d p)).length = i0 := by rw [hk0, List.length_take]; omega
    refine AC.intro_sp follows_mixed Try.func91 rfl Try.ntmps91 (Nat.le_of_ble_eq_true rfl) ?_; simp only [go_sem, Nat.reduceAdd]
    (repeat (first | (with_reducible first | refine a_seq ?_ | refine a_region ?_ | refine a_block ?_ | refine a_scope ?_) | ((with_reducible apply op_any); (iterate 2 (focus (first | (simp only [go_sem, Nat.reduceEqDiff, Nat.reduceAdd, Nat.reduceSub, Nat.reduceLeDiff, Nat.reduceMul, Nat.reduceBEq, Nat.reduceLT, Int.reduceToNat, reduceCtorEq]; first | done | exact rfl | (and_intros <;> rfl)) | exact rfl | decide)))) | ((with_reducible refine o_nil ?_); dsimp only; try ((with_reducible apply o_draw); (focus (simp only [go_sem]; exact rfl)); (focus decide))) | ((with_reducible first | refine a_ret ?_ | refine a_skip ?_ | refine a_label ?_); dsimp only) | ((with_reducible refine a_exit ?_); dsimp only; simp only [if_true, if_false, Nat.reduceEqDiff]) | ((with_reducible apply a_if); (focus (simp only [go_sem, Nat.reduceBEq, Nat.reduceLT]; exact rfl)); dsimp only [cond_true, cond_false]) | ((with_reducible refine a_draw ?_ ?_); (focus exact rfl))))
    (apply (op_data [(0, 0)] hix); (iterate 7 (focus (first | (simp only [go_sem, Nat.reduceEqDiff, Nat.reduceAdd, Nat.reduceSub, Nat.reduceLeDiff, Nat.reduceMul, Nat.reduceBEq, Nat.reduceLT, Int.reduceToNat, reduceCtorEq]; first | done | exact rfl | (and_intros <;> rfl)) | exact rfl | decide))))
    (repeat (first | (with_reducible first | refine a_seq ?_ | refine a_region ?_ | refine a_block ?_ | refine a_scope ?_) | ((with_reducible apply op_any); (iterate 2 (focus (first | (simp only [go_sem, Nat.reduceEqDiff, Nat.reduceAdd, Nat.reduceSub, Nat.reduceLeDiff, Nat.reduceMul, Nat.reduceBEq, Nat.reduceLT, Int.reduceToNat, reduceCtorEq, hm1, hw0]; first | done | exact rfl | (and_intros <;> rfl)) | exact rfl | decide)))) | ((with_reducible refine o_nil ?_); dsimp only; try ((with_reducible apply o_draw); (focus (simp only [go_sem]; exact rfl)); (focus decide))) | ((with_reducible first | refine a_ret ?_ | refine a_skip ?_ | refine a_label ?_); dsimp only) | ((with_reducible refine a_exit ?_); dsimp only; simp only [if_true, if_false, Nat.reduceEqDiff]) | ((with_reducible apply a_if); (focus (simp only [go_sem, Nat.reduceBEq, Nat.reduceLT, hm1, hw0]; exact rfl)); dsimp only [cond_true, cond_false]) | ((with_reducible refine a_draw ?_ ?_); (focus exact rfl))))
    refine a_loop (κ := Nat × List (List C)) (fun x => ⟨mkS 0 42 [(0, .own (0, 0)), (1, .clo f []), (5, .c (.int .i64 ((l.take x.1).filter (fun p => !d p)).length)), (6, .c (.int .i64 x.1))], [((0, 0), .row false 6 77 x.2)]⟩)
      (fun x => x.1 ≤ l.length ∧ x.2.length = l.length ∧ ((l.take x.1).filter (fun p => !d p)).length < x.1 ∧ x.2.take ((l.take x.1).filter (fun p => !d p)).length = ((l.take x.1).filter (fun p => !d p)).map placedCs ∧ x.2.drop x.1 = (l.drop x.1).map placedCs ∧ ∀ y ∈ x.2, y.length = 6) (fun x => l.length - x.1) (i0 + 1, l.map placedCs) ⟨by dsimp only; omega, by simp, by dsimp only; omega, by dsimp only; rw [hkl, hk0, List.map_take], by dsimp only; rw [List.map_drop], by intro y hy; obtain ⟨q, _, rfl⟩ := List.mem_map.1 hy; rfl⟩ ?_ ?_
    · (apply (Says.of [((0, 0), (0, 0))] []); (iterate 2 ((focus (simp only [go_sem, Nat.reduceEqDiff, Nat.reduceAdd, Nat.reduceSub, Nat.reduceLeDiff, Nat.reduceMul, Nat.reduceBEq, Nat.reduceLT, Int.reduceToNat, reduceCtorEq, hkl]; try (and_intros <;> rfl))); (focus exact rfl))); (iterate 4 (focus (simp [go_sem, hkl]; done))))
    · rintro ⟨j, L⟩ ⟨hj, hL, hlt0, htk, hdr, h6⟩
      dsimp only at hj hL hlt0 htk hdr h6 ⊢
      by_cases hlt : j < l.length
      · have hdk : decide ((j : Int) < (l.length : Int)) = true := by simpa using hlt
        have hw := wrap_succ (k := j) (by omega)
        have hLj : L[j]? = some (placedCs l[j]) := by
          have : (L.drop j)[0]? = L[j]? := by rw [List.getElem?_drop]; rfl
          rw [← this, hdr]
          rw [List.drop_eq_getElem_cons hlt]
          rfl
        have hg : L[j]? = some [.sl (l[j].1.map V.cs), .int .i64 l[j].2.kind, .int .i64 l[j].2.num, .str l[j].2.text, .sl (l[j].2.keys.map strCs), .sl (l[j].2.kids.map V.cs)] := hLj
        have hr : rowsAt L 6 j = true := by unfold rowsAt; rw [Int.toNat_natCast, hLj]; simp [placed_len]
        have hc := hd l[j] (List.getElem_mem hlt)
        unfold placedAv at hc
        have hnext := take_filter (d := fun p => !d p) hlt
        have hdr1 : L.drop (j + 1) = (l.drop (j + 1)).map placedCs := by
          rw [← List.drop_drop, hdr, ← List.map_drop, List.drop_drop]
        cases hb : d l[j] with
        | true =>
          rw [hb] at hc hnext
          simp only [Bool.not_true, Bool.false_eq_true, if_false, List.append_nil] at hnext
          (repeat (first | (with_reducible first | refine a_seq ?_ | refine a_region ?_ | refine a_block ?_ | refine a_scope ?_) | ((with_reducible apply op_any); (iterate 2 (focus (first | (simp only [go_sem, Nat.reduceEqDiff, Nat.reduceAdd, Nat.reduceSub, Nat.reduceLeDiff, Nat.reduceMul, Nat.reduceBEq, Nat.reduceLT, Int.reduceToNat, reduceCtorEq, hL, hdk, hr, hg]; first | done | exact rfl | (and_intros <;> rfl)) | exact rfl | decide)))) | ((with_reducible refine o_nil ?_); dsimp only; try ((with_reducible apply o_draw); (focus (simp only [go_sem]; exact rfl)); (focus decide))) | ((with_reducible first | refine a_ret ?_ | refine a_skip ?_ | refine a_label ?_); dsimp only) | ((with_reducible refine a_exit ?_); dsimp only; simp only [if_true, if_false, Nat.reduceEqDiff]) | ((with_reducible apply a_if); (focus (simp only [go_sem, Nat.reduceBEq, Nat.reduceLT, hL, hdk, hr, hg]; exact rfl)); dsimp only [cond_true, cond_false]) | ((with_reducible refine a_draw ?_ ?_); (focus exact rfl))))
          (apply (op_data [] hc); (iterate 7 (focus (first | (simp only [go_sem, Nat.reduceEqDiff, Nat.reduceAdd, Nat.reduceSub, Nat.reduceLeDiff, Nat.reduceMul, Nat.reduceBEq, Nat.reduceLT, Int.reduceToNat, reduceCtorEq, hcal]; first | done | exact rfl | (and_intros <;> rfl)) | exact rfl | decide))))
          (repeat (first | (with_reducible first | refine a_seq ?_ | refine a_region ?_ | refine a_block ?_ | refine a_scope ?_) | ((with_reducible apply op_any); (iterate 2 (focus (first | (simp only [go_sem, Nat.reduceEqDiff, Nat.reduceAdd, Nat.reduceSub, Nat.reduceLeDiff, Nat.reduceMul, Nat.reduceBEq, Nat.reduceLT, Int.reduceToNat, reduceCtorEq, hw]; first | done | exact rfl | (and_intros <;> rfl)) | exact rfl | decide)))) | ((with_reducible refine o_nil ?_); dsimp only; try ((with_reducible apply o_draw); (focus (simp only [go_sem]; exact rfl)); (focus decide))) | ((with_reducible first | refine a_ret ?_ | refine a_skip ?_ | refine a_label ?_); dsimp only) | ((with_reducible refine a_exit ?_); dsimp only; simp only [if_true, if_false, Nat.reduceEqDiff]) | ((with_reducible apply a_if); (focus (simp only [go_sem, Nat.reduceBEq, Nat.reduceLT, hw]; exact rfl)); dsimp only [cond_true, cond_false]) | ((with_reducible refine a_draw ?_ ?_); (focus exact rfl))))
          refine ⟨(j + 1, L), by dsimp only; omega, ⟨by dsimp only; omega, hL, ?_, ?_, hdr1, h6⟩, ?_⟩
          · dsimp only; rw [hnext]; omega
          · dsimp only; rw [hnext]; exact htk
          · (apply (Says.of [((0, 0), (0, 0))] []); (iterate 2 ((focus (simp only [go_sem, Nat.reduceEqDiff, Nat.reduceAdd, Nat.reduceSub, Nat.reduceLeDiff, Nat.reduceMul, Nat.reduceBEq, Nat.reduceLT, Int.reduceToNat, reduceCtorEq, hnext]; try (and_intros <;> rfl))); (focus exact rfl))); (iterate 4 (focus (simp [go_sem, hnext]; done))))
        | false =>
          rw [hb] at hc hnext
          simp only [Bool.not_false, if_true] at hnext
          have hwi := wrap_succ (k := ((l.take j).filter fun p => !d p).length) (by omega)
          have hnl : ((l.take (j + 1)).filter fun p => !d p).length = ((l.take j).filter fun p => !d p).length + 1 := by rw [hnext]; simp
          generalize hI : ((l.take j).filter fun p => !d p).length = I at *
          have hIL : I < L.length := by omega
          obtain ⟨old, hold⟩ : ∃ old, L[I]? = some old := ⟨L[I], List.getElem?_eq_getElem hIL⟩
          obtain ⟨o1, o2, o3, o4, o5, o6, rfl⟩ := six_of (h6 old (List.mem_of_getElem? hold))
          have hri : rowsAt L 6 I = true := by unfold rowsAt; rw [Int.toNat_natCast, hold]; rfl
          (repeat (first | (with_reducible first | refine a_seq ?_ | refine a_region ?_ | refine a_block ?_ | refine a_scope ?_) | ((with_reducible apply op_any); (iterate 2 (focus (first | (simp only [go_sem, Nat.reduceEqDiff, Nat.reduceAdd, Nat.reduceSub, Nat.reduceLeDiff, Nat.reduceMul, Nat.reduceBEq, Nat.reduceLT, Int.reduceToNat, reduceCtorEq, hL, hdk, hr, hg]; first | done | exact rfl | (and_intros <;> rfl)) | exact rfl | decide)))) | ((with_reducible refine o_nil ?_); dsimp only; try ((with_reducible apply o_draw); (focus (simp only [go_sem]; exact rfl)); (focus decide))) | ((with_reducible first | refine a_ret ?_ | refine a_skip ?_ | refine a_label ?_); dsimp only) | ((with_reducible refine a_exit ?_); dsimp only; simp only [if_true, if_false, Nat.reduceEqDiff]) | ((with_reducible apply a_if); (focus (simp only [go_sem, Nat.reduceBEq, Nat.reduceLT, hL, hdk, hr, hg]; exact rfl)); dsimp only [cond_true, cond_false]) | ((with_reducible refine a_draw ?_ ?_); (focus exact rfl))))
          (apply (op_data [] hc); (iterate 7 (focus (first | (simp only [go_sem, Nat.reduceEqDiff, Nat.reduceAdd, Nat.reduceSub, Nat.reduceLeDiff, Nat.reduceMul, Nat.reduceBEq, Nat.reduceLT, Int.reduceToNat, reduceCtorEq, hcal]; first | done | exact rfl | (and_intros <;> rfl)) | exact rfl | decide))))
          (repeat (first | (with_reducible first | refine a_seq ?_ | refine a_region ?_ | refine a_block ?_ | refine a_scope ?_) | ((with_reducible apply op_any); (iterate 2 (focus (first | (simp only [go_sem, Nat.reduceEqDiff, Nat.reduceAdd, Nat.reduceSub, Nat.reduceLeDiff, Nat.reduceMul, Nat.reduceBEq, Nat.reduceLT, Int.reduceToNat, reduceCtorEq, hri, hold, hwi, hw]; first | done | exact rfl | (and_intros <;> rfl)) | exact rfl | decide)))) | ((with_reducible refine o_nil ?_); dsimp only; try ((with_reducible apply o_draw); (focus (simp only [go_sem]; exact rfl)); (focus decide))) | ((with_reducible first | refine a_ret ?_ | refine a_skip ?_ | refine a_label ?_); dsimp only) | ((with_reducible refine a_exit ?_); dsimp only; simp only [if_true, if_false, Nat.reduceEqDiff]) | ((with_reducible apply a_if); (focus (simp only [go_sem, Nat.reduceBEq, Nat.reduceLT, hri, hold, hwi, hw]; exact rfl)); dsimp only [cond_true, cond_false]) | ((with_reducible refine a_draw ?_ ?_); (focus exact rfl))))
          refine ⟨(j + 1, L.set I (placedCs l[j])), by dsimp only; omega, ⟨by dsimp only; omega, by dsimp only; rw [List.length_set]; exact hL, ?_, ?_, ?_, ?_⟩, ?_⟩
          · dsimp only; omega
          · dsimp only
            rw [hnl, hnext, List.map_append, ← htk]
            rw [List.set_eq_take_append_cons_drop, if_pos hIL, show L.take I ++ placedCs l[j] :: L.drop (I + 1) = (L.take I ++ [placedCs l[j]]) ++ L.drop (I + 1) by simp]
            exact List.take_left' (by simp; omega)
          · dsimp only
            rw [← hdr1]
            apply List.ext_getElem?
            intro n
            rw [List.getElem?_drop, List.getElem?_drop, List.getElem?_set_ne (by omega)]
          · intro y hy
            rcases List.mem_or_eq_of_mem_set hy with hy | rfl
            · exact h6 y hy
            · rfl
          · (apply (Says.of [((0, 0), (0, 0))] []); (iterate 2 ((focus (simp only [go_sem, Nat.reduceEqDiff, Nat.reduceAdd, Nat.reduceSub, Nat.reduceLeDiff, Nat.reduceMul, Nat.reduceBEq, Nat.reduceLT, Int.reduceToNat, reduceCtorEq, hnl, placedCs]; try (and_intros <;> rfl))); (focus exact rfl))); (iterate 4 (focus (simp [go_sem, hnl, placedCs]; done))))
      · have hdk : decide ((j : Int) < (l.length : Int)) = false := by simpa using hlt
        have hje : l.take j = l := List.take_of_length_le (by omega)
        rw [hje] at htk hlt0 ⊢
        generalize hF : (l.filter fun p => !d p) = F at *
        have hFl : F.length ≤ L.length := by omega
        have hzz : F.length ≤ (L.take F.length ++ List.replicate (L.length - F.length) [C.sl [], .int .i64 0, .int .i64 0, .str ByteArray.empty, .sl [], .sl []]).length := by simp; omega
        have hfin : (L.take F.length ++ List.replicate (L.length - F.length) [C.sl [], .int .i64 0, .int .i64 0, .str ByteArray.empty, .sl [], .sl []]).take F.length = F.map placedCs := by
          rw [List.take_append_of_le_length (by rw [List.length_take]; omega), List.take_take, Nat.min_self, htk]
        (repeat (first | (with_reducible first | refine a_seq ?_ | refine a_region ?_ | refine a_block ?_ | refine a_scope ?_) | ((with_reducible apply op_any); (iterate 2 (focus (first | (simp only [go_sem, Nat.reduceEqDiff, Nat.reduceAdd, Nat.reduceSub, Nat.reduceLeDiff, Nat.reduceMul, Nat.reduceBEq, Nat.reduceLT, Int.reduceToNat, reduceCtorEq, hL, hdk]; first | done | exact rfl | (and_intros <;> rfl)) | exact rfl | decide)))) | ((with_reducible refine o_nil ?_); dsimp only; try ((with_reducible apply o_draw); (focus (simp only [go_sem]; exact rfl)); (focus decide))) | ((with_reducible first | refine a_ret ?_ | refine a_skip ?_ | refine a_label ?_); dsimp only) | ((with_reducible refine a_exit ?_); dsimp only; simp only [if_true, if_false, Nat.reduceEqDiff]) | ((with_reducible apply a_if); (focus (simp only [go_sem, Nat.reduceBEq, Nat.reduceLT, hL, hdk]; exact rfl)); dsimp only [cond_true, cond_false]) | ((with_reducible refine a_draw ?_ ?_); (focus exact rfl))))
        ((with_reducible apply op_part); (iterate 9 (focus (first | (simp only [go_sem, Nat.reduceEqDiff, Nat.reduceAdd, Nat.reduceSub, Nat.reduceLeDiff, Nat.reduceMul, Nat.reduceBEq, Nat.reduceLT, Int.reduceToNat, reduceCtorEq, hFl]; first | done | exact rfl | (and_intros <;> rfl)) | exact rfl | decide))))
        ((with_reducible apply op_clear); (iterate 12 (focus (first | (simp only [go_sem, Nat.reduceEqDiff, Nat.reduceAdd, Nat.reduceSub, Nat.reduceLeDiff, Nat.reduceMul, Nat.reduceBEq, Nat.reduceLT, Int.reduceToNat, reduceCtorEq, hFl]; first | done | exact rfl | (and_intros <;> rfl)) | exact rfl | decide))))
        (repeat (first | (with_reducible first | refine a_seq ?_ | refine a_region ?_ | refine a_block ?_ | refine a_scope ?_) | ((with_reducible apply op_any); (iterate 2 (focus (first | (simp only [go_sem, Nat.reduceEqDiff, Nat.reduceAdd, Nat.reduceSub, Nat.reduceLeDiff, Nat.reduceMul, Nat.reduceBEq, Nat.reduceLT, Int.reduceToNat, reduceCtorEq]; first | done | exact rfl | (and_intros <;> rfl)) | exact rfl | decide)))) | ((with_reducible refine o_nil ?_); dsimp only; try ((with_reducible apply o_draw); (focus (simp only [go_sem]; exact rfl)); (focus decide))) | ((with_reducible first | refine a_ret ?_ | refine a_skip ?_ | refine a_label ?_); dsimp only) | ((with_reducible refine a_exit ?_); dsimp only; simp only [if_true, if_false, Nat.reduceEqDiff]) | ((with_reducible apply a_if); (focus (simp only [go_sem, Nat.reduceBEq, Nat.reduceLT]; exact rfl)); dsimp only [cond_true, cond_false]) | ((with_reducible refine a_draw ?_ ?_); (focus exact rfl))))
        ((with_reducible apply op_prefix); (iterate 10 (focus (first | (simp only [go_sem, Nat.reduceEqDiff, Nat.reduceAdd, Nat.reduceSub, Nat.reduceLeDiff, Nat.reduceMul, Nat.reduceBEq, Nat.reduceLT, Int.reduceToNat, reduceCtorEq, hzz]; first | done | exact rfl | (and_intros <;> rfl)) | exact rfl | decide))))
        (repeat (first | (with_reducible first | refine a_seq ?_ | refine a_region ?_ | refine a_block ?_ | refine a_scope ?_) | ((with_reducible apply op_any); (iterate 2 (focus (first | (simp only [go_sem, Nat.reduceEqDiff, Nat.reduceAdd, Nat.reduceSub, Nat.reduceLeDiff, Nat.reduceMul, Nat.reduceBEq, Nat.reduceLT, Int.reduceToNat, reduceCtorEq]; first | done | exact rfl | (and_intros <;> rfl)) | exact rfl | decide)))) | ((with_reducible refine o_nil ?_); dsimp only; try ((with_reducible apply o_draw); (focus (simp only [go_sem]; exact rfl)); (focus decide))) | ((with_reducible first | refine a_ret ?_ | refine a_skip ?_ | refine a_label ?_); dsimp only) | ((with_reducible refine a_exit ?_); dsimp only; simp only [if_true, if_false, Nat.reduceEqDiff]) | ((with_reducible apply a_if); (focus (simp only [go_sem, Nat.reduceBEq, Nat.reduceLT]; exact rfl)); dsimp only [cond_true, cond_false]) | ((with_reducible refine a_draw ?_ ?_); (focus exact rfl))))
        (apply (ret_of [((1, 0), (41, 0))] []); (focus (simp only [Try.results91, go_sem, Nat.reduceBEq, Nat.reduceLT, hfin]; exact rfl)); (focus (simp only [go_sem, Nat.reduceEqDiff, Nat.reduceAdd, Nat.reduceSub, Nat.reduceLeDiff, Nat.reduceMul, Nat.reduceBEq, Nat.reduceLT, Int.reduceToNat, reduceCtorEq, hfin]; try (and_intros <;> rfl))); (focus exact rfl); (focus (simp only [go_sem, Nat.reduceEqDiff, Nat.reduceAdd, Nat.reduceSub, Nat.reduceLeDiff, Nat.reduceMul, Nat.reduceBEq, Nat.reduceLT, Int.reduceToNat, reduceCtorEq, hfin]; try (and_intros <;> rfl))); (focus exact rfl); (iterate 4 (focus (simp [go_sem, hfin]; done))))
/-- Has a value something in it? -/
def notLeaf (p : List V × V) : Bool := !p.2.kids.isEmpty
theorem isLeaf_ac (t : V) : AC Try.prog 94 [t.av] [] (.c (.bool t.kids.isEmpty)) [] := by
  have h0 : (((t.kids.length : Int)) == 0) = t.kids.isEmpty := by cases t.kids <;> simp; omega
  refine AC.intro_sp follows_mixed Try.func94 rfl Try.ntmps94 (Nat.le_of_ble_eq_true rfl) ?_; simp only [go_sem, Nat.reduceAdd]
  (repeat (first | (with_reducible first | refine a_seq ?_ | refine a_region ?_ | refine a_block ?_ | refine a_scope ?_) | ((with_reducible apply op_any); (iterate 2 (focus (first | (simp only [go_sem, Nat.reduceEqDiff, Nat.reduceAdd, Nat.reduceSub, Nat.reduceLeDiff, Nat.reduceMul, Nat.reduceBEq, Nat.reduceLT, Int.reduceToNat, reduceCtorEq]; first | done | exact rfl | (and_intros <;> rfl)) | exact rfl | decide)))) | ((with_reducible refine o_nil ?_); dsimp only; try ((with_reducible apply o_draw); (focus (simp only [go_sem]; exact rfl)); (focus decide))) | ((with_reducible first | refine a_ret ?_ | refine a_skip ?_ | refine a_label ?_); dsimp only) | ((with_reducible refine a_exit ?_); dsimp only; simp only [if_true, if_false, Nat.reduceEqDiff]) | ((with_reducible apply a_if); (focus (simp only [go_sem, Nat.reduceBEq, Nat.reduceLT]; exact rfl)); dsimp only [cond_true, cond_false]) | ((with_reducible refine a_draw ?_ ?_); (focus exact rfl))))
  exact ret_data [] (by simp only [Try.results94, go_sem, Nat.reduceBEq, Nat.reduceLT]; exact rfl) (by simp only [go_sem, Nat.reduceEqDiff, Nat.reduceAdd, Nat.reduceSub, Nat.reduceLeDiff, Nat.reduceMul, Nat.reduceBEq, Nat.reduceLT, Int.reduceToNat, reduceCtorEq, h0]) rfl
theorem leavesDel_ac (p : List V × V) : AC Try.prog 93 [placedAv p] [] (.c (.bool (notLeaf p))) [] := by
  have h1 := isLeaf_ac p.2
  unfold placedAv
  refine AC.intro_sp follows_mixed Try.func93 rfl Try.ntmps93 (Nat.le_of_ble_eq_true rfl) ?_; simp only [go_sem, Nat.reduceAdd]
  (repeat (first | (with_reducible first | refine a_seq ?_ | refine a_region ?_ | refine a_block ?_ | refine a_scope ?_) | ((with_reducible apply op_any); (iterate 2 (focus (first | (simp only [go_sem, Nat.reduceEqDiff, Nat.reduceAdd, Nat.reduceSub, Nat.reduceLeDiff, Nat.reduceMul, Nat.reduceBEq, Nat.reduceLT, Int.reduceToNat, reduceCtorEq]; first | done | exact rfl | (and_intros <;> rfl)) | exact rfl | decide)))) | ((with_reducible refine o_nil ?_); dsimp only; try ((with_reducible apply o_draw); (focus (simp only [go_sem]; exact rfl)); (focus decide))) | ((with_reducible first | refine a_ret ?_ | refine a_skip ?_ | refine a_label ?_); dsimp only) | ((with_reducible refine a_exit ?_); dsimp only; simp only [if_true, if_false, Nat.reduceEqDiff]) | ((with_reducible apply a_if); (focus (simp only [go_sem, Nat.reduceBEq, Nat.reduceLT]; exact rfl)); dsimp only [cond_true, cond_false]) | ((with_reducible refine a_draw ?_ ?_); (focus exact rfl))))
  (apply (op_data [] h1); (iterate 7 (focus (first | (simp only [go_sem, Nat.reduceEqDiff, Nat.reduceAdd, Nat.reduceSub, Nat.reduceLeDiff, Nat.reduceMul, Nat.reduceBEq, Nat.reduceLT, Int.reduceToNat, reduceCtorEq]; first | done | exact rfl | (and_intros <;> rfl)) | exact rfl | decide))))
  (repeat (first | (with_reducible first | refine a_seq ?_ | refine a_region ?_ | refine a_block ?_ | refine a_scope ?_) | ((with_reducible apply op_any); (iterate 2 (focus (first | (simp only [go_sem, Nat.reduceEqDiff, Nat.reduceAdd, Nat.reduceSub, Nat.reduceLeDiff, Nat.reduceMul, Nat.reduceBEq, Nat.reduceLT, Int.reduceToNat, reduceCtorEq]; first | done | exact rfl | (and_intros <;> rfl)) | exact rfl | decide)))) | ((with_reducible refine o_nil ?_); dsimp only; try ((with_reducible apply o_draw); (focus (simp only [go_sem]; exact rfl)); (focus decide))) | ((with_reducible first | refine a_ret ?_ | refine a_skip ?_ | refine a_label ?_); dsimp only) | ((with_reducible refine a_exit ?_); dsimp only; simp only [if_true, if_false, Nat.reduceEqDiff]) | ((with_reducible apply a_if); (focus (simp only [go_sem, Nat.reduceBEq, Nat.reduceLT]; exact rfl)); dsimp only [cond_true, cond_false]) | ((with_reducible refine a_draw ?_ ?_); (focus exact rfl))))
  exact ret_data [] (by simp only [Try.results93, go_sem, Nat.reduceBEq, Nat.reduceLT]; exact rfl) (by simp only [go_sem, Nat.reduceEqDiff, Nat.reduceAdd, Nat.reduceSub, Nat.reduceLeDiff, Nat.reduceMul, Nat.reduceBEq, Nat.reduceLT, Int.reduceToNat, reduceCtorEq, notLeaf]) rfl
theorem leaves_ac (t : V) (hc : t.count ≤ 500000) (hn : t.neat) : AC Try.prog 46 [t.av] [] (.own (0, 0)) [((0, 0), .row false 6 77 (((t.paths []).filter fun p => !notLeaf p).map placedCs))] := by
  have hq := paths_nil t hc hn
  have hpl := paths_len t []
  have hd := deletePlaced_ac 93 (by simp only [go_sem]) notLeaf (t.paths []) (by omega) (fun p _ => leavesDel_ac p)
  refine AC.intro_sp follows_mixed Try.func46 rfl Try.ntmps46 (Nat.le_of_ble_eq_true rfl) ?_; simp only [go_sem, Nat.reduceAdd]
  (repeat (first | (with_reducible first | refine a_seq ?_ | refine a_region ?_ | refine a_block ?_ | refine a_scope ?_) | ((with_reducible apply op_any); (iterate 2 (focus (first | (simp only [go_sem, Nat.reduceEqDiff, Nat.reduceAdd, Nat.reduceSub, Nat.reduceLeDiff, Nat.reduceMul, Nat.reduceBEq, Nat.reduceLT, Int.reduceToNat, reduceCtorEq]; first | done | exact rfl | (and_intros <;> rfl)) | exact rfl | decide)))) | ((with_reducible refine o_nil ?_); dsimp only; try ((with_reducible apply o_draw); (focus (simp only [go_sem]; exact rfl)); (focus decide))) | ((with_reducible first | refine a_ret ?_ | refine a_skip ?_ | refine a_label ?_); dsimp only) | ((with_reducible refine a_exit ?_); dsimp only; simp only [if_true, if_false, Nat.reduceEqDiff]) | ((with_reducible apply a_if); (focus (simp only [go_sem, Nat.reduceBEq, Nat.reduceLT]; exact rfl)); dsimp only [cond_true, cond_false]) | ((with_reducible refine a_draw ?_ ?_); (focus exact rfl))))
  (apply (op_rowF [] hq); (iterate 12 (focus (first | (simp only [go_sem, Nat.reduceEqDiff, Nat.reduceAdd, Nat.reduceSub, Nat.reduceLeDiff, Nat.reduceMul, Nat.reduceBEq, Nat.reduceLT, Int.reduceToNat, reduceCtorEq]; first | done | exact rfl | (and_intros <;> rfl)) | exact rfl | decide))))
  (apply (op_cons (4, 0) hd); (iterate 10 (focus (first | (simp only [go_sem, Nat.reduceEqDiff, Nat.reduceAdd, Nat.reduceSub, Nat.reduceLeDiff, Nat.reduceMul, Nat.reduceBEq, Nat.reduceLT, Int.reduceToNat, reduceCtorEq]; first | done | exact rfl | (and_intros <;> rfl)) | exact rfl | decide))))
  (repeat (first | (with_reducible first | refine a_seq ?_ | refine a_region ?_ | refine a_block ?_ | refine a_scope ?_) | ((with_reducible apply op_any); (iterate 2 (focus (first | (simp only [go_sem, Nat.reduceEqDiff, Nat.reduceAdd, Nat.reduceSub, Nat.reduceLeDiff, Nat.reduceMul, Nat.reduceBEq, Nat.reduceLT, Int.reduceToNat, reduceCtorEq]; first | done | exact rfl | (and_intros <;> rfl)) | exact rfl | decide)))) | ((with_reducible refine o_nil ?_); dsimp only; try ((with_reducible apply o_draw); (focus (simp only [go_sem]; exact rfl)); (focus decide))) | ((with_reducible first | refine a_ret ?_ | refine a_skip ?_ | refine a_label ?_); dsimp only) | ((with_reducible refine a_exit ?_); dsimp only; simp only [if_true, if_false, Nat.reduceEqDiff]) | ((with_reducible apply a_if); (focus (simp only [go_sem, Nat.reduceBEq, Nat.reduceLT]; exact rfl)); dsimp only [cond_true, cond_false]) | ((with_reducible refine a_draw ?_ ?_); (focus exact rfl))))
  (apply (ret_of [((0, 0), (5, 0))] []); (focus (simp only [Try.results46, go_sem, Nat.reduceBEq, Nat.reduceLT, hpl]; exact rfl)); (focus (simp only [go_sem, Nat.reduceEqDiff, Nat.reduceAdd, Nat.reduceSub, Nat.reduceLeDiff, Nat.reduceMul, Nat.reduceBEq, Nat.reduceLT, Int.reduceToNat, reduceCtorEq, hpl]; try (and_intros <;> rfl))); (focus exact rfl); (focus (simp only [go_sem, Nat.reduceEqDiff, Nat.reduceAdd, Nat.reduceSub, Nat.reduceLeDiff, Nat.reduceMul, Nat.reduceBEq, Nat.reduceLT, Int.reduceToNat, reduceCtorEq, hpl]; try (and_intros <;> rfl))); (focus exact rfl); (iterate 4 (focus (simp [go_sem, hpl]; done))))
end Go.Proofs.Ytioaieacogoemaa
