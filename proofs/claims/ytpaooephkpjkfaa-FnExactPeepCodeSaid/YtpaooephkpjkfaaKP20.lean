/- laws.FnExactPeepCode: the walk of the law itself, by the engine. -/
import Derived.Test.YtpaooephkpjkfaaKH21
import Derived.Test.YtpaooephkpjkfaaKG78
set_option linter.unusedSimpArgs false
set_option linter.unusedVariables false
set_option linter.unnecessarySimpa false
namespace Go.Proofs.Ytpaooephkpjkfaa
open Go.RowKit
set_option maxRecDepth 10000
set_option maxHeartbeats 8000000 in
theorem lawPeepCode_small1 (x0 : List InD) (x1 : Int) (hz0 : ∀ d ∈ x0, Sized63 d.val)  (hl0 : x0.length ≤ 9223372036854775807) (hm0 : ∀ d ∈ x0, d.val.length ≤ 9223372036854775807)  (hb0' : (szNR x0 1048576) < 0) : AC Try.prog 3 [insA x0, .c (.int .i64 x1)] [] (.c (.bool true)) [] := by
  have hq0 := szNR_le x0 1048576 (by omega)
  have hs0 := szInS_ac x0 hz0 (by omega) (fun d h => by have := hm0 d h; omega) 1048576 (by omega) (by omega)
  have hb0 : decide ((szNR x0 1048576) < 0) = true := by simpa using hb0'
  refine wEnter Try.func3 Try.ntmps3 ?_
  refine wRUN trivial ?_
  refine w7 (op_data [] hs0) trivial ?_
  refine wRUN hb0 ?_
  exact wRet (ret_data []) Try.results3
set_option maxHeartbeats 8000000 in
theorem lawPeepCode_one (x0 : List InD) (x1 : Int) (hz0 : ∀ d ∈ x0, Sized63 d.val) (hl0 : x0.length ≤ 1048576) (hm0 : ∀ d ∈ x0, d.val.length ≤ 1048576) (hb0' : ¬ (szNR x0 1048576) < 0) (c at1 regs : Int) (ys : List InD) (hy : ys.length ≤ 1000000) (ht : 1 + totI ys ≤ 3000000000) (hx : ∀ d ∈ ys, d.val.length ≤ 9223372036854775807) (hk9 : 1 + totI x0 ≤ 3000000000) (hspec : AC Try.prog 5 [insA x0, .c (.int .i64 x1)] [] (.agg [.c (.int .i64 c), .c (.int .i64 at1), .c (.sl (ys.map InD.cs)), .c (.int .i64 regs)]) []) (himpl : AC Try.prog 7 [insA x0, .c (.int .i64 x1)] [] (.agg [.c (.int .i64 c), .c (.int .i64 at1), .own (0, 0), .c (.int .i64 regs)]) [((0, 0), .row true 3 41 (ys.map InD.os))]) : AC Try.prog 3 [insA x0, .c (.int .i64 x1)] [] (.c (.bool true)) [] := by
  have hq0 := szNR_le x0 1048576 (by omega)
  have hs0 := szInS_ac x0 hz0 (by omega) (fun d h => by have := hm0 d h; omega) 1048576 (by omega) (by omega)
  have hb0 : decide ((szNR x0 1048576) < 0) = false := by simpa using hb0'
  have hto0 := toInS_ac x0 hl0 hm0
  have heq0 := eqInS_ac x0 hl0 (fun d h => by have := hm0 d h; omega)
  have hmk0 := markInS_ac x0 (1) 41 (by omega) (by omega)
  have he := eqCodeIns_ac c at1 regs ys (by omega) hx
  have hm := markCodeIns_ac c at1 regs ys 1 41 ht (by omega)
  have hh := heldCodeIns_ac c at1 regs ys 1 ht (by omega)
  have hm0 : decide (((1 + totI ys : Nat) : Int) < 0) = false := by simp; omega
  have hmm : (((1 + totI ys : Nat) : Int) != ((1 + totI ys : Nat) : Int)) = false := by simp
  have hk0 : decide (((1 + totI x0 : Nat) : Int) < 0) = false := by simp; omega
  refine wEnter Try.func3 Try.ntmps3 ?_
  refine wRUN trivial ?_
  refine w7 (op_data [] hs0) trivial ?_
  refine wRUN hb0 ?_
  refine w12 (op_rowT [] hto0) trivial ?_
  refine wRUN hb0 ?_
  refine w9 (op_shared [(19, 0)] hspec) trivial ?_
  refine wRUN hb0 ?_
  refine w12 (op_rowT [] hto0) trivial ?_
  refine wRUN hb0 ?_
  refine w12 (op_rowT [(23, 0)] himpl) trivial ?_
  refine wRUN hb0 ?_
  refine w7 (op_data [(26, 0)] he) trivial ?_
  refine wRUN (j2 hb0 hk0) ?_
  refine w12 (op_rowT [] hto0) trivial ?_
  refine wRUN (j2 hb0 hk0) ?_
  refine w7 (op_data [(23, 0), (33, 0)] heq0) trivial ?_
  refine wRUN (j2 hb0 hk0) ?_
  refine w9 (op_own (23, 0) hmk0) trivial ?_
  refine wRUN hk0 ?_
  refine w7 (op_data [(26, 0)] he) trivial ?_
  refine wRUN hk0 ?_
  refine w9 (op_own (26, 0) hm) trivial ?_
  refine wRUN (j2 hm0 hmm) ?_
  refine w7 (op_data [(26, 0)] hh) trivial ?_
  refine wRUN (j2 hm0 hmm) ?_
  refine w12 (op_rowT [] hto0) trivial ?_
  refine wRUN (j2 hm0 hmm) ?_
  refine w12 (op_rowT [(59, 0)] himpl) trivial ?_
  refine wRUN (j2 hm0 hmm) ?_
  refine w7 (op_data [(61, 0)] he) trivial ?_
  refine wRUN (j2 hm0 hk0) ?_
  refine w7 (op_data [(26, 0)] hh) trivial ?_
  refine wRUN (j2 hm0 hmm) ?_
  exact wRet (ret_data []) Try.results3
set_option maxHeartbeats 8000000 in
theorem lawPeepCode_none (x0 : List InD) (x1 : Int) (hz0 : ∀ d ∈ x0, Sized63 d.val) (hl0 : x0.length ≤ 1048576) (hm0 : ∀ d ∈ x0, d.val.length ≤ 1048576) (hb0' : ¬ (szNR x0 1048576) < 0) (c at1 : Int) (hk9 : 1 + totI x0 ≤ 3000000000) (hspec : AC Try.prog 5 [insA x0, .c (.int .i64 x1)] [] (.agg [.c (.int .i64 c), .c (.int .i64 at1), .c (.sl []), .c (.int .i64 0)]) []) (himpl : AC Try.prog 7 [insA x0, .c (.int .i64 x1)] [] (.agg [.c (.int .i64 c), .c (.int .i64 at1), .nils, .c (.int .i64 0)]) []) : AC Try.prog 3 [insA x0, .c (.int .i64 x1)] [] (.c (.bool true)) [] := by
  have hq0 := szNR_le x0 1048576 (by omega)
  have hs0 := szInS_ac x0 hz0 (by omega) (fun d h => by have := hm0 d h; omega) 1048576 (by omega) (by omega)
  have hb0 : decide ((szNR x0 1048576) < 0) = false := by simpa using hb0'
  have hto0 := toInS_ac x0 hl0 hm0
  have heq0 := eqInS_ac x0 hl0 (fun d h => by have := hm0 d h; omega)
  have hmk0 := markInS_ac x0 (1) 41 (by omega) (by omega)
  have he := eqCodeIns_ac c at1 0 [] (by simp) (by simp)
  have hm := markCodeResult_nil c at1 1
  have hh := heldCodeResult_nil c at1 1 (by omega)
  have hm0 : decide (((1 : Nat) : Int) < 0) = false := rfl
  have hmm : (((1 : Nat) : Int) != ((1 : Nat) : Int)) = false := by simp
  have hk0 : decide (((1 + totI x0 : Nat) : Int) < 0) = false := by simp; omega
  refine wEnter Try.func3 Try.ntmps3 ?_
  refine wRUN trivial ?_
  refine w7 (op_data [] hs0) trivial ?_
  refine wRUN hb0 ?_
  refine w12 (op_rowT [] hto0) trivial ?_
  refine wRUN hb0 ?_
  refine w9 (op_shared [(19, 0)] hspec) trivial ?_
  refine wRUN hb0 ?_
  refine w12 (op_rowT [] hto0) trivial ?_
  refine wRUN hb0 ?_
  refine w7 (op_data [(23, 0)] himpl) trivial ?_
  refine wRUN hb0 ?_
  (apply (op_data [] he); (iterate 7 (focus (first | (simp only [go_sem, Nat.reduceEqDiff, Nat.reduceAdd, Nat.reduceSub, Nat.reduceLeDiff, Nat.reduceMul, Nat.reduceBEq, Nat.reduceLT, Int.reduceToNat, reduceCtorEq, List.map_nil]; first | done | exact rfl | (and_intros <;> rfl)) | exact rfl | decide))))
  refine wRUN (j2 hb0 hk0) ?_
  refine w12 (op_rowT [] hto0) trivial ?_
  refine wRUN (j2 hb0 hk0) ?_
  refine w7 (op_data [(23, 0), (33, 0)] heq0) trivial ?_
  refine wRUN (j2 hb0 hk0) ?_
  refine w9 (op_own (23, 0) hmk0) trivial ?_
  refine wRUN hk0 ?_
  (apply (op_data [] he); (iterate 7 (focus (first | (simp only [go_sem, Nat.reduceEqDiff, Nat.reduceAdd, Nat.reduceSub, Nat.reduceLeDiff, Nat.reduceMul, Nat.reduceBEq, Nat.reduceLT, Int.reduceToNat, reduceCtorEq, List.map_nil]; first | done | exact rfl | (and_intros <;> rfl)) | exact rfl | decide))))
  refine wRUN hk0 ?_
  refine w7 (op_data [] hm) trivial ?_
  refine wRUN (j2 hm0 hmm) ?_
  refine w7 (op_data [] hh) trivial ?_
  refine wRUN (j2 hm0 hmm) ?_
  refine w12 (op_rowT [] hto0) trivial ?_
  refine wRUN (j2 hm0 hmm) ?_
  refine w7 (op_data [(59, 0)] himpl) trivial ?_
  refine wRUN (j2 hm0 hmm) ?_
  (apply (op_data [] he); (iterate 7 (focus (first | (simp only [go_sem, Nat.reduceEqDiff, Nat.reduceAdd, Nat.reduceSub, Nat.reduceLeDiff, Nat.reduceMul, Nat.reduceBEq, Nat.reduceLT, Int.reduceToNat, reduceCtorEq, List.map_nil]; first | done | exact rfl | (and_intros <;> rfl)) | exact rfl | decide))))
  refine wRUN (j2 hm0 hk0) ?_
  refine w7 (op_data [] hh) trivial ?_
  refine wRUN (j2 hm0 hmm) ?_
  exact wRet (ret_data []) Try.results3
theorem totI_cons (d : InD) (l : List InD) : totI (d :: l) = 2 + 5 * d.val.length + totI l := by simp [totI]
theorem totI_app (a b : List InD) : totI (a ++ b) = totI a + totI b := by simp [totI]
theorem totI_new (ps : List Int) (l : List InD) : totI (l.map (newArg ps)) = totI l := by
  induction l with
  | nil => rfl
  | cons d l ih =>
    have : (newArg ps d).val = d.val := by unfold newArg; split <;> rfl
    rw [List.map_cons, totI_cons, totI_cons, ih, this]
theorem totI_drop (l : List InD) (i : Nat) : totI (l.drop (i + 1)) ≤ totI (l.drop i) := by
  by_cases h : i < l.length
  · rw [List.drop_eq_getElem_cons h, totI_cons]; omega
  · rw [List.drop_eq_nil_of_le (by omega), List.drop_eq_nil_of_le (by omega)]; exact Nat.le_refl _
theorem peepGo_tot (l : List InD) : ∀ (n i : Nat) (ps : List Int) (out : List InD), totI (peepGo l n i ps out).2 ≤ totI out + totI (l.drop i) ∧ (peepGo l n i ps out).2.length ≤ out.length + n ∧ ((∀ d ∈ out, d ∈ l) → ∀ d ∈ (peepGo l n i ps out).2, d ∈ l)
  | 0, i, ps, out => ⟨Nat.le_add_right _ _, Nat.le_refl _, fun h => h⟩
  | n + 1, i, ps, out => by
    by_cases hi : i < l.length
    · cases hb : leftOut l i with
      | true =>
        rw [peepGo_left hi hb]
        have h := peepGo_tot l n (i + 2) (ps ++ [(out.length : Int), (out.length : Int)]) out
        have h1 := totI_drop l i
        have h2 := totI_drop l (i + 1)
        have h5 := h.1
        have h6 := h.2.1
        rw [show i + 1 + 1 = i + 2 from rfl] at h2
        exact ⟨by omega, by omega, h.2.2⟩
      | false =>
        rw [peepGo_kept hi hb]
        have h := peepGo_tot l n (i + 1) (ps ++ [(out.length : Int)]) (out ++ [l[i]])
        rw [totI_app, List.length_append] at h
        have h3 : totI [l[i]] = 2 + 5 * l[i].val.length := by rw [totI_cons]; rfl
        have h4 : totI (l.drop i) = 2 + 5 * l[i].val.length + totI (l.drop (i + 1)) := by rw [List.drop_eq_getElem_cons hi, totI_cons]
        have h5 := h.1
        refine ⟨by omega, by have := h.2.1; simp only [List.length_singleton] at this; omega, fun ho => h.2.2 fun d hd => ?_⟩
        rcases List.mem_append.1 hd with hd | hd
        · exact ho d hd
        · rw [List.mem_singleton.1 hd]; exact List.getElem_mem hi
    · rw [peepGo_end l i (by omega)]
      exact ⟨Nat.le_add_right _ _, Nat.le_add_right _ _, fun h => h⟩
theorem peepV_tot (l : List InD) : totI (peepV l) ≤ totI l ∧ (peepV l).length ≤ l.length ∧ ∀ d ∈ peepV l, ∃ e ∈ l, d.val = e.val := by
  have h := peepGo_tot l l.length 0 [] []
  unfold peepV
  refine ⟨by rw [totI_new]; have := h.1; simp only [List.drop_zero] at this; exact Nat.le_trans this (by simp [totI]), by rw [List.length_map]; have := h.2.1; simpa using this, fun d hd => ?_⟩
  obtain ⟨e, he, rfl⟩ := List.mem_map.1 hd
  exact ⟨e, h.2.2 (by simp) e he, by unfold newArg; split <;> rfl⟩
theorem lawPeepCode_ac (x0 : List InD) (x1 : Int) (hz0 : ∀ d ∈ x0, Sized63 d.val) (hl0 : x0.length ≤ 9223372036854775807) (hy0 : ∀ d ∈ x0, d.val.length ≤ 9223372036854775807) : AC Try.prog 3 [insA x0, .c (.int .i64 x1)] [] (.c (.bool true)) [] := by
  by_cases hsz : szNR x0 1048576 < 0
  · exact lawPeepCode_small1 x0 x1 hz0 hl0 hy0 hsz
  · obtain ⟨h1, h2, h3⟩ := szNR_tot hsz (by omega)
    by_cases hc : (codeFault x0 x1).1 = 0
    · obtain ⟨hn, _⟩ := codeFault_ok hc
      obtain ⟨t1, t2, t3⟩ := peepV_tot x0
      have hv : ∀ d ∈ x0, d.val.length ≤ 1000000 := fun d hd => Nat.le_trans (codeFault_vals hc d hd) (by decide)
      exact lawPeepCode_one x0 x1 hz0 h1 h3 hsz _ _ _ (peepV x0) (by omega) (by omega) (fun d hd => by obtain ⟨e, he, h⟩ := t3 d hd; rw [h]; exact hy0 e he) (by omega) (specPeep_ac x0 hv x1 hc) (implPeep_ac x0 hz0 hv x1 hc)
    · exact lawPeepCode_none x0 x1 hz0 h1 h3 hsz _ _ (by omega) (specPeep_bad x0 x1 hc) (implPeep_bad x0 hz0 x1 hc)
end Go.Proofs.Ytpaooephkpjkfaa
