/- Texts of this proof: H19 H04 H26. -/
import Derived.Test.YtamgeodhpglgkaaGreatKG75uG30
import Derived.Test.YtamgeodhpglgkaaGreatKG76
import Derived.Test.YtamgeodhpglgkaaGreatKH12
import Derived.Test.YtamgeodhpglgkaaGreatKG15uM29
import Derived.Test.YtamgeodhpglgkaaGreatKG06uG08
import Derived.Test.YtamgeodhpglgkaaGreatKG87
import Derived.Test.YtamgeodhpglgkaaGreatKM44uG72
import Derived.Test.YtamgeodhpglgkaaGreatKG31uH17
set_option linter.unusedSimpArgs false
set_option maxHeartbeats 8000000
namespace Go.Proofs.YtamgeodhpglgkaaGreat
open Go.RowKit
set_option maxRecDepth 10000
theorem leafy_nil : leafy [] := fun q hq => by cases hq
theorem implDiff_bad (x y : List CellD) (hz : Sized x) (hzy : Sized y) {c : Int} (hc : c ≠ 0) (h : bothCode x y = c) :
  AC Tryz.prog 22 [cellsA x, cellsA y] [] (.agg [.c (.int .i64 c), .c (.int .i64 0), .nils]) [] := by
 subst h
 have hv := two_none hz hzy hc
 have hb : (bothCode x y != 0) = true := by simpa using hc
 generalize bothCode x y = c at *
 refine wEnter Tryz.func22 Tryz.ntmps22 ?_
 refine wRUN trivial ?_
 refine w7 (op_data [(11, 0)] hv) trivial ?_
 refine wRUN hb ?_
 exact wRet (ret_data []) Tryz.results22
theorem implDiff_many {t u : V} (ht : t.right) (hu : u.right) (hz : Sized t.enc) (hzy : Sized u.enc) (h1 : dec t.enc = (0, some t)) (h2 : dec u.enc = (0, some u)) (h : (diffV t.count t u []).length > 100) :
  AC Tryz.prog 22 [cellsA t.enc, cellsA u.enc] [] (.agg [.c (.int .i64 2), .c (.int .i64 0), .nils]) [] := by
 have hv := two_vals hz hzy h1 h2
 have h00 : ((0 : Int) != 0) = false := rfl
 have hdl := diff_len t.count t u [] ht hu
 have hct := ht.2.1
 have hcu := hu.2.1
 have hw := values_ac t.count t u [] [] ht hu leafy_nil (by simp; omega) (by simp; omega) (Nat.le_refl _)
 rw [List.nil_append] at hw
 have hd : decide (((diffV t.count t u []).length : Int) > 100) = true := by simp; omega
 generalize diffV t.count t u [] = R at *
 have hRm : (R.map EditD.ox).length = R.length := by simp
 refine wEnter Tryz.func22 Tryz.ntmps22 ?_
 refine wRUN trivial ?_
 refine w9 (op_shared [(11, 0)] hv) trivial ?_
 refine wRUN h00 ?_
 refine wCall (op_any_call [((0, 0), (20, 0))] [((0, 0), (20, 0)), ((1, 0), (97, 0))] hw) trivial ?_
 refine wRUN (j2 hd hRm) ?_
 exact wRet (ret_data []) Tryz.results22
theorem implDiff_ok {t u : V} (ht : t.right) (hu : u.right) (hz : Sized t.enc) (hzy : Sized u.enc) (h1 : dec t.enc = (0, some t)) (h2 : dec u.enc = (0, some u)) (h : ¬ (diffV t.count t u []).length > 100) :
  AC Tryz.prog 22 [cellsA t.enc, cellsA u.enc] [] (.agg [.c (.int .i64 0), .c (.int .i64 0), .own (0, 0)]) [((0, 0), .row true 3 122 ((diffV t.count t u []).map EditD.ox))] := by
 have hv := two_vals hz hzy h1 h2
 have h00 : ((0 : Int) != 0) = false := rfl
 have hdl := diff_len t.count t u [] ht hu
 have hct := ht.2.1
 have hcu := hu.2.1
 have hw := values_ac t.count t u [] [] ht hu leafy_nil (by simp; omega) (by simp; omega) (Nat.le_refl _)
 rw [List.nil_append] at hw
 have hd : decide (((diffV t.count t u []).length : Int) > 100) = false := by simp; omega
 generalize diffV t.count t u [] = R at *
 have hRm : (R.map EditD.ox).length = R.length := by simp
 refine wEnter Tryz.func22 Tryz.ntmps22 ?_
 refine wRUN trivial ?_
 refine w9 (op_shared [(11, 0)] hv) trivial ?_
 refine wRUN h00 ?_
 refine wCall (op_any_call [((0, 0), (20, 0))] [((0, 0), (20, 0)), ((1, 0), (97, 0))] hw) trivial ?_
 refine wRUN (j2 hd hRm) ?_
 exact wRetOf (ret_of [((0, 0), (97, 0))] []) Tryz.results22 hd
theorem specDiff_bad (x y : List CellD) {c : Int} (hc : c ≠ 0) (h : bothCode x y = c) :
  AC Tryz.prog 23 [cellsA x, cellsA y] [] (.agg [.c (.int .i64 c), .c (.int .i64 0), .c (.sl [])]) [] := by
 have hv := l3Both_ac x y
 rw [h] at hv
 have hb : (c != 0) = true := by simpa using hc
 refine wEnter Tryz.func23 Tryz.ntmps23 ?_
 refine wRUN trivial ?_
 refine w7 (op_data [] hv) trivial ?_
 refine wRUN hb ?_
 exact wRetOf (ret_of [] []) Tryz.results23 hb
theorem specDiff_ac {t u : V} (ht : t.right) (hu : u.right) (h0 : bothCode t.enc u.enc = 0) (R : List EditD) (hR : diffV t.count t u [] = R) :
  AC Tryz.prog 23 [cellsA t.enc, cellsA u.enc] [] (if R.length > 100 then .agg [.c (.int .i64 2), .c (.int .i64 0), .c (.sl [])] else .agg [.c (.int .i64 0), .c (.int .i64 0), .c (.sl (R.map EditD.cs))]) [] := by
 have hv := l3Both_ac t.enc u.enc
 rw [h0] at hv
 have h00 : ((0 : Int) != 0) = false := rfl
 have hdl := diff_len t.count t u [] ht hu
 have hct := ht.2.1
 have hcu := hu.2.1
 have hw := diffS_ac t.count t u [] ht hu leafy_nil (by simp; omega) (by omega) (Nat.le_refl _)
 rw [hR] at hw
 have hRm : (R.map EditD.cs).length = R.length := by simp
 by_cases h : R.length > 100
 ·rw [if_pos h]
  have hd : decide ((R.length : Int) > 100) = true := by simp; omega
  refine wEnter Tryz.func23 Tryz.ntmps23 ?_
  refine wRUN trivial ?_
  refine w7 (op_data [] hv) trivial ?_
  refine wRUN h00 ?_
  refine w9 (op_shared [] hw) trivial ?_
  refine wRUN (j2 hd hRm) ?_
  exact wRetOf (ret_of [] []) Tryz.results23 hd
 ·rw [if_neg h]
  have hd : decide ((R.length : Int) > 100) = false := by simp; omega
  refine wEnter Tryz.func23 Tryz.ntmps23 ?_
  refine wRUN trivial ?_
  refine w7 (op_data [] hv) trivial ?_
  refine wRUN h00 ?_
  refine w9 (op_shared [] hw) trivial ?_
  refine wRUN (j2 hd hRm) ?_
  exact wRetOf (ret_of [] []) Tryz.results23 hd
set_option maxRecDepth 10000
theorem leavesIn_ac (xs : List CellD) (hz : Sized xs) {t : V} (hd : dec xs = (0, some t)) :
  AC Tryz.prog 29 [cellsA xs] [] (.agg [.c (.int .i64 0), .own (0, 0)]) [((0, 0), .row true 1 24 (((t.paths []).filter fun p => !notLeaf p).map pathCs))] := by
 obtain ⟨_, hw, hc, _⟩ := dec_ok hd
 have h0 : ((0 : Int) != 0) = false := rfl
 have hv := valOf_ac xs hz (t := t) (by rw [hd])
 have hq := leaves_ac t (by omega) (neat_wf t hw)
 have hr := pathsResult_ac ((t.paths []).filter fun p => !notLeaf p) (Nat.le_trans (List.length_filter_le _ _) (by rw [paths_len]; exact hc)) (fun p hp => by
  obtain ⟨h1, h2⟩ := paths_ok t [] trivial p (List.mem_filter.1 hp).1
  exact ⟨by rw [arr_count]; simp only [countL] at h2; omega, arr_neat h1⟩)
 refine wEnter Tryz.func29 Tryz.ntmps29 ?_
 refine wRUN trivial ?_
 refine w9 (op_shared [] hv) trivial ?_
 refine wRUN h0 ?_
 refine w12 (op_rowF [] hq) trivial ?_
 refine wRUN trivial ?_
 refine w12 (op_rowF [(15, 0)] hr) trivial ?_
 refine wRUN trivial ?_
 exact wRetOf (ret_of [((0, 0), (16, 0))] []) Tryz.results29 h0
set_option maxRecDepth 10000
theorem implDiffS_ok {t u : V} (ht : t.right) (hu : u.right) (h : ¬ (diffV t.count t u []).length > 100) :
  AC Tryz.prog 22 [cellsA t.enc, cellsA u.enc] [] (.agg [.c (.int .i64 0), .c (.int .i64 0), editsA (diffV t.count t u [])]) [] := by
 have hb := implDiff_ok ht hu (right_sized ht) (right_sized hu) (right_dec ht) (right_dec hu) h
 have _a1 := forget_ox
 have _a2 := all_ox
 generalize diffV t.count t u [] = R at *
 (apply (AC.says [] [(0, 0)] hb); (focus (simp only [go_sem, Nat.reduceEqDiff, Nat.reduceAdd, Nat.reduceSub, Nat.reduceLeDiff, Nat.reduceMul, Nat.reduceBEq, Nat.reduceLT, Int.reduceToNat, reduceCtorEq]; try (and_intros <;> rfl))); (focus exact rfl); (focus (simp only [go_sem, Nat.reduceEqDiff, Nat.reduceAdd, Nat.reduceSub, Nat.reduceLeDiff, Nat.reduceMul, Nat.reduceBEq, Nat.reduceLT, Int.reduceToNat, reduceCtorEq]; try (and_intros <;> rfl))); (focus exact rfl); (iterate 4 (focus (simp [go_sem]; done))))
theorem implApplyS_ok (xs : List CellD) (l : List EditD) (hz : Sized xs) (hzl : ∀ d ∈ l, EditOk d) (hl : l.length ≤ 1048576) {u : V} (h : applyAll xs l = ((0, 0), some u)) :
  AC Tryz.prog 24 [cellsA xs, editsA l] [] (.agg [.c (.int .i64 0), .c (.int .i64 0), cellsA u.enc]) [] := by
 have hb := implApply_ok xs l hz hzl hl h
 (apply (AC.says [] [(0, 0)] hb); (focus (simp only [go_sem, Nat.reduceEqDiff, Nat.reduceAdd, Nat.reduceSub, Nat.reduceLeDiff, Nat.reduceMul, Nat.reduceBEq, Nat.reduceLT, Int.reduceToNat, reduceCtorEq]; try (and_intros <;> rfl))); (focus exact rfl); (focus (simp only [go_sem, Nat.reduceEqDiff, Nat.reduceAdd, Nat.reduceSub, Nat.reduceLeDiff, Nat.reduceMul, Nat.reduceBEq, Nat.reduceLT, Int.reduceToNat, reduceCtorEq]; try (and_intros <;> rfl))); (focus exact rfl); (iterate 4 (focus (simp [go_sem]; done))))
theorem lawDiffs_ac (bs : List Nat) (hbb : ∀ b ∈ bs, b < 256) : AC Tryz.prog 4 [.c (.sl (bs.map byteCs))] [] (.c (.bool true)) [] := by
 have hbig := lwBig_ac bs
 by_cases hl : bs.length ≤ 1048576
 ·have hd : decide ((bs.length : Int) > 1048576) = false := decide_eq_false (by omega)
  rw [hd] at hbig
  have hb : BytesOk bs := ⟨hl, hbb⟩
  obtain ⟨xs, ys, zx, zy, hdraw⟩ := drawDiff_ac bs hb
  have h00 : ((0 : Int) != 0) = false := rfl
  have h01 : ((0 : Int) == 0) = true := rfl
  have h02 : ((0 : Int) == 2) = false := rfl
  have h22 : ((2 : Int) == 2) = true := rfl
  have h20 : ((2 : Int) != 0) = true := rfl
  rcases both_ways xs ys with hne | ⟨t, u, h1, h2, hbc⟩
  ·obtain ⟨c, hc⟩ : ∃ c, bothCode xs ys = c := ⟨_, rfl⟩
   rw [hc] at hne
   have hB := implDiff_bad xs ys zx zy hne hc
   have hS := specDiff_bad xs ys hne hc
   have hc0 : (c != 0) = true := by simpa using hne
   have hcc : (c == c) = true := by simp
   refine wEnter Tryz.func4 Tryz.ntmps4 ?_
   refine wRUN trivial ?_
   refine w7 (op_data [] hbig) trivial ?_
   refine wRUN trivial ?_
   refine w9 (op_shared [] hdraw) trivial ?_
   refine wRUN trivial ?_
   refine w9 (op_shared [] hB) trivial ?_
   refine wRUN hc0 ?_
   refine w9 (op_shared [] hS) trivial ?_
   refine wRUN (j2 hc0 hcc) ?_
   exact wRet (ret_data []) Tryz.results4
  ·obtain ⟨hx, ht⟩ := right_of_dec h1
   obtain ⟨hy, hu⟩ := right_of_dec h2
   subst hx
   subst hy
   have hS := specDiff_ac ht hu hbc _ rfl
   by_cases hm : (diffV t.count t u []).length > 100
   ·rw [if_pos hm] at hS
    have hB := implDiff_many ht hu zx zy h1 h2 hm
    refine wEnter Tryz.func4 Tryz.ntmps4 ?_
    refine wRUN trivial ?_
    refine w7 (op_data [] hbig) trivial ?_
    refine wRUN trivial ?_
    refine w9 (op_shared [] hdraw) trivial ?_
    refine wRUN trivial ?_
    refine w9 (op_shared [] hB) trivial ?_
    refine wRUN h20 ?_
    refine w9 (op_shared [] hS) trivial ?_
    refine wRUN (j2 h20 h22) ?_
    exact wRet (ret_data []) Tryz.results4
   ·have hB := implDiffS_ok ht hu hm
    obtain ⟨hec, hzl⟩ := diff_right ht hu hm
    have hnil := diff_nil ht hu
    have hap := diff_apply ht hu
    have hall : applyAll t.enc (diffV t.count t u []) = applyGo (diffV t.count t u []) t 0 := by
     unfold applyAll
     rw [right_dec ht]
     show (if editsCode (diffV t.count t u []) ≠ 0 then _ else _) = _
     rw [if_neg (by rw [hec]; decide)]
    have hE := implEdits_ac _ hzl (by omega)
    rw [hec] at hE
    have hsam := implSame_ac t.enc u.enc zx zy
    rw [sameC_eq ht hu] at hsam
    have hself : diffV t.count t t [] = [] := (diff_nil ht ht).2 rfl
    have hA2 := implDiffS_ok ht ht (by rw [hself]; simp)
    rw [hself] at hA2
    have hcs := implCountSame_ac t.enc t.enc zx zx h1 h1
    rw [sames_self ht] at hcs
    have hlv := leavesIn_ac t.enc zx h1
    rw [show ((t.paths []).filter fun p => !notLeaf p) = leavesOf t from rfl] at hlv
    have e1 := sameS hu
    have hlt : (t.enc.map CellD.cs).length = t.count := by rw [List.length_map, enc_len]
    have hlu : (u.enc.map CellD.cs).length = u.count := by rw [List.length_map, enc_len]
    have htc := ht.2.1
    have huc := hu.2.1
    have hw := wrap_in (n := (t.count : Int) + (u.count : Int)) (by omega) (by omega)
    have hlp : ((leavesOf t).map pathCs).length = (leavesOf t).length := List.length_map _
    have hll : (((leavesOf t).length : Int) == ((leavesOf t).length : Int)) = true := by simp
    have h0n : (((0 : Nat) : Int) == 0) = true := rfl
    have hrl : ((diffV t.count t u []).map EditD.cs).length = (diffV t.count t u []).length := List.length_map _
    rw [← hall] at hap
    clear hall hself hS hbc hec
    generalize hR : diffV t.count t u [] = R at *
    rcases hap with hap | ⟨j, hap, hgt⟩
    ·have hP := implApplyS_ok t.enc R zx hzl (by omega) hap
     have hcc : (decide ((R.length : Int) = 0)) = (t.cmp u == 0) := by
      rw [Bool.eq_iff_iff]
      simp only [decide_eq_true_eq, beq_iff_eq, cmp_null, ← hnil]
      constructor
      ·intro h; exact List.eq_nil_of_length_eq_zero (by omega)
      ·intro h; rw [h]; rfl
     have hcc2 : ((R.length : Int) == 0) = (t.cmp u == 0) := by rw [← hcc]; rfl
     have hcb : ((t.cmp u == 0) == (t.cmp u == 0)) = true := by simp
     generalize (t.cmp u == 0) = q at *
     clear hnil hap hcc
     generalize leavesOf t = lv at *
     generalize t.enc = te at *
     generalize u.enc = ue at *
     refine wEnter Tryz.func4 Tryz.ntmps4 ?_
     refine wRUN trivial ?_
     refine w7 (op_data [] hbig) trivial ?_
     refine wRUN trivial ?_
     refine w9 (op_shared [] hdraw) trivial ?_
     refine wRUN trivial ?_
     refine w9 (op_shared [] hB) trivial ?_
     refine wRUN h00 ?_
     refine w9 (op_shared [] hP) trivial ?_
     refine wRUN h02 ?_
     refine w7 (op_data [] hE) trivial ?_
     refine wRUN h01 ?_
     refine w7 (op_data [] e1) trivial ?_
     refine wRUN (j3 h01 hrl hcc2) ?_
     refine w7 (op_data [] hsam) trivial ?_
     refine wRUN (j2 hcb h01) ?_
     refine w9 (op_shared [] hA2) trivial ?_
     refine wRUN (j4 h01 h0n @List.map_nil.{0,0} @List.length_nil.{0}) ?_
     refine w7 (op_data [] hcs) trivial ?_
     refine wRUN h01 ?_
     refine w12 (op_rowF [] hlv) trivial ?_
     refine wRUN (j5 hlp hll h01 h0n @cond_true.{1}) ?_
     exact wRet (ret_data []) Tryz.results4
    ·have hP := implApply_bad t.enc R zx hzl (by omega) hap
     have hQ := specApply_ac t.enc R (by omega)
     rw [hap, rrA_none] at hQ
     have hg2 : decide (((t.count : Int) + (u.count : Int)) > 200) = true := decide_eq_true (by omega)
     clear hnil hap
     generalize t.enc = te at *
     generalize u.enc = ue at *
     refine wEnter Tryz.func4 Tryz.ntmps4 ?_
     refine wRUN trivial ?_
     refine w7 (op_data [] hbig) trivial ?_
     refine wRUN trivial ?_
     refine w9 (op_shared [] hdraw) trivial ?_
     refine wRUN trivial ?_
     refine w9 (op_shared [] hB) trivial ?_
     refine wRUN h00 ?_
     refine w9 (op_shared [] hP) trivial ?_
     refine wRUN (j5 h22 hlt hlu hw hg2) ?_
     refine w9 (op_shared [] hQ) trivial ?_
     refine wRUN h22 ?_
     exact wRet (ret_data []) Tryz.results4
 ·have hd : decide ((bs.length : Int) > 1048576) = true := decide_eq_true (by omega)
  rw [hd] at hbig
  refine wEnter Tryz.func4 Tryz.ntmps4 ?_
  refine wRUN trivial ?_
  refine w7 (op_data [] hbig) trivial ?_
  refine wRUN trivial ?_
  exact wRet (ret_data []) Tryz.results4
end Go.Proofs.YtamgeodhpglgkaaGreat
