/- impl.DiffValues and spec.DiffValues, by the engine. -/
import Derived.Test.YtioaieacogoemaaGreatKG75uG30
import Derived.Test.YtioaieacogoemaaGreatKG76
import Derived.Test.YtioaieacogoemaaGreatKH12
set_option linter.unusedSimpArgs false
set_option linter.unusedVariables false
set_option linter.unnecessarySimpa false
namespace Go.Proofs.YtioaieacogoemaaGreat
open Go.RowKit
set_option maxRecDepth 10000
theorem leafy_nil : leafy [] := fun q hq => by cases hq
theorem implDiff_bad (x y : List CellD) (hz : Sized x) (hzy : Sized y) {c : Int} (hc : c ≠ 0) (h : bothCode x y = c) :
    AC Tryz.prog 26 [cellsA x, cellsA y] [] (.agg [.c (.int .i64 c), .c (.int .i64 0), .nils]) [] := by
  subst h
  have hv := two_none hz hzy hc
  have hb : (bothCode x y != 0) = true := by simpa using hc
  generalize bothCode x y = c at *
  refine wEnter Tryz.func26 Tryz.ntmps26 ?_
  refine wRUN trivial ?_
  refine w7 (op_data [(11, 0)] hv) trivial ?_
  refine wRUN hb ?_
  exact wRet (ret_data []) Tryz.results26
theorem implDiff_many {t u : V} (ht : t.right) (hu : u.right) (hz : Sized t.enc) (hzy : Sized u.enc) (h1 : dec t.enc = (0, some t)) (h2 : dec u.enc = (0, some u)) (h : (diffV t.count t u []).length > 100) :
    AC Tryz.prog 26 [cellsA t.enc, cellsA u.enc] [] (.agg [.c (.int .i64 2), .c (.int .i64 0), .nils]) [] := by
  have hv := two_vals hz hzy h1 h2
  have h00 : ((0 : Int) != 0) = false := rfl
  have hdl := diff_len t.count t u [] ht hu
  have hct := ht.2.1
  have hcu := hu.2.1
  have hw := values_ac t.count t u [] [] ht hu leafy_nil (by simp; omega) (by simp; omega) (Nat.le_refl _)
  rw [List.nil_append] at hw
  have hd : decide (((diffV t.count t u []).length : Int) > 100) = true := by simp; omega
  generalize diffV t.count t u [] = R at *
  have hRm : (R.map EditD.ox).length = R.length := by simp
  refine wEnter Tryz.func26 Tryz.ntmps26 ?_
  refine wRUN trivial ?_
  refine w9 (op_shared [(11, 0)] hv) trivial ?_
  refine wRUN h00 ?_
  refine wCall (op_any_call [((0, 0), (20, 0))] [((0, 0), (20, 0)), ((1, 0), (97, 0))] hw) trivial ?_
  refine wRUN (j2 hd hRm) ?_
  exact wRet (ret_data []) Tryz.results26
theorem implDiff_ok {t u : V} (ht : t.right) (hu : u.right) (hz : Sized t.enc) (hzy : Sized u.enc) (h1 : dec t.enc = (0, some t)) (h2 : dec u.enc = (0, some u)) (h : ¬ (diffV t.count t u []).length > 100) :
    AC Tryz.prog 26 [cellsA t.enc, cellsA u.enc] [] (.agg [.c (.int .i64 0), .c (.int .i64 0), .own (0, 0)]) [((0, 0), .row true 3 73 ((diffV t.count t u []).map EditD.ox))] := by
  have hv := two_vals hz hzy h1 h2
  have h00 : ((0 : Int) != 0) = false := rfl
  have hdl := diff_len t.count t u [] ht hu
  have hct := ht.2.1
  have hcu := hu.2.1
  have hw := values_ac t.count t u [] [] ht hu leafy_nil (by simp; omega) (by simp; omega) (Nat.le_refl _)
  rw [List.nil_append] at hw
  have hd : decide (((diffV t.count t u []).length : Int) > 100) = false := by simp; omega
  generalize diffV t.count t u [] = R at *
  have hRm : (R.map EditD.ox).length = R.length := by simp
  refine wEnter Tryz.func26 Tryz.ntmps26 ?_
  refine wRUN trivial ?_
  refine w9 (op_shared [(11, 0)] hv) trivial ?_
  refine wRUN h00 ?_
  refine wCall (op_any_call [((0, 0), (20, 0))] [((0, 0), (20, 0)), ((1, 0), (97, 0))] hw) trivial ?_
  refine wRUN (j2 hd hRm) ?_
  exact wRetOf (ret_of [((0, 0), (97, 0))] []) Tryz.results26 hd
theorem specDiff_bad (x y : List CellD) {c : Int} (hc : c ≠ 0) (h : bothCode x y = c) :
    AC Tryz.prog 25 [cellsA x, cellsA y] [] (.agg [.c (.int .i64 c), .c (.int .i64 0), .c (.sl [])]) [] := by
  have hv := l3Both_ac x y
  rw [h] at hv
  have hb : (c != 0) = true := by simpa using hc
  refine wEnter Tryz.func25 Tryz.ntmps25 ?_
  refine wRUN trivial ?_
  refine w7 (op_data [] hv) trivial ?_
  refine wRUN hb ?_
  exact wRetOf (ret_of [] []) Tryz.results25 hb
theorem specDiff_ac {t u : V} (ht : t.right) (hu : u.right) (h0 : bothCode t.enc u.enc = 0) (R : List EditD) (hR : diffV t.count t u [] = R) :
    AC Tryz.prog 25 [cellsA t.enc, cellsA u.enc] [] (if R.length > 100 then .agg [.c (.int .i64 2), .c (.int .i64 0), .c (.sl [])] else .agg [.c (.int .i64 0), .c (.int .i64 0), .c (.sl (R.map EditD.cs))]) [] := by
  have hv := l3Both_ac t.enc u.enc
  rw [h0] at hv
  have h00 : ((0 : Int) != 0) = false := rfl
  have hdl := diff_len t.count t u [] ht hu
  have hct := ht.2.1
  have hcu := hu.2.1
  have hw := diffS_ac t.count t u [] ht hu leafy_nil (by simp; omega) (by omega) (Nat.le_refl _)
  rw [hR] at hw
  have hRm : (R.map EditD.cs).length = R.length := by simp
  by_cases h : R.length > 100
  · rw [if_pos h]
    have hd : decide ((R.length : Int) > 100) = true := by simp; omega
    refine wEnter Tryz.func25 Tryz.ntmps25 ?_
    refine wRUN trivial ?_
    refine w7 (op_data [] hv) trivial ?_
    refine wRUN h00 ?_
    refine w9 (op_shared [] hw) trivial ?_
    refine wRUN (j2 hd hRm) ?_
    exact wRetOf (ret_of [] []) Tryz.results25 hd
  · rw [if_neg h]
    have hd : decide ((R.length : Int) > 100) = false := by simp; omega
    refine wEnter Tryz.func25 Tryz.ntmps25 ?_
    refine wRUN trivial ?_
    refine w7 (op_data [] hv) trivial ?_
    refine wRUN h00 ?_
    refine w9 (op_shared [] hw) trivial ?_
    refine wRUN (j2 hd hRm) ?_
    exact wRetOf (ret_of [] []) Tryz.results25 hd
end Go.Proofs.YtioaieacogoemaaGreat
