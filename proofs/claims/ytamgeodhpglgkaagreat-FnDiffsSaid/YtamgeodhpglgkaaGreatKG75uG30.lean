/- Texts of this proof: G75 G30. -/
import Derived.Test.YtamgeodhpglgkaaGreatKG74
import Derived.Test.YtamgeodhpglgkaaGreatKG15uM29
import Derived.Test.YtamgeodhpglgkaaGreatKG06uG08
import Derived.Test.YtamgeodhpglgkaaGreatKG11uS02
import Derived.Test.YtamgeodhpglgkaaGreatKH99uG82
set_option linter.unusedSimpArgs false
set_option maxHeartbeats 8000000
namespace Go.Proofs.YtamgeodhpglgkaaGreat
open Go.RowKit
set_option maxRecDepth 10000
theorem values_ac : ∀ n, ValuesAC n := by
 intro n
 induction n with
 | zero => intro a b p es ha _ _ _ _ hc; have := count_pos a; omega
 | succ n ih =>
  intro a b p es ha hb hp hpn hl hc
  have hcm := compareVals_ac a.count a b (Nat.le_refl _) ha
  unfold diffV at hl ⊢
  by_cases h0 : a.cmp b = 0
  ·rw [if_pos h0] at hl ⊢
   have hb0 : (a.cmp b == 0) = true := by simpa using h0
   rw [List.append_nil]
   (refine AC.intro_spx [(0, 0)] follows_mixed Tryz.func76 rfl Tryz.ntmps76 (Nat.le_of_ble_eq_true rfl) rfl rfl ?_; simp only [go_sem, Nat.reduceAdd])
   refine wRUN trivial ?_
   refine w7 (op_data [] hcm) trivial ?_
   refine wRUN hb0 ?_
   exact wRetOf (ret_of [((0, 0), (0, 0)), ((1, 0), (0, 1))] []) Tryz.results76 hb0
  ·rw [if_neg h0] at hl ⊢
   have hb0 : (a.cmp b == 0) = false := by simpa using h0
   have har6 := are_ac a b 6
   have har5 := are_ac a b 5
   by_cases h6 : a.kind = 6 ∧ b.kind = 6
   ·rw [if_pos h6] at hl ⊢
    have hob := objects_ac ih ha hb h6.1 h6.2 hp (by omega) hl (by omega)
    have hk6 : (a.kind == 6 && b.kind == 6) = true := by simp [h6.1, h6.2]
    rw [hk6] at har6
    generalize es ++ _ = R at *
    (refine AC.intro_spx [(0, 0)] follows_mixed Tryz.func76 rfl Tryz.ntmps76 (Nat.le_of_ble_eq_true rfl) rfl rfl ?_; simp only [go_sem, Nat.reduceAdd])
    refine wRUN trivial ?_
    refine w7 (op_data [] hcm) trivial ?_
    refine wRUN hb0 ?_
    refine w7 (op_data [] har6) trivial ?_
    refine wRUN trivial ?_
    refine wCall (op_any_call [((0, 0), (0, 0)), ((0, 1), (0, 1))] [((0, 0), (0, 0)), ((1, 0), (97, 0))] hob) trivial ?_
    refine wRUN trivial ?_
    exact wRetOf (ret_of [((0, 0), (0, 0)), ((1, 0), (97, 0))] []) Tryz.results76 hb0
   ·rw [if_neg h6] at hl ⊢
    have hk6 : (a.kind == 6 && b.kind == 6) = false := by
     cases h : (a.kind == 6 && b.kind == 6) with
     | false => rfl
     | true => exact absurd (by simpa using h) h6
    rw [hk6] at har6
    by_cases h5 : a.kind = 5 ∧ b.kind = 5
    ·rw [if_pos h5] at hl ⊢
     have hob := arrays_ac ih ha hb h5.1 h5.2 hp (by omega) hl (by omega)
     have hk5 : (a.kind == 5 && b.kind == 5) = true := by simp [h5.1, h5.2]
     rw [hk5] at har5
     generalize es ++ _ = R at *
     (refine AC.intro_spx [(0, 0)] follows_mixed Tryz.func76 rfl Tryz.ntmps76 (Nat.le_of_ble_eq_true rfl) rfl rfl ?_; simp only [go_sem, Nat.reduceAdd])
     refine wRUN trivial ?_
     refine w7 (op_data [] hcm) trivial ?_
     refine wRUN hb0 ?_
     refine w7 (op_data [] har6) trivial ?_
     refine wRUN trivial ?_
     refine w7 (op_data [] har5) trivial ?_
     refine wRUN trivial ?_
     refine wCall (op_any_call [((0, 0), (0, 0)), ((0, 1), (0, 1))] [((0, 0), (0, 0)), ((1, 0), (97, 0))] hob) trivial ?_
     refine wRUN trivial ?_
     exact wRetOf (ret_of [((0, 0), (0, 0)), ((1, 0), (97, 0))] []) Tryz.results76 hb0
    ·rw [if_neg h5] at hl ⊢
     have hk5 : (a.kind == 5 && b.kind == 5) = false := by
      cases h : (a.kind == 5 && b.kind == 5) with
      | false => rfl
      | true => exact absurd (by simpa using h) h5
     rw [hk5] at har5
     have hpc := leafy_arr hp
     have hob := setD_ac es p b (by omega) (leafy_neat hp) (by have := hb.2.1; omega) (right_neat hb) (by omega)
     generalize es ++ _ = R at *
     (refine AC.intro_spx [(0, 0)] follows_mixed Tryz.func76 rfl Tryz.ntmps76 (Nat.le_of_ble_eq_true rfl) rfl rfl ?_; simp only [go_sem, Nat.reduceAdd])
     refine wRUN trivial ?_
     refine w7 (op_data [] hcm) trivial ?_
     refine wRUN hb0 ?_
     refine w7 (op_data [] har6) trivial ?_
     refine wRUN trivial ?_
     refine w7 (op_data [] har5) trivial ?_
     refine wRUN trivial ?_
     refine wCall (op_any_call [((0, 0), (0, 0)), ((0, 1), (0, 1))] [((0, 0), (0, 0)), ((1, 0), (97, 0))] hob) trivial ?_
     refine wRUN trivial ?_
     exact wRetOf (ret_of [((0, 0), (0, 0)), ((1, 0), (97, 0))] []) Tryz.results76 hb0
set_option maxRecDepth 10000
theorem l14Behind_ac (ahead : List V) (q : V) (hl : ahead.length ≤ 500000) : AC Tryz.prog 261 [.c (.sl ((ahead.map V.enc).map encCs)), .c (.sl (q.enc.map CellD.cs))] [] (.c (.sl (((ahead ++ [q]).map V.enc).map encCs))) [] := by
 have h1 : 0 + ahead.length ≤ 1000000 := by omega
 have h2 : ahead.length + 1 ≤ 1000000 := by omega
 have hk := key_more ahead q
 refine wEnter Tryz.func261 Tryz.ntmps261 ?_
 refine wRUN (j2 h1 h2) ?_
 exact wRetOf (ret_of [] [(10, 0)]) Tryz.results261 hk
def evAhead (ahead : List V) (e : Ev) : Ev := (ahead ++ e.1, e.2)
def evsO (ahead : List V) (l : List Ev) : List (List C) := ((l.map (evAhead ahead)).map fun e => (evV e).enc).map oslCs
theorem evsO_length (ahead : List V) (l : List Ev) : (evsO ahead l).length = l.length := by simp [evsO]
theorem evsO_closed (ahead : List V) (l : List Ev) : closedLL (evsO ahead l) = true := closed_osl _
theorem evsO_all (ahead : List V) (l : List Ev) : ((evsO ahead l).all fun r => r.length == 1) = true := all_osl _
attribute [go_sem] evsO_length evsO_closed evsO_all
end Go.Proofs.YtamgeodhpglgkaaGreat
