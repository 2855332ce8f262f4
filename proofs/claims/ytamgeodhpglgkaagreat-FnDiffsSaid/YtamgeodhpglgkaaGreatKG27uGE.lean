/- Texts of this proof: G27 G64 G65 G66. -/
import Derived.Test.YtamgeodhpglgkaaGreatKG56uG26
import Derived.Test.YtamgeodhpglgkaaGreatKG11uS02
import Derived.Test.YtamgeodhpglgkaaGreatKH99uG82
import Derived.Test.YtamgeodhpglgkaaGreatKE5
import Derived.Test.YtamgeodhpglgkaaGreatKA1
import Derived.Test.YtamgeodhpglgkaaGreatKE6
import Derived.Test.YtamgeodhpglgkaaGreatKG45uG34
set_option linter.unusedSimpArgs false
set_option maxHeartbeats 8000000
namespace Go.Proofs.YtamgeodhpglgkaaGreat
open Go.RowKit
set_option maxRecDepth 10000
theorem specPath_ac (ps : List CellD) : AC Tryz.prog 271 [cellsA ps] [] (.c (.int .i64 (pathDec ps).1)) [] := by
 refine AC.of_calls fun S w κ vs hv => ?_
 obtain ⟨v, vs', rfl, h1, rfl⟩ := hv
 obtain ⟨A, cap, rfl, hcap, hc⟩ := cr_cells.1 h1
 refine (specPathFault_any ps A cap hcap S w hc).mono ?_
 rintro e w' ⟨rfl, hb⟩
 exact ⟨hb, _, rfl, fun T _ _ => ⟨rfl, rfl⟩⟩
set_option maxRecDepth 10000
def EditD.cs (d : EditD) : List C := [.int .i64 d.op, .sl (d.path.map CellD.cs), .sl (d.x.map CellD.cs)]
def EditD.os (d : EditD) : List C := [.int .i64 d.op, .osl (d.path.map CellD.cs), .osl (d.x.map CellD.cs)]
def EditD.av (d : EditD) : AV := .agg [.c (.int .i64 d.op), .c (.sl (d.path.map CellD.cs)), .c (.sl (d.x.map CellD.cs))]
abbrev editsA (l : List EditD) : AV := .c (.sl (l.map EditD.cs))
theorem forget_edits (l : List EditD) : forgetLL (l.map EditD.os) = l.map EditD.cs := by
 induction l with
 | nil => rfl
 | cons d l ih => simp only [List.map_cons, forgetLL, ih, EditD.os, EditD.cs, forgetL, C.forget, forget_cells]
theorem closed_edits (l : List EditD) : closedLL (l.map EditD.os) = true := by
 induction l with
 | nil => rfl
 | cons d l ih => simp only [List.map_cons, closedLL, ih, Bool.and_true, EditD.os, closedL, C.closed, closed_cells]
theorem all_edits (l : List EditD) : ((l.map EditD.os).all fun r => r.length == 3) = true := by simp [EditD.os]
attribute [go_sem] forget_edits closed_edits all_edits EditD.av
theorem edit_row (l : List EditD) {k : Nat} (h : k < l.length) : rowsAt (l.map EditD.cs) 3 k = true ∧ (l.map EditD.cs)[k]? = some [.int .i64 l[k].op, .sl (l[k].path.map CellD.cs), .sl (l[k].x.map CellD.cs)] := ⟨by simp [rowsAt, h, EditD.cs], by simp [h, EditD.cs]⟩
set_option maxRecDepth 10000
theorem implFault_ac (xs : List CellD) (hz : Sized xs) : AC Tryz.prog 87 [cellsA xs] [] (.c (.int .i64 (dec xs).1)) [] := by
 rcases dec_cases xs with ⟨t, ht⟩ | ⟨c, _, ht⟩
 ·have hv := valOf_ac xs hz (t := t) (by rw [ht])
  rw [ht]
  refine wEnter Tryz.func87 Tryz.ntmps87 ?_
  refine wRUN trivial ?_
  refine w9 (op_shared [] hv) trivial ?_
  refine wRUN trivial ?_
  exact wRet (ret_data []) Tryz.results87
 ·have hv := valOf_bad xs hz (by rw [ht])
  refine wEnter Tryz.func87 Tryz.ntmps87 ?_
  refine wRUN trivial ?_
  refine w9 (op_shared [] hv) noV_eq ?_
  refine wRUN noV_eq ?_
  exact wRet (ret_data []) Tryz.results87
theorem editFault_ac (d : EditD) (hz : EditOk d) : AC Tryz.prog 86 [d.av] [] (.c (.int .i64 (editCode d))) [] := by
 obtain ⟨z1, z2, _, _⟩ := hz
 unfold editCode
 cases hb1 : d.op != 1 with
 | true =>
  cases hb2 : d.op != 2 with
  | true =>
   refine wEnter Tryz.func86 Tryz.ntmps86 ?_
   refine wRUN (j2 hb1 hb2) ?_
   exact wRet (ret_data []) Tryz.results86
  | false =>
   have h2 : d.op = 2 := by simpa using hb2
   have he1 : (d.op == 1) = false := by simp [h2]
   rcases pathDec_cases d.path with ⟨s, _, _, _, _, _, _, hp⟩ | ⟨c, hc, hp⟩
   ·rw [hp]
    have hpo := pathOf_ac d.path z1 hp
    have h00 : ((0 : Int) != 0) = false := rfl
    simp only [Bool.true_and, Bool.false_eq_true, if_false, he1]
    cases hx : d.x.length with
    | succ n =>
     have hg : decide ((((d.x.map CellD.cs).length : Nat) : Int) > 0) = true := by rw [List.length_map, hx]; simp
     have hg2 : decide (((n + 1 : Nat) : Int) > 0) = true := by simp
     simp only [Nat.succ_ne_zero, ne_eq, not_false_eq_true, true_or, if_true]
     refine wEnter Tryz.func86 Tryz.ntmps86 ?_
     refine wRUN (j2 hb1 hb2) ?_
     refine w9 (op_shared [] hpo) trivial ?_
     refine wRUN (j4 h00 he1 hx hg2) ?_
     exact wRet (ret_data []) Tryz.results86
    | zero =>
     have hg2 : decide (((0 : Nat) : Int) > 0) = false := rfl
     have hg3 : decide ((0 : Int) > 0) = false := rfl
     cases hk : s.kids.length with
     | succ n =>
      have hk0 : (((n + 1 : Nat) : Int) == 0) = false := by simp; omega
      simp only [ne_eq, not_true_eq_false, false_or, Nat.succ_ne_zero, if_false]
      refine wEnter Tryz.func86 Tryz.ntmps86 ?_
      refine wRUN (j2 hb1 hb2) ?_
      refine w9 (op_shared [] hpo) trivial ?_
      refine wRUN (j7 h00 he1 hx hg2 hg3 hk hk0) ?_
      exact wRet (ret_data []) Tryz.results86
     | zero =>
      have hk0 : (((0 : Nat) : Int) == 0) = true := rfl
      have hk1 : ((0 : Int) == 0) = true := rfl
      simp only [ne_eq, not_true_eq_false, false_or, if_true]
      refine wEnter Tryz.func86 Tryz.ntmps86 ?_
      refine wRUN (j2 hb1 hb2) ?_
      refine w9 (op_shared [] hpo) trivial ?_
      refine wRUN (j8 h00 he1 hx hg2 hg3 hk hk0 hk1) ?_
      exact wRet (ret_data []) Tryz.results86
   ·rw [hp]
    have hpo := pathOf_bad d.path z1 hp
    have hcb : (c != 0) = true := by simpa using hc
    simp only [Bool.true_and, Bool.false_eq_true, if_false]
    refine wEnter Tryz.func86 Tryz.ntmps86 ?_
    refine wRUN (j2 hb1 hb2) ?_
    refine w9 (op_shared [] hpo) trivial ?_
    refine wRUN hcb ?_
    exact wRet (ret_data []) Tryz.results86
 | false =>
  have h1 : d.op = 1 := by simpa using hb1
  have he1 : (d.op == 1) = true := by simp [h1]
  rcases pathDec_cases d.path with ⟨s, _, _, _, _, _, _, hp⟩ | ⟨c, hc, hp⟩
  ·rw [hp]
   have hpo := pathOf_ac d.path z1 hp
   have h00 : ((0 : Int) != 0) = false := rfl
   have hf := implFault_ac d.x z2
   simp only [Bool.false_and, Bool.false_eq_true, if_false, he1, if_true]
   refine wEnter Tryz.func86 Tryz.ntmps86 ?_
   refine wRUN hb1 ?_
   refine w9 (op_shared [] hpo) trivial ?_
   refine wRUN (j2 h00 he1) ?_
   refine w7 (op_data [] hf) trivial ?_
   refine wRUN trivial ?_
   exact wRet (ret_data []) Tryz.results86
  ·rw [hp]
   have hpo := pathOf_bad d.path z1 hp
   have hcb : (c != 0) = true := by simpa using hc
   simp only [Bool.false_and, Bool.false_eq_true, if_false]
   refine wEnter Tryz.func86 Tryz.ntmps86 ?_
   refine wRUN hb1 ?_
   refine w9 (op_shared [] hpo) trivial ?_
   refine wRUN hcb ?_
   exact wRet (ret_data []) Tryz.results86
theorem l14Edit_ac (d : EditD) : AC Tryz.prog 164 [d.av] [] (.c (.int .i64 (editCode d))) [] := by
 unfold editCode
 have hpo := specPath_ac d.path
 cases hb1 : d.op != 1 with
 | true =>
  cases hb2 : d.op != 2 with
  | true =>
   refine wEnter Tryz.func164 Tryz.ntmps164 ?_
   refine wRUN (j2 hb1 hb2) ?_
   exact wRet (ret_data []) Tryz.results164
  | false =>
   have h2 : d.op = 2 := by simpa using hb2
   have he1 : (d.op == 1) = false := by simp [h2]
   rcases pathDec_cases d.path with ⟨s, hs, hw1, hw2, hw3, _, _, hp⟩ | ⟨c, hc, hp⟩
   ·rw [hp] at hpo ⊢
    have h00 : ((0 : Int) != 0) = false := rfl
    simp only [Bool.true_and, Bool.false_eq_true, if_false, he1]
    have hr0 := enc_rows s
    have hg0 := enc_head s
    rw [← hs] at hr0 hg0
    cases hx : d.x.length with
    | succ n =>
     have hg2 : decide (((n + 1 : Nat) : Int) > 0) = true := by simp
     simp only [Nat.succ_ne_zero, ne_eq, not_false_eq_true, true_or, if_true]
     refine wEnter Tryz.func164 Tryz.ntmps164 ?_
     refine wRUN (j2 hb1 hb2) ?_
     refine w7 (op_data [] hpo) trivial ?_
     refine wRUN (j4 h00 he1 hx hg2) ?_
     exact wRet (ret_data []) Tryz.results164
    | zero =>
     have hg2 : decide (((0 : Nat) : Int) > 0) = false := rfl
     have hg3 : decide ((0 : Int) > 0) = false := rfl
     cases hk : s.kids.length with
     | succ n =>
      rw [hk] at hg0
      have hk0 : (((n + 1 : Nat) : Int) == 0) = false := by simp; omega
      simp only [ne_eq, not_true_eq_false, false_or, Nat.succ_ne_zero, if_false]
      refine wEnter Tryz.func164 Tryz.ntmps164 ?_
      refine wRUN (j2 hb1 hb2) ?_
      refine w7 (op_data [] hpo) trivial ?_
      refine wRUN (j8 h00 he1 hx hg2 hg3 hr0 hg0 hk0) ?_
      exact wRet (ret_data []) Tryz.results164
     | zero =>
      rw [hk] at hg0
      have hk0 : (((0 : Nat) : Int) == 0) = true := rfl
      have hk1 : ((0 : Int) == 0) = true := rfl
      simp only [ne_eq, not_true_eq_false, false_or, if_true]
      refine wEnter Tryz.func164 Tryz.ntmps164 ?_
      refine wRUN (j2 hb1 hb2) ?_
      refine w7 (op_data [] hpo) trivial ?_
      refine wRUN (j9 h00 he1 hx hg2 hg3 hr0 hg0 hk0 hk1) ?_
      exact wRet (ret_data []) Tryz.results164
   ·rw [hp] at hpo ⊢
    have hcb : (c != 0) = true := by simpa using hc
    simp only [Bool.true_and, Bool.false_eq_true, if_false]
    refine wEnter Tryz.func164 Tryz.ntmps164 ?_
    refine wRUN (j2 hb1 hb2) ?_
    refine w7 (op_data [] hpo) trivial ?_
    refine wRUN hcb ?_
    exact wRet (ret_data []) Tryz.results164
 | false =>
  have h1 : d.op = 1 := by simpa using hb1
  have he1 : (d.op == 1) = true := by simp [h1]
  rcases pathDec_cases d.path with ⟨s, _, _, _, _, _, _, hp⟩ | ⟨c, hc, hp⟩
  ·rw [hp] at hpo ⊢
   have h00 : ((0 : Int) != 0) = false := rfl
   have hf := fault_ac d.x
   simp only [Bool.false_and, Bool.false_eq_true, if_false, he1, if_true]
   refine wEnter Tryz.func164 Tryz.ntmps164 ?_
   refine wRUN hb1 ?_
   refine w7 (op_data [] hpo) trivial ?_
   refine wRUN (j2 h00 he1) ?_
   refine w7 (op_data [] hf) trivial ?_
   refine wRUN trivial ?_
   exact wRet (ret_data []) Tryz.results164
  ·rw [hp] at hpo ⊢
   have hcb : (c != 0) = true := by simpa using hc
   simp only [Bool.false_and, Bool.false_eq_true, if_false]
   refine wEnter Tryz.func164 Tryz.ntmps164 ?_
   refine wRUN hb1 ?_
   refine w7 (op_data [] hpo) trivial ?_
   refine wRUN hcb ?_
   exact wRet (ret_data []) Tryz.results164
theorem firstEdit_drop {l : List EditD} {k : Nat} (h : k < l.length) : firstEdit (l.drop k) = if editCode l[k] ≠ 0 then editCode l[k] else firstEdit (l.drop (k + 1)) := by
 rw [List.drop_eq_getElem_cons h]
 rfl
theorem implEdits_ac (l : List EditD) (hz : ∀ d ∈ l, EditOk d) (hl : l.length ≤ 9223372036854775807) : AC Tryz.prog 26 [editsA l] [] (.c (.int .i64 (editsCode l))) [] := by
 have hln : (l.map EditD.cs).length = l.length := by simp
 unfold editsCode
 by_cases hm : 100 < l.length
 ·have hd : decide ((l.length : Int) > 100) = true := by simp; omega
  rw [if_pos hm]
  refine wEnter Tryz.func26 Tryz.ntmps26 ?_
  refine wRUN (j2 hln hd) ?_
  exact wRet (ret_data []) Tryz.results26
 ·have hd : decide ((l.length : Int) > 100) = false := by simp; omega
  rw [if_neg hm]
  obtain ⟨R, hR⟩ : ∃ R, firstEdit l = R := ⟨_, rfl⟩
  rw [hR]
  refine wEnter Tryz.func26 Tryz.ntmps26 ?_
  refine wRUN (j2 hln hd) ?_
  refine a_loop (κ := Nat) (fun k => ⟨mkS 0 21 [(9, editsA l), (10, .c (.int .i64 l.length)), (11, .c (.int .i64 k))], []⟩)
   (fun k => k ≤ l.length ∧ firstEdit (l.drop k) = R) (fun k => l.length - k) 0 ⟨Nat.zero_le _, hR⟩ ?_ ?_
  ·exact wSays (Says.of [] []) hln
  ·rintro k ⟨hk, hRk⟩
   by_cases hlt : k < l.length
   ·have hdk : decide ((k : Int) < (l.length : Int)) = true := by simpa using hlt
    have hw := wrap_succ (k := k) (by omega)
    obtain ⟨hr0, hg0⟩ := edit_row l hlt
    have hca := editFault_ac l[k] (hz _ (List.getElem_mem hlt))
    rw [firstEdit_drop hlt] at hRk
    generalize l[k] = x at *
    by_cases hc : editCode x ≠ 0
    ·have hcb : (editCode x != 0) = true := by simpa using hc
     rw [if_pos hc] at hRk
     subst hRk
     refine wRUN (j3 hdk hr0 hg0) ?_
     refine w7 (op_data [] hca) trivial ?_
     refine wRUN hcb ?_
     exact wRet (ret_data []) Tryz.results26
    ·have hcb : (editCode x != 0) = false := by simpa using hc
     rw [if_neg hc] at hRk
     refine wRUN (j3 hdk hr0 hg0) ?_
     refine w7 (op_data [] hca) trivial ?_
     refine wRUN (j2 hcb hw) ?_
     refine ⟨k + 1, by omega, ⟨by omega, hRk⟩, ?_⟩
     exact wSays (Says.of [] []) hw
   ·have hdk : decide ((k : Int) < (l.length : Int)) = false := by simpa using hlt
    rw [List.drop_eq_nil_of_le (by omega)] at hRk
    have hR0 : (0 : Int) = R := hRk
    subst hR0
    refine wRUN hdk ?_
    exact wRet (ret_data []) Tryz.results26
theorem specEdits_ac (l : List EditD) (hl : l.length ≤ 9223372036854775807) : AC Tryz.prog 82 [editsA l] [] (.c (.int .i64 (editsCode l))) [] := by
 have hln : (l.map EditD.cs).length = l.length := by simp
 unfold editsCode
 by_cases hm : 100 < l.length
 ·have hd : decide ((l.length : Int) > 100) = true := by simp; omega
  rw [if_pos hm]
  refine wEnter Tryz.func82 Tryz.ntmps82 ?_
  refine wRUN (j2 hln hd) ?_
  exact wRet (ret_data []) Tryz.results82
 ·have hd : decide ((l.length : Int) > 100) = false := by simp; omega
  rw [if_neg hm]
  obtain ⟨R, hR⟩ : ∃ R, firstEdit l = R := ⟨_, rfl⟩
  rw [hR]
  refine wEnter Tryz.func82 Tryz.ntmps82 ?_
  refine wRUN (j2 hln hd) ?_
  refine a_loop (κ := Nat) (fun k => ⟨mkS 0 22 [(0, editsA l), (3, .c (.int .i64 k))], []⟩)
   (fun k => k ≤ l.length ∧ firstEdit (l.drop k) = R) (fun k => l.length - k) 0 ⟨Nat.zero_le _, hR⟩ ?_ ?_
  ·exact wSays (Says.of [] []) hln
  ·rintro k ⟨hk, hRk⟩
   by_cases hlt : k < l.length
   ·have hdk : decide ((k : Int) < (l.length : Int)) = true := by simpa using hlt
    have hw := wrap_succ (k := k) (by omega)
    obtain ⟨hr0, hg0⟩ := edit_row l hlt
    have hca := l14Edit_ac l[k]
    rw [firstEdit_drop hlt] at hRk
    generalize l[k] = x at *
    by_cases hc : editCode x ≠ 0
    ·have hcb : (editCode x != 0) = true := by simpa using hc
     rw [if_pos hc] at hRk
     subst hRk
     refine wRUN (j4 hln hdk hr0 hg0) ?_
     refine w7 (op_data [] hca) trivial ?_
     refine wRUN hcb ?_
     exact wRet (ret_data []) Tryz.results82
    ·have hcb : (editCode x != 0) = false := by simpa using hc
     rw [if_neg hc] at hRk
     refine wRUN (j4 hln hdk hr0 hg0) ?_
     refine w7 (op_data [] hca) trivial ?_
     refine wRUN (j2 hcb hw) ?_
     refine ⟨k + 1, by omega, ⟨by omega, hRk⟩, ?_⟩
     exact wSays (Says.of [] []) hw
   ·have hdk : decide ((k : Int) < (l.length : Int)) = false := by simpa using hlt
    rw [List.drop_eq_nil_of_le (by omega)] at hRk
    have hR0 : (0 : Int) = R := hRk
    subst hR0
    refine wRUN (j2 hln hdk) ?_
    exact wRet (ret_data []) Tryz.results82
end Go.Proofs.YtamgeodhpglgkaaGreat
