/- Texts of this proof: G55 G64 G65 G66. -/
import Derived.Test.YtioaieacogoemaaGreatKG9
import Derived.Test.YtioaieacogoemaaGreatKM3
import Derived.Test.YtioaieacogoemaaGreatKG45
import Derived.Test.YtioaieacogoemaaGreatKG07uG08
import Derived.Test.YtioaieacogoemaaGreatKG14
import Derived.Test.YtioaieacogoemaaGreatKE5
import Derived.Test.YtioaieacogoemaaGreatKM2
import Derived.Test.YtioaieacogoemaaGreatKG21
import Derived.Test.YtioaieacogoemaaGreatKG16uG48
import Derived.Test.YtioaieacogoemaaGreatKA1
import Derived.Test.YtioaieacogoemaaGreatKE6
set_option linter.unusedSimpArgs false
set_option linter.unusedVariables false
set_option linter.unnecessarySimpa false
namespace Go.Proofs.YtioaieacogoemaaGreat
open Go.RowKit
set_option maxRecDepth 10000
theorem l14KeysS_ac (a b : List ByteArray) (hla : a.length ≤ 400000) (hlb : b.length ≤ 400000) : AC Tryz.prog 138 [.c (.sl (a.map strCs)), .c (.sl (b.map strCs))] [] (.c (.sl ((mergeU a b).map strCs))) [] := by
  have h := l14Keys_ac a b hla hlb
  (apply (AC.says [] [(0, 0)] h); (focus (simp only [go_sem, Nat.reduceEqDiff, Nat.reduceAdd, Nat.reduceSub, Nat.reduceLeDiff, Nat.reduceMul, Nat.reduceBEq, Nat.reduceLT, Int.reduceToNat, reduceCtorEq]; try (and_intros <;> rfl))); (focus exact rfl); (focus (simp only [go_sem, Nat.reduceEqDiff, Nat.reduceAdd, Nat.reduceSub, Nat.reduceLeDiff, Nat.reduceMul, Nat.reduceBEq, Nat.reduceLT, Int.reduceToNat, reduceCtorEq]; try (and_intros <;> rfl))); (focus exact rfl); (iterate 4 (focus (simp [go_sem]; done))))
end Go.Proofs.YtioaieacogoemaaGreat

/- The laws' own functions on an argument []Edit: szEdit, szEditS, toEdit, toEditS, eqEdit, eqEditS, markEditS. -/
namespace Go.Proofs.YtioaieacogoemaaGreat
open Go.RowKit
set_option maxRecDepth 10000
def EditD.cs (d : EditD) : List C := [.int .i64 d.op, .sl (d.path.map CellD.cs), .sl (d.x.map CellD.cs)]
def EditD.os (d : EditD) : List C := [.int .i64 d.op, .osl (d.path.map CellD.cs), .osl (d.x.map CellD.cs)]
def EditD.av (d : EditD) : AV := .agg [.c (.int .i64 d.op), .c (.sl (d.path.map CellD.cs)), .c (.sl (d.x.map CellD.cs))]
abbrev editsA (l : List EditD) : AV := .c (.sl (l.map EditD.cs))
def totE (l : List EditD) : Nat := (l.map fun d => 1 + 5 * d.path.length + 5 * d.x.length).sum
theorem forget_edits (l : List EditD) : forgetLL (l.map EditD.os) = l.map EditD.cs := by
  induction l with
  | nil => rfl
  | cons d l ih => simp only [List.map_cons, forgetLL, ih, EditD.os, EditD.cs, forgetL, C.forget, forget_cells]
theorem closed_edits (l : List EditD) : closedLL (l.map EditD.os) = true := by
  induction l with
  | nil => rfl
  | cons d l ih => simp only [List.map_cons, closedLL, ih, Bool.and_true, EditD.os, closedL, C.closed, closed_cells]
theorem all_edits (l : List EditD) : ((l.map EditD.os).all fun r => r.length == 3) = true := by simp [EditD.os]
attribute [go_sem] forget_edits closed_edits all_edits EditD.av
theorem edit_row (l : List EditD) {k : Nat} (h : k < l.length) : rowsAt (l.map EditD.cs) 3 k = true ∧ (l.map EditD.cs)[k]? = some [.int .i64 l[k].op, .sl (l[k].path.map CellD.cs), .sl (l[k].x.map CellD.cs)] := ⟨by simp [rowsAt, h, EditD.cs], by simp [h, EditD.cs]⟩
theorem eqEdit_ac (d : EditD) (hl : d.path.length ≤ 9223372036854775807 ∧ d.x.length ≤ 9223372036854775807) : AC Tryz.prog 52 [d.av, d.av] [] (.c (.bool true)) [] := by
  have h1 : (d.op != d.op) = false := by simp
  have he := eqCellS_ac d.path hl.1
  have he2 := eqCellS_ac d.x hl.2
  refine wEnter Tryz.func52 Tryz.ntmps52 ?_
  refine wRUN h1 ?_
  refine w7 (op_data [] he) trivial ?_
  refine wRUN trivial ?_
  refine w7 (op_data [] he2) trivial ?_
  refine wRUN trivial ?_
  exact wRet (ret_data []) Tryz.results52
set_option maxHeartbeats 2000000 in
theorem eqEditS_ac (l : List EditD) (hl : l.length ≤ 1048576) (hx : ∀ d ∈ l, d.path.length ≤ 9223372036854775807 ∧ d.x.length ≤ 9223372036854775807) : AC Tryz.prog 21 [editsA l, editsA l] [] (.c (.bool true)) [] := by
  have hln : (l.map EditD.cs).length = l.length := by simp
  have hne : ((l.length : Int) != (l.length : Int)) = false := by simp
  refine wEnter Tryz.func21 Tryz.ntmps21 ?_
  refine wRUN (j2 hln hne) ?_
  refine a_loop (κ := Nat) (fun k => ⟨mkS 0 27 [(0, editsA l), (1, editsA l), (5, .c (.int .i64 k))], []⟩)
    (fun k => k ≤ l.length) (fun k => l.length - k) 0 (Nat.zero_le _) ?_ ?_
  · exact wSays (Says.of [] []) hne
  · intro k hk
    by_cases hlt : k < l.length
    · have hdk : decide ((k : Int) < (l.length : Int)) = true := by simpa using hlt
      have hw := wrap_succ (k := k) (by omega)
      obtain ⟨hr0, hg0⟩ := edit_row l hlt
      have he := eqEdit_ac l[k] (hx _ (List.getElem_mem hlt))
      generalize l[k] = x at *
      refine wRUN (j4 hln hdk hr0 hg0) ?_
      refine w7 (op_data [] he) trivial ?_
      refine wRUN hw ?_
      refine ⟨k + 1, by omega, by omega, ?_⟩
      exact wSays (Says.of [] []) hw
    · have hdk : decide ((k : Int) < (l.length : Int)) = false := by simpa using hlt
      refine wRUN (j2 hln hdk) ?_
      exact wRet (ret_data []) Tryz.results21
end Go.Proofs.YtioaieacogoemaaGreat

/- laws.markEditS, by the engine. -/
namespace Go.Proofs.YtioaieacogoemaaGreat
open Go.RowKit
set_option maxRecDepth 10000
/-- The edits as they are marked. -/
def markE (K : Nat) : List EditD → List EditD
  | [] => []
  | d :: l => ⟨K, marks (K + 1) d.path.length, marks (K + 1 + 5 * d.path.length) d.x.length⟩ :: markE (K + (1 + 5 * d.path.length + 5 * d.x.length)) l
theorem markE_len : ∀ (l : List EditD) (K : Nat), (markE K l).length = l.length
  | [], _ => rfl
  | d :: l, K => by simp [markE, markE_len l]
theorem totE_take (l : List EditD) {k : Nat} (h : k < l.length) : totE (l.take (k + 1)) = totE (l.take k) + (1 + 5 * l[k].path.length + 5 * l[k].x.length) := by
  rw [List.take_succ_eq_append_getElem h]
  simp only [totE, List.map_append, List.sum_append, List.map_cons, List.map_nil, List.sum_cons, List.sum_nil, Nat.add_zero]
theorem markE_append : ∀ (x y : List EditD) (K : Nat), markE K (x ++ y) = markE K x ++ markE (K + totE x) y
  | [], y, K => by simp [markE, totE]
  | d :: x, y, K => by
    rw [List.cons_append, markE, markE_append x y, markE, List.cons_append]
    congr 3
    simp only [totE, List.map_cons, List.sum_cons]
    omega
theorem totE_le (l : List EditD) (k : Nat) : totE (l.take k) ≤ totE l := by
  have h : totE (l.take k ++ l.drop k) = totE (l.take k) + totE (l.drop k) := by simp only [totE, List.map_append, List.sum_append]
  rw [List.take_append_drop] at h
  omega
theorem plain_cells (l : List CellD) : plainLL (l.map CellD.cs) = true := by
  induction l with
  | nil => rfl
  | cons c l ih => simp only [List.map_cons, plainLL, ih, Bool.and_true, CellD.cs, plainL, C.plain, Bool.and_self]
theorem five_cells (l : List CellD) : ((l.map CellD.cs).all fun x => x.length == 5) = true := by simp [CellD.cs]
end Go.Proofs.YtioaieacogoemaaGreat


