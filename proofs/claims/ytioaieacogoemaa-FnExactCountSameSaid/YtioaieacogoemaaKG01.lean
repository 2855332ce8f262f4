/- Trees and cells as the engine's data; leaf values. -/
import Derived.Test.YtioaieacogoemaaKE5
import Derived.Test.YtioaieacogoemaaKM1
set_option linter.unusedSimpArgs false
set_option linter.unusedVariables false
set_option linter.unnecessarySimpa false
namespace Go.Proofs.Ytioaieacogoemaa
open Go.RowKit

/-- The cells of a cell; a tree's. -/
def CellD.cs (c : CellD) : List C := [.int .i64 c.kind, .int .i64 c.num, .str c.text, .str c.key, .int .i64 c.n]
def strCs (s : ByteArray) : List C := [.str s]
mutual
def V.cs : V → List C
  | .mk kind num text keys kids => [.int .i64 kind, .int .i64 num, .str text, .sl (keys.map strCs), .sl (csL kids)]
def csL : List V → List (List C)
  | [] => []
  | k :: ks => k.cs :: csL ks
end
theorem csL_eq : ∀ (l : List V), csL l = l.map V.cs
  | [] => rfl
  | k :: ks => by simp [csL, csL_eq ks]
theorem V.cs_eq (t : V) : t.cs = [.int .i64 t.kind, .int .i64 t.num, .str t.text, .sl (t.keys.map strCs), .sl (t.kids.map V.cs)] := by
  cases t
  simp [V.cs, csL_eq, V.kind, V.num, V.text, V.keys, V.kids]
/-- A tree as a value; a cell as a value. -/
def V.av (t : V) : AV := .agg [.c (.int .i64 t.kind), .c (.int .i64 t.num), .c (.str t.text), .c (.sl (t.keys.map strCs)), .c (.sl (t.kids.map V.cs))]
def CellD.av (c : CellD) : AV := .agg [.c (.int .i64 c.kind), .c (.int .i64 c.num), .c (.str c.text), .c (.str c.key), .c (.int .i64 c.n)]
def valsA (l : List V) : AV := .c (.sl (l.map V.cs))
def cellsA (l : List CellD) : AV := .c (.sl (l.map CellD.cs))
section
variable (k n : Int) (s : ByteArray) (ks : List ByteArray) (vs : List V)
theorem kind_mk : (V.mk k n s ks vs).kind = k := rfl
theorem num_mk : (V.mk k n s ks vs).num = n := rfl
theorem text_mk : (V.mk k n s ks vs).text = s := rfl
theorem keys_mk : (V.mk k n s ks vs).keys = ks := rfl
theorem kids_mk : (V.mk k n s ks vs).kids = vs := rfl
end
attribute [go_sem] V.av CellD.av valsA cellsA CellD.cs strCs V.cs_eq strV numV arrV nullV kind_mk num_mk text_mk keys_mk kids_mk

set_option maxRecDepth 10000
theorem fl_cell (c : CellD) : forgetL c.cs = c.cs := rfl
theorem fl_str (s : ByteArray) : forgetL (strCs s) = strCs s := rfl
theorem fl_tree (t : V) : forgetL t.cs = t.cs := by rw [V.cs_eq]; rfl
theorem forget_cells (l : List CellD) : forgetLL (l.map CellD.cs) = l.map CellD.cs := forget_map _ fl_cell l
theorem forget_strs (l : List ByteArray) : forgetLL (l.map strCs) = l.map strCs := forget_map _ fl_str l
theorem forget_trees (l : List V) : forgetLL (l.map V.cs) = l.map V.cs := forget_map _ fl_tree l
theorem strV_av (s : ByteArray) : (strV s).av = .agg [.c (.int .i64 4), .c (.int .i64 0), .c (.str s), .c (.sl []), .c (.sl [])] := rfl
theorem numV_av (n : Int) : (numV n).av = .agg [.c (.int .i64 3), .c (.int .i64 n), .c (.str ByteArray.empty), .c (.sl []), .c (.sl [])] := rfl
attribute [go_sem] forget_cells forget_strs forget_trees

theorem text_ac (s : ByteArray) : AC Try.prog 173 [.c (.str s)] [] (strV s).av [] := by
  rw [strV_av]
  refine AC.intro_sp follows_mixed Try.func173 rfl Try.ntmps173 (Nat.le_of_ble_eq_true rfl) ?_; simp only [go_sem, Nat.reduceAdd]
  (repeat (first | (with_reducible first | refine a_seq ?_ | refine a_region ?_ | refine a_block ?_ | refine a_scope ?_) | ((with_reducible apply op_any); (iterate 2 (focus (first | (simp only [go_sem, Nat.reduceEqDiff, Nat.reduceAdd, Nat.reduceSub, Nat.reduceLeDiff, Nat.reduceMul, Nat.reduceBEq, Nat.reduceLT, Int.reduceToNat, reduceCtorEq]; first | done | exact rfl | (and_intros <;> rfl)) | exact rfl | decide)))) | ((with_reducible refine o_nil ?_); dsimp only; try ((with_reducible apply o_draw); (focus (simp only [go_sem]; exact rfl)); (focus decide))) | ((with_reducible first | refine a_ret ?_ | refine a_skip ?_ | refine a_label ?_); dsimp only) | ((with_reducible refine a_exit ?_); dsimp only; simp only [if_true, if_false, Nat.reduceEqDiff]) | ((with_reducible apply a_if); (focus (simp only [go_sem, Nat.reduceBEq, Nat.reduceLT]; exact rfl)); dsimp only [cond_true, cond_false]) | ((with_reducible refine a_draw ?_ ?_); (focus exact rfl))))
  exact ret_data [] (by simp only [Try.results173, go_sem, Nat.reduceBEq, Nat.reduceLT]; exact rfl) (by simp only [go_sem, Nat.reduceEqDiff, Nat.reduceAdd, Nat.reduceSub, Nat.reduceLeDiff, Nat.reduceMul, Nat.reduceBEq, Nat.reduceLT, Int.reduceToNat, reduceCtorEq]) rfl
theorem number_ac (n : Int) : AC Try.prog 174 [.c (.int .i64 n)] [] (numV n).av [] := by
  rw [numV_av]
  refine AC.intro_sp follows_mixed Try.func174 rfl Try.ntmps174 (Nat.le_of_ble_eq_true rfl) ?_; simp only [go_sem, Nat.reduceAdd]
  (repeat (first | (with_reducible first | refine a_seq ?_ | refine a_region ?_ | refine a_block ?_ | refine a_scope ?_) | ((with_reducible apply op_any); (iterate 2 (focus (first | (simp only [go_sem, Nat.reduceEqDiff, Nat.reduceAdd, Nat.reduceSub, Nat.reduceLeDiff, Nat.reduceMul, Nat.reduceBEq, Nat.reduceLT, Int.reduceToNat, reduceCtorEq]; first | done | exact rfl | (and_intros <;> rfl)) | exact rfl | decide)))) | ((with_reducible refine o_nil ?_); dsimp only; try ((with_reducible apply o_draw); (focus (simp only [go_sem]; exact rfl)); (focus decide))) | ((with_reducible first | refine a_ret ?_ | refine a_skip ?_ | refine a_label ?_); dsimp only) | ((with_reducible refine a_exit ?_); dsimp only; simp only [if_true, if_false, Nat.reduceEqDiff]) | ((with_reducible apply a_if); (focus (simp only [go_sem, Nat.reduceBEq, Nat.reduceLT]; exact rfl)); dsimp only [cond_true, cond_false]) | ((with_reducible refine a_draw ?_ ?_); (focus exact rfl))))
  exact ret_data [] (by simp only [Try.results174, go_sem, Nat.reduceBEq, Nat.reduceLT]; exact rfl) (by simp only [go_sem, Nat.reduceEqDiff, Nat.reduceAdd, Nat.reduceSub, Nat.reduceLeDiff, Nat.reduceMul, Nat.reduceBEq, Nat.reduceLT, Int.reduceToNat, reduceCtorEq]) rfl
set_option maxHeartbeats 1000000 in
theorem keyAt_ac (t : V) (hn : t.neat) (i : Nat) (hi : i < t.kids.length) : AC Try.prog 144 [t.av, .c (.int .i64 i)] [] (t.keyV i).av [] := by
  by_cases h6 : t.kind = 6
  · obtain ⟨hkk, hke⟩ := keyAt_get hn h6 hi
    have hk : t.keyV i = strV t.keys[i] := by unfold V.keyV; rw [if_pos h6, hke]
    have hb : (t.kind == 6) = true := by simpa using h6
    have hr : rowsAt (t.keys.map strCs) 1 i = true := by simp [rowsAt, hkk, strCs]
    have hg : (t.keys.map strCs)[i]? = some [.str t.keys[i]] := by simp [hkk, strCs]
    rw [hk, strV_av]
    refine AC.intro_sp follows_mixed Try.func144 rfl Try.ntmps144 (Nat.le_of_ble_eq_true rfl) ?_; simp only [go_sem, Nat.reduceAdd]
    (repeat (first | (with_reducible first | refine a_seq ?_ | refine a_region ?_ | refine a_block ?_ | refine a_scope ?_) | ((with_reducible apply op_any); (iterate 2 (focus (first | (simp only [go_sem, Nat.reduceEqDiff, Nat.reduceAdd, Nat.reduceSub, Nat.reduceLeDiff, Nat.reduceMul, Nat.reduceBEq, Nat.reduceLT, Int.reduceToNat, reduceCtorEq, hb, hr, hg]; first | done | exact rfl | (and_intros <;> rfl)) | exact rfl | decide)))) | ((with_reducible refine o_nil ?_); dsimp only; try ((with_reducible apply o_draw); (focus (simp only [go_sem]; exact rfl)); (focus decide))) | ((with_reducible first | refine a_ret ?_ | refine a_skip ?_ | refine a_label ?_); dsimp only) | ((with_reducible refine a_exit ?_); dsimp only; simp only [if_true, if_false, Nat.reduceEqDiff]) | ((with_reducible apply a_if); (focus (simp only [go_sem, Nat.reduceBEq, Nat.reduceLT, hb, hr, hg]; exact rfl)); dsimp only [cond_true, cond_false]) | ((with_reducible refine a_draw ?_ ?_); (focus exact rfl))))
    (apply (op_data [] (text_ac _)); (iterate 7 (focus (first | (simp only [go_sem, Nat.reduceEqDiff, Nat.reduceAdd, Nat.reduceSub, Nat.reduceLeDiff, Nat.reduceMul, Nat.reduceBEq, Nat.reduceLT, Int.reduceToNat, reduceCtorEq]; first | done | exact rfl | (and_intros <;> rfl)) | exact rfl | decide))))
    (repeat (first | (with_reducible first | refine a_seq ?_ | refine a_region ?_ | refine a_block ?_ | refine a_scope ?_) | ((with_reducible apply op_any); (iterate 2 (focus (first | (simp only [go_sem, Nat.reduceEqDiff, Nat.reduceAdd, Nat.reduceSub, Nat.reduceLeDiff, Nat.reduceMul, Nat.reduceBEq, Nat.reduceLT, Int.reduceToNat, reduceCtorEq]; first | done | exact rfl | (and_intros <;> rfl)) | exact rfl | decide)))) | ((with_reducible refine o_nil ?_); dsimp only; try ((with_reducible apply o_draw); (focus (simp only [go_sem]; exact rfl)); (focus decide))) | ((with_reducible first | refine a_ret ?_ | refine a_skip ?_ | refine a_label ?_); dsimp only) | ((with_reducible refine a_exit ?_); dsimp only; simp only [if_true, if_false, Nat.reduceEqDiff]) | ((with_reducible apply a_if); (focus (simp only [go_sem, Nat.reduceBEq, Nat.reduceLT]; exact rfl)); dsimp only [cond_true, cond_false]) | ((with_reducible refine a_draw ?_ ?_); (focus exact rfl))))
    exact ret_data [] (by simp only [Try.results144, go_sem, Nat.reduceBEq, Nat.reduceLT]; exact rfl) (by simp only [go_sem, Nat.reduceEqDiff, Nat.reduceAdd, Nat.reduceSub, Nat.reduceLeDiff, Nat.reduceMul, Nat.reduceBEq, Nat.reduceLT, Int.reduceToNat, reduceCtorEq]) rfl
  · have hk : t.keyV i = numV i := if_neg h6
    have hb : (t.kind == 6) = false := by simpa using h6
    rw [hk, numV_av]
    refine AC.intro_sp follows_mixed Try.func144 rfl Try.ntmps144 (Nat.le_of_ble_eq_true rfl) ?_; simp only [go_sem, Nat.reduceAdd]
    (repeat (first | (with_reducible first | refine a_seq ?_ | refine a_region ?_ | refine a_block ?_ | refine a_scope ?_) | ((with_reducible apply op_any); (iterate 2 (focus (first | (simp only [go_sem, Nat.reduceEqDiff, Nat.reduceAdd, Nat.reduceSub, Nat.reduceLeDiff, Nat.reduceMul, Nat.reduceBEq, Nat.reduceLT, Int.reduceToNat, reduceCtorEq, hb]; first | done | exact rfl | (and_intros <;> rfl)) | exact rfl | decide)))) | ((with_reducible refine o_nil ?_); dsimp only; try ((with_reducible apply o_draw); (focus (simp only [go_sem]; exact rfl)); (focus decide))) | ((with_reducible first | refine a_ret ?_ | refine a_skip ?_ | refine a_label ?_); dsimp only) | ((with_reducible refine a_exit ?_); dsimp only; simp only [if_true, if_false, Nat.reduceEqDiff]) | ((with_reducible apply a_if); (focus (simp only [go_sem, Nat.reduceBEq, Nat.reduceLT, hb]; exact rfl)); dsimp only [cond_true, cond_false]) | ((with_reducible refine a_draw ?_ ?_); (focus exact rfl))))
    (apply (op_data [] (number_ac _)); (iterate 7 (focus (first | (simp only [go_sem, Nat.reduceEqDiff, Nat.reduceAdd, Nat.reduceSub, Nat.reduceLeDiff, Nat.reduceMul, Nat.reduceBEq, Nat.reduceLT, Int.reduceToNat, reduceCtorEq]; first | done | exact rfl | (and_intros <;> rfl)) | exact rfl | decide))))
    (repeat (first | (with_reducible first | refine a_seq ?_ | refine a_region ?_ | refine a_block ?_ | refine a_scope ?_) | ((with_reducible apply op_any); (iterate 2 (focus (first | (simp only [go_sem, Nat.reduceEqDiff, Nat.reduceAdd, Nat.reduceSub, Nat.reduceLeDiff, Nat.reduceMul, Nat.reduceBEq, Nat.reduceLT, Int.reduceToNat, reduceCtorEq]; first | done | exact rfl | (and_intros <;> rfl)) | exact rfl | decide)))) | ((with_reducible refine o_nil ?_); dsimp only; try ((with_reducible apply o_draw); (focus (simp only [go_sem]; exact rfl)); (focus decide))) | ((with_reducible first | refine a_ret ?_ | refine a_skip ?_ | refine a_label ?_); dsimp only) | ((with_reducible refine a_exit ?_); dsimp only; simp only [if_true, if_false, Nat.reduceEqDiff]) | ((with_reducible apply a_if); (focus (simp only [go_sem, Nat.reduceBEq, Nat.reduceLT]; exact rfl)); dsimp only [cond_true, cond_false]) | ((with_reducible refine a_draw ?_ ?_); (focus exact rfl))))
    exact ret_data [] (by simp only [Try.results144, go_sem, Nat.reduceBEq, Nat.reduceLT]; exact rfl) (by simp only [go_sem, Nat.reduceEqDiff, Nat.reduceAdd, Nat.reduceSub, Nat.reduceLeDiff, Nat.reduceMul, Nat.reduceBEq, Nat.reduceLT, Int.reduceToNat, reduceCtorEq]) rfl
end Go.Proofs.Ytioaieacogoemaa
