/- Texts of this proof: G01 G02. -/
import Derived.Test.YtfmnoljflcpbgaaGreatDoorKE6
import Derived.Test.YtfmnoljflcpbgaaGreatDoorKM1
import Derived.IntWalk
set_option linter.unusedSimpArgs false
set_option linter.unusedVariables false
set_option linter.unnecessarySimpa false
namespace Go.Proofs.YtfmnoljflcpbgaaGreatDoor
open Go.RowKit

/-- The cells of a cell; a tree's. -/
def CellD.cs (c : CellD) : List C := [.int .i64 c.kind, .int .i64 c.num, .str c.text, .str c.key, .int .i64 c.n]
def strCs (s : ByteArray) : List C := [.str s]
mutual
def V.cs : V → List C
  | .mk kind num text keys kids => [.int .i64 kind, .int .i64 num, .str text, .sl (keys.map strCs), .sl (csL kids)]
def csL : List V → List (List C)
  | [] => []
  | k :: ks => k.cs :: csL ks
end
theorem csL_eq : ∀ (l : List V), csL l = l.map V.cs
  | [] => rfl
  | k :: ks => by simp [csL, csL_eq ks]
theorem V.cs_eq (t : V) : t.cs = [.int .i64 t.kind, .int .i64 t.num, .str t.text, .sl (t.keys.map strCs), .sl (t.kids.map V.cs)] := by
  cases t
  simp [V.cs, csL_eq, V.kind, V.num, V.text, V.keys, V.kids]
/-- A tree as a value; a cell as a value. -/
def V.av (t : V) : AV := .agg [.c (.int .i64 t.kind), .c (.int .i64 t.num), .c (.str t.text), .c (.sl (t.keys.map strCs)), .c (.sl (t.kids.map V.cs))]
def CellD.av (c : CellD) : AV := .agg [.c (.int .i64 c.kind), .c (.int .i64 c.num), .c (.str c.text), .c (.str c.key), .c (.int .i64 c.n)]
def valsA (l : List V) : AV := .c (.sl (l.map V.cs))
def cellsA (l : List CellD) : AV := .c (.sl (l.map CellD.cs))
section
variable (k n : Int) (s : ByteArray) (ks : List ByteArray) (vs : List V)
theorem kind_mk : (V.mk k n s ks vs).kind = k := rfl
theorem num_mk : (V.mk k n s ks vs).num = n := rfl
theorem text_mk : (V.mk k n s ks vs).text = s := rfl
theorem keys_mk : (V.mk k n s ks vs).keys = ks := rfl
theorem kids_mk : (V.mk k n s ks vs).kids = vs := rfl
end
attribute [go_sem] V.av CellD.av valsA cellsA CellD.cs strCs V.cs_eq strV numV arrV nullV kind_mk num_mk text_mk keys_mk kids_mk

set_option maxRecDepth 10000
theorem fl_cell (c : CellD) : forgetL c.cs = c.cs := rfl
theorem fl_str (s : ByteArray) : forgetL (strCs s) = strCs s := rfl
theorem fl_tree (t : V) : forgetL t.cs = t.cs := by rw [V.cs_eq]; rfl
theorem forget_cells (l : List CellD) : forgetLL (l.map CellD.cs) = l.map CellD.cs := forget_map _ fl_cell l
theorem forget_strs (l : List ByteArray) : forgetLL (l.map strCs) = l.map strCs := forget_map _ fl_str l
theorem forget_trees (l : List V) : forgetLL (l.map V.cs) = l.map V.cs := forget_map _ fl_tree l
attribute [go_sem] forget_cells forget_strs forget_trees

end Go.Proofs.YtfmnoljflcpbgaaGreatDoor

/- (impl.val).cells, by the engine. -/
namespace Go.Proofs.YtfmnoljflcpbgaaGreatDoor
open Go.RowKit
theorem all_cells (l : List CellD) : ((l.map CellD.cs).all fun r => r.length == 5) = true := by simp [CellD.cs]
theorem all_trees (l : List V) : ((l.map V.cs).all fun r => r.length == 5) = true := by simp [V.cs_eq]
theorem all_strs (l : List ByteArray) : ((l.map strCs).all fun r => r.length == 1) = true := by simp [strCs]
attribute [go_sem] all_cells all_trees all_strs
theorem wrap_succ {k : Nat} (h : k < 9000000000000000000) : IntKind.i64.wrap ((k : Int) + 1) = ((k + 1 : Nat) : Int) := by
  rw [IntWalk.i64_in _ (by omega)]
  simp
theorem enc_head (u : V) : (u.enc.map CellD.cs)[0]? = some [.int .i64 u.kind, .int .i64 u.num, .str u.text, .str ByteArray.empty, .int .i64 u.kids.length] := by
  cases u
  simp [V.enc, V.cells, CellD.cs, kind_mk, num_mk, text_mk, kids_mk]

set_option maxRecDepth 10000
end Go.Proofs.YtfmnoljflcpbgaaGreatDoor
