/- (impl.val).cells, by the engine. -/
import Derived.Test.YtfmnoljflcpbgaaGreatDoorKG01
import Derived.IntWalk
set_option linter.unusedSimpArgs false
set_option linter.unusedVariables false
set_option linter.unnecessarySimpa false
namespace Go.Proofs.YtfmnoljflcpbgaaGreatDoor
open Go.RowKit
theorem all_cells (l : List CellD) : ((l.map CellD.cs).all fun r => r.length == 5) = true := by simp [CellD.cs]
theorem all_trees (l : List V) : ((l.map V.cs).all fun r => r.length == 5) = true := by simp [V.cs_eq]
theorem all_strs (l : List ByteArray) : ((l.map strCs).all fun r => r.length == 1) = true := by simp [strCs]
attribute [go_sem] all_cells all_trees all_strs
theorem wrap_succ {k : Nat} (h : k < 9000000000000000000) : IntKind.i64.wrap ((k : Int) + 1) = ((k + 1 : Nat) : Int) := by
  rw [IntWalk.i64_in _ (by omega)]
  simp
theorem enc_head (u : V) : (u.enc.map CellD.cs)[0]? = some [.int .i64 u.kind, .int .i64 u.num, .str u.text, .str ByteArray.empty, .int .i64 u.kids.length] := by
  cases u
  simp [V.enc, V.cells, CellD.cs, kind_mk, num_mk, text_mk, kids_mk]

set_option maxRecDepth 10000
end Go.Proofs.YtfmnoljflcpbgaaGreatDoor
