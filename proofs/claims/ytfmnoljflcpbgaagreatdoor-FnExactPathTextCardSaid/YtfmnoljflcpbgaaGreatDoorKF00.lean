/- Closed facts of the program that every statement's proof wants. -/
import Derived.Test.YtfmnoljflcpbgaaGreatDoorKO01
set_option linter.unusedSimpArgs false
set_option linter.unusedVariables false
set_option linter.unnecessarySimpa false
namespace Go.Proofs.YtfmnoljflcpbgaaGreatDoor
open Go.ChangeShapes Go.WideShapes Go.ChangeAt Go.RowKit Go.Deep

theorem Tryz.own : ownKnob Tryz.prog.godebug = none := by kernel_rfl
theorem Tryz.laidOut : laidOutB Tryz.prog = true := by kernel_rfl

end Go.Proofs.YtfmnoljflcpbgaaGreatDoor
