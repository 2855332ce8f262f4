/- slices.Sort at []string: that the program bears its closure (printed by gen_lay.py out of the kit's own laying). -/
import Derived.Test.YtfmnoljflcpbgaaGreatDoorKT01
import Derived.Shelf.SlGeneric
import Derived.Shelf.SlLaysM
set_option linter.unusedSimpArgs false
set_option linter.unusedVariables false
set_option linter.unnecessarySimpa false
namespace Go.Proofs.YtfmnoljflcpbgaaGreatDoor
open Go.RowKit Go.Shelf
end Go.Proofs.YtfmnoljflcpbgaaGreatDoor
