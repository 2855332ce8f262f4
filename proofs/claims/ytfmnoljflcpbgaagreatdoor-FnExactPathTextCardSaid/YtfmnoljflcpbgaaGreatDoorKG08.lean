/- spec.l13All, by the engine. -/
import Derived.Test.YtfmnoljflcpbgaaGreatDoorKG06
set_option linter.unusedSimpArgs false
set_option linter.unusedVariables false
set_option linter.unnecessarySimpa false
namespace Go.Proofs.YtfmnoljflcpbgaaGreatDoor
open Go.RowKit
/-- Which values count: all, or those without kids. -/
def keep (b : Bool) (p : List V × V) : Bool := !b || p.2.kids.isEmpty
def pthCs (p : List V) : List C := [.sl ((p.map V.enc).map encCs)]
theorem all_pths (l : List (List V)) : ((l.map pthCs).all fun r => r.length == 1) = true := by simp [pthCs]
theorem fl_pth (p : List V) : forgetL (pthCs p) = pthCs p := rfl
theorem forget_pths (l : List (List V)) : forgetLL (l.map pthCs) = l.map pthCs := forget_map _ fl_pth l
attribute [go_sem] all_pths forget_pths
set_option maxRecDepth 10000
end Go.Proofs.YtfmnoljflcpbgaaGreatDoor
