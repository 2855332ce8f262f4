/- The law of DecodeLines as a row. -/
import Derived.Test.YtllfmaflodbieaaGreatDoorKQ19
set_option linter.all false
namespace Go.Proofs.YtllfmaflodbieaaGreatDoor
open Go.ChangeShapes Go.WideShapes Go.ChangeAt Go.RowKit Go.Deep
theorem Gd:(Rows.fnPrintsRow.inPlace==Tryz.pinned.checked.prog.inPlace 6)=true:=by kernel_rfl
theorem Ge:(Rows.fnPrintsRow.unfollowed==Tryz.pinned.checked.prog.unfollowed 6)=true:=by kernel_rfl
theorem Gf:(Rows.fnPrintsRow.recurses==Tryz.pinned.checked.prog.recurses 6)=true:=by kernel_rfl
theorem Gg:(Rows.fnPrintsRow.named==Tryz.pinned.checked.prog.varsNamed 6)=true:=by kernel_rfl
theorem I0:joinedFacts Tryz.pinned.checked.prog 6 Tryz.f6 Rows.fnPrintsSpec Rows.fnPrintsRow=true:=by
 unfold joinedFacts
 rw[Gd,Ge,Gf,Gg]
 kernel_rfl
theorem Y2:Rows.FnPrintsSaid :=
 OpenClaim.holds_of_wide 6 Tryz.f6 rfl rfl rfl rfl rfl rfl rfl ⟨rfl,rfl,rfl,rfl,rfl⟩ rfl rfl rfl rfl rfl (by kernel_rfl) Tryz.func6 I0
  (of_decide_eq_true (by kernel_rfl)) (by unfold Func.isWrapper;first | (rw[if_pos (by decide +kernel)];kernel_rfl) | (rw[if_neg (by decide +kernel)];exact⟨rfl,rfl⟩))
  (fun os started H enc _=>Tc os started H enc)
end Go.Proofs.YtllfmaflodbieaaGreatDoor
