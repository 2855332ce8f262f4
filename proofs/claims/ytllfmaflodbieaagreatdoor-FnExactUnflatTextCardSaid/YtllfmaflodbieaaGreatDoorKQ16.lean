/- The law of DecodeLines as a row. -/
import Derived.Test.YtllfmaflodbieaaGreatDoorKQ15
set_option linter.all false
namespace Go.Proofs.YtllfmaflodbieaaGreatDoor
open Go.ChangeShapes Go.WideShapes Go.ChangeAt Go.RowKit Go.Deep
theorem ZL:(Rows.fnExactUnflatTextRow.inPlace==Tryz.pinned.checked.prog.inPlace 5)=true:=by kernel_rfl
theorem ZM:(Rows.fnExactUnflatTextRow.unfollowed==Tryz.pinned.checked.prog.unfollowed 5)=true:=by kernel_rfl
theorem ZN:(Rows.fnExactUnflatTextRow.recurses==Tryz.pinned.checked.prog.recurses 5)=true:=by kernel_rfl
theorem ZO:(Rows.fnExactUnflatTextRow.named==Tryz.pinned.checked.prog.varsNamed 5)=true:=by kernel_rfl
theorem Qx:joinedFacts Tryz.pinned.checked.prog 5 Tryz.f5 Rows.fnExactUnflatTextSpec Rows.fnExactUnflatTextRow=true:=by
 unfold joinedFacts
 rw[ZL,ZM,ZN,ZO]
 kernel_rfl
theorem ZC:Rows.FnExactUnflatTextSaid :=
 OpenClaim.holds_of_wide 5 Tryz.f5 rfl rfl rfl rfl rfl rfl rfl ⟨rfl,rfl,rfl,rfl,rfl⟩ rfl rfl rfl rfl rfl (by kernel_rfl) Tryz.func5 Qx
  (of_decide_eq_true (by kernel_rfl)) (by unfold Func.isWrapper;first | (rw[if_pos (by decide +kernel)];kernel_rfl) | (rw[if_neg (by decide +kernel)];exact⟨rfl,rfl⟩))
  (fun os started H enc _=>Pv os started H enc)
end Go.Proofs.YtllfmaflodbieaaGreatDoor
