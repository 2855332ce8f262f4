/- The law of DecodeLines as a row. -/
import Derived.Test.YtllfmaflodbieaaGreatDoorKQ13
set_option linter.all false
namespace Go.Proofs.YtllfmaflodbieaaGreatDoor
open Go.ChangeShapes Go.WideShapes Go.ChangeAt Go.RowKit Go.Deep
theorem Mj:(Rows.fnExactParseEditsRow.inPlace==Tryz.pinned.checked.prog.inPlace 3)=true:=by kernel_rfl
theorem Mb:(Rows.fnExactParseEditsRow.unfollowed==Tryz.pinned.checked.prog.unfollowed 3)=true:=by kernel_rfl
theorem M5:(Rows.fnExactParseEditsRow.recurses==Tryz.pinned.checked.prog.recurses 3)=true:=by kernel_rfl
theorem M4:(Rows.fnExactParseEditsRow.named==Tryz.pinned.checked.prog.varsNamed 3)=true:=by kernel_rfl
theorem Js:joinedFacts Tryz.pinned.checked.prog 3 Tryz.f3 Rows.fnExactParseEditsSpec Rows.fnExactParseEditsRow=true:=by
 unfold joinedFacts
 rw[Mj,Mb,M5,M4]
 kernel_rfl
theorem Lz:Rows.FnExactParseEditsSaid :=
 OpenClaim.holds_of_wide 3 Tryz.f3 rfl rfl rfl rfl rfl rfl rfl ⟨rfl,rfl,rfl,rfl,rfl⟩ rfl rfl rfl rfl rfl (by kernel_rfl) Tryz.func3 Js
  (of_decide_eq_true (by kernel_rfl)) (by unfold Func.isWrapper;first | (rw[if_pos (by decide +kernel)];kernel_rfl) | (rw[if_neg (by decide +kernel)];exact⟨rfl,rfl⟩))
  (fun os started H enc _=>Ii os started H enc)
end Go.Proofs.YtllfmaflodbieaaGreatDoor
