/- The law of DecodeLines as a row. -/
import Derived.Test.YtllfmaflodbieaaGreatDoorKQ17
set_option linter.all false
namespace Go.Proofs.YtllfmaflodbieaaGreatDoor
open Go.ChangeShapes Go.WideShapes Go.ChangeAt Go.RowKit Go.Deep
theorem QS:(Rows.fnEditTextsRow.inPlace==Tryz.pinned.checked.prog.inPlace 4)=true:=by kernel_rfl
theorem QT:(Rows.fnEditTextsRow.unfollowed==Tryz.pinned.checked.prog.unfollowed 4)=true:=by kernel_rfl
theorem QU:(Rows.fnEditTextsRow.recurses==Tryz.pinned.checked.prog.recurses 4)=true:=by kernel_rfl
theorem QV:(Rows.fnEditTextsRow.named==Tryz.pinned.checked.prog.varsNamed 4)=true:=by kernel_rfl
theorem MB:joinedFacts Tryz.pinned.checked.prog 4 Tryz.f4 Rows.fnEditTextsSpec Rows.fnEditTextsRow=true:=by
 unfold joinedFacts
 rw[QS,QT,QU,QV]
 kernel_rfl
theorem P8:Rows.FnEditTextsSaid :=
 OpenClaim.holds_of_wide 4 Tryz.f4 rfl rfl rfl rfl rfl rfl rfl ⟨rfl,rfl,rfl,rfl,rfl⟩ rfl rfl rfl rfl rfl (by kernel_rfl) Tryz.func4 MB
  (of_decide_eq_true (by kernel_rfl)) (by unfold Func.isWrapper;first | (rw[if_pos (by decide +kernel)];kernel_rfl) | (rw[if_neg (by decide +kernel)];exact⟨rfl,rfl⟩))
  (fun os started H enc _=>Lf os started H enc)
end Go.Proofs.YtllfmaflodbieaaGreatDoor
