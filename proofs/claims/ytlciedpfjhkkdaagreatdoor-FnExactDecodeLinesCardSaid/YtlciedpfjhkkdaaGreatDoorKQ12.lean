/- The law of DecodeLines as a row. -/
import Derived.Test.YtlciedpfjhkkdaaGreatDoorKQ11
set_option linter.all false
namespace Go.Proofs.YtlciedpfjhkkdaaGreatDoor
open Go.ChangeShapes Go.WideShapes Go.ChangeAt Go.RowKit Go.Deep
theorem I5:(Rows.fnExactDecodeLinesRow.inPlace==Tryz.pinned.checked.prog.inPlace 5)=true:=by kernel_rfl
theorem HR:(Rows.fnExactDecodeLinesRow.unfollowed==Tryz.pinned.checked.prog.unfollowed 5)=true:=by kernel_rfl
theorem Iw:(Rows.fnExactDecodeLinesRow.recurses==Tryz.pinned.checked.prog.recurses 5)=true:=by kernel_rfl
theorem J2:(Rows.fnExactDecodeLinesRow.named==Tryz.pinned.checked.prog.varsNamed 5)=true:=by kernel_rfl
theorem G4:joinedFacts Tryz.pinned.checked.prog 5 Tryz.f5 Rows.fnExactDecodeLinesSpec Rows.fnExactDecodeLinesRow=true:=by
 unfold joinedFacts
 rw[I5,HR,Iw,J2]
 kernel_rfl
theorem Hk:Rows.FnExactDecodeLinesSaid :=
 OpenClaim.holds_of_wide 5 Tryz.f5 rfl rfl rfl rfl rfl rfl rfl ⟨rfl,rfl,rfl,rfl,rfl⟩ rfl rfl rfl rfl rfl (by kernel_rfl) Tryz.func5 G4
  (of_decide_eq_true (by kernel_rfl)) (by unfold Func.isWrapper;first | (rw[if_pos (by decide +kernel)];kernel_rfl) | (rw[if_neg (by decide +kernel)];exact⟨rfl,rfl⟩))
  (fun os started H enc _=>FA os started H enc)
end Go.Proofs.YtlciedpfjhkkdaaGreatDoor
