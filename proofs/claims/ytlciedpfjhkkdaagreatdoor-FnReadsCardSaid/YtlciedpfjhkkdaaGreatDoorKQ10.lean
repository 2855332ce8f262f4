/- The law laws.FnReads as a row. -/
import Derived.Test.YtlciedpfjhkkdaaGreatDoorKQ09
set_option linter.all false
namespace Go.Proofs.YtlciedpfjhkkdaaGreatDoor
open Go.ChangeShapes Go.WideShapes Go.ChangeAt Go.RowKit Go.Deep
theorem reads_f1:(Rows.fnReadsRow.inPlace==Tryz.pinned.checked.prog.inPlace 8)=true:=by kernel_rfl
theorem reads_f2:(Rows.fnReadsRow.unfollowed==Tryz.pinned.checked.prog.unfollowed 8)=true:=by kernel_rfl
theorem reads_f3:(Rows.fnReadsRow.recurses==Tryz.pinned.checked.prog.recurses 8)=true:=by kernel_rfl
theorem reads_f4:(Rows.fnReadsRow.named==Tryz.pinned.checked.prog.varsNamed 8)=true:=by kernel_rfl
theorem reads_facts:joinedFacts Tryz.pinned.checked.prog 8 Tryz.f8 Rows.fnReadsSpec Rows.fnReadsRow=true:=by
 unfold joinedFacts
 rw[reads_f1,reads_f2,reads_f3,reads_f4]
 kernel_rfl
theorem reads_row:Rows.FnReadsSaid :=
 OpenClaim.holds_of_wide 8 Tryz.f8 rfl rfl rfl rfl rfl rfl rfl ⟨rfl,rfl,rfl,rfl,rfl⟩ rfl rfl rfl rfl rfl (by kernel_rfl) Tryz.func8 reads_facts
  (of_decide_eq_true (by kernel_rfl)) (by unfold Func.isWrapper;first | (rw[if_pos (by decide +kernel)];kernel_rfl) | (rw[if_neg (by decide +kernel)];exact⟨rfl,rfl⟩))
  (fun os started H enc _=>reads_lifted os started H enc)
end Go.Proofs.YtlciedpfjhkkdaaGreatDoor
