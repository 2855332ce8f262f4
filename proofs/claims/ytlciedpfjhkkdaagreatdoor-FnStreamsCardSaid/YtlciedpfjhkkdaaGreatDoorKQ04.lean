/- The law laws.FnStreams as a row. -/
import Derived.Test.YtlciedpfjhkkdaaGreatDoorKQ03
set_option linter.unusedSimpArgs false
set_option linter.unusedVariables false
set_option linter.unnecessarySimpa false
namespace Go.Proofs.YtlciedpfjhkkdaaGreatDoor
open Go.ChangeShapes Go.WideShapes Go.ChangeAt Go.RowKit Go.Deep
theorem streams_f1 : (Rows.fnStreamsRow.inPlace == Tryz.pinned.checked.prog.inPlace 4) = true := by kernel_rfl
theorem streams_f2 : (Rows.fnStreamsRow.unfollowed == Tryz.pinned.checked.prog.unfollowed 4) = true := by kernel_rfl
theorem streams_f3 : (Rows.fnStreamsRow.recurses == Tryz.pinned.checked.prog.recurses 4) = true := by kernel_rfl
theorem streams_f4 : (Rows.fnStreamsRow.named == Tryz.pinned.checked.prog.varsNamed 4) = true := by kernel_rfl
theorem streams_facts : joinedFacts Tryz.pinned.checked.prog 4 Tryz.f4 Rows.fnStreamsSpec Rows.fnStreamsRow = true := by
 unfold joinedFacts
 rw [streams_f1, streams_f2, streams_f3, streams_f4]
 kernel_rfl
theorem streams_row : Rows.FnStreamsSaid :=
 OpenClaim.holds_of_wide 4 Tryz.f4 rfl rfl rfl rfl rfl rfl rfl ⟨rfl, rfl, rfl, rfl, rfl⟩ rfl rfl rfl rfl rfl (by kernel_rfl) Tryz.func4 streams_facts
  (of_decide_eq_true (by kernel_rfl)) (by unfold Func.isWrapper; first | (rw [if_pos (by decide +kernel)]; kernel_rfl) | (rw [if_neg (by decide +kernel)]; exact ⟨rfl, rfl⟩))
  (fun os started H enc _ => streams_lifted os started H enc)
end Go.Proofs.YtlciedpfjhkkdaaGreatDoor
