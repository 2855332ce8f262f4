/- The law of FromStream as a row. -/
import Derived.Test.YtlciedpfjhkkdaaGreatDoorKQ01
set_option linter.unusedSimpArgs false
set_option linter.unusedVariables false
set_option linter.unnecessarySimpa false
namespace Go.Proofs.YtlciedpfjhkkdaaGreatDoor
open Go.ChangeShapes Go.WideShapes Go.ChangeAt Go.RowKit Go.Deep
theorem fromStream_f1 : (Rows.fnExactFromStreamRow.inPlace == Tryz.pinned.checked.prog.inPlace 7) = true := by kernel_rfl
theorem fromStream_f2 : (Rows.fnExactFromStreamRow.unfollowed == Tryz.pinned.checked.prog.unfollowed 7) = true := by kernel_rfl
theorem fromStream_f3 : (Rows.fnExactFromStreamRow.recurses == Tryz.pinned.checked.prog.recurses 7) = true := by kernel_rfl
theorem fromStream_f4 : (Rows.fnExactFromStreamRow.named == Tryz.pinned.checked.prog.varsNamed 7) = true := by kernel_rfl
theorem fromStream_facts : joinedFacts Tryz.pinned.checked.prog 7 Tryz.f7 Rows.fnExactFromStreamSpec Rows.fnExactFromStreamRow = true := by
 unfold joinedFacts
 rw [fromStream_f1, fromStream_f2, fromStream_f3, fromStream_f4]
 kernel_rfl
theorem fromStream_row : Rows.FnExactFromStreamSaid :=
 OpenClaim.holds_of_wide 7 Tryz.f7 rfl rfl rfl rfl rfl rfl rfl ⟨rfl, rfl, rfl, rfl, rfl⟩ rfl rfl rfl rfl rfl (by kernel_rfl) Tryz.func7 fromStream_facts
  (of_decide_eq_true (by kernel_rfl)) (by unfold Func.isWrapper; first | (rw [if_pos (by decide +kernel)]; kernel_rfl) | (rw [if_neg (by decide +kernel)]; exact ⟨rfl, rfl⟩))
  (fun os started H enc _ => fromStream_lifted os started H enc)
end Go.Proofs.YtlciedpfjhkkdaaGreatDoor
