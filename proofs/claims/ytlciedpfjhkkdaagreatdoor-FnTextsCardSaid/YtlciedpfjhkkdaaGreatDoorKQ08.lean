/- The law laws.FnTexts as a row. -/
import Derived.Test.YtlciedpfjhkkdaaGreatDoorKQ07
set_option linter.unusedSimpArgs false
set_option linter.unusedVariables false
set_option linter.unnecessarySimpa false
namespace Go.Proofs.YtlciedpfjhkkdaaGreatDoor
open Go.ChangeShapes Go.WideShapes Go.ChangeAt Go.RowKit Go.Deep
theorem texts_f1 : (Rows.fnTextsRow.inPlace == Tryz.pinned.checked.prog.inPlace 6) = true := by kernel_rfl
theorem texts_f2 : (Rows.fnTextsRow.unfollowed == Tryz.pinned.checked.prog.unfollowed 6) = true := by kernel_rfl
theorem texts_f3 : (Rows.fnTextsRow.recurses == Tryz.pinned.checked.prog.recurses 6) = true := by kernel_rfl
theorem texts_f4 : (Rows.fnTextsRow.named == Tryz.pinned.checked.prog.varsNamed 6) = true := by kernel_rfl
theorem texts_facts : joinedFacts Tryz.pinned.checked.prog 6 Tryz.f6 Rows.fnTextsSpec Rows.fnTextsRow = true := by
 unfold joinedFacts
 rw [texts_f1, texts_f2, texts_f3, texts_f4]
 kernel_rfl
theorem texts_row : Rows.FnTextsSaid :=
 OpenClaim.holds_of_wide 6 Tryz.f6 rfl rfl rfl rfl rfl rfl rfl ⟨rfl, rfl, rfl, rfl, rfl⟩ rfl rfl rfl rfl rfl (by kernel_rfl) Tryz.func6 texts_facts
  (of_decide_eq_true (by kernel_rfl)) (by unfold Func.isWrapper; first | (rw [if_pos (by decide +kernel)]; kernel_rfl) | (rw [if_neg (by decide +kernel)]; exact ⟨rfl, rfl⟩))
  (fun os started H enc _ => texts_lifted os started H enc)
end Go.Proofs.YtlciedpfjhkkdaaGreatDoor
