/- The law of DecodeValue as a row. -/
import Derived.Test.YtlciedpfjhkkdaaGreatDoorKQ05
set_option linter.unusedSimpArgs false
set_option linter.unusedVariables false
set_option linter.unnecessarySimpa false
namespace Go.Proofs.YtlciedpfjhkkdaaGreatDoor
open Go.ChangeShapes Go.WideShapes Go.ChangeAt Go.RowKit Go.Deep
theorem decodeValue_f1 : (Rows.fnExactDecodeValueRow.inPlace == Tryz.pinned.checked.prog.inPlace 3) = true := by kernel_rfl
theorem decodeValue_f2 : (Rows.fnExactDecodeValueRow.unfollowed == Tryz.pinned.checked.prog.unfollowed 3) = true := by kernel_rfl
theorem decodeValue_f3 : (Rows.fnExactDecodeValueRow.recurses == Tryz.pinned.checked.prog.recurses 3) = true := by kernel_rfl
theorem decodeValue_f4 : (Rows.fnExactDecodeValueRow.named == Tryz.pinned.checked.prog.varsNamed 3) = true := by kernel_rfl
theorem decodeValue_facts : joinedFacts Tryz.pinned.checked.prog 3 Tryz.f3 Rows.fnExactDecodeValueSpec Rows.fnExactDecodeValueRow = true := by
 unfold joinedFacts
 rw [decodeValue_f1, decodeValue_f2, decodeValue_f3, decodeValue_f4]
 kernel_rfl
theorem decodeValue_row : Rows.FnExactDecodeValueSaid :=
 OpenClaim.holds_of_wide 3 Tryz.f3 rfl rfl rfl rfl rfl rfl rfl ⟨rfl, rfl, rfl, rfl, rfl⟩ rfl rfl rfl rfl rfl (by kernel_rfl) Tryz.func3 decodeValue_facts
  (of_decide_eq_true (by kernel_rfl)) (by unfold Func.isWrapper; first | (rw [if_pos (by decide +kernel)]; kernel_rfl) | (rw [if_neg (by decide +kernel)]; exact ⟨rfl, rfl⟩))
  (fun os started H enc _ => decodeValue_lifted os started H enc)
end Go.Proofs.YtlciedpfjhkkdaaGreatDoor
