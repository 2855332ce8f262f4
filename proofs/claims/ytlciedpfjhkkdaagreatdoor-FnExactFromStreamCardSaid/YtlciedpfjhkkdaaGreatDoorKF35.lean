/- laws.FnExactFromStream answers true, at every argument, and its arguments read as they did. -/
import Derived.Test.YtlciedpfjhkkdaaGreatDoorKQ02
set_option linter.unusedSimpArgs false
set_option linter.unusedVariables false
set_option linter.unnecessarySimpa false
namespace Go.Proofs.YtlciedpfjhkkdaaGreatDoor
open Go.ChangeShapes Go.WideShapes Go.ChangeAt Go.RowKit Go.Deep
theorem fromStream_holds : Rows.FnExactFromStreamCardSaid :=
 Claim7.holds_tied_plain_at .later [] [.data, .data, .data] true Rows.fnExactFromStreamCard.stood.harness true
  fromStream_row (fun _ h => by cases h) (by kernel_rfl) (fun _ h => by cases h) fnExactFromStream_row_tie rfl ⟨rfl, rfl⟩ (by kernel_rfl) rfl
  (fun f fn hf hfn => by
   obtain rfl : f = 7 := Option.some.inj ((show Tryz.prog.funcNamed Rows.fnExactFromStreamRow.func = some 7 by kernel_rfl).symm.trans hf) |>.symm
   obtain rfl : fn = Tryz.f7 := (Option.some.inj (Tryz.func7.symm.trans hfn)).symm
   exact ⟨by kernel_rfl, fun j t ht => by
    rw [Tryz.params7] at ht
    have hm : t ∈ [48] := by simpa using Array.mem_of_getElem? ht
    have hall : ([48].all fun u => !Tryz.prog.wantsStandIn u) = true := by kernel_rfl
    exact (show Tryz.prog.wantsStandIn t = false by simpa using List.all_eq_true.1 hall t hm)⟩)
  (by kernel_rfl)
end Go.Proofs.YtlciedpfjhkkdaaGreatDoor
