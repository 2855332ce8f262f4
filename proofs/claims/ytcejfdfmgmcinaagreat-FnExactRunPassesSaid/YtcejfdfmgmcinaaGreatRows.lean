/-
  No cell of these rows narrows 'for every input' (looked for: loops, veiled, ifaces, maps, wideKeys, modest, calm, conditions, laid).
  DERIVED. THE GIVEN ROWS OF THIS SEAT. 7 by the template 'for every input the law returns true; each argument reads behind the call as it read before'; 0 by the template 'total and deterministic' (their statements: YtcejfdfmgmcinaaGreatTotals.lean).
  GIVEN WITH THE SEED: the statements are not yours to turn. If you find one false, say at which input.
  Laid BY PROGRAM, IN A SANDBOX (cutbox-rows.mjs): the forced cells as the released guide's own fill.sh prints them over the translation 12244c587b817191… (all of the seat's roots in one cut). By AI agents, Wed Nov 11 2026. No macro, syntax, notation, axiom, sorry.
-/
import Derived.Test.YtcejfdfmgmcinaaGreatChecked
import GoSem.Claim
import GoSem.ClaimJoined
import GoSem.ClaimMapViews
import Derived.JoinedTies
import Derived.KernelRfl
namespace Go.Proofs.YtcejfdfmgmcinaaGreat
/- THE CELL 'sum', in the pinned program and in every row, IS THE sha256 OF THE DUMP (.gsa) THAT YtcejfdfmgmcinaaGreatProg.lean LOADS. Nothing in Lean hashes anything: it is a label: what it is worth is what the hold of that sum in a sandbox is worth. -/
noncomputable def Tryz.pinned : Pinned := { name := "ytcejfdfmgmcinaagreat", sum := "12244c587b81719163b862e15a48d24b0f57c1ca4e43b7e3f67a2436c3f3de7a", checked := Tryz.checked }
namespace Rows
def none {H : Type} : Left H := { results := [], args := [] }

/-- 'laws.FnExactFoldCore': WHATEVER THE INPUT: true; the input reads as it did. -/
def fnExactFoldCoreSpec : ChangeSpec := { name := "fnExactFoldCore", fn := fun _ => fun
  | [d] => { results := [.lit (.bool true)], args := [d] }
  | _ => none }
def fnExactFoldCoreRow : OpenClaim := { program := "ytcejfdfmgmcinaagreat", sum := "12244c587b81719163b862e15a48d24b0f57c1ca4e43b7e3f67a2436c3f3de7a", func := "loop.example/g00166/laws.FnExactFoldCore", spec := "fnExactFoldCore", inPlace := ["internal/bytealg.abigen_runtime_cmpstring"], unfollowed := true, recurses := true, apart := false }
def FnExactFoldCoreSaid : Prop := fnExactFoldCoreRow.holds Tryz.pinned (OpenSpec.ofChange fnExactFoldCoreSpec)

/-- ITS FALSE NEIGHBOUR: 'it returns false'. Refute it at one input. -/
def fnExactFoldCoreWrong : ChangeSpec := { name := "fnExactFoldCore", fn := fun _ => fun
  | [d] => { results := [.lit (.bool false)], args := [d] }
  | _ => none }
def FnExactFoldCoreWrongFalsely : Prop := fnExactFoldCoreRow.holds Tryz.pinned (OpenSpec.ofChange fnExactFoldCoreWrong)

/-- 'laws.FnExactPipeCore': WHATEVER THE INPUT: true; the input reads as it did. -/
def fnExactPipeCoreSpec : ChangeSpec := { name := "fnExactPipeCore", fn := fun _ => fun
  | [d] => { results := [.lit (.bool true)], args := [d] }
  | _ => none }
def fnExactPipeCoreRow : OpenClaim := { program := "ytcejfdfmgmcinaagreat", sum := "12244c587b81719163b862e15a48d24b0f57c1ca4e43b7e3f67a2436c3f3de7a", func := "loop.example/g00166/laws.FnExactPipeCore", spec := "fnExactPipeCore", inPlace := ["internal/bytealg.abigen_runtime_cmpstring"], unfollowed := true, recurses := true, apart := false }
def FnExactPipeCoreSaid : Prop := fnExactPipeCoreRow.holds Tryz.pinned (OpenSpec.ofChange fnExactPipeCoreSpec)

/-- ITS FALSE NEIGHBOUR: 'it returns false'. Refute it at one input. -/
def fnExactPipeCoreWrong : ChangeSpec := { name := "fnExactPipeCore", fn := fun _ => fun
  | [d] => { results := [.lit (.bool false)], args := [d] }
  | _ => none }
def FnExactPipeCoreWrongFalsely : Prop := fnExactPipeCoreRow.holds Tryz.pinned (OpenSpec.ofChange fnExactPipeCoreWrong)

/-- 'laws.FnExactRunPasses': WHATEVER THE INPUT: true; the input reads as it did. -/
def fnExactRunPassesSpec : ChangeSpec := { name := "fnExactRunPasses", fn := fun _ => fun
  | [d1, d2] => { results := [.lit (.bool true)], args := [d1, d2] }
  | _ => none }
def fnExactRunPassesRow : OpenClaim := { program := "ytcejfdfmgmcinaagreat", sum := "12244c587b81719163b862e15a48d24b0f57c1ca4e43b7e3f67a2436c3f3de7a", func := "loop.example/g00166/laws.FnExactRunPasses", spec := "fnExactRunPasses", inPlace := ["internal/bytealg.abigen_runtime_cmpstring"], unfollowed := true, recurses := true, apart := false }
def FnExactRunPassesSaid : Prop := fnExactRunPassesRow.holds Tryz.pinned (OpenSpec.ofChange fnExactRunPassesSpec)

/-- ITS FALSE NEIGHBOUR: 'it returns false'. Refute it at one input. -/
def fnExactRunPassesWrong : ChangeSpec := { name := "fnExactRunPasses", fn := fun _ => fun
  | [d1, d2] => { results := [.lit (.bool false)], args := [d1, d2] }
  | _ => none }
def FnExactRunPassesWrongFalsely : Prop := fnExactRunPassesRow.holds Tryz.pinned (OpenSpec.ofChange fnExactRunPassesWrong)

/-- 'laws.FnExactRunCode': WHATEVER THE INPUT: true; the input reads as it did. -/
def fnExactRunCodeSpec : ChangeSpec := { name := "fnExactRunCode", fn := fun _ => fun
  | [d1, d2, d3, d4] => { results := [.lit (.bool true)], args := [d1, d2, d3, d4] }
  | _ => none }
def fnExactRunCodeRow : OpenClaim := { program := "ytcejfdfmgmcinaagreat", sum := "12244c587b81719163b862e15a48d24b0f57c1ca4e43b7e3f67a2436c3f3de7a", func := "loop.example/g00166/laws.FnExactRunCode", spec := "fnExactRunCode", inPlace := ["internal/bytealg.abigen_runtime_cmpstring"], unfollowed := true, recurses := true, apart := false }
def FnExactRunCodeSaid : Prop := fnExactRunCodeRow.holds Tryz.pinned (OpenSpec.ofChange fnExactRunCodeSpec)

/-- ITS FALSE NEIGHBOUR: 'it returns false'. Refute it at one input. -/
def fnExactRunCodeWrong : ChangeSpec := { name := "fnExactRunCode", fn := fun _ => fun
  | [d1, d2, d3, d4] => { results := [.lit (.bool false)], args := [d1, d2, d3, d4] }
  | _ => none }
def FnExactRunCodeWrongFalsely : Prop := fnExactRunCodeRow.holds Tryz.pinned (OpenSpec.ofChange fnExactRunCodeWrong)

/-- 'laws.FnExactRunFirst': WHATEVER THE INPUT: true; the input reads as it did. -/
def fnExactRunFirstSpec : ChangeSpec := { name := "fnExactRunFirst", fn := fun _ => fun
  | [d1, d2, d3, d4] => { results := [.lit (.bool true)], args := [d1, d2, d3, d4] }
  | _ => none }
def fnExactRunFirstRow : OpenClaim := { program := "ytcejfdfmgmcinaagreat", sum := "12244c587b81719163b862e15a48d24b0f57c1ca4e43b7e3f67a2436c3f3de7a", func := "loop.example/g00166/laws.FnExactRunFirst", spec := "fnExactRunFirst", inPlace := ["internal/bytealg.abigen_runtime_cmpstring"], unfollowed := true, recurses := true, apart := false }
def FnExactRunFirstSaid : Prop := fnExactRunFirstRow.holds Tryz.pinned (OpenSpec.ofChange fnExactRunFirstSpec)

/-- ITS FALSE NEIGHBOUR: 'it returns false'. Refute it at one input. -/
def fnExactRunFirstWrong : ChangeSpec := { name := "fnExactRunFirst", fn := fun _ => fun
  | [d1, d2, d3, d4] => { results := [.lit (.bool false)], args := [d1, d2, d3, d4] }
  | _ => none }
def FnExactRunFirstWrongFalsely : Prop := fnExactRunFirstRow.holds Tryz.pinned (OpenSpec.ofChange fnExactRunFirstWrong)

/-- 'laws.FnSteps': WHATEVER THE INPUT: true; the input reads as it did. -/
def fnStepsSpec : ChangeSpec := { name := "fnSteps", fn := fun _ => fun
  | [d] => { results := [.lit (.bool true)], args := [d] }
  | _ => none }
def fnStepsRow : OpenClaim := { program := "ytcejfdfmgmcinaagreat", sum := "12244c587b81719163b862e15a48d24b0f57c1ca4e43b7e3f67a2436c3f3de7a", func := "loop.example/g00166/laws.FnSteps", spec := "fnSteps", inPlace := ["internal/bytealg.abigen_runtime_cmpstring"], unfollowed := true, recurses := true, apart := false }
def FnStepsSaid : Prop := fnStepsRow.holds Tryz.pinned (OpenSpec.ofChange fnStepsSpec)

/-- ITS FALSE NEIGHBOUR: 'it returns false'. Refute it at one input. -/
def fnStepsWrong : ChangeSpec := { name := "fnSteps", fn := fun _ => fun
  | [d] => { results := [.lit (.bool false)], args := [d] }
  | _ => none }
def FnStepsWrongFalsely : Prop := fnStepsRow.holds Tryz.pinned (OpenSpec.ofChange fnStepsWrong)

/-- 'laws.FnPeeps': WHATEVER THE INPUT: true; the input reads as it did. -/
def fnPeepsSpec : ChangeSpec := { name := "fnPeeps", fn := fun _ => fun
  | [d] => { results := [.lit (.bool true)], args := [d] }
  | _ => none }
def fnPeepsRow : OpenClaim := { program := "ytcejfdfmgmcinaagreat", sum := "12244c587b81719163b862e15a48d24b0f57c1ca4e43b7e3f67a2436c3f3de7a", func := "loop.example/g00166/laws.FnPeeps", spec := "fnPeeps", inPlace := ["internal/bytealg.abigen_runtime_cmpstring"], unfollowed := true, recurses := true, apart := false }
def FnPeepsSaid : Prop := fnPeepsRow.holds Tryz.pinned (OpenSpec.ofChange fnPeepsSpec)

/-- ITS FALSE NEIGHBOUR: 'it returns false'. Refute it at one input. -/
def fnPeepsWrong : ChangeSpec := { name := "fnPeeps", fn := fun _ => fun
  | [d] => { results := [.lit (.bool false)], args := [d] }
  | _ => none }
def FnPeepsWrongFalsely : Prop := fnPeepsRow.holds Tryz.pinned (OpenSpec.ofChange fnPeepsWrong)

/- THE SECOND FORM. 'bulk': how many values and letters a reading holds, each counted each time it is reached (what is shared counts as often as it is met; a slice's spare places count too). A statement '..UptoSaid' is the law's where the arguments, and the package variables that the reading takes, are together of bulk at most 1048576: NARROWER than '..Said'. Prove '..Said' where nothing that the law and all that it calls make is longer than what came in: it says more and counts as full. Else prove '..UptoSaid'. A law counts once. -/
mutual
def uptoBulk {H : Type} : DataW H → Nat
  | .lit (.string bytes) => bytes.length + 1
  | .lit _ => 1
  | .nil => 1
  | .ptr d => uptoBulk d + 1
  | .slice elems spare => uptoBulkAll elems + uptoBulkAll spare + 1
  | .agg parts => uptoBulkAll parts + 1
  | .iface _ d => uptoBulk d + 1
  | .map entries => uptoBulkEntries entries + 1
  | .held _ => 1
def uptoBulkAll {H : Type} : List (DataW H) → Nat
  | [] => 0
  | d :: r => uptoBulk d + uptoBulkAll r
def uptoBulkEntries {H : Type} : List (Lit × DataW H) → Nat
  | [] => 0
  | x :: r => uptoBulkEntry x + uptoBulkEntries r
def uptoBulkEntry {H : Type} : Lit × DataW H → Nat
  | (.string bytes, d) => bytes.length + uptoBulk d + 1
  | (_, d) => uptoBulk d + 1
 end
def uptoSmall : (H : Type) → List (DataW H) → Bool := fun _ ds => decide (uptoBulkAll ds ≤ 1048576)
def OpenSpec.upto (s : _root_.Go.ChangeSpec) : _root_.Go.OpenSpec := { _root_.Go.OpenSpec.ofChange s with cond := some uptoSmall }

/-- 'laws.FnExactFoldCore', WHERE WHAT IT READS IS OF BULK AT MOST 1048576: true; the input reads as it did. -/
def fnExactFoldCoreUptoRow : OpenClaim := { program := "ytcejfdfmgmcinaagreat", sum := "12244c587b81719163b862e15a48d24b0f57c1ca4e43b7e3f67a2436c3f3de7a", func := "loop.example/g00166/laws.FnExactFoldCore", spec := "fnExactFoldCore", inPlace := ["internal/bytealg.abigen_runtime_cmpstring"], unfollowed := true, recurses := true, apart := false, narrowed := true }
def FnExactFoldCoreUptoSaid : Prop := fnExactFoldCoreUptoRow.holds Tryz.pinned (OpenSpec.upto fnExactFoldCoreSpec)

/-- 'laws.FnExactPipeCore', WHERE WHAT IT READS IS OF BULK AT MOST 1048576: true; the input reads as it did. -/
def fnExactPipeCoreUptoRow : OpenClaim := { program := "ytcejfdfmgmcinaagreat", sum := "12244c587b81719163b862e15a48d24b0f57c1ca4e43b7e3f67a2436c3f3de7a", func := "loop.example/g00166/laws.FnExactPipeCore", spec := "fnExactPipeCore", inPlace := ["internal/bytealg.abigen_runtime_cmpstring"], unfollowed := true, recurses := true, apart := false, narrowed := true }
def FnExactPipeCoreUptoSaid : Prop := fnExactPipeCoreUptoRow.holds Tryz.pinned (OpenSpec.upto fnExactPipeCoreSpec)

/-- 'laws.FnExactRunPasses', WHERE WHAT IT READS IS OF BULK AT MOST 1048576: true; the input reads as it did. -/
def fnExactRunPassesUptoRow : OpenClaim := { program := "ytcejfdfmgmcinaagreat", sum := "12244c587b81719163b862e15a48d24b0f57c1ca4e43b7e3f67a2436c3f3de7a", func := "loop.example/g00166/laws.FnExactRunPasses", spec := "fnExactRunPasses", inPlace := ["internal/bytealg.abigen_runtime_cmpstring"], unfollowed := true, recurses := true, apart := false, narrowed := true }
def FnExactRunPassesUptoSaid : Prop := fnExactRunPassesUptoRow.holds Tryz.pinned (OpenSpec.upto fnExactRunPassesSpec)

/-- 'laws.FnExactRunCode', WHERE WHAT IT READS IS OF BULK AT MOST 1048576: true; the input reads as it did. -/
def fnExactRunCodeUptoRow : OpenClaim := { program := "ytcejfdfmgmcinaagreat", sum := "12244c587b81719163b862e15a48d24b0f57c1ca4e43b7e3f67a2436c3f3de7a", func := "loop.example/g00166/laws.FnExactRunCode", spec := "fnExactRunCode", inPlace := ["internal/bytealg.abigen_runtime_cmpstring"], unfollowed := true, recurses := true, apart := false, narrowed := true }
def FnExactRunCodeUptoSaid : Prop := fnExactRunCodeUptoRow.holds Tryz.pinned (OpenSpec.upto fnExactRunCodeSpec)

/-- 'laws.FnExactRunFirst', WHERE WHAT IT READS IS OF BULK AT MOST 1048576: true; the input reads as it did. -/
def fnExactRunFirstUptoRow : OpenClaim := { program := "ytcejfdfmgmcinaagreat", sum := "12244c587b81719163b862e15a48d24b0f57c1ca4e43b7e3f67a2436c3f3de7a", func := "loop.example/g00166/laws.FnExactRunFirst", spec := "fnExactRunFirst", inPlace := ["internal/bytealg.abigen_runtime_cmpstring"], unfollowed := true, recurses := true, apart := false, narrowed := true }
def FnExactRunFirstUptoSaid : Prop := fnExactRunFirstUptoRow.holds Tryz.pinned (OpenSpec.upto fnExactRunFirstSpec)

/-- 'laws.FnSteps', WHERE WHAT IT READS IS OF BULK AT MOST 1048576: true; the input reads as it did. -/
def fnStepsUptoRow : OpenClaim := { program := "ytcejfdfmgmcinaagreat", sum := "12244c587b81719163b862e15a48d24b0f57c1ca4e43b7e3f67a2436c3f3de7a", func := "loop.example/g00166/laws.FnSteps", spec := "fnSteps", inPlace := ["internal/bytealg.abigen_runtime_cmpstring"], unfollowed := true, recurses := true, apart := false, narrowed := true }
def FnStepsUptoSaid : Prop := fnStepsUptoRow.holds Tryz.pinned (OpenSpec.upto fnStepsSpec)

/-- 'laws.FnPeeps', WHERE WHAT IT READS IS OF BULK AT MOST 1048576: true; the input reads as it did. -/
def fnPeepsUptoRow : OpenClaim := { program := "ytcejfdfmgmcinaagreat", sum := "12244c587b81719163b862e15a48d24b0f57c1ca4e43b7e3f67a2436c3f3de7a", func := "loop.example/g00166/laws.FnPeeps", spec := "fnPeeps", inPlace := ["internal/bytealg.abigen_runtime_cmpstring"], unfollowed := true, recurses := true, apart := false, narrowed := true }
def FnPeepsUptoSaid : Prop := fnPeepsUptoRow.holds Tryz.pinned (OpenSpec.upto fnPeepsSpec)

end Rows
end Go.Proofs.YtcejfdfmgmcinaaGreat
