/-
  No cell of these rows narrows 'for every input' (looked for: loops, veiled, ifaces, maps, wideKeys, modest, calm, conditions, laid).
  DERIVED. THE GIVEN ROWS OF THIS SEAT. 6 by the template 'for every input the law returns true; each argument reads behind the call as it read before'; 0 by the template 'total and deterministic' (their statements: YtioaieacogoemaaTotals.lean).
  GIVEN WITH THE SEED: the statements are not yours to turn. If you find one false, say at which input.
  Laid BY PROGRAM, IN A SANDBOX (cutbox-rows.mjs): the forced cells as the released guide's own fill.sh prints them over the translation e0bc5bc01e8c8e31… (all of the seat's roots in one cut). By AI agents, Wed Nov 11 2026. No macro, syntax, notation, axiom, sorry.
-/
import Derived.Test.YtioaieacogoemaaChecked
import GoSem.Claim
import GoSem.ClaimJoined
import GoSem.ClaimMapViews
import Derived.JoinedTies
import Derived.KernelRfl
namespace Go.Proofs.Ytioaieacogoemaa
/- THE CELL 'sum', in the pinned program and in every row, IS THE sha256 OF THE DUMP (.gsa) THAT YtioaieacogoemaaProg.lean LOADS. Nothing in Lean hashes anything: it is a label: what it is worth is what the hold of that sum in a sandbox is worth. -/
noncomputable def Try.pinned : Pinned := { name := "ytioaieacogoemaa", sum := "e0bc5bc01e8c8e31dab62436ea866c9227ae19869d2258e52e1b0d769d22472b", checked := Try.checked }
namespace Rows
def none {H : Type} : Left H := { results := [], args := [] }

/-- 'laws.FnExactCountSame': WHATEVER THE INPUT: true; the input reads as it did. -/
def fnExactCountSameSpec : ChangeSpec := { name := "fnExactCountSame", fn := fun _ => fun
  | [d1, d2] => { results := [.lit (.bool true)], args := [d1, d2] }
  | _ => none }
def fnExactCountSameRow : OpenClaim := { program := "ytioaieacogoemaa", sum := "e0bc5bc01e8c8e31dab62436ea866c9227ae19869d2258e52e1b0d769d22472b", func := "loop.example/g00166/laws.FnExactCountSame", spec := "fnExactCountSame", inPlace := ["internal/bytealg.abigen_runtime_cmpstring"], unfollowed := true, recurses := true, apart := false }
def FnExactCountSameSaid : Prop := fnExactCountSameRow.holds Try.pinned (OpenSpec.ofChange fnExactCountSameSpec)

/-- ITS FALSE NEIGHBOUR: 'it returns false'. Refute it at one input. -/
def fnExactCountSameWrong : ChangeSpec := { name := "fnExactCountSame", fn := fun _ => fun
  | [d1, d2] => { results := [.lit (.bool false)], args := [d1, d2] }
  | _ => none }
def FnExactCountSameWrongFalsely : Prop := fnExactCountSameRow.holds Try.pinned (OpenSpec.ofChange fnExactCountSameWrong)

/-- 'laws.FnExactMergeValues': WHATEVER THE INPUT: true; the input reads as it did. -/
def fnExactMergeValuesSpec : ChangeSpec := { name := "fnExactMergeValues", fn := fun _ => fun
  | [d1, d2] => { results := [.lit (.bool true)], args := [d1, d2] }
  | _ => none }
def fnExactMergeValuesRow : OpenClaim := { program := "ytioaieacogoemaa", sum := "e0bc5bc01e8c8e31dab62436ea866c9227ae19869d2258e52e1b0d769d22472b", func := "loop.example/g00166/laws.FnExactMergeValues", spec := "fnExactMergeValues", unfollowed := true, recurses := true, apart := false }
def FnExactMergeValuesSaid : Prop := fnExactMergeValuesRow.holds Try.pinned (OpenSpec.ofChange fnExactMergeValuesSpec)

/-- ITS FALSE NEIGHBOUR: 'it returns false'. Refute it at one input. -/
def fnExactMergeValuesWrong : ChangeSpec := { name := "fnExactMergeValues", fn := fun _ => fun
  | [d1, d2] => { results := [.lit (.bool false)], args := [d1, d2] }
  | _ => none }
def FnExactMergeValuesWrongFalsely : Prop := fnExactMergeValuesRow.holds Try.pinned (OpenSpec.ofChange fnExactMergeValuesWrong)

/-- 'laws.FnExactSetPath': WHATEVER THE INPUT: true; the input reads as it did. -/
def fnExactSetPathSpec : ChangeSpec := { name := "fnExactSetPath", fn := fun _ => fun
  | [d1, d2, d3] => { results := [.lit (.bool true)], args := [d1, d2, d3] }
  | _ => none }
def fnExactSetPathRow : OpenClaim := { program := "ytioaieacogoemaa", sum := "e0bc5bc01e8c8e31dab62436ea866c9227ae19869d2258e52e1b0d769d22472b", func := "loop.example/g00166/laws.FnExactSetPath", spec := "fnExactSetPath", unfollowed := true, recurses := true, apart := false }
def FnExactSetPathSaid : Prop := fnExactSetPathRow.holds Try.pinned (OpenSpec.ofChange fnExactSetPathSpec)

/-- ITS FALSE NEIGHBOUR: 'it returns false'. Refute it at one input. -/
def fnExactSetPathWrong : ChangeSpec := { name := "fnExactSetPath", fn := fun _ => fun
  | [d1, d2, d3] => { results := [.lit (.bool false)], args := [d1, d2, d3] }
  | _ => none }
def FnExactSetPathWrongFalsely : Prop := fnExactSetPathRow.holds Try.pinned (OpenSpec.ofChange fnExactSetPathWrong)

/-- 'laws.FnExactHeightsOf': WHATEVER THE INPUT: true; the input reads as it did. -/
def fnExactHeightsOfSpec : ChangeSpec := { name := "fnExactHeightsOf", fn := fun _ => fun
  | [d1, d2] => { results := [.lit (.bool true)], args := [d1, d2] }
  | _ => none }
def fnExactHeightsOfRow : OpenClaim := { program := "ytioaieacogoemaa", sum := "e0bc5bc01e8c8e31dab62436ea866c9227ae19869d2258e52e1b0d769d22472b", func := "loop.example/g00166/laws.FnExactHeightsOf", spec := "fnExactHeightsOf", recurses := true, apart := false }
def FnExactHeightsOfSaid : Prop := fnExactHeightsOfRow.holds Try.pinned (OpenSpec.ofChange fnExactHeightsOfSpec)

/-- ITS FALSE NEIGHBOUR: 'it returns false'. Refute it at one input. -/
def fnExactHeightsOfWrong : ChangeSpec := { name := "fnExactHeightsOf", fn := fun _ => fun
  | [d1, d2] => { results := [.lit (.bool false)], args := [d1, d2] }
  | _ => none }
def FnExactHeightsOfWrongFalsely : Prop := fnExactHeightsOfRow.holds Try.pinned (OpenSpec.ofChange fnExactHeightsOfWrong)

/-- 'laws.FnExactCodeFault': WHATEVER THE INPUT: true; the input reads as it did. -/
def fnExactCodeFaultSpec : ChangeSpec := { name := "fnExactCodeFault", fn := fun _ => fun
  | [d1, d2] => { results := [.lit (.bool true)], args := [d1, d2] }
  | _ => none }
def fnExactCodeFaultRow : OpenClaim := { program := "ytioaieacogoemaa", sum := "e0bc5bc01e8c8e31dab62436ea866c9227ae19869d2258e52e1b0d769d22472b", func := "loop.example/g00166/laws.FnExactCodeFault", spec := "fnExactCodeFault", recurses := true, apart := false }
def FnExactCodeFaultSaid : Prop := fnExactCodeFaultRow.holds Try.pinned (OpenSpec.ofChange fnExactCodeFaultSpec)

/-- ITS FALSE NEIGHBOUR: 'it returns false'. Refute it at one input. -/
def fnExactCodeFaultWrong : ChangeSpec := { name := "fnExactCodeFault", fn := fun _ => fun
  | [d1, d2] => { results := [.lit (.bool false)], args := [d1, d2] }
  | _ => none }
def FnExactCodeFaultWrongFalsely : Prop := fnExactCodeFaultRow.holds Try.pinned (OpenSpec.ofChange fnExactCodeFaultWrong)

/-- 'laws.FnExactTargetsOf': WHATEVER THE INPUT: true; the input reads as it did. -/
def fnExactTargetsOfSpec : ChangeSpec := { name := "fnExactTargetsOf", fn := fun _ => fun
  | [d1, d2] => { results := [.lit (.bool true)], args := [d1, d2] }
  | _ => none }
def fnExactTargetsOfRow : OpenClaim := { program := "ytioaieacogoemaa", sum := "e0bc5bc01e8c8e31dab62436ea866c9227ae19869d2258e52e1b0d769d22472b", func := "loop.example/g00166/laws.FnExactTargetsOf", spec := "fnExactTargetsOf", recurses := true, apart := false }
def FnExactTargetsOfSaid : Prop := fnExactTargetsOfRow.holds Try.pinned (OpenSpec.ofChange fnExactTargetsOfSpec)

/-- ITS FALSE NEIGHBOUR: 'it returns false'. Refute it at one input. -/
def fnExactTargetsOfWrong : ChangeSpec := { name := "fnExactTargetsOf", fn := fun _ => fun
  | [d1, d2] => { results := [.lit (.bool false)], args := [d1, d2] }
  | _ => none }
def FnExactTargetsOfWrongFalsely : Prop := fnExactTargetsOfRow.holds Try.pinned (OpenSpec.ofChange fnExactTargetsOfWrong)

/- THE SECOND FORM. 'bulk': how many values and letters a reading holds, each counted each time it is reached (what is shared counts as often as it is met; a slice's spare places count too). A statement '..UptoSaid' is the law's where the arguments, and the package variables that the reading takes, are together of bulk at most 1048576: NARROWER than '..Said'. Prove '..Said' where nothing that the law and all that it calls make is longer than what came in: it says more and counts as full. Else prove '..UptoSaid'. A law counts once. -/
mutual
def uptoBulk {H : Type} : DataW H → Nat
  | .lit (.string bytes) => bytes.length + 1
  | .lit _ => 1
  | .nil => 1
  | .ptr d => uptoBulk d + 1
  | .slice elems spare => uptoBulkAll elems + uptoBulkAll spare + 1
  | .agg parts => uptoBulkAll parts + 1
  | .iface _ d => uptoBulk d + 1
  | .map entries => uptoBulkEntries entries + 1
  | .held _ => 1
def uptoBulkAll {H : Type} : List (DataW H) → Nat
  | [] => 0
  | d :: r => uptoBulk d + uptoBulkAll r
def uptoBulkEntries {H : Type} : List (Lit × DataW H) → Nat
  | [] => 0
  | x :: r => uptoBulkEntry x + uptoBulkEntries r
def uptoBulkEntry {H : Type} : Lit × DataW H → Nat
  | (.string bytes, d) => bytes.length + uptoBulk d + 1
  | (_, d) => uptoBulk d + 1
 end
def uptoSmall : (H : Type) → List (DataW H) → Bool := fun _ ds => decide (uptoBulkAll ds ≤ 1048576)
def OpenSpec.upto (s : _root_.Go.ChangeSpec) : _root_.Go.OpenSpec := { _root_.Go.OpenSpec.ofChange s with cond := some uptoSmall }

/-- 'laws.FnExactCountSame', WHERE WHAT IT READS IS OF BULK AT MOST 1048576: true; the input reads as it did. -/
def fnExactCountSameUptoRow : OpenClaim := { program := "ytioaieacogoemaa", sum := "e0bc5bc01e8c8e31dab62436ea866c9227ae19869d2258e52e1b0d769d22472b", func := "loop.example/g00166/laws.FnExactCountSame", spec := "fnExactCountSame", inPlace := ["internal/bytealg.abigen_runtime_cmpstring"], unfollowed := true, recurses := true, apart := false, narrowed := true }
def FnExactCountSameUptoSaid : Prop := fnExactCountSameUptoRow.holds Try.pinned (OpenSpec.upto fnExactCountSameSpec)

/-- 'laws.FnExactMergeValues', WHERE WHAT IT READS IS OF BULK AT MOST 1048576: true; the input reads as it did. -/
def fnExactMergeValuesUptoRow : OpenClaim := { program := "ytioaieacogoemaa", sum := "e0bc5bc01e8c8e31dab62436ea866c9227ae19869d2258e52e1b0d769d22472b", func := "loop.example/g00166/laws.FnExactMergeValues", spec := "fnExactMergeValues", unfollowed := true, recurses := true, apart := false, narrowed := true }
def FnExactMergeValuesUptoSaid : Prop := fnExactMergeValuesUptoRow.holds Try.pinned (OpenSpec.upto fnExactMergeValuesSpec)

/-- 'laws.FnExactSetPath', WHERE WHAT IT READS IS OF BULK AT MOST 1048576: true; the input reads as it did. -/
def fnExactSetPathUptoRow : OpenClaim := { program := "ytioaieacogoemaa", sum := "e0bc5bc01e8c8e31dab62436ea866c9227ae19869d2258e52e1b0d769d22472b", func := "loop.example/g00166/laws.FnExactSetPath", spec := "fnExactSetPath", unfollowed := true, recurses := true, apart := false, narrowed := true }
def FnExactSetPathUptoSaid : Prop := fnExactSetPathUptoRow.holds Try.pinned (OpenSpec.upto fnExactSetPathSpec)

/-- 'laws.FnExactHeightsOf', WHERE WHAT IT READS IS OF BULK AT MOST 1048576: true; the input reads as it did. -/
def fnExactHeightsOfUptoRow : OpenClaim := { program := "ytioaieacogoemaa", sum := "e0bc5bc01e8c8e31dab62436ea866c9227ae19869d2258e52e1b0d769d22472b", func := "loop.example/g00166/laws.FnExactHeightsOf", spec := "fnExactHeightsOf", recurses := true, apart := false, narrowed := true }
def FnExactHeightsOfUptoSaid : Prop := fnExactHeightsOfUptoRow.holds Try.pinned (OpenSpec.upto fnExactHeightsOfSpec)

/-- 'laws.FnExactCodeFault', WHERE WHAT IT READS IS OF BULK AT MOST 1048576: true; the input reads as it did. -/
def fnExactCodeFaultUptoRow : OpenClaim := { program := "ytioaieacogoemaa", sum := "e0bc5bc01e8c8e31dab62436ea866c9227ae19869d2258e52e1b0d769d22472b", func := "loop.example/g00166/laws.FnExactCodeFault", spec := "fnExactCodeFault", recurses := true, apart := false, narrowed := true }
def FnExactCodeFaultUptoSaid : Prop := fnExactCodeFaultUptoRow.holds Try.pinned (OpenSpec.upto fnExactCodeFaultSpec)

/-- 'laws.FnExactTargetsOf', WHERE WHAT IT READS IS OF BULK AT MOST 1048576: true; the input reads as it did. -/
def fnExactTargetsOfUptoRow : OpenClaim := { program := "ytioaieacogoemaa", sum := "e0bc5bc01e8c8e31dab62436ea866c9227ae19869d2258e52e1b0d769d22472b", func := "loop.example/g00166/laws.FnExactTargetsOf", spec := "fnExactTargetsOf", recurses := true, apart := false, narrowed := true }
def FnExactTargetsOfUptoSaid : Prop := fnExactTargetsOfUptoRow.holds Try.pinned (OpenSpec.upto fnExactTargetsOfSpec)

end Rows
end Go.Proofs.Ytioaieacogoemaa
