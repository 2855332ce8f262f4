/-
  No cell of these rows narrows 'for every input' (looked for: loops, veiled, ifaces, maps, wideKeys, modest, calm, conditions, laid).
  DERIVED. THE GIVEN ROWS OF THIS SEAT. 4 by the template 'for every input the law returns true; each argument reads behind the call as it read before'; 0 by the template 'total and deterministic' (their statements: YtioaieacogoemaaGreatTotals.lean).
  GIVEN WITH THE SEED: the statements are not yours to turn. If you find one false, say at which input.
  Laid BY PROGRAM, IN A SANDBOX (cutbox-rows.mjs): the forced cells as the released guide's own fill.sh prints them over the translation 467c641eca037830… (all of the seat's roots in one cut). By AI agents, Wed Nov 11 2026. No macro, syntax, notation, axiom, sorry.
-/
import Derived.Test.YtioaieacogoemaaGreatChecked
import GoSem.Claim
import GoSem.ClaimJoined
import GoSem.ClaimMapViews
import Derived.JoinedTies
import Derived.KernelRfl
namespace Go.Proofs.YtioaieacogoemaaGreat
/- THE CELL 'sum', in the pinned program and in every row, IS THE sha256 OF THE DUMP (.gsa) THAT YtioaieacogoemaaGreatProg.lean LOADS. Nothing in Lean hashes anything: it is a label: what it is worth is what the hold of that sum in a sandbox is worth. -/
noncomputable def Tryz.pinned : Pinned := { name := "ytioaieacogoemaagreat", sum := "467c641eca037830c4b8512ed82dc98c6071abdf6922de72315c41067bb7feac", checked := Tryz.checked }
namespace Rows
def none {H : Type} : Left H := { results := [], args := [] }

/-- 'laws.FnExactDropPath': WHATEVER THE INPUT: true; the input reads as it did. -/
def fnExactDropPathSpec : ChangeSpec := { name := "fnExactDropPath", fn := fun _ => fun
  | [d1, d2] => { results := [.lit (.bool true)], args := [d1, d2] }
  | _ => none }
def fnExactDropPathRow : OpenClaim := { program := "ytioaieacogoemaagreat", sum := "467c641eca037830c4b8512ed82dc98c6071abdf6922de72315c41067bb7feac", func := "loop.example/g00166/laws.FnExactDropPath", spec := "fnExactDropPath", unfollowed := true, recurses := true, apart := false }
def FnExactDropPathSaid : Prop := fnExactDropPathRow.holds Tryz.pinned (OpenSpec.ofChange fnExactDropPathSpec)

/-- ITS FALSE NEIGHBOUR: 'it returns false'. Refute it at one input. -/
def fnExactDropPathWrong : ChangeSpec := { name := "fnExactDropPath", fn := fun _ => fun
  | [d1, d2] => { results := [.lit (.bool false)], args := [d1, d2] }
  | _ => none }
def FnExactDropPathWrongFalsely : Prop := fnExactDropPathRow.holds Tryz.pinned (OpenSpec.ofChange fnExactDropPathWrong)

/-- 'laws.FnExactApplyEdits': WHATEVER THE INPUT: true; the input reads as it did. -/
def fnExactApplyEditsSpec : ChangeSpec := { name := "fnExactApplyEdits", fn := fun _ => fun
  | [d1, d2] => { results := [.lit (.bool true)], args := [d1, d2] }
  | _ => none }
def fnExactApplyEditsRow : OpenClaim := { program := "ytioaieacogoemaagreat", sum := "467c641eca037830c4b8512ed82dc98c6071abdf6922de72315c41067bb7feac", func := "loop.example/g00166/laws.FnExactApplyEdits", spec := "fnExactApplyEdits", unfollowed := true, recurses := true, apart := false }
def FnExactApplyEditsSaid : Prop := fnExactApplyEditsRow.holds Tryz.pinned (OpenSpec.ofChange fnExactApplyEditsSpec)

/-- ITS FALSE NEIGHBOUR: 'it returns false'. Refute it at one input. -/
def fnExactApplyEditsWrong : ChangeSpec := { name := "fnExactApplyEdits", fn := fun _ => fun
  | [d1, d2] => { results := [.lit (.bool false)], args := [d1, d2] }
  | _ => none }
def FnExactApplyEditsWrongFalsely : Prop := fnExactApplyEditsRow.holds Tryz.pinned (OpenSpec.ofChange fnExactApplyEditsWrong)

/-- 'laws.FnExactDiffValues': WHATEVER THE INPUT: true; the input reads as it did. -/
def fnExactDiffValuesSpec : ChangeSpec := { name := "fnExactDiffValues", fn := fun _ => fun
  | [d1, d2] => { results := [.lit (.bool true)], args := [d1, d2] }
  | _ => none }
def fnExactDiffValuesRow : OpenClaim := { program := "ytioaieacogoemaagreat", sum := "467c641eca037830c4b8512ed82dc98c6071abdf6922de72315c41067bb7feac", func := "loop.example/g00166/laws.FnExactDiffValues", spec := "fnExactDiffValues", inPlace := ["internal/bytealg.abigen_runtime_cmpstring"], recurses := true, apart := false }
def FnExactDiffValuesSaid : Prop := fnExactDiffValuesRow.holds Tryz.pinned (OpenSpec.ofChange fnExactDiffValuesSpec)

/-- ITS FALSE NEIGHBOUR: 'it returns false'. Refute it at one input. -/
def fnExactDiffValuesWrong : ChangeSpec := { name := "fnExactDiffValues", fn := fun _ => fun
  | [d1, d2] => { results := [.lit (.bool false)], args := [d1, d2] }
  | _ => none }
def FnExactDiffValuesWrongFalsely : Prop := fnExactDiffValuesRow.holds Tryz.pinned (OpenSpec.ofChange fnExactDiffValuesWrong)

/-- 'laws.FnExactBinary': WHATEVER THE INPUT: true; the input reads as it did. -/
def fnExactBinarySpec : ChangeSpec := { name := "fnExactBinary", fn := fun _ => fun
  | [d1, d2, d3] => { results := [.lit (.bool true)], args := [d1, d2, d3] }
  | _ => none }
def fnExactBinaryRow : OpenClaim := { program := "ytioaieacogoemaagreat", sum := "467c641eca037830c4b8512ed82dc98c6071abdf6922de72315c41067bb7feac", func := "loop.example/g00166/laws.FnExactBinary", spec := "fnExactBinary", inPlace := ["internal/bytealg.abigen_runtime_cmpstring"], unfollowed := true, recurses := true, apart := false }
def FnExactBinarySaid : Prop := fnExactBinaryRow.holds Tryz.pinned (OpenSpec.ofChange fnExactBinarySpec)

/-- ITS FALSE NEIGHBOUR: 'it returns false'. Refute it at one input. -/
def fnExactBinaryWrong : ChangeSpec := { name := "fnExactBinary", fn := fun _ => fun
  | [d1, d2, d3] => { results := [.lit (.bool false)], args := [d1, d2, d3] }
  | _ => none }
def FnExactBinaryWrongFalsely : Prop := fnExactBinaryRow.holds Tryz.pinned (OpenSpec.ofChange fnExactBinaryWrong)

/- THE SECOND FORM. 'bulk': how many values and letters a reading holds, each counted each time it is reached (what is shared counts as often as it is met; a slice's spare places count too). A statement '..UptoSaid' is the law's where the arguments, and the package variables that the reading takes, are together of bulk at most 1048576: NARROWER than '..Said'. Prove '..Said' where nothing that the law and all that it calls make is longer than what came in: it says more and counts as full. Else prove '..UptoSaid'. A law counts once. -/
mutual
def uptoBulk {H : Type} : DataW H → Nat
  | .lit (.string bytes) => bytes.length + 1
  | .lit _ => 1
  | .nil => 1
  | .ptr d => uptoBulk d + 1
  | .slice elems spare => uptoBulkAll elems + uptoBulkAll spare + 1
  | .agg parts => uptoBulkAll parts + 1
  | .iface _ d => uptoBulk d + 1
  | .map entries => uptoBulkEntries entries + 1
  | .held _ => 1
def uptoBulkAll {H : Type} : List (DataW H) → Nat
  | [] => 0
  | d :: r => uptoBulk d + uptoBulkAll r
def uptoBulkEntries {H : Type} : List (Lit × DataW H) → Nat
  | [] => 0
  | x :: r => uptoBulkEntry x + uptoBulkEntries r
def uptoBulkEntry {H : Type} : Lit × DataW H → Nat
  | (.string bytes, d) => bytes.length + uptoBulk d + 1
  | (_, d) => uptoBulk d + 1
 end
def uptoSmall : (H : Type) → List (DataW H) → Bool := fun _ ds => decide (uptoBulkAll ds ≤ 1048576)
def OpenSpec.upto (s : _root_.Go.ChangeSpec) : _root_.Go.OpenSpec := { _root_.Go.OpenSpec.ofChange s with cond := some uptoSmall }

/-- 'laws.FnExactDropPath', WHERE WHAT IT READS IS OF BULK AT MOST 1048576: true; the input reads as it did. -/
def fnExactDropPathUptoRow : OpenClaim := { program := "ytioaieacogoemaagreat", sum := "467c641eca037830c4b8512ed82dc98c6071abdf6922de72315c41067bb7feac", func := "loop.example/g00166/laws.FnExactDropPath", spec := "fnExactDropPath", unfollowed := true, recurses := true, apart := false, narrowed := true }
def FnExactDropPathUptoSaid : Prop := fnExactDropPathUptoRow.holds Tryz.pinned (OpenSpec.upto fnExactDropPathSpec)

/-- 'laws.FnExactApplyEdits', WHERE WHAT IT READS IS OF BULK AT MOST 1048576: true; the input reads as it did. -/
def fnExactApplyEditsUptoRow : OpenClaim := { program := "ytioaieacogoemaagreat", sum := "467c641eca037830c4b8512ed82dc98c6071abdf6922de72315c41067bb7feac", func := "loop.example/g00166/laws.FnExactApplyEdits", spec := "fnExactApplyEdits", unfollowed := true, recurses := true, apart := false, narrowed := true }
def FnExactApplyEditsUptoSaid : Prop := fnExactApplyEditsUptoRow.holds Tryz.pinned (OpenSpec.upto fnExactApplyEditsSpec)

/-- 'laws.FnExactDiffValues', WHERE WHAT IT READS IS OF BULK AT MOST 1048576: true; the input reads as it did. -/
def fnExactDiffValuesUptoRow : OpenClaim := { program := "ytioaieacogoemaagreat", sum := "467c641eca037830c4b8512ed82dc98c6071abdf6922de72315c41067bb7feac", func := "loop.example/g00166/laws.FnExactDiffValues", spec := "fnExactDiffValues", inPlace := ["internal/bytealg.abigen_runtime_cmpstring"], recurses := true, apart := false, narrowed := true }
def FnExactDiffValuesUptoSaid : Prop := fnExactDiffValuesUptoRow.holds Tryz.pinned (OpenSpec.upto fnExactDiffValuesSpec)

/-- 'laws.FnExactBinary', WHERE WHAT IT READS IS OF BULK AT MOST 1048576: true; the input reads as it did. -/
def fnExactBinaryUptoRow : OpenClaim := { program := "ytioaieacogoemaagreat", sum := "467c641eca037830c4b8512ed82dc98c6071abdf6922de72315c41067bb7feac", func := "loop.example/g00166/laws.FnExactBinary", spec := "fnExactBinary", inPlace := ["internal/bytealg.abigen_runtime_cmpstring"], unfollowed := true, recurses := true, apart := false, narrowed := true }
def FnExactBinaryUptoSaid : Prop := fnExactBinaryUptoRow.holds Tryz.pinned (OpenSpec.upto fnExactBinarySpec)

end Rows
end Go.Proofs.YtioaieacogoemaaGreat
