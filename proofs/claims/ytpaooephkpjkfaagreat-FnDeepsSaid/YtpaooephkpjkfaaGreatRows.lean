/-
  No cell of these rows narrows 'for every input' (looked for: loops, veiled, ifaces, maps, wideKeys, modest, calm, conditions, laid).
  DERIVED. THE GIVEN ROWS OF THIS SEAT. 5 by the template 'for every input the law returns true; each argument reads behind the call as it read before'; 0 by the template 'total and deterministic' (their statements: YtpaooephkpjkfaaGreatTotals.lean).
  GIVEN WITH THE SEED: the statements are not yours to turn. If you find one false, say at which input.
  Laid BY PROGRAM, IN A SANDBOX (cutbox-rows.mjs): the forced cells as the released guide's own fill.sh prints them over the translation bdb7ccaf6758cc36… (all of the seat's roots in one cut). By AI agents, Wed Nov 11 2026. No macro, syntax, notation, axiom, sorry.
-/
import Derived.Test.YtpaooephkpjkfaaGreatChecked
import GoSem.Claim
import GoSem.ClaimJoined
import GoSem.ClaimMapViews
import Derived.JoinedTies
import Derived.KernelRfl
namespace Go.Proofs.YtpaooephkpjkfaaGreat
/- THE CELL 'sum', in the pinned program and in every row, IS THE sha256 OF THE DUMP (.gsa) THAT YtpaooephkpjkfaaGreatProg.lean LOADS. Nothing in Lean hashes anything: it is a label: what it is worth is what the hold of that sum in a sandbox is worth. -/
noncomputable def Tryz.pinned : Pinned := { name := "ytpaooephkpjkfaagreat", sum := "bdb7ccaf6758cc366c6b35d6c5dfc7140da2c947bfdd2e88d18871179007a363", checked := Tryz.checked }
namespace Rows
def none {H : Type} : Left H := { results := [], args := [] }

/-- 'laws.FnDeeps': WHATEVER THE INPUT: true; the input reads as it did. -/
def fnDeepsSpec : ChangeSpec := { name := "fnDeeps", fn := fun _ => fun
  | [d] => { results := [.lit (.bool true)], args := [d] }
  | _ => none }
def fnDeepsRow : OpenClaim := { program := "ytpaooephkpjkfaagreat", sum := "bdb7ccaf6758cc366c6b35d6c5dfc7140da2c947bfdd2e88d18871179007a363", func := "loop.example/g00166/laws.FnDeeps", spec := "fnDeeps", inPlace := ["internal/bytealg.abigen_runtime_cmpstring"], unfollowed := true, recurses := true, apart := false }
def FnDeepsSaid : Prop := fnDeepsRow.holds Tryz.pinned (OpenSpec.ofChange fnDeepsSpec)

/-- ITS FALSE NEIGHBOUR: 'it returns false'. Refute it at one input. -/
def fnDeepsWrong : ChangeSpec := { name := "fnDeeps", fn := fun _ => fun
  | [d] => { results := [.lit (.bool false)], args := [d] }
  | _ => none }
def FnDeepsWrongFalsely : Prop := fnDeepsRow.holds Tryz.pinned (OpenSpec.ofChange fnDeepsWrong)

/-- 'laws.FnSums': WHATEVER THE INPUT: true; the input reads as it did. -/
def fnSumsSpec : ChangeSpec := { name := "fnSums", fn := fun _ => fun
  | [d] => { results := [.lit (.bool true)], args := [d] }
  | _ => none }
def fnSumsRow : OpenClaim := { program := "ytpaooephkpjkfaagreat", sum := "bdb7ccaf6758cc366c6b35d6c5dfc7140da2c947bfdd2e88d18871179007a363", func := "loop.example/g00166/laws.FnSums", spec := "fnSums", inPlace := ["internal/bytealg.abigen_runtime_cmpstring"], unfollowed := true, recurses := true, apart := false }
def FnSumsSaid : Prop := fnSumsRow.holds Tryz.pinned (OpenSpec.ofChange fnSumsSpec)

/-- ITS FALSE NEIGHBOUR: 'it returns false'. Refute it at one input. -/
def fnSumsWrong : ChangeSpec := { name := "fnSums", fn := fun _ => fun
  | [d] => { results := [.lit (.bool false)], args := [d] }
  | _ => none }
def FnSumsWrongFalsely : Prop := fnSumsRow.holds Tryz.pinned (OpenSpec.ofChange fnSumsWrong)

/-- 'laws.FnMerges': WHATEVER THE INPUT: true; the input reads as it did. -/
def fnMergesSpec : ChangeSpec := { name := "fnMerges", fn := fun _ => fun
  | [d] => { results := [.lit (.bool true)], args := [d] }
  | _ => none }
def fnMergesRow : OpenClaim := { program := "ytpaooephkpjkfaagreat", sum := "bdb7ccaf6758cc366c6b35d6c5dfc7140da2c947bfdd2e88d18871179007a363", func := "loop.example/g00166/laws.FnMerges", spec := "fnMerges", inPlace := ["internal/bytealg.abigen_runtime_cmpstring"], unfollowed := true, recurses := true, apart := false }
def FnMergesSaid : Prop := fnMergesRow.holds Tryz.pinned (OpenSpec.ofChange fnMergesSpec)

/-- ITS FALSE NEIGHBOUR: 'it returns false'. Refute it at one input. -/
def fnMergesWrong : ChangeSpec := { name := "fnMerges", fn := fun _ => fun
  | [d] => { results := [.lit (.bool false)], args := [d] }
  | _ => none }
def FnMergesWrongFalsely : Prop := fnMergesRow.holds Tryz.pinned (OpenSpec.ofChange fnMergesWrong)

/-- 'laws.FnPaths': WHATEVER THE INPUT: true; the input reads as it did. -/
def fnPathsSpec : ChangeSpec := { name := "fnPaths", fn := fun _ => fun
  | [d] => { results := [.lit (.bool true)], args := [d] }
  | _ => none }
def fnPathsRow : OpenClaim := { program := "ytpaooephkpjkfaagreat", sum := "bdb7ccaf6758cc366c6b35d6c5dfc7140da2c947bfdd2e88d18871179007a363", func := "loop.example/g00166/laws.FnPaths", spec := "fnPaths", inPlace := ["internal/bytealg.abigen_runtime_cmpstring"], unfollowed := true, recurses := true, apart := false }
def FnPathsSaid : Prop := fnPathsRow.holds Tryz.pinned (OpenSpec.ofChange fnPathsSpec)

/-- ITS FALSE NEIGHBOUR: 'it returns false'. Refute it at one input. -/
def fnPathsWrong : ChangeSpec := { name := "fnPaths", fn := fun _ => fun
  | [d] => { results := [.lit (.bool false)], args := [d] }
  | _ => none }
def FnPathsWrongFalsely : Prop := fnPathsRow.holds Tryz.pinned (OpenSpec.ofChange fnPathsWrong)

/-- 'laws.FnDiffs': WHATEVER THE INPUT: true; the input reads as it did. -/
def fnDiffsSpec : ChangeSpec := { name := "fnDiffs", fn := fun _ => fun
  | [d] => { results := [.lit (.bool true)], args := [d] }
  | _ => none }
def fnDiffsRow : OpenClaim := { program := "ytpaooephkpjkfaagreat", sum := "bdb7ccaf6758cc366c6b35d6c5dfc7140da2c947bfdd2e88d18871179007a363", func := "loop.example/g00166/laws.FnDiffs", spec := "fnDiffs", inPlace := ["internal/bytealg.abigen_runtime_cmpstring"], unfollowed := true, recurses := true, apart := false }
def FnDiffsSaid : Prop := fnDiffsRow.holds Tryz.pinned (OpenSpec.ofChange fnDiffsSpec)

/-- ITS FALSE NEIGHBOUR: 'it returns false'. Refute it at one input. -/
def fnDiffsWrong : ChangeSpec := { name := "fnDiffs", fn := fun _ => fun
  | [d] => { results := [.lit (.bool false)], args := [d] }
  | _ => none }
def FnDiffsWrongFalsely : Prop := fnDiffsRow.holds Tryz.pinned (OpenSpec.ofChange fnDiffsWrong)

/- THE SECOND FORM. 'bulk': how many values and letters a reading holds, each counted each time it is reached (what is shared counts as often as it is met; a slice's spare places count too). A statement '..UptoSaid' is the law's where the arguments, and the package variables that the reading takes, are together of bulk at most 1048576: NARROWER than '..Said'. Prove '..Said' where nothing that the law and all that it calls make is longer than what came in: it says more and counts as full. Else prove '..UptoSaid'. A law counts once. -/
mutual
def uptoBulk {H : Type} : DataW H → Nat
  | .lit (.string bytes) => bytes.length + 1
  | .lit _ => 1
  | .nil => 1
  | .ptr d => uptoBulk d + 1
  | .slice elems spare => uptoBulkAll elems + uptoBulkAll spare + 1
  | .agg parts => uptoBulkAll parts + 1
  | .iface _ d => uptoBulk d + 1
  | .map entries => uptoBulkEntries entries + 1
  | .held _ => 1
def uptoBulkAll {H : Type} : List (DataW H) → Nat
  | [] => 0
  | d :: r => uptoBulk d + uptoBulkAll r
def uptoBulkEntries {H : Type} : List (Lit × DataW H) → Nat
  | [] => 0
  | x :: r => uptoBulkEntry x + uptoBulkEntries r
def uptoBulkEntry {H : Type} : Lit × DataW H → Nat
  | (.string bytes, d) => bytes.length + uptoBulk d + 1
  | (_, d) => uptoBulk d + 1
 end
def uptoSmall : (H : Type) → List (DataW H) → Bool := fun _ ds => decide (uptoBulkAll ds ≤ 1048576)
def OpenSpec.upto (s : _root_.Go.ChangeSpec) : _root_.Go.OpenSpec := { _root_.Go.OpenSpec.ofChange s with cond := some uptoSmall }

/-- 'laws.FnDeeps', WHERE WHAT IT READS IS OF BULK AT MOST 1048576: true; the input reads as it did. -/
def fnDeepsUptoRow : OpenClaim := { program := "ytpaooephkpjkfaagreat", sum := "bdb7ccaf6758cc366c6b35d6c5dfc7140da2c947bfdd2e88d18871179007a363", func := "loop.example/g00166/laws.FnDeeps", spec := "fnDeeps", inPlace := ["internal/bytealg.abigen_runtime_cmpstring"], unfollowed := true, recurses := true, apart := false, narrowed := true }
def FnDeepsUptoSaid : Prop := fnDeepsUptoRow.holds Tryz.pinned (OpenSpec.upto fnDeepsSpec)

/-- 'laws.FnSums', WHERE WHAT IT READS IS OF BULK AT MOST 1048576: true; the input reads as it did. -/
def fnSumsUptoRow : OpenClaim := { program := "ytpaooephkpjkfaagreat", sum := "bdb7ccaf6758cc366c6b35d6c5dfc7140da2c947bfdd2e88d18871179007a363", func := "loop.example/g00166/laws.FnSums", spec := "fnSums", inPlace := ["internal/bytealg.abigen_runtime_cmpstring"], unfollowed := true, recurses := true, apart := false, narrowed := true }
def FnSumsUptoSaid : Prop := fnSumsUptoRow.holds Tryz.pinned (OpenSpec.upto fnSumsSpec)

/-- 'laws.FnMerges', WHERE WHAT IT READS IS OF BULK AT MOST 1048576: true; the input reads as it did. -/
def fnMergesUptoRow : OpenClaim := { program := "ytpaooephkpjkfaagreat", sum := "bdb7ccaf6758cc366c6b35d6c5dfc7140da2c947bfdd2e88d18871179007a363", func := "loop.example/g00166/laws.FnMerges", spec := "fnMerges", inPlace := ["internal/bytealg.abigen_runtime_cmpstring"], unfollowed := true, recurses := true, apart := false, narrowed := true }
def FnMergesUptoSaid : Prop := fnMergesUptoRow.holds Tryz.pinned (OpenSpec.upto fnMergesSpec)

/-- 'laws.FnPaths', WHERE WHAT IT READS IS OF BULK AT MOST 1048576: true; the input reads as it did. -/
def fnPathsUptoRow : OpenClaim := { program := "ytpaooephkpjkfaagreat", sum := "bdb7ccaf6758cc366c6b35d6c5dfc7140da2c947bfdd2e88d18871179007a363", func := "loop.example/g00166/laws.FnPaths", spec := "fnPaths", inPlace := ["internal/bytealg.abigen_runtime_cmpstring"], unfollowed := true, recurses := true, apart := false, narrowed := true }
def FnPathsUptoSaid : Prop := fnPathsUptoRow.holds Tryz.pinned (OpenSpec.upto fnPathsSpec)

/-- 'laws.FnDiffs', WHERE WHAT IT READS IS OF BULK AT MOST 1048576: true; the input reads as it did. -/
def fnDiffsUptoRow : OpenClaim := { program := "ytpaooephkpjkfaagreat", sum := "bdb7ccaf6758cc366c6b35d6c5dfc7140da2c947bfdd2e88d18871179007a363", func := "loop.example/g00166/laws.FnDiffs", spec := "fnDiffs", inPlace := ["internal/bytealg.abigen_runtime_cmpstring"], unfollowed := true, recurses := true, apart := false, narrowed := true }
def FnDiffsUptoSaid : Prop := fnDiffsUptoRow.holds Tryz.pinned (OpenSpec.upto fnDiffsSpec)

end Rows
end Go.Proofs.YtpaooephkpjkfaaGreat
