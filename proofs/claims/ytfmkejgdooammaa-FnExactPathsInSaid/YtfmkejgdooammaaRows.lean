/-
  No cell of these rows narrows 'for every input' (looked for: loops, veiled, ifaces, maps, wideKeys, modest, calm, conditions, laid).
  DERIVED. THE GIVEN ROWS OF THIS SEAT. 3 by the template 'for every input the law returns true; each argument reads behind the call as it read before'; 0 by the template 'total and deterministic' (their statements: YtfmkejgdooammaaTotals.lean).
  GIVEN WITH THE SEED: the statements are not yours to turn. If you find one false, say at which input.
  Laid BY PROGRAM, IN A SANDBOX (cutbox-rows.mjs): the forced cells as the released guide's own fill.sh prints them over the translation 777bc112ab21fd82… (all of the seat's roots in one cut). By AI agents, Wed Nov 11 2026. No macro, syntax, notation, axiom, sorry.
-/
import Derived.Test.YtfmkejgdooammaaChecked
import GoSem.Claim
import GoSem.ClaimJoined
import GoSem.ClaimMapViews
import Derived.JoinedTies
import Derived.KernelRfl
namespace Go.Proofs.Ytfmkejgdooammaa
/- THE CELL 'sum', in the pinned program and in every row, IS THE sha256 OF THE DUMP (.gsa) THAT YtfmkejgdooammaaProg.lean LOADS. Nothing in Lean hashes anything: it is a label: what it is worth is what the hold of that sum in a sandbox is worth. -/
noncomputable def Try.pinned : Pinned := { name := "ytfmkejgdooammaa", sum := "777bc112ab21fd82bed6938ae62f666654c32325a8f7a42eeb7194080931d1df", checked := Try.checked }
namespace Rows
def none {H : Type} : Left H := { results := [], args := [] }

/-- 'laws.FnExactPathFault': WHATEVER THE INPUT: true; the input reads as it did. -/
def fnExactPathFaultSpec : ChangeSpec := { name := "fnExactPathFault", fn := fun _ => fun
  | [d] => { results := [.lit (.bool true)], args := [d] }
  | _ => none }
def fnExactPathFaultRow : OpenClaim := { program := "ytfmkejgdooammaa", sum := "777bc112ab21fd82bed6938ae62f666654c32325a8f7a42eeb7194080931d1df", func := "loop.example/g00166/laws.FnExactPathFault", spec := "fnExactPathFault", unfollowed := true, recurses := true, apart := false }
def FnExactPathFaultSaid : Prop := fnExactPathFaultRow.holds Try.pinned (OpenSpec.ofChange fnExactPathFaultSpec)

/-- ITS FALSE NEIGHBOUR: 'it returns false'. Refute it at one input. -/
def fnExactPathFaultWrong : ChangeSpec := { name := "fnExactPathFault", fn := fun _ => fun
  | [d] => { results := [.lit (.bool false)], args := [d] }
  | _ => none }
def FnExactPathFaultWrongFalsely : Prop := fnExactPathFaultRow.holds Try.pinned (OpenSpec.ofChange fnExactPathFaultWrong)

/-- 'laws.FnExactEditsFault': WHATEVER THE INPUT: true; the input reads as it did. -/
def fnExactEditsFaultSpec : ChangeSpec := { name := "fnExactEditsFault", fn := fun _ => fun
  | [d] => { results := [.lit (.bool true)], args := [d] }
  | _ => none }
def fnExactEditsFaultRow : OpenClaim := { program := "ytfmkejgdooammaa", sum := "777bc112ab21fd82bed6938ae62f666654c32325a8f7a42eeb7194080931d1df", func := "loop.example/g00166/laws.FnExactEditsFault", spec := "fnExactEditsFault", unfollowed := true, recurses := true, apart := false }
def FnExactEditsFaultSaid : Prop := fnExactEditsFaultRow.holds Try.pinned (OpenSpec.ofChange fnExactEditsFaultSpec)

/-- ITS FALSE NEIGHBOUR: 'it returns false'. Refute it at one input. -/
def fnExactEditsFaultWrong : ChangeSpec := { name := "fnExactEditsFault", fn := fun _ => fun
  | [d] => { results := [.lit (.bool false)], args := [d] }
  | _ => none }
def FnExactEditsFaultWrongFalsely : Prop := fnExactEditsFaultRow.holds Try.pinned (OpenSpec.ofChange fnExactEditsFaultWrong)

/-- 'laws.FnExactPathsIn': WHATEVER THE INPUT: true; the input reads as it did. -/
def fnExactPathsInSpec : ChangeSpec := { name := "fnExactPathsIn", fn := fun _ => fun
  | [d] => { results := [.lit (.bool true)], args := [d] }
  | _ => none }
def fnExactPathsInRow : OpenClaim := { program := "ytfmkejgdooammaa", sum := "777bc112ab21fd82bed6938ae62f666654c32325a8f7a42eeb7194080931d1df", func := "loop.example/g00166/laws.FnExactPathsIn", spec := "fnExactPathsIn", recurses := true, apart := false }
def FnExactPathsInSaid : Prop := fnExactPathsInRow.holds Try.pinned (OpenSpec.ofChange fnExactPathsInSpec)

/-- ITS FALSE NEIGHBOUR: 'it returns false'. Refute it at one input. -/
def fnExactPathsInWrong : ChangeSpec := { name := "fnExactPathsIn", fn := fun _ => fun
  | [d] => { results := [.lit (.bool false)], args := [d] }
  | _ => none }
def FnExactPathsInWrongFalsely : Prop := fnExactPathsInRow.holds Try.pinned (OpenSpec.ofChange fnExactPathsInWrong)

/- THE SECOND FORM. 'bulk': how many values and letters a reading holds, each counted each time it is reached (what is shared counts as often as it is met; a slice's spare places count too). A statement '..UptoSaid' is the law's where the arguments, and the package variables that the reading takes, are together of bulk at most 1048576: NARROWER than '..Said'. Prove '..Said' where nothing that the law and all that it calls make is longer than what came in: it says more and counts as full. Else prove '..UptoSaid'. A law counts once. -/
mutual
def uptoBulk {H : Type} : DataW H → Nat
  | .lit (.string bytes) => bytes.length + 1
  | .lit _ => 1
  | .nil => 1
  | .ptr d => uptoBulk d + 1
  | .slice elems spare => uptoBulkAll elems + uptoBulkAll spare + 1
  | .agg parts => uptoBulkAll parts + 1
  | .iface _ d => uptoBulk d + 1
  | .map entries => uptoBulkEntries entries + 1
  | .held _ => 1
def uptoBulkAll {H : Type} : List (DataW H) → Nat
  | [] => 0
  | d :: r => uptoBulk d + uptoBulkAll r
def uptoBulkEntries {H : Type} : List (Lit × DataW H) → Nat
  | [] => 0
  | x :: r => uptoBulkEntry x + uptoBulkEntries r
def uptoBulkEntry {H : Type} : Lit × DataW H → Nat
  | (.string bytes, d) => bytes.length + uptoBulk d + 1
  | (_, d) => uptoBulk d + 1
 end
def uptoSmall : (H : Type) → List (DataW H) → Bool := fun _ ds => decide (uptoBulkAll ds ≤ 1048576)
def OpenSpec.upto (s : _root_.Go.ChangeSpec) : _root_.Go.OpenSpec := { _root_.Go.OpenSpec.ofChange s with cond := some uptoSmall }

/-- 'laws.FnExactPathFault', WHERE WHAT IT READS IS OF BULK AT MOST 1048576: true; the input reads as it did. -/
def fnExactPathFaultUptoRow : OpenClaim := { program := "ytfmkejgdooammaa", sum := "777bc112ab21fd82bed6938ae62f666654c32325a8f7a42eeb7194080931d1df", func := "loop.example/g00166/laws.FnExactPathFault", spec := "fnExactPathFault", unfollowed := true, recurses := true, apart := false, narrowed := true }
def FnExactPathFaultUptoSaid : Prop := fnExactPathFaultUptoRow.holds Try.pinned (OpenSpec.upto fnExactPathFaultSpec)

/-- 'laws.FnExactEditsFault', WHERE WHAT IT READS IS OF BULK AT MOST 1048576: true; the input reads as it did. -/
def fnExactEditsFaultUptoRow : OpenClaim := { program := "ytfmkejgdooammaa", sum := "777bc112ab21fd82bed6938ae62f666654c32325a8f7a42eeb7194080931d1df", func := "loop.example/g00166/laws.FnExactEditsFault", spec := "fnExactEditsFault", unfollowed := true, recurses := true, apart := false, narrowed := true }
def FnExactEditsFaultUptoSaid : Prop := fnExactEditsFaultUptoRow.holds Try.pinned (OpenSpec.upto fnExactEditsFaultSpec)

/-- 'laws.FnExactPathsIn', WHERE WHAT IT READS IS OF BULK AT MOST 1048576: true; the input reads as it did. -/
def fnExactPathsInUptoRow : OpenClaim := { program := "ytfmkejgdooammaa", sum := "777bc112ab21fd82bed6938ae62f666654c32325a8f7a42eeb7194080931d1df", func := "loop.example/g00166/laws.FnExactPathsIn", spec := "fnExactPathsIn", recurses := true, apart := false, narrowed := true }
def FnExactPathsInUptoSaid : Prop := fnExactPathsInUptoRow.holds Try.pinned (OpenSpec.upto fnExactPathsInSpec)

end Rows
end Go.Proofs.Ytfmkejgdooammaa
