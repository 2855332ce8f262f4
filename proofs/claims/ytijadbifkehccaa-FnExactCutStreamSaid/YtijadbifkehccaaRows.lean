/-
  No cell of these rows narrows 'for every input' (looked for: loops, veiled, ifaces, maps, wideKeys, modest, calm, conditions, laid).
  DERIVED. THE GIVEN ROWS OF THIS SEAT. 6 by the template 'for every input the law returns true; each argument reads behind the call as it read before'; 0 by the template 'total and deterministic' (their statements: YtijadbifkehccaaTotals.lean).
  GIVEN WITH THE SEED: the statements are not yours to turn. If you find one false, say at which input.
  Laid BY PROGRAM, IN A SANDBOX (cutbox-rows.mjs): the forced cells as the released guide's own fill.sh prints them over the translation 7d8697c9dc133a88… (all of the seat's roots in one cut). By AI agents, Wed Nov 11 2026. No macro, syntax, notation, axiom, sorry.
-/
import Derived.Test.YtijadbifkehccaaChecked
import GoSem.Claim
import GoSem.ClaimJoined
import GoSem.ClaimMapViews
import Derived.JoinedTies
import Derived.KernelRfl
namespace Go.Proofs.Ytijadbifkehccaa
/- THE CELL 'sum', in the pinned program and in every row, IS THE sha256 OF THE DUMP (.gsa) THAT YtijadbifkehccaaProg.lean LOADS. Nothing in Lean hashes anything: it is a label: what it is worth is what the hold of that sum in a sandbox is worth. -/
noncomputable def Try.pinned : Pinned := { name := "ytijadbifkehccaa", sum := "7d8697c9dc133a88ea9fb3f6c7430e3eedb24885d698e5559c754caabca7c251", checked := Try.checked }
namespace Rows
def none {H : Type} : Left H := { results := [], args := [] }

/-- 'laws.FnExactLeavesIn': WHATEVER THE INPUT: true; the input reads as it did. -/
def fnExactLeavesInSpec : ChangeSpec := { name := "fnExactLeavesIn", fn := fun _ => fun
  | [d] => { results := [.lit (.bool true)], args := [d] }
  | _ => none }
def fnExactLeavesInRow : OpenClaim := { program := "ytijadbifkehccaa", sum := "7d8697c9dc133a88ea9fb3f6c7430e3eedb24885d698e5559c754caabca7c251", func := "loop.example/g00166/laws.FnExactLeavesIn", spec := "fnExactLeavesIn", unfollowed := true, recurses := true, apart := false }
def FnExactLeavesInSaid : Prop := fnExactLeavesInRow.holds Try.pinned (OpenSpec.ofChange fnExactLeavesInSpec)

/-- ITS FALSE NEIGHBOUR: 'it returns false'. Refute it at one input. -/
def fnExactLeavesInWrong : ChangeSpec := { name := "fnExactLeavesIn", fn := fun _ => fun
  | [d] => { results := [.lit (.bool false)], args := [d] }
  | _ => none }
def FnExactLeavesInWrongFalsely : Prop := fnExactLeavesInRow.holds Try.pinned (OpenSpec.ofChange fnExactLeavesInWrong)

/-- 'laws.FnExactStreamOf': WHATEVER THE INPUT: true; the input reads as it did. -/
def fnExactStreamOfSpec : ChangeSpec := { name := "fnExactStreamOf", fn := fun _ => fun
  | [d] => { results := [.lit (.bool true)], args := [d] }
  | _ => none }
def fnExactStreamOfRow : OpenClaim := { program := "ytijadbifkehccaa", sum := "7d8697c9dc133a88ea9fb3f6c7430e3eedb24885d698e5559c754caabca7c251", func := "loop.example/g00166/laws.FnExactStreamOf", spec := "fnExactStreamOf", recurses := true, apart := false }
def FnExactStreamOfSaid : Prop := fnExactStreamOfRow.holds Try.pinned (OpenSpec.ofChange fnExactStreamOfSpec)

/-- ITS FALSE NEIGHBOUR: 'it returns false'. Refute it at one input. -/
def fnExactStreamOfWrong : ChangeSpec := { name := "fnExactStreamOf", fn := fun _ => fun
  | [d] => { results := [.lit (.bool false)], args := [d] }
  | _ => none }
def FnExactStreamOfWrongFalsely : Prop := fnExactStreamOfRow.holds Try.pinned (OpenSpec.ofChange fnExactStreamOfWrong)

/-- 'laws.FnExactStreamFault': WHATEVER THE INPUT: true; the input reads as it did. -/
def fnExactStreamFaultSpec : ChangeSpec := { name := "fnExactStreamFault", fn := fun _ => fun
  | [d] => { results := [.lit (.bool true)], args := [d] }
  | _ => none }
def fnExactStreamFaultRow : OpenClaim := { program := "ytijadbifkehccaa", sum := "7d8697c9dc133a88ea9fb3f6c7430e3eedb24885d698e5559c754caabca7c251", func := "loop.example/g00166/laws.FnExactStreamFault", spec := "fnExactStreamFault", unfollowed := true, recurses := true, apart := false }
def FnExactStreamFaultSaid : Prop := fnExactStreamFaultRow.holds Try.pinned (OpenSpec.ofChange fnExactStreamFaultSpec)

/-- ITS FALSE NEIGHBOUR: 'it returns false'. Refute it at one input. -/
def fnExactStreamFaultWrong : ChangeSpec := { name := "fnExactStreamFault", fn := fun _ => fun
  | [d] => { results := [.lit (.bool false)], args := [d] }
  | _ => none }
def FnExactStreamFaultWrongFalsely : Prop := fnExactStreamFaultRow.holds Try.pinned (OpenSpec.ofChange fnExactStreamFaultWrong)

/-- 'laws.FnExactGetPath': WHATEVER THE INPUT: true; the input reads as it did. -/
def fnExactGetPathSpec : ChangeSpec := { name := "fnExactGetPath", fn := fun _ => fun
  | [d1, d2] => { results := [.lit (.bool true)], args := [d1, d2] }
  | _ => none }
def fnExactGetPathRow : OpenClaim := { program := "ytijadbifkehccaa", sum := "7d8697c9dc133a88ea9fb3f6c7430e3eedb24885d698e5559c754caabca7c251", func := "loop.example/g00166/laws.FnExactGetPath", spec := "fnExactGetPath", unfollowed := true, recurses := true, apart := false }
def FnExactGetPathSaid : Prop := fnExactGetPathRow.holds Try.pinned (OpenSpec.ofChange fnExactGetPathSpec)

/-- ITS FALSE NEIGHBOUR: 'it returns false'. Refute it at one input. -/
def fnExactGetPathWrong : ChangeSpec := { name := "fnExactGetPath", fn := fun _ => fun
  | [d1, d2] => { results := [.lit (.bool false)], args := [d1, d2] }
  | _ => none }
def FnExactGetPathWrongFalsely : Prop := fnExactGetPathRow.holds Try.pinned (OpenSpec.ofChange fnExactGetPathWrong)

/-- 'laws.FnExactCutStream': WHATEVER THE INPUT: true; the input reads as it did. -/
def fnExactCutStreamSpec : ChangeSpec := { name := "fnExactCutStream", fn := fun _ => fun
  | [d1, d2] => { results := [.lit (.bool true)], args := [d1, d2] }
  | _ => none }
def fnExactCutStreamRow : OpenClaim := { program := "ytijadbifkehccaa", sum := "7d8697c9dc133a88ea9fb3f6c7430e3eedb24885d698e5559c754caabca7c251", func := "loop.example/g00166/laws.FnExactCutStream", spec := "fnExactCutStream", unfollowed := true, recurses := true, apart := false }
def FnExactCutStreamSaid : Prop := fnExactCutStreamRow.holds Try.pinned (OpenSpec.ofChange fnExactCutStreamSpec)

/-- ITS FALSE NEIGHBOUR: 'it returns false'. Refute it at one input. -/
def fnExactCutStreamWrong : ChangeSpec := { name := "fnExactCutStream", fn := fun _ => fun
  | [d1, d2] => { results := [.lit (.bool false)], args := [d1, d2] }
  | _ => none }
def FnExactCutStreamWrongFalsely : Prop := fnExactCutStreamRow.holds Try.pinned (OpenSpec.ofChange fnExactCutStreamWrong)

/-- 'laws.FnExactHeightsOf': WHATEVER THE INPUT: true; the input reads as it did. -/
def fnExactHeightsOfSpec : ChangeSpec := { name := "fnExactHeightsOf", fn := fun _ => fun
  | [d1, d2] => { results := [.lit (.bool true)], args := [d1, d2] }
  | _ => none }
def fnExactHeightsOfRow : OpenClaim := { program := "ytijadbifkehccaa", sum := "7d8697c9dc133a88ea9fb3f6c7430e3eedb24885d698e5559c754caabca7c251", func := "loop.example/g00166/laws.FnExactHeightsOf", spec := "fnExactHeightsOf", recurses := true, apart := false }
def FnExactHeightsOfSaid : Prop := fnExactHeightsOfRow.holds Try.pinned (OpenSpec.ofChange fnExactHeightsOfSpec)

/-- ITS FALSE NEIGHBOUR: 'it returns false'. Refute it at one input. -/
def fnExactHeightsOfWrong : ChangeSpec := { name := "fnExactHeightsOf", fn := fun _ => fun
  | [d1, d2] => { results := [.lit (.bool false)], args := [d1, d2] }
  | _ => none }
def FnExactHeightsOfWrongFalsely : Prop := fnExactHeightsOfRow.holds Try.pinned (OpenSpec.ofChange fnExactHeightsOfWrong)

/- THE SECOND FORM. 'bulk': how many values and letters a reading holds, each counted each time it is reached (what is shared counts as often as it is met; a slice's spare places count too). A statement '..UptoSaid' is the law's where the arguments, and the package variables that the reading takes, are together of bulk at most 1048576: NARROWER than '..Said'. Prove '..Said' where nothing that the law and all that it calls make is longer than what came in: it says more and counts as full. Else prove '..UptoSaid'. A law counts once. -/
mutual
def uptoBulk {H : Type} : DataW H → Nat
  | .lit (.string bytes) => bytes.length + 1
  | .lit _ => 1
  | .nil => 1
  | .ptr d => uptoBulk d + 1
  | .slice elems spare => uptoBulkAll elems + uptoBulkAll spare + 1
  | .agg parts => uptoBulkAll parts + 1
  | .iface _ d => uptoBulk d + 1
  | .map entries => uptoBulkEntries entries + 1
  | .held _ => 1
def uptoBulkAll {H : Type} : List (DataW H) → Nat
  | [] => 0
  | d :: r => uptoBulk d + uptoBulkAll r
def uptoBulkEntries {H : Type} : List (Lit × DataW H) → Nat
  | [] => 0
  | x :: r => uptoBulkEntry x + uptoBulkEntries r
def uptoBulkEntry {H : Type} : Lit × DataW H → Nat
  | (.string bytes, d) => bytes.length + uptoBulk d + 1
  | (_, d) => uptoBulk d + 1
 end
def uptoSmall : (H : Type) → List (DataW H) → Bool := fun _ ds => decide (uptoBulkAll ds ≤ 1048576)
def OpenSpec.upto (s : _root_.Go.ChangeSpec) : _root_.Go.OpenSpec := { _root_.Go.OpenSpec.ofChange s with cond := some uptoSmall }

/-- 'laws.FnExactLeavesIn', WHERE WHAT IT READS IS OF BULK AT MOST 1048576: true; the input reads as it did. -/
def fnExactLeavesInUptoRow : OpenClaim := { program := "ytijadbifkehccaa", sum := "7d8697c9dc133a88ea9fb3f6c7430e3eedb24885d698e5559c754caabca7c251", func := "loop.example/g00166/laws.FnExactLeavesIn", spec := "fnExactLeavesIn", unfollowed := true, recurses := true, apart := false, narrowed := true }
def FnExactLeavesInUptoSaid : Prop := fnExactLeavesInUptoRow.holds Try.pinned (OpenSpec.upto fnExactLeavesInSpec)

/-- 'laws.FnExactStreamOf', WHERE WHAT IT READS IS OF BULK AT MOST 1048576: true; the input reads as it did. -/
def fnExactStreamOfUptoRow : OpenClaim := { program := "ytijadbifkehccaa", sum := "7d8697c9dc133a88ea9fb3f6c7430e3eedb24885d698e5559c754caabca7c251", func := "loop.example/g00166/laws.FnExactStreamOf", spec := "fnExactStreamOf", recurses := true, apart := false, narrowed := true }
def FnExactStreamOfUptoSaid : Prop := fnExactStreamOfUptoRow.holds Try.pinned (OpenSpec.upto fnExactStreamOfSpec)

/-- 'laws.FnExactStreamFault', WHERE WHAT IT READS IS OF BULK AT MOST 1048576: true; the input reads as it did. -/
def fnExactStreamFaultUptoRow : OpenClaim := { program := "ytijadbifkehccaa", sum := "7d8697c9dc133a88ea9fb3f6c7430e3eedb24885d698e5559c754caabca7c251", func := "loop.example/g00166/laws.FnExactStreamFault", spec := "fnExactStreamFault", unfollowed := true, recurses := true, apart := false, narrowed := true }
def FnExactStreamFaultUptoSaid : Prop := fnExactStreamFaultUptoRow.holds Try.pinned (OpenSpec.upto fnExactStreamFaultSpec)

/-- 'laws.FnExactGetPath', WHERE WHAT IT READS IS OF BULK AT MOST 1048576: true; the input reads as it did. -/
def fnExactGetPathUptoRow : OpenClaim := { program := "ytijadbifkehccaa", sum := "7d8697c9dc133a88ea9fb3f6c7430e3eedb24885d698e5559c754caabca7c251", func := "loop.example/g00166/laws.FnExactGetPath", spec := "fnExactGetPath", unfollowed := true, recurses := true, apart := false, narrowed := true }
def FnExactGetPathUptoSaid : Prop := fnExactGetPathUptoRow.holds Try.pinned (OpenSpec.upto fnExactGetPathSpec)

/-- 'laws.FnExactCutStream', WHERE WHAT IT READS IS OF BULK AT MOST 1048576: true; the input reads as it did. -/
def fnExactCutStreamUptoRow : OpenClaim := { program := "ytijadbifkehccaa", sum := "7d8697c9dc133a88ea9fb3f6c7430e3eedb24885d698e5559c754caabca7c251", func := "loop.example/g00166/laws.FnExactCutStream", spec := "fnExactCutStream", unfollowed := true, recurses := true, apart := false, narrowed := true }
def FnExactCutStreamUptoSaid : Prop := fnExactCutStreamUptoRow.holds Try.pinned (OpenSpec.upto fnExactCutStreamSpec)

/-- 'laws.FnExactHeightsOf', WHERE WHAT IT READS IS OF BULK AT MOST 1048576: true; the input reads as it did. -/
def fnExactHeightsOfUptoRow : OpenClaim := { program := "ytijadbifkehccaa", sum := "7d8697c9dc133a88ea9fb3f6c7430e3eedb24885d698e5559c754caabca7c251", func := "loop.example/g00166/laws.FnExactHeightsOf", spec := "fnExactHeightsOf", recurses := true, apart := false, narrowed := true }
def FnExactHeightsOfUptoSaid : Prop := fnExactHeightsOfUptoRow.holds Try.pinned (OpenSpec.upto fnExactHeightsOfSpec)

end Rows
end Go.Proofs.Ytijadbifkehccaa
