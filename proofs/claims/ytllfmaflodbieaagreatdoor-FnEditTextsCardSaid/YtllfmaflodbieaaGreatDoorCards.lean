/-
  DERIVED. GIVEN WITH THE SEED: THE CARDS: each row of YtllfmaflodbieaaGreatDoorRows.lean that lists a variable, with what it lists TIED to the program's text (the seventh form; the later family's looks); each row that meets fmt, with fmt's text TOLD by the authors' own Lean function (tested against real Go, not proved from fmt's source: count such statements apart). THE CARD IS WHAT COUNTS. Prove the row's statement (the work); the ties are given (YtllfmaflodbieaaGreatDoorTie.lean); close each card by the builder's one call (the guide's Derived/Test/ToyasCard.lean, 'card_holds'). Laid BY PROGRAM, IN A SANDBOX (cutbox-door.mjs). By AI agents, Wed Nov 11 2026. No macro, syntax, notation, axiom, sorry.
-/
import Derived.Test.YtllfmaflodbieaaGreatDoorRows
import GoSem.ClaimSeven
namespace Go.Proofs.YtllfmaflodbieaaGreatDoor
namespace Rows

/-- THE TIED CARD OF 'laws.FnExactParseEdits'. -/
def fnExactParseEditsCard : Claim7 := { stood := { row := fnExactParseEditsRow, standIns := [], harness := (true, "cba66947027b9b75ab07bb57a41be0e28d7b28dd10ddca3567ec9415423ca57e"), looks := true }, kinds := [], alts := [], laidByText := true, laidKinds := [.data, .data, .data, .data, .sentinel, .sentinel, .pinned], laidTests := true, laidLooks := .later }
def FnExactParseEditsCardSaid : Prop := Claim7.holds Tryz.pinned (.plain (OpenSpec.ofChange fnExactParseEditsSpec)) fnExactParseEditsCard

/-- THE TIED CARD OF 'laws.FnEditTexts'. -/
def fnEditTextsCard : Claim7 := { stood := { row := fnEditTextsRow, standIns := [], harness := (true, "cba66947027b9b75ab07bb57a41be0e28d7b28dd10ddca3567ec9415423ca57e"), looks := true }, kinds := [], alts := [], laidByText := true, laidKinds := [.data, .data, .data, .data, .sentinel, .sentinel, .pinned], laidTests := true, laidLooks := .later }
def FnEditTextsCardSaid : Prop := Claim7.holds Tryz.pinned (.plain (OpenSpec.ofChange fnEditTextsSpec)) fnEditTextsCard

/-- THE TIED CARD OF 'laws.FnExactUnflatText'. -/
def fnExactUnflatTextCard : Claim7 := { stood := { row := fnExactUnflatTextRow, standIns := [], harness := (true, "cba66947027b9b75ab07bb57a41be0e28d7b28dd10ddca3567ec9415423ca57e"), looks := true }, kinds := [], alts := [], laidByText := true, laidKinds := [.data, .data, .data, .data, .sentinel, .sentinel, .pinned], laidTests := true, laidLooks := .later }
def FnExactUnflatTextCardSaid : Prop := Claim7.holds Tryz.pinned (.plain (OpenSpec.ofChange fnExactUnflatTextSpec)) fnExactUnflatTextCard

/-- THE TIED CARD OF 'laws.FnPrints'. -/
def fnPrintsCard : Claim7 := { stood := { row := fnPrintsRow, standIns := [], harness := (true, "cba66947027b9b75ab07bb57a41be0e28d7b28dd10ddca3567ec9415423ca57e"), looks := true }, kinds := [], alts := [], laidByText := true, laidKinds := [.data, .data, .data, .data, .sentinel, .sentinel, .pinned], laidTests := true, laidLooks := .later }
def FnPrintsCardSaid : Prop := Claim7.holds Tryz.pinned (.plain (OpenSpec.ofChange fnPrintsSpec)) fnPrintsCard

/-- THE SECOND FORM's CARD OF 'laws.FnExactParseEdits'. -/
def fnExactParseEditsUptoCard : Claim7 := { stood := { row := fnExactParseEditsUptoRow, standIns := [], harness := (true, "cba66947027b9b75ab07bb57a41be0e28d7b28dd10ddca3567ec9415423ca57e"), looks := true }, kinds := [], alts := [], laidByText := true, laidKinds := [.data, .data, .data, .data, .sentinel, .sentinel, .pinned], laidTests := true, laidLooks := .later }
def FnExactParseEditsUptoCardSaid : Prop := Claim7.holds Tryz.pinned (.plain (OpenSpec.upto fnExactParseEditsSpec)) fnExactParseEditsUptoCard

/-- THE SECOND FORM's CARD OF 'laws.FnEditTexts'. -/
def fnEditTextsUptoCard : Claim7 := { stood := { row := fnEditTextsUptoRow, standIns := [], harness := (true, "cba66947027b9b75ab07bb57a41be0e28d7b28dd10ddca3567ec9415423ca57e"), looks := true }, kinds := [], alts := [], laidByText := true, laidKinds := [.data, .data, .data, .data, .sentinel, .sentinel, .pinned], laidTests := true, laidLooks := .later }
def FnEditTextsUptoCardSaid : Prop := Claim7.holds Tryz.pinned (.plain (OpenSpec.upto fnEditTextsSpec)) fnEditTextsUptoCard

/-- THE SECOND FORM's CARD OF 'laws.FnExactUnflatText'. -/
def fnExactUnflatTextUptoCard : Claim7 := { stood := { row := fnExactUnflatTextUptoRow, standIns := [], harness := (true, "cba66947027b9b75ab07bb57a41be0e28d7b28dd10ddca3567ec9415423ca57e"), looks := true }, kinds := [], alts := [], laidByText := true, laidKinds := [.data, .data, .data, .data, .sentinel, .sentinel, .pinned], laidTests := true, laidLooks := .later }
def FnExactUnflatTextUptoCardSaid : Prop := Claim7.holds Tryz.pinned (.plain (OpenSpec.upto fnExactUnflatTextSpec)) fnExactUnflatTextUptoCard

/-- THE SECOND FORM's CARD OF 'laws.FnPrints'. -/
def fnPrintsUptoCard : Claim7 := { stood := { row := fnPrintsUptoRow, standIns := [], harness := (true, "cba66947027b9b75ab07bb57a41be0e28d7b28dd10ddca3567ec9415423ca57e"), looks := true }, kinds := [], alts := [], laidByText := true, laidKinds := [.data, .data, .data, .data, .sentinel, .sentinel, .pinned], laidTests := true, laidLooks := .later }
def FnPrintsUptoCardSaid : Prop := Claim7.holds Tryz.pinned (.plain (OpenSpec.upto fnPrintsSpec)) fnPrintsUptoCard
end Rows
end Go.Proofs.YtllfmaflodbieaaGreatDoor
