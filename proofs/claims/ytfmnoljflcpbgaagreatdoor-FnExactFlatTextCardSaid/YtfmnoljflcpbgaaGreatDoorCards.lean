/-
  DERIVED. GIVEN WITH THE SEED: THE CARDS: each row of YtfmnoljflcpbgaaGreatDoorRows.lean that lists a variable, with what it lists TIED to the program's text (the seventh form; the later family's looks); each row that meets fmt, with fmt's text TOLD by the authors' own Lean function (tested against real Go, not proved from fmt's source: count such statements apart). THE CARD IS WHAT COUNTS. Prove the row's statement (the work); the ties are given (YtfmnoljflcpbgaaGreatDoorTie.lean); close each card by the builder's one call (the guide's Derived/Test/ToyasCard.lean, 'card_holds'). Laid BY PROGRAM, IN A SANDBOX (cutbox-door.mjs). By AI agents, Wed Nov 11 2026. No macro, syntax, notation, axiom, sorry.
-/
import Derived.Test.YtfmnoljflcpbgaaGreatDoorRows
import GoSem.ClaimSeven
namespace Go.Proofs.YtfmnoljflcpbgaaGreatDoor
namespace Rows

/-- THE TIED CARD OF 'laws.FnExactPathText'. -/
def fnExactPathTextCard : Claim7 := { stood := { row := fnExactPathTextRow, standIns := [], harness := (true, "0a42c3da5b1647a12f53a52518a84bd6d09b8b7f096529e5ad6ce69f1112b870"), looks := true }, kinds := [], alts := [], laidByText := true, laidKinds := [.data, .data, .data], laidTests := true, laidLooks := .later }
def FnExactPathTextCardSaid : Prop := Claim7.holds Tryz.pinned (.plain (OpenSpec.ofChange fnExactPathTextSpec)) fnExactPathTextCard

/-- THE TIED CARD OF 'laws.FnExactPrettyValue'. -/
def fnExactPrettyValueCard : Claim7 := { stood := { row := fnExactPrettyValueRow, standIns := [], harness := (true, "0a42c3da5b1647a12f53a52518a84bd6d09b8b7f096529e5ad6ce69f1112b870"), looks := true }, kinds := [], alts := [], laidByText := true, laidKinds := [.data, .data, .data], laidTests := true, laidLooks := .later }
def FnExactPrettyValueCardSaid : Prop := Claim7.holds Tryz.pinned (.plain (OpenSpec.ofChange fnExactPrettyValueSpec)) fnExactPrettyValueCard

/-- THE TIED CARD OF 'laws.FnExactSizeText'. -/
def fnExactSizeTextCard : Claim7 := { stood := { row := fnExactSizeTextRow, standIns := [], harness := (true, "0a42c3da5b1647a12f53a52518a84bd6d09b8b7f096529e5ad6ce69f1112b870"), looks := true }, kinds := [], alts := [], laidByText := true, laidKinds := [.data, .data, .data], laidTests := true, laidLooks := .later }
def FnExactSizeTextCardSaid : Prop := Claim7.holds Tryz.pinned (.plain (OpenSpec.ofChange fnExactSizeTextSpec)) fnExactSizeTextCard

/-- THE TIED CARD OF 'laws.FnExactFormatEdits'. -/
def fnExactFormatEditsCard : Claim7 := { stood := { row := fnExactFormatEditsRow, standIns := [], harness := (true, "0a42c3da5b1647a12f53a52518a84bd6d09b8b7f096529e5ad6ce69f1112b870"), looks := true }, kinds := [], alts := [], laidByText := true, laidKinds := [.data, .data, .data], laidTests := true, laidLooks := .later }
def FnExactFormatEditsCardSaid : Prop := Claim7.holds Tryz.pinned (.plain (OpenSpec.ofChange fnExactFormatEditsSpec)) fnExactFormatEditsCard

/-- THE TIED CARD OF 'laws.FnExactFlatText'. -/
def fnExactFlatTextCard : Claim7 := { stood := { row := fnExactFlatTextRow, standIns := [], harness := (true, "0a42c3da5b1647a12f53a52518a84bd6d09b8b7f096529e5ad6ce69f1112b870"), looks := true }, kinds := [], alts := [], laidByText := true, laidKinds := [.data, .data, .data], laidTests := true, laidLooks := .later }
def FnExactFlatTextCardSaid : Prop := Claim7.holds Tryz.pinned (.plain (OpenSpec.ofChange fnExactFlatTextSpec)) fnExactFlatTextCard

/-- THE TIED CARD OF 'laws.FnExactCodeText'. -/
def fnExactCodeTextCard : Claim7 := { stood := { row := fnExactCodeTextRow, standIns := [], harness := (true, "0a42c3da5b1647a12f53a52518a84bd6d09b8b7f096529e5ad6ce69f1112b870"), looks := true }, kinds := [], alts := [], laidByText := true, laidKinds := [.data, .data, .data], laidTests := true, laidLooks := .later }
def FnExactCodeTextCardSaid : Prop := Claim7.holds Tryz.pinned (.plain (OpenSpec.ofChange fnExactCodeTextSpec)) fnExactCodeTextCard

/-- THE TIED CARD OF 'laws.FnAllPaths'. -/
def fnAllPathsCard : Claim7 := { stood := { row := fnAllPathsRow, standIns := [], harness := (true, "0a42c3da5b1647a12f53a52518a84bd6d09b8b7f096529e5ad6ce69f1112b870"), looks := true }, kinds := [], alts := [], laidByText := true, laidKinds := [.data, .data, .data], laidTests := true, laidLooks := .later }
def FnAllPathsCardSaid : Prop := Claim7.holds Tryz.pinned (.plain (OpenSpec.ofChange fnAllPathsSpec)) fnAllPathsCard

/-- THE SECOND FORM's CARD OF 'laws.FnExactPathText'. -/
def fnExactPathTextUptoCard : Claim7 := { stood := { row := fnExactPathTextUptoRow, standIns := [], harness := (true, "0a42c3da5b1647a12f53a52518a84bd6d09b8b7f096529e5ad6ce69f1112b870"), looks := true }, kinds := [], alts := [], laidByText := true, laidKinds := [.data, .data, .data], laidTests := true, laidLooks := .later }
def FnExactPathTextUptoCardSaid : Prop := Claim7.holds Tryz.pinned (.plain (OpenSpec.upto fnExactPathTextSpec)) fnExactPathTextUptoCard

/-- THE SECOND FORM's CARD OF 'laws.FnExactPrettyValue'. -/
def fnExactPrettyValueUptoCard : Claim7 := { stood := { row := fnExactPrettyValueUptoRow, standIns := [], harness := (true, "0a42c3da5b1647a12f53a52518a84bd6d09b8b7f096529e5ad6ce69f1112b870"), looks := true }, kinds := [], alts := [], laidByText := true, laidKinds := [.data, .data, .data], laidTests := true, laidLooks := .later }
def FnExactPrettyValueUptoCardSaid : Prop := Claim7.holds Tryz.pinned (.plain (OpenSpec.upto fnExactPrettyValueSpec)) fnExactPrettyValueUptoCard

/-- THE SECOND FORM's CARD OF 'laws.FnExactSizeText'. -/
def fnExactSizeTextUptoCard : Claim7 := { stood := { row := fnExactSizeTextUptoRow, standIns := [], harness := (true, "0a42c3da5b1647a12f53a52518a84bd6d09b8b7f096529e5ad6ce69f1112b870"), looks := true }, kinds := [], alts := [], laidByText := true, laidKinds := [.data, .data, .data], laidTests := true, laidLooks := .later }
def FnExactSizeTextUptoCardSaid : Prop := Claim7.holds Tryz.pinned (.plain (OpenSpec.upto fnExactSizeTextSpec)) fnExactSizeTextUptoCard

/-- THE SECOND FORM's CARD OF 'laws.FnExactFormatEdits'. -/
def fnExactFormatEditsUptoCard : Claim7 := { stood := { row := fnExactFormatEditsUptoRow, standIns := [], harness := (true, "0a42c3da5b1647a12f53a52518a84bd6d09b8b7f096529e5ad6ce69f1112b870"), looks := true }, kinds := [], alts := [], laidByText := true, laidKinds := [.data, .data, .data], laidTests := true, laidLooks := .later }
def FnExactFormatEditsUptoCardSaid : Prop := Claim7.holds Tryz.pinned (.plain (OpenSpec.upto fnExactFormatEditsSpec)) fnExactFormatEditsUptoCard

/-- THE SECOND FORM's CARD OF 'laws.FnExactFlatText'. -/
def fnExactFlatTextUptoCard : Claim7 := { stood := { row := fnExactFlatTextUptoRow, standIns := [], harness := (true, "0a42c3da5b1647a12f53a52518a84bd6d09b8b7f096529e5ad6ce69f1112b870"), looks := true }, kinds := [], alts := [], laidByText := true, laidKinds := [.data, .data, .data], laidTests := true, laidLooks := .later }
def FnExactFlatTextUptoCardSaid : Prop := Claim7.holds Tryz.pinned (.plain (OpenSpec.upto fnExactFlatTextSpec)) fnExactFlatTextUptoCard

/-- THE SECOND FORM's CARD OF 'laws.FnExactCodeText'. -/
def fnExactCodeTextUptoCard : Claim7 := { stood := { row := fnExactCodeTextUptoRow, standIns := [], harness := (true, "0a42c3da5b1647a12f53a52518a84bd6d09b8b7f096529e5ad6ce69f1112b870"), looks := true }, kinds := [], alts := [], laidByText := true, laidKinds := [.data, .data, .data], laidTests := true, laidLooks := .later }
def FnExactCodeTextUptoCardSaid : Prop := Claim7.holds Tryz.pinned (.plain (OpenSpec.upto fnExactCodeTextSpec)) fnExactCodeTextUptoCard

/-- THE SECOND FORM's CARD OF 'laws.FnAllPaths'. -/
def fnAllPathsUptoCard : Claim7 := { stood := { row := fnAllPathsUptoRow, standIns := [], harness := (true, "0a42c3da5b1647a12f53a52518a84bd6d09b8b7f096529e5ad6ce69f1112b870"), looks := true }, kinds := [], alts := [], laidByText := true, laidKinds := [.data, .data, .data], laidTests := true, laidLooks := .later }
def FnAllPathsUptoCardSaid : Prop := Claim7.holds Tryz.pinned (.plain (OpenSpec.upto fnAllPathsSpec)) fnAllPathsUptoCard
end Rows
end Go.Proofs.YtfmnoljflcpbgaaGreatDoor
