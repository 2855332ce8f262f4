/-
  DERIVED. GIVEN WITH THE SEED: THE CARDS: each row of YtlciedpfjhkkdaaGreatDoorRows.lean that lists a variable, with what it lists TIED to the program's text (the seventh form; the later family's looks); each row that meets fmt, with fmt's text TOLD by the authors' own Lean function (tested against real Go, not proved from fmt's source: count such statements apart). THE CARD IS WHAT COUNTS. Prove the row's statement (the work); the ties are given (YtlciedpfjhkkdaaGreatDoorTie.lean); close each card by the builder's one call (the guide's Derived/Test/ToyasCard.lean, 'card_holds'). Laid BY PROGRAM, IN A SANDBOX (cutbox-door.mjs). By AI agents, Wed Nov 11 2026. No macro, syntax, notation, axiom, sorry.
-/
import Derived.Test.YtlciedpfjhkkdaaGreatDoorRows
import GoSem.ClaimSeven
namespace Go.Proofs.YtlciedpfjhkkdaaGreatDoor
namespace Rows

/-- THE TIED CARD OF 'laws.FnExactDecodeValue'. -/
def fnExactDecodeValueCard : Claim7 := { stood := { row := fnExactDecodeValueRow, standIns := [], harness := (true, "9370862b2f26eb41c50938e000b18267884c8d2d65789dbef277e3db58571b4f"), looks := true }, kinds := [], alts := [], laidByText := true, laidKinds := [.data, .data, .data, .sentinel, .sentinel], laidTests := true, laidLooks := .later }
def FnExactDecodeValueCardSaid : Prop := Claim7.holds Tryz.pinned (.plain (OpenSpec.ofChange fnExactDecodeValueSpec)) fnExactDecodeValueCard

/-- THE TIED CARD OF 'laws.FnStreams'. -/
def fnStreamsCard : Claim7 := { stood := { row := fnStreamsRow, standIns := [], harness := (true, "9370862b2f26eb41c50938e000b18267884c8d2d65789dbef277e3db58571b4f"), looks := true }, kinds := [], alts := [], laidByText := true, laidKinds := [.data, .data, .data], laidTests := true, laidLooks := .later }
def FnStreamsCardSaid : Prop := Claim7.holds Tryz.pinned (.plain (OpenSpec.ofChange fnStreamsSpec)) fnStreamsCard

/-- THE TIED CARD OF 'laws.FnExactDecodeLines'. -/
def fnExactDecodeLinesCard : Claim7 := { stood := { row := fnExactDecodeLinesRow, standIns := [], harness := (true, "9370862b2f26eb41c50938e000b18267884c8d2d65789dbef277e3db58571b4f"), looks := true }, kinds := [], alts := [], laidByText := true, laidKinds := [.data, .data, .data, .data, .sentinel, .sentinel, .pinned], laidTests := true, laidLooks := .later }
def FnExactDecodeLinesCardSaid : Prop := Claim7.holds Tryz.pinned (.plain (OpenSpec.ofChange fnExactDecodeLinesSpec)) fnExactDecodeLinesCard

/-- THE TIED CARD OF 'laws.FnTexts'. -/
def fnTextsCard : Claim7 := { stood := { row := fnTextsRow, standIns := [], harness := (true, "9370862b2f26eb41c50938e000b18267884c8d2d65789dbef277e3db58571b4f"), looks := true }, kinds := [], alts := [], laidByText := true, laidKinds := [.data, .data, .data, .sentinel, .sentinel], laidTests := true, laidLooks := .later }
def FnTextsCardSaid : Prop := Claim7.holds Tryz.pinned (.plain (OpenSpec.ofChange fnTextsSpec)) fnTextsCard

/-- THE TIED CARD OF 'laws.FnExactFromStream'. -/
def fnExactFromStreamCard : Claim7 := { stood := { row := fnExactFromStreamRow, standIns := [], harness := (true, "9370862b2f26eb41c50938e000b18267884c8d2d65789dbef277e3db58571b4f"), looks := true }, kinds := [], alts := [], laidByText := true, laidKinds := [.data, .data, .data], laidTests := true, laidLooks := .later }
def FnExactFromStreamCardSaid : Prop := Claim7.holds Tryz.pinned (.plain (OpenSpec.ofChange fnExactFromStreamSpec)) fnExactFromStreamCard

/-- THE TIED CARD OF 'laws.FnReads'. -/
def fnReadsCard : Claim7 := { stood := { row := fnReadsRow, standIns := [], harness := (true, "9370862b2f26eb41c50938e000b18267884c8d2d65789dbef277e3db58571b4f"), looks := true }, kinds := [], alts := [], laidByText := true, laidKinds := [.data, .data, .data, .sentinel, .sentinel], laidTests := true, laidLooks := .later }
def FnReadsCardSaid : Prop := Claim7.holds Tryz.pinned (.plain (OpenSpec.ofChange fnReadsSpec)) fnReadsCard

/-- THE SECOND FORM's CARD OF 'laws.FnExactDecodeValue'. -/
def fnExactDecodeValueUptoCard : Claim7 := { stood := { row := fnExactDecodeValueUptoRow, standIns := [], harness := (true, "9370862b2f26eb41c50938e000b18267884c8d2d65789dbef277e3db58571b4f"), looks := true }, kinds := [], alts := [], laidByText := true, laidKinds := [.data, .data, .data, .sentinel, .sentinel], laidTests := true, laidLooks := .later }
def FnExactDecodeValueUptoCardSaid : Prop := Claim7.holds Tryz.pinned (.plain (OpenSpec.upto fnExactDecodeValueSpec)) fnExactDecodeValueUptoCard

/-- THE SECOND FORM's CARD OF 'laws.FnStreams'. -/
def fnStreamsUptoCard : Claim7 := { stood := { row := fnStreamsUptoRow, standIns := [], harness := (true, "9370862b2f26eb41c50938e000b18267884c8d2d65789dbef277e3db58571b4f"), looks := true }, kinds := [], alts := [], laidByText := true, laidKinds := [.data, .data, .data], laidTests := true, laidLooks := .later }
def FnStreamsUptoCardSaid : Prop := Claim7.holds Tryz.pinned (.plain (OpenSpec.upto fnStreamsSpec)) fnStreamsUptoCard

/-- THE SECOND FORM's CARD OF 'laws.FnExactDecodeLines'. -/
def fnExactDecodeLinesUptoCard : Claim7 := { stood := { row := fnExactDecodeLinesUptoRow, standIns := [], harness := (true, "9370862b2f26eb41c50938e000b18267884c8d2d65789dbef277e3db58571b4f"), looks := true }, kinds := [], alts := [], laidByText := true, laidKinds := [.data, .data, .data, .data, .sentinel, .sentinel, .pinned], laidTests := true, laidLooks := .later }
def FnExactDecodeLinesUptoCardSaid : Prop := Claim7.holds Tryz.pinned (.plain (OpenSpec.upto fnExactDecodeLinesSpec)) fnExactDecodeLinesUptoCard

/-- THE SECOND FORM's CARD OF 'laws.FnTexts'. -/
def fnTextsUptoCard : Claim7 := { stood := { row := fnTextsUptoRow, standIns := [], harness := (true, "9370862b2f26eb41c50938e000b18267884c8d2d65789dbef277e3db58571b4f"), looks := true }, kinds := [], alts := [], laidByText := true, laidKinds := [.data, .data, .data, .sentinel, .sentinel], laidTests := true, laidLooks := .later }
def FnTextsUptoCardSaid : Prop := Claim7.holds Tryz.pinned (.plain (OpenSpec.upto fnTextsSpec)) fnTextsUptoCard

/-- THE SECOND FORM's CARD OF 'laws.FnExactFromStream'. -/
def fnExactFromStreamUptoCard : Claim7 := { stood := { row := fnExactFromStreamUptoRow, standIns := [], harness := (true, "9370862b2f26eb41c50938e000b18267884c8d2d65789dbef277e3db58571b4f"), looks := true }, kinds := [], alts := [], laidByText := true, laidKinds := [.data, .data, .data], laidTests := true, laidLooks := .later }
def FnExactFromStreamUptoCardSaid : Prop := Claim7.holds Tryz.pinned (.plain (OpenSpec.upto fnExactFromStreamSpec)) fnExactFromStreamUptoCard

/-- THE SECOND FORM's CARD OF 'laws.FnReads'. -/
def fnReadsUptoCard : Claim7 := { stood := { row := fnReadsUptoRow, standIns := [], harness := (true, "9370862b2f26eb41c50938e000b18267884c8d2d65789dbef277e3db58571b4f"), looks := true }, kinds := [], alts := [], laidByText := true, laidKinds := [.data, .data, .data, .sentinel, .sentinel], laidTests := true, laidLooks := .later }
def FnReadsUptoCardSaid : Prop := Claim7.holds Tryz.pinned (.plain (OpenSpec.upto fnReadsSpec)) fnReadsUptoCard
end Rows
end Go.Proofs.YtlciedpfjhkkdaaGreatDoor
