/-
  DERIVED. GIVEN WITH THE SEED: THE CARDS: each row of YtpildefkhlejgaaDoorRows.lean that lists a variable, with what it lists TIED to the program's text (the seventh form; the later family's looks); each row that meets fmt, with fmt's text TOLD by the authors' own Lean function (tested against real Go, not proved from fmt's source: count such statements apart). THE CARD IS WHAT COUNTS. Prove the row's statement (the work); the ties are given (YtpildefkhlejgaaDoorTie.lean); close each card by the builder's one call (the guide's Derived/Test/ToyasCard.lean, 'card_holds'). Laid BY PROGRAM, IN A SANDBOX (cutbox-door.mjs). By AI agents, Wed Nov 11 2026. No macro, syntax, notation, axiom, sorry.
-/
import Derived.Test.YtpildefkhlejgaaDoorRows
import GoSem.ClaimSeven
namespace Go.Proofs.YtpildefkhlejgaaDoor
namespace Rows

/-- THE TIED CARD OF 'flagstonelaw7.LexerTokens'. -/
def lexerTokensCard : Claim7 := { stood := { row := lexerTokensRow, standIns := [], harness := (true, "ca6cd26a9a6c2b047d0ab4bb4bb6e43887814becdd3adf5fadd8ea1bae0b328a"), looks := true }, kinds := [], alts := [], laidByText := true, laidKinds := [.data, .data, .data, .data, .sentinel, .sentinel, .data, .pinned], laidTests := true, laidLooks := .later }
def LexerTokensCardSaid : Prop := Claim7.holds Tryd.pinned (.plain (OpenSpec.ofChange lexerTokensSpec)) lexerTokensCard

/-- THE TIED CARD OF 'flagstonelaw7.LexerLong'. -/
def lexerLongCard : Claim7 := { stood := { row := lexerLongRow, standIns := [], harness := (true, "ca6cd26a9a6c2b047d0ab4bb4bb6e43887814becdd3adf5fadd8ea1bae0b328a"), looks := true }, kinds := [], alts := [], laidByText := true, laidKinds := [.data, .data, .data, .data, .sentinel, .sentinel, .pinned], laidTests := true, laidLooks := .later }
def LexerLongCardSaid : Prop := Claim7.holds Tryd.pinned (.plain (OpenSpec.ofChange lexerLongSpec)) lexerLongCard

/-- THE TIED CARD OF 'flagstonelaw7.LexerBlank'. -/
def lexerBlankCard : Claim7 := { stood := { row := lexerBlankRow, standIns := [], harness := (true, "ca6cd26a9a6c2b047d0ab4bb4bb6e43887814becdd3adf5fadd8ea1bae0b328a"), looks := true }, kinds := [], alts := [], laidByText := true, laidKinds := [.data, .data, .data, .data, .sentinel, .sentinel, .data, .pinned], laidTests := true, laidLooks := .later }
def LexerBlankCardSaid : Prop := Claim7.holds Tryd.pinned (.plain (OpenSpec.ofChange lexerBlankSpec)) lexerBlankCard

/-- THE TIED CARD OF 'flagstonelaw7.LexerParts'. -/
def lexerPartsCard : Claim7 := { stood := { row := lexerPartsRow, standIns := [], harness := (true, "ca6cd26a9a6c2b047d0ab4bb4bb6e43887814becdd3adf5fadd8ea1bae0b328a"), looks := true }, kinds := [], alts := [], laidByText := true, laidKinds := [.data, .data, .data, .data, .sentinel, .sentinel, .data, .pinned], laidTests := true, laidLooks := .later }
def LexerPartsCardSaid : Prop := Claim7.holds Tryd.pinned (.plain (OpenSpec.ofChange lexerPartsSpec)) lexerPartsCard

/-- THE TIED CARD OF 'flagstonelaw7.LexerTexts'. -/
def lexerTextsCard : Claim7 := { stood := { row := lexerTextsRow, standIns := [], harness := (true, "ca6cd26a9a6c2b047d0ab4bb4bb6e43887814becdd3adf5fadd8ea1bae0b328a"), looks := true }, kinds := [], alts := [], laidByText := true, laidKinds := [.data, .data, .data, .data, .sentinel, .sentinel, .pinned], laidTests := true, laidLooks := .later }
def LexerTextsCardSaid : Prop := Claim7.holds Tryd.pinned (.plain (OpenSpec.ofChange lexerTextsSpec)) lexerTextsCard

/-- THE TIED CARD OF 'flagstonelaw3.ValueVersions'. -/
def valueVersionsCard : Claim7 := { stood := { row := valueVersionsRow, standIns := [], harness := (true, "ca6cd26a9a6c2b047d0ab4bb4bb6e43887814becdd3adf5fadd8ea1bae0b328a"), looks := true }, kinds := [], alts := [], laidByText := true, laidKinds := [.data, .data, .data, .data, .sentinel, .sentinel, .pinned], laidTests := true, laidLooks := .later }
def ValueVersionsCardSaid : Prop := Claim7.holds Tryd.pinned (.plain (OpenSpec.ofChange valueVersionsSpec)) valueVersionsCard

/-- THE TIED CARD OF 'flagstonelaw3.ValueOrder'. -/
def valueOrderCard : Claim7 := { stood := { row := valueOrderRow, standIns := [], harness := (true, "ca6cd26a9a6c2b047d0ab4bb4bb6e43887814becdd3adf5fadd8ea1bae0b328a"), looks := true }, kinds := [], alts := [], laidByText := true, laidKinds := [.data, .data, .data, .data, .data, .data, .widerDeep, .sentinel, .sentinel, .pinned], laidTests := true, laidLooks := .later }
def ValueOrderCardSaid : Prop := Claim7.holds Tryd.pinned (.plain (OpenSpec.ofChange valueOrderSpec)) valueOrderCard

/-- THE TIED CARD OF 'flagstonelaw3.ValueParts'. -/
def valuePartsCard : Claim7 := { stood := { row := valuePartsRow, standIns := [], harness := (true, "ca6cd26a9a6c2b047d0ab4bb4bb6e43887814becdd3adf5fadd8ea1bae0b328a"), looks := true }, kinds := [], alts := [], laidByText := true, laidKinds := [.data, .data, .data, .data, .sentinel, .sentinel, .widerDeep, .pinned], laidTests := true, laidLooks := .later }
def ValuePartsCardSaid : Prop := Claim7.holds Tryd.pinned (.plain (OpenSpec.ofChange valuePartsSpec)) valuePartsCard

/-- THE SECOND FORM's CARD OF 'flagstonelaw7.LexerTokens'. -/
def lexerTokensUptoCard : Claim7 := { stood := { row := lexerTokensUptoRow, standIns := [], harness := (true, "ca6cd26a9a6c2b047d0ab4bb4bb6e43887814becdd3adf5fadd8ea1bae0b328a"), looks := true }, kinds := [], alts := [], laidByText := true, laidKinds := [.data, .data, .data, .data, .sentinel, .sentinel, .data, .pinned], laidTests := true, laidLooks := .later }
def LexerTokensUptoCardSaid : Prop := Claim7.holds Tryd.pinned (.plain (OpenSpec.upto lexerTokensSpec)) lexerTokensUptoCard

/-- THE SECOND FORM's CARD OF 'flagstonelaw7.LexerLong'. -/
def lexerLongUptoCard : Claim7 := { stood := { row := lexerLongUptoRow, standIns := [], harness := (true, "ca6cd26a9a6c2b047d0ab4bb4bb6e43887814becdd3adf5fadd8ea1bae0b328a"), looks := true }, kinds := [], alts := [], laidByText := true, laidKinds := [.data, .data, .data, .data, .sentinel, .sentinel, .pinned], laidTests := true, laidLooks := .later }
def LexerLongUptoCardSaid : Prop := Claim7.holds Tryd.pinned (.plain (OpenSpec.upto lexerLongSpec)) lexerLongUptoCard

/-- THE SECOND FORM's CARD OF 'flagstonelaw7.LexerBlank'. -/
def lexerBlankUptoCard : Claim7 := { stood := { row := lexerBlankUptoRow, standIns := [], harness := (true, "ca6cd26a9a6c2b047d0ab4bb4bb6e43887814becdd3adf5fadd8ea1bae0b328a"), looks := true }, kinds := [], alts := [], laidByText := true, laidKinds := [.data, .data, .data, .data, .sentinel, .sentinel, .data, .pinned], laidTests := true, laidLooks := .later }
def LexerBlankUptoCardSaid : Prop := Claim7.holds Tryd.pinned (.plain (OpenSpec.upto lexerBlankSpec)) lexerBlankUptoCard

/-- THE SECOND FORM's CARD OF 'flagstonelaw7.LexerParts'. -/
def lexerPartsUptoCard : Claim7 := { stood := { row := lexerPartsUptoRow, standIns := [], harness := (true, "ca6cd26a9a6c2b047d0ab4bb4bb6e43887814becdd3adf5fadd8ea1bae0b328a"), looks := true }, kinds := [], alts := [], laidByText := true, laidKinds := [.data, .data, .data, .data, .sentinel, .sentinel, .data, .pinned], laidTests := true, laidLooks := .later }
def LexerPartsUptoCardSaid : Prop := Claim7.holds Tryd.pinned (.plain (OpenSpec.upto lexerPartsSpec)) lexerPartsUptoCard

/-- THE SECOND FORM's CARD OF 'flagstonelaw7.LexerTexts'. -/
def lexerTextsUptoCard : Claim7 := { stood := { row := lexerTextsUptoRow, standIns := [], harness := (true, "ca6cd26a9a6c2b047d0ab4bb4bb6e43887814becdd3adf5fadd8ea1bae0b328a"), looks := true }, kinds := [], alts := [], laidByText := true, laidKinds := [.data, .data, .data, .data, .sentinel, .sentinel, .pinned], laidTests := true, laidLooks := .later }
def LexerTextsUptoCardSaid : Prop := Claim7.holds Tryd.pinned (.plain (OpenSpec.upto lexerTextsSpec)) lexerTextsUptoCard

/-- THE SECOND FORM's CARD OF 'flagstonelaw3.ValueVersions'. -/
def valueVersionsUptoCard : Claim7 := { stood := { row := valueVersionsUptoRow, standIns := [], harness := (true, "ca6cd26a9a6c2b047d0ab4bb4bb6e43887814becdd3adf5fadd8ea1bae0b328a"), looks := true }, kinds := [], alts := [], laidByText := true, laidKinds := [.data, .data, .data, .data, .sentinel, .sentinel, .pinned], laidTests := true, laidLooks := .later }
def ValueVersionsUptoCardSaid : Prop := Claim7.holds Tryd.pinned (.plain (OpenSpec.upto valueVersionsSpec)) valueVersionsUptoCard

/-- THE SECOND FORM's CARD OF 'flagstonelaw3.ValueOrder'. -/
def valueOrderUptoCard : Claim7 := { stood := { row := valueOrderUptoRow, standIns := [], harness := (true, "ca6cd26a9a6c2b047d0ab4bb4bb6e43887814becdd3adf5fadd8ea1bae0b328a"), looks := true }, kinds := [], alts := [], laidByText := true, laidKinds := [.data, .data, .data, .data, .data, .data, .widerDeep, .sentinel, .sentinel, .pinned], laidTests := true, laidLooks := .later }
def ValueOrderUptoCardSaid : Prop := Claim7.holds Tryd.pinned (.plain (OpenSpec.upto valueOrderSpec)) valueOrderUptoCard

/-- THE SECOND FORM's CARD OF 'flagstonelaw3.ValueParts'. -/
def valuePartsUptoCard : Claim7 := { stood := { row := valuePartsUptoRow, standIns := [], harness := (true, "ca6cd26a9a6c2b047d0ab4bb4bb6e43887814becdd3adf5fadd8ea1bae0b328a"), looks := true }, kinds := [], alts := [], laidByText := true, laidKinds := [.data, .data, .data, .data, .sentinel, .sentinel, .widerDeep, .pinned], laidTests := true, laidLooks := .later }
def ValuePartsUptoCardSaid : Prop := Claim7.holds Tryd.pinned (.plain (OpenSpec.upto valuePartsSpec)) valuePartsUptoCard
end Rows
end Go.Proofs.YtpildefkhlejgaaDoor
