/-
  DERIVED. GIVEN WITH THE SEED: THE CARDS: each row of YtamkmdlfhlbbeaaGreatDoorRows.lean that lists a variable, with what it lists TIED to the program's text (the seventh form; the later family's looks); each row that meets fmt, with fmt's text TOLD by the authors' own Lean function (tested against real Go, not proved from fmt's source: count such statements apart). THE CARD IS WHAT COUNTS. Prove the row's statement (the work); the ties are given (YtamkmdlfhlbbeaaGreatDoorTie.lean); close each card by the builder's one call (the guide's Derived/Test/ToyasCard.lean, 'card_holds'). Laid BY PROGRAM, IN A SANDBOX (cutbox-door.mjs). By AI agents, Wed Nov 11 2026. No macro, syntax, notation, axiom, sorry.
-/
import Derived.Test.YtamkmdlfhlbbeaaGreatDoorRows
import GoSem.ClaimSeven
namespace Go.Proofs.YtamkmdlfhlbbeaaGreatDoor
namespace Rows

/-- THE TIED CARD OF 'flagstonelaw5.SubjectChecks'. -/
def subjectChecksCard : Claim7 := { stood := { row := subjectChecksRow, standIns := [], harness := (true, "cdb60dcf8fd14c0a79d6470ef0a9e640a209cba3b25450d0fea1c40f72e9a537"), looks := true }, kinds := [], alts := [], laidByText := true, laidKinds := [.data, .data, .data, .data, .data, .data, .widerDeep, .sentinel, .sentinel, .listed, .data, .pinned], laidTests := true, laidLooks := .later }
def SubjectChecksCardSaid : Prop := Claim7.holds Tryz.pinned (.plain (OpenSpec.ofChange subjectChecksSpec)) subjectChecksCard

/-- THE TIED CARD OF 'flagstonelaw5.SubjectCanonical'. -/
def subjectCanonicalCard : Claim7 := { stood := { row := subjectCanonicalRow, standIns := [], harness := (true, "cdb60dcf8fd14c0a79d6470ef0a9e640a209cba3b25450d0fea1c40f72e9a537"), looks := true }, kinds := [], alts := [], laidByText := true, laidKinds := [.data, .data, .data, .data, .data, .data, .widerDeep, .sentinel, .sentinel, .listed, .data, .pinned], laidTests := true, laidLooks := .later }
def SubjectCanonicalCardSaid : Prop := Claim7.holds Tryz.pinned (.plain (OpenSpec.ofChange subjectCanonicalSpec)) subjectCanonicalCard

/-- THE TIED CARD OF 'flagstonelaw5.SubjectLooks'. -/
def subjectLooksCard : Claim7 := { stood := { row := subjectLooksRow, standIns := [], harness := (true, "cdb60dcf8fd14c0a79d6470ef0a9e640a209cba3b25450d0fea1c40f72e9a537"), looks := true }, kinds := [], alts := [], laidByText := true, laidKinds := [.data, .data, .data, .data, .data, .data, .widerDeep, .sentinel, .sentinel, .listed, .data, .pinned], laidTests := true, laidLooks := .later }
def SubjectLooksCardSaid : Prop := Claim7.holds Tryz.pinned (.plain (OpenSpec.ofChange subjectLooksSpec)) subjectLooksCard

/-- THE TIED CARD OF 'flagstonelaw5.SubjectDecodes'. -/
def subjectDecodesCard : Claim7 := { stood := { row := subjectDecodesRow, standIns := [], harness := (true, "cdb60dcf8fd14c0a79d6470ef0a9e640a209cba3b25450d0fea1c40f72e9a537"), looks := true }, kinds := [], alts := [], laidByText := true, laidKinds := [.data, .data, .data, .data, .data, .data, .widerDeep, .sentinel, .sentinel, .listed, .data, .pinned], laidTests := true, laidLooks := .later }
def SubjectDecodesCardSaid : Prop := Claim7.holds Tryz.pinned (.plain (OpenSpec.ofChange subjectDecodesSpec)) subjectDecodesCard

/-- THE TIED CARD OF 'flagstonelaw5.SubjectTrip'. -/
def subjectTripCard : Claim7 := { stood := { row := subjectTripRow, standIns := [], harness := (true, "cdb60dcf8fd14c0a79d6470ef0a9e640a209cba3b25450d0fea1c40f72e9a537"), looks := true }, kinds := [], alts := [], laidByText := true, laidKinds := [.data, .data, .data, .data, .data, .data, .widerDeep, .sentinel, .sentinel, .listed, .data, .pinned], laidTests := true, laidLooks := .later }
def SubjectTripCardSaid : Prop := Claim7.holds Tryz.pinned (.plain (OpenSpec.ofChange subjectTripSpec)) subjectTripCard

/-- THE TIED CARD OF 'flagstonelaw5.SubjectWith'. -/
def subjectWithCard : Claim7 := { stood := { row := subjectWithRow, standIns := [], harness := (true, "cdb60dcf8fd14c0a79d6470ef0a9e640a209cba3b25450d0fea1c40f72e9a537"), looks := true }, kinds := [], alts := [], laidByText := true, laidKinds := [.data, .data, .data, .data, .data, .data, .widerDeep, .sentinel, .sentinel, .listed, .data, .pinned], laidTests := true, laidLooks := .later }
def SubjectWithCardSaid : Prop := Claim7.holds Tryz.pinned (.plain (OpenSpec.ofChange subjectWithSpec)) subjectWithCard

/-- THE TIED CARD OF 'flagstonelaw5.SubjectJoins'. -/
def subjectJoinsCard : Claim7 := { stood := { row := subjectJoinsRow, standIns := [], harness := (true, "cdb60dcf8fd14c0a79d6470ef0a9e640a209cba3b25450d0fea1c40f72e9a537"), looks := true }, kinds := [], alts := [], laidByText := true, laidKinds := [.data, .data, .data, .data, .data, .data, .widerDeep, .sentinel, .sentinel, .listed, .data, .pinned], laidTests := true, laidLooks := .later }
def SubjectJoinsCardSaid : Prop := Claim7.holds Tryz.pinned (.plain (OpenSpec.ofChange subjectJoinsSpec)) subjectJoinsCard

/-- THE SECOND FORM's CARD OF 'flagstonelaw5.SubjectChecks'. -/
def subjectChecksUptoCard : Claim7 := { stood := { row := subjectChecksUptoRow, standIns := [], harness := (true, "cdb60dcf8fd14c0a79d6470ef0a9e640a209cba3b25450d0fea1c40f72e9a537"), looks := true }, kinds := [], alts := [], laidByText := true, laidKinds := [.data, .data, .data, .data, .data, .data, .widerDeep, .sentinel, .sentinel, .listed, .data, .pinned], laidTests := true, laidLooks := .later }
def SubjectChecksUptoCardSaid : Prop := Claim7.holds Tryz.pinned (.plain (OpenSpec.upto subjectChecksSpec)) subjectChecksUptoCard

/-- THE SECOND FORM's CARD OF 'flagstonelaw5.SubjectCanonical'. -/
def subjectCanonicalUptoCard : Claim7 := { stood := { row := subjectCanonicalUptoRow, standIns := [], harness := (true, "cdb60dcf8fd14c0a79d6470ef0a9e640a209cba3b25450d0fea1c40f72e9a537"), looks := true }, kinds := [], alts := [], laidByText := true, laidKinds := [.data, .data, .data, .data, .data, .data, .widerDeep, .sentinel, .sentinel, .listed, .data, .pinned], laidTests := true, laidLooks := .later }
def SubjectCanonicalUptoCardSaid : Prop := Claim7.holds Tryz.pinned (.plain (OpenSpec.upto subjectCanonicalSpec)) subjectCanonicalUptoCard

/-- THE SECOND FORM's CARD OF 'flagstonelaw5.SubjectLooks'. -/
def subjectLooksUptoCard : Claim7 := { stood := { row := subjectLooksUptoRow, standIns := [], harness := (true, "cdb60dcf8fd14c0a79d6470ef0a9e640a209cba3b25450d0fea1c40f72e9a537"), looks := true }, kinds := [], alts := [], laidByText := true, laidKinds := [.data, .data, .data, .data, .data, .data, .widerDeep, .sentinel, .sentinel, .listed, .data, .pinned], laidTests := true, laidLooks := .later }
def SubjectLooksUptoCardSaid : Prop := Claim7.holds Tryz.pinned (.plain (OpenSpec.upto subjectLooksSpec)) subjectLooksUptoCard

/-- THE SECOND FORM's CARD OF 'flagstonelaw5.SubjectDecodes'. -/
def subjectDecodesUptoCard : Claim7 := { stood := { row := subjectDecodesUptoRow, standIns := [], harness := (true, "cdb60dcf8fd14c0a79d6470ef0a9e640a209cba3b25450d0fea1c40f72e9a537"), looks := true }, kinds := [], alts := [], laidByText := true, laidKinds := [.data, .data, .data, .data, .data, .data, .widerDeep, .sentinel, .sentinel, .listed, .data, .pinned], laidTests := true, laidLooks := .later }
def SubjectDecodesUptoCardSaid : Prop := Claim7.holds Tryz.pinned (.plain (OpenSpec.upto subjectDecodesSpec)) subjectDecodesUptoCard

/-- THE SECOND FORM's CARD OF 'flagstonelaw5.SubjectTrip'. -/
def subjectTripUptoCard : Claim7 := { stood := { row := subjectTripUptoRow, standIns := [], harness := (true, "cdb60dcf8fd14c0a79d6470ef0a9e640a209cba3b25450d0fea1c40f72e9a537"), looks := true }, kinds := [], alts := [], laidByText := true, laidKinds := [.data, .data, .data, .data, .data, .data, .widerDeep, .sentinel, .sentinel, .listed, .data, .pinned], laidTests := true, laidLooks := .later }
def SubjectTripUptoCardSaid : Prop := Claim7.holds Tryz.pinned (.plain (OpenSpec.upto subjectTripSpec)) subjectTripUptoCard

/-- THE SECOND FORM's CARD OF 'flagstonelaw5.SubjectWith'. -/
def subjectWithUptoCard : Claim7 := { stood := { row := subjectWithUptoRow, standIns := [], harness := (true, "cdb60dcf8fd14c0a79d6470ef0a9e640a209cba3b25450d0fea1c40f72e9a537"), looks := true }, kinds := [], alts := [], laidByText := true, laidKinds := [.data, .data, .data, .data, .data, .data, .widerDeep, .sentinel, .sentinel, .listed, .data, .pinned], laidTests := true, laidLooks := .later }
def SubjectWithUptoCardSaid : Prop := Claim7.holds Tryz.pinned (.plain (OpenSpec.upto subjectWithSpec)) subjectWithUptoCard

/-- THE SECOND FORM's CARD OF 'flagstonelaw5.SubjectJoins'. -/
def subjectJoinsUptoCard : Claim7 := { stood := { row := subjectJoinsUptoRow, standIns := [], harness := (true, "cdb60dcf8fd14c0a79d6470ef0a9e640a209cba3b25450d0fea1c40f72e9a537"), looks := true }, kinds := [], alts := [], laidByText := true, laidKinds := [.data, .data, .data, .data, .data, .data, .widerDeep, .sentinel, .sentinel, .listed, .data, .pinned], laidTests := true, laidLooks := .later }
def SubjectJoinsUptoCardSaid : Prop := Claim7.holds Tryz.pinned (.plain (OpenSpec.upto subjectJoinsSpec)) subjectJoinsUptoCard
end Rows
end Go.Proofs.YtamkmdlfhlbbeaaGreatDoor
