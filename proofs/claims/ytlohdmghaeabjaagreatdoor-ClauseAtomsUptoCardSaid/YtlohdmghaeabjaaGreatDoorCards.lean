/-
  DERIVED. GIVEN WITH THE SEED: THE CARDS: each row of YtlohdmghaeabjaaGreatDoorRows.lean that lists a variable, with what it lists TIED to the program's text (the seventh form; the later family's looks); each row that meets fmt, with fmt's text TOLD by the authors' own Lean function (tested against real Go, not proved from fmt's source: count such statements apart). THE CARD IS WHAT COUNTS. Prove the row's statement (the work); the ties are given (YtlohdmghaeabjaaGreatDoorTie.lean); close each card by the builder's one call (the guide's Derived/Test/ToyasCard.lean, 'card_holds'). Laid BY PROGRAM, IN A SANDBOX (cutbox-door.mjs). By AI agents, Wed Nov 11 2026. No macro, syntax, notation, axiom, sorry.
-/
import Derived.Test.YtlohdmghaeabjaaGreatDoorRows
import GoSem.ClaimSeven
namespace Go.Proofs.YtlohdmghaeabjaaGreatDoor
namespace Rows

/-- THE TIED CARD OF 'flagstonelaw11.ClauseTests'. -/
def clauseTestsCard : Claim7 := { stood := { row := clauseTestsRow, standIns := [], harness := (true, "7054505e2356449f27f5dfcf586526213451b6d3958227ba7d1c3696ad0404e9"), looks := true }, kinds := [], alts := [], laidByText := true, laidKinds := [.data, .data, .data, .data, .data, .data, .widerDeep, .sentinel, .sentinel, .pinned], laidTests := true, laidLooks := .later }
def ClauseTestsCardSaid : Prop := Claim7.holds Tryz.pinned (.plain (OpenSpec.ofChange clauseTestsSpec)) clauseTestsCard

/-- THE TIED CARD OF 'flagstonelaw11.ClauseOperations'. -/
def clauseOperationsCard : Claim7 := { stood := { row := clauseOperationsRow, standIns := [], harness := (true, "7054505e2356449f27f5dfcf586526213451b6d3958227ba7d1c3696ad0404e9"), looks := true }, kinds := [], alts := [], laidByText := true, laidKinds := [.data, .data, .data, .data, .data, .data, .widerDeep, .sentinel, .sentinel, .pinned], laidTests := true, laidLooks := .later }
def ClauseOperationsCardSaid : Prop := Claim7.holds Tryz.pinned (.plain (OpenSpec.ofChange clauseOperationsSpec)) clauseOperationsCard

/-- THE TIED CARD OF 'flagstonelaw11.ClauseEvals'. -/
def clauseEvalsCard : Claim7 := { stood := { row := clauseEvalsRow, standIns := [], harness := (true, "7054505e2356449f27f5dfcf586526213451b6d3958227ba7d1c3696ad0404e9"), looks := true }, kinds := [], alts := [], laidByText := true, laidKinds := [.data, .data, .data, .data, .data, .data, .widerDeep, .sentinel, .sentinel, .pinned], laidTests := true, laidLooks := .later }
def ClauseEvalsCardSaid : Prop := Claim7.holds Tryz.pinned (.plain (OpenSpec.ofChange clauseEvalsSpec)) clauseEvalsCard

/-- THE TIED CARD OF 'flagstonelaw11.ClauseAtoms'. -/
def clauseAtomsCard : Claim7 := { stood := { row := clauseAtomsRow, standIns := [], harness := (true, "7054505e2356449f27f5dfcf586526213451b6d3958227ba7d1c3696ad0404e9"), looks := true }, kinds := [], alts := [], laidByText := true, laidKinds := [.data, .data, .data, .data, .data, .data, .widerDeep, .sentinel, .sentinel, .pinned], laidTests := true, laidLooks := .later }
def ClauseAtomsCardSaid : Prop := Claim7.holds Tryz.pinned (.plain (OpenSpec.ofChange clauseAtomsSpec)) clauseAtomsCard

/-- THE TIED CARD OF 'flagstonelaw11.ClauseSwaps'. -/
def clauseSwapsCard : Claim7 := { stood := { row := clauseSwapsRow, standIns := [], harness := (true, "7054505e2356449f27f5dfcf586526213451b6d3958227ba7d1c3696ad0404e9"), looks := true }, kinds := [], alts := [], laidByText := true, laidKinds := [.data, .data, .data, .data, .data, .data, .widerDeep, .sentinel, .sentinel, .pinned], laidTests := true, laidLooks := .later }
def ClauseSwapsCardSaid : Prop := Claim7.holds Tryz.pinned (.plain (OpenSpec.ofChange clauseSwapsSpec)) clauseSwapsCard

/-- THE TIED CARD OF 'flagstonelaw11.ClauseNegates'. -/
def clauseNegatesCard : Claim7 := { stood := { row := clauseNegatesRow, standIns := [], harness := (true, "7054505e2356449f27f5dfcf586526213451b6d3958227ba7d1c3696ad0404e9"), looks := true }, kinds := [], alts := [], laidByText := true, laidKinds := [.data, .data, .data, .data, .data, .data, .widerDeep, .sentinel, .sentinel, .pinned], laidTests := true, laidLooks := .later }
def ClauseNegatesCardSaid : Prop := Claim7.holds Tryz.pinned (.plain (OpenSpec.ofChange clauseNegatesSpec)) clauseNegatesCard

/-- THE TIED CARD OF 'flagstonelaw11.ClauseCompares'. -/
def clauseComparesCard : Claim7 := { stood := { row := clauseComparesRow, standIns := [], harness := (true, "7054505e2356449f27f5dfcf586526213451b6d3958227ba7d1c3696ad0404e9"), looks := true }, kinds := [], alts := [], laidByText := true, laidKinds := [.data, .data, .data, .data, .data, .data, .widerDeep, .sentinel, .sentinel, .pinned], laidTests := true, laidLooks := .later }
def ClauseComparesCardSaid : Prop := Claim7.holds Tryz.pinned (.plain (OpenSpec.ofChange clauseComparesSpec)) clauseComparesCard

/-- THE SECOND FORM's CARD OF 'flagstonelaw11.ClauseTests'. -/
def clauseTestsUptoCard : Claim7 := { stood := { row := clauseTestsUptoRow, standIns := [], harness := (true, "7054505e2356449f27f5dfcf586526213451b6d3958227ba7d1c3696ad0404e9"), looks := true }, kinds := [], alts := [], laidByText := true, laidKinds := [.data, .data, .data, .data, .data, .data, .widerDeep, .sentinel, .sentinel, .pinned], laidTests := true, laidLooks := .later }
def ClauseTestsUptoCardSaid : Prop := Claim7.holds Tryz.pinned (.plain (OpenSpec.upto clauseTestsSpec)) clauseTestsUptoCard

/-- THE SECOND FORM's CARD OF 'flagstonelaw11.ClauseOperations'. -/
def clauseOperationsUptoCard : Claim7 := { stood := { row := clauseOperationsUptoRow, standIns := [], harness := (true, "7054505e2356449f27f5dfcf586526213451b6d3958227ba7d1c3696ad0404e9"), looks := true }, kinds := [], alts := [], laidByText := true, laidKinds := [.data, .data, .data, .data, .data, .data, .widerDeep, .sentinel, .sentinel, .pinned], laidTests := true, laidLooks := .later }
def ClauseOperationsUptoCardSaid : Prop := Claim7.holds Tryz.pinned (.plain (OpenSpec.upto clauseOperationsSpec)) clauseOperationsUptoCard

/-- THE SECOND FORM's CARD OF 'flagstonelaw11.ClauseEvals'. -/
def clauseEvalsUptoCard : Claim7 := { stood := { row := clauseEvalsUptoRow, standIns := [], harness := (true, "7054505e2356449f27f5dfcf586526213451b6d3958227ba7d1c3696ad0404e9"), looks := true }, kinds := [], alts := [], laidByText := true, laidKinds := [.data, .data, .data, .data, .data, .data, .widerDeep, .sentinel, .sentinel, .pinned], laidTests := true, laidLooks := .later }
def ClauseEvalsUptoCardSaid : Prop := Claim7.holds Tryz.pinned (.plain (OpenSpec.upto clauseEvalsSpec)) clauseEvalsUptoCard

/-- THE SECOND FORM's CARD OF 'flagstonelaw11.ClauseAtoms'. -/
def clauseAtomsUptoCard : Claim7 := { stood := { row := clauseAtomsUptoRow, standIns := [], harness := (true, "7054505e2356449f27f5dfcf586526213451b6d3958227ba7d1c3696ad0404e9"), looks := true }, kinds := [], alts := [], laidByText := true, laidKinds := [.data, .data, .data, .data, .data, .data, .widerDeep, .sentinel, .sentinel, .pinned], laidTests := true, laidLooks := .later }
def ClauseAtomsUptoCardSaid : Prop := Claim7.holds Tryz.pinned (.plain (OpenSpec.upto clauseAtomsSpec)) clauseAtomsUptoCard

/-- THE SECOND FORM's CARD OF 'flagstonelaw11.ClauseSwaps'. -/
def clauseSwapsUptoCard : Claim7 := { stood := { row := clauseSwapsUptoRow, standIns := [], harness := (true, "7054505e2356449f27f5dfcf586526213451b6d3958227ba7d1c3696ad0404e9"), looks := true }, kinds := [], alts := [], laidByText := true, laidKinds := [.data, .data, .data, .data, .data, .data, .widerDeep, .sentinel, .sentinel, .pinned], laidTests := true, laidLooks := .later }
def ClauseSwapsUptoCardSaid : Prop := Claim7.holds Tryz.pinned (.plain (OpenSpec.upto clauseSwapsSpec)) clauseSwapsUptoCard

/-- THE SECOND FORM's CARD OF 'flagstonelaw11.ClauseNegates'. -/
def clauseNegatesUptoCard : Claim7 := { stood := { row := clauseNegatesUptoRow, standIns := [], harness := (true, "7054505e2356449f27f5dfcf586526213451b6d3958227ba7d1c3696ad0404e9"), looks := true }, kinds := [], alts := [], laidByText := true, laidKinds := [.data, .data, .data, .data, .data, .data, .widerDeep, .sentinel, .sentinel, .pinned], laidTests := true, laidLooks := .later }
def ClauseNegatesUptoCardSaid : Prop := Claim7.holds Tryz.pinned (.plain (OpenSpec.upto clauseNegatesSpec)) clauseNegatesUptoCard

/-- THE SECOND FORM's CARD OF 'flagstonelaw11.ClauseCompares'. -/
def clauseComparesUptoCard : Claim7 := { stood := { row := clauseComparesUptoRow, standIns := [], harness := (true, "7054505e2356449f27f5dfcf586526213451b6d3958227ba7d1c3696ad0404e9"), looks := true }, kinds := [], alts := [], laidByText := true, laidKinds := [.data, .data, .data, .data, .data, .data, .widerDeep, .sentinel, .sentinel, .pinned], laidTests := true, laidLooks := .later }
def ClauseComparesUptoCardSaid : Prop := Claim7.holds Tryz.pinned (.plain (OpenSpec.upto clauseComparesSpec)) clauseComparesUptoCard
end Rows
end Go.Proofs.YtlohdmghaeabjaaGreatDoor
