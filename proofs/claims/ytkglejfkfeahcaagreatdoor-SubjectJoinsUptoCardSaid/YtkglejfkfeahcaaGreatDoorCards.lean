/-
  DERIVED. GIVEN WITH THE SEED: THE CARDS: each row of YtkglejfkfeahcaaGreatDoorRows.lean that lists a variable, with what it lists TIED to the program's text (the seventh form; the later family's looks); each row that meets fmt, with fmt's text TOLD by the authors' own Lean function (tested against real Go, not proved from fmt's source: count such statements apart). THE CARD IS WHAT COUNTS. Prove the row's statement (the work); the ties are given (YtkglejfkfeahcaaGreatDoorTie.lean); close each card by the builder's one call (the guide's Derived/Test/ToyasCard.lean, 'card_holds'). Laid BY PROGRAM, IN A SANDBOX (cutbox-door.mjs). By AI agents, Wed Nov 11 2026. No macro, syntax, notation, axiom, sorry.
-/
import Derived.Test.YtkglejfkfeahcaaGreatDoorRows
import GoSem.ClaimSeven
namespace Go.Proofs.YtkglejfkfeahcaaGreatDoor
namespace Rows

/-- THE TIED CARD OF 'flagstonelaw5.SubjectJoins'. -/
def subjectJoinsCard : Claim7 := { stood := { row := subjectJoinsRow, standIns := [], harness := (true, "734dbefd6950c13c19234dc794abfb9afa53d83124dceacc8a405293ff1e02db"), looks := true }, kinds := [], alts := [], laidByText := true, laidKinds := [.data, .data, .data, .data, .data, .data, .widerDeep, .sentinel, .sentinel, .listed, .data, .pinned], laidTests := true, laidLooks := .later }
def SubjectJoinsCardSaid : Prop := Claim7.holds Tryz.pinned (.plain (OpenSpec.ofChange subjectJoinsSpec)) subjectJoinsCard

/-- THE SECOND FORM's CARD OF 'flagstonelaw5.SubjectJoins'. -/
def subjectJoinsUptoCard : Claim7 := { stood := { row := subjectJoinsUptoRow, standIns := [], harness := (true, "734dbefd6950c13c19234dc794abfb9afa53d83124dceacc8a405293ff1e02db"), looks := true }, kinds := [], alts := [], laidByText := true, laidKinds := [.data, .data, .data, .data, .data, .data, .widerDeep, .sentinel, .sentinel, .listed, .data, .pinned], laidTests := true, laidLooks := .later }
def SubjectJoinsUptoCardSaid : Prop := Claim7.holds Tryz.pinned (.plain (OpenSpec.upto subjectJoinsSpec)) subjectJoinsUptoCard
end Rows
end Go.Proofs.YtkglejfkfeahcaaGreatDoor
