/-
  DERIVED. GIVEN WITH THE SEED: THE CARDS: each row of YthnjgbjckggjhaaGreatDoorRows.lean that lists a variable, with what it lists TIED to the program's text (the seventh form; the later family's looks); each row that meets fmt, with fmt's text TOLD by the authors' own Lean function (tested against real Go, not proved from fmt's source: count such statements apart). THE CARD IS WHAT COUNTS. Prove the row's statement (the work); the ties are given (YthnjgbjckggjhaaGreatDoorTie.lean); close each card by the builder's one call (the guide's Derived/Test/ToyasCard.lean, 'card_holds'). Laid BY PROGRAM, IN A SANDBOX (cutbox-door.mjs). By AI agents, Wed Nov 11 2026. No macro, syntax, notation, axiom, sorry.
-/
import Derived.Test.YthnjgbjckggjhaaGreatDoorRows
import GoSem.ClaimSeven
namespace Go.Proofs.YthnjgbjckggjhaaGreatDoor
namespace Rows

/-- THE TIED CARD OF 'flagstonelaw5.SubjectLooks'. -/
def subjectLooksCard : Claim7 := { stood := { row := subjectLooksRow, standIns := [], harness := (true, "18e93058efe397baf960413a3ccf45f8577483d4b6281e5d576fdf9e4fa99eec"), looks := true }, kinds := [], alts := [], laidByText := true, laidKinds := [.data, .data, .data, .data, .data, .data, .widerDeep, .sentinel, .sentinel, .listed, .data, .pinned], laidTests := true, laidLooks := .later }
def SubjectLooksCardSaid : Prop := Claim7.holds Tryz.pinned (.plain (OpenSpec.ofChange subjectLooksSpec)) subjectLooksCard

/-- THE SECOND FORM's CARD OF 'flagstonelaw5.SubjectLooks'. -/
def subjectLooksUptoCard : Claim7 := { stood := { row := subjectLooksUptoRow, standIns := [], harness := (true, "18e93058efe397baf960413a3ccf45f8577483d4b6281e5d576fdf9e4fa99eec"), looks := true }, kinds := [], alts := [], laidByText := true, laidKinds := [.data, .data, .data, .data, .data, .data, .widerDeep, .sentinel, .sentinel, .listed, .data, .pinned], laidTests := true, laidLooks := .later }
def SubjectLooksUptoCardSaid : Prop := Claim7.holds Tryz.pinned (.plain (OpenSpec.upto subjectLooksSpec)) subjectLooksUptoCard
end Rows
end Go.Proofs.YthnjgbjckggjhaaGreatDoor
