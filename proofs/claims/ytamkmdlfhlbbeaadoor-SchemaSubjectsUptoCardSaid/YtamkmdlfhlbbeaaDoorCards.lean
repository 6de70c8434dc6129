/-
  DERIVED. GIVEN WITH THE SEED: THE CARDS: each row of YtamkmdlfhlbbeaaDoorRows.lean that lists a variable, with what it lists TIED to the program's text (the seventh form; the later family's looks); each row that meets fmt, with fmt's text TOLD by the authors' own Lean function (tested against real Go, not proved from fmt's source: count such statements apart). THE CARD IS WHAT COUNTS. Prove the row's statement (the work); the ties are given (YtamkmdlfhlbbeaaDoorTie.lean); close each card by the builder's one call (the guide's Derived/Test/ToyasCard.lean, 'card_holds'). Laid BY PROGRAM, IN A SANDBOX (cutbox-door.mjs). By AI agents, Wed Nov 11 2026. No macro, syntax, notation, axiom, sorry.
-/
import Derived.Test.YtamkmdlfhlbbeaaDoorRows
import GoSem.ClaimSeven
namespace Go.Proofs.YtamkmdlfhlbbeaaDoor
namespace Rows

/-- THE TIED CARD OF 'flagstonelaw9.SchemaSubjects'. -/
def schemaSubjectsCard : Claim7 := { stood := { row := schemaSubjectsRow, standIns := [], harness := (true, "5ba1da759c5e7412df1a3dbc80718d9b8cf8b06d1063886237b7be8e8deaa1a9"), looks := true }, kinds := [], alts := [], laidByText := true, laidKinds := [.data, .data, .data, .data, .data, .data, .widerDeep, .sentinel, .sentinel, .listed, .data, .pinned], laidTests := true, laidLooks := .later }
def SchemaSubjectsCardSaid : Prop := Claim7.holds Tryd.pinned (.plain (OpenSpec.ofChange schemaSubjectsSpec)) schemaSubjectsCard

/-- THE SECOND FORM's CARD OF 'flagstonelaw9.SchemaSubjects'. -/
def schemaSubjectsUptoCard : Claim7 := { stood := { row := schemaSubjectsUptoRow, standIns := [], harness := (true, "5ba1da759c5e7412df1a3dbc80718d9b8cf8b06d1063886237b7be8e8deaa1a9"), looks := true }, kinds := [], alts := [], laidByText := true, laidKinds := [.data, .data, .data, .data, .data, .data, .widerDeep, .sentinel, .sentinel, .listed, .data, .pinned], laidTests := true, laidLooks := .later }
def SchemaSubjectsUptoCardSaid : Prop := Claim7.holds Tryd.pinned (.plain (OpenSpec.upto schemaSubjectsSpec)) schemaSubjectsUptoCard
end Rows
end Go.Proofs.YtamkmdlfhlbbeaaDoor
