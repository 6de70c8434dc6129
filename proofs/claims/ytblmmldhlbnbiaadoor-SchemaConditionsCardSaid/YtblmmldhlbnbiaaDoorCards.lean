/-
  DERIVED. GIVEN WITH THE SEED: THE CARDS: each row of YtblmmldhlbnbiaaDoorRows.lean that lists a variable, with what it lists TIED to the program's text (the seventh form; the later family's looks); each row that meets fmt, with fmt's text TOLD by the authors' own Lean function (tested against real Go, not proved from fmt's source: count such statements apart). THE CARD IS WHAT COUNTS. Prove the row's statement (the work); the ties are given (YtblmmldhlbnbiaaDoorTie.lean); close each card by the builder's one call (the guide's Derived/Test/ToyasCard.lean, 'card_holds'). Laid BY PROGRAM, IN A SANDBOX (cutbox-door.mjs). By AI agents, Wed Nov 11 2026. No macro, syntax, notation, axiom, sorry.
-/
import Derived.Test.YtblmmldhlbnbiaaDoorRows
import GoSem.ClaimSeven
namespace Go.Proofs.YtblmmldhlbnbiaaDoor
namespace Rows

/-- THE TIED CARD OF 'flagstonelaw9.SchemaConditions'. -/
def schemaConditionsCard : Claim7 := { stood := { row := schemaConditionsRow, standIns := [], harness := (true, "2110640f4ef5b3d129a71b0ce0e3e2676e17aa85e8866e883752cff116bea48c"), looks := false }, kinds := [], alts := [], laidByText := true, laidKinds := [.data, .data, .widerDeep], laidTests := true, laidLooks := .later }
def SchemaConditionsCardSaid : Prop := Claim7.holds Tryd.pinned (.plain (OpenSpec.ofChange schemaConditionsSpec)) schemaConditionsCard

/-- THE TIED CARD OF 'flagstonelaw9.SchemaTests'. -/
def schemaTestsCard : Claim7 := { stood := { row := schemaTestsRow, standIns := [], harness := (true, "2110640f4ef5b3d129a71b0ce0e3e2676e17aa85e8866e883752cff116bea48c"), looks := false }, kinds := [], alts := [], laidByText := true, laidKinds := [.data, .data, .widerDeep], laidTests := true, laidLooks := .later }
def SchemaTestsCardSaid : Prop := Claim7.holds Tryd.pinned (.plain (OpenSpec.ofChange schemaTestsSpec)) schemaTestsCard

/-- THE TIED CARD OF 'flagstonelaw9.SchemaMore'. -/
def schemaMoreCard : Claim7 := { stood := { row := schemaMoreRow, standIns := [], harness := (true, "2110640f4ef5b3d129a71b0ce0e3e2676e17aa85e8866e883752cff116bea48c"), looks := false }, kinds := [], alts := [], laidByText := true, laidKinds := [.data, .data, .widerDeep], laidTests := true, laidLooks := .later }
def SchemaMoreCardSaid : Prop := Claim7.holds Tryd.pinned (.plain (OpenSpec.ofChange schemaMoreSpec)) schemaMoreCard

/-- THE SECOND FORM's CARD OF 'flagstonelaw9.SchemaConditions'. -/
def schemaConditionsUptoCard : Claim7 := { stood := { row := schemaConditionsUptoRow, standIns := [], harness := (true, "2110640f4ef5b3d129a71b0ce0e3e2676e17aa85e8866e883752cff116bea48c"), looks := false }, kinds := [], alts := [], laidByText := true, laidKinds := [.data, .data, .widerDeep], laidTests := true, laidLooks := .later }
def SchemaConditionsUptoCardSaid : Prop := Claim7.holds Tryd.pinned (.plain (OpenSpec.upto schemaConditionsSpec)) schemaConditionsUptoCard

/-- THE SECOND FORM's CARD OF 'flagstonelaw9.SchemaTests'. -/
def schemaTestsUptoCard : Claim7 := { stood := { row := schemaTestsUptoRow, standIns := [], harness := (true, "2110640f4ef5b3d129a71b0ce0e3e2676e17aa85e8866e883752cff116bea48c"), looks := false }, kinds := [], alts := [], laidByText := true, laidKinds := [.data, .data, .widerDeep], laidTests := true, laidLooks := .later }
def SchemaTestsUptoCardSaid : Prop := Claim7.holds Tryd.pinned (.plain (OpenSpec.upto schemaTestsSpec)) schemaTestsUptoCard

/-- THE SECOND FORM's CARD OF 'flagstonelaw9.SchemaMore'. -/
def schemaMoreUptoCard : Claim7 := { stood := { row := schemaMoreUptoRow, standIns := [], harness := (true, "2110640f4ef5b3d129a71b0ce0e3e2676e17aa85e8866e883752cff116bea48c"), looks := false }, kinds := [], alts := [], laidByText := true, laidKinds := [.data, .data, .widerDeep], laidTests := true, laidLooks := .later }
def SchemaMoreUptoCardSaid : Prop := Claim7.holds Tryd.pinned (.plain (OpenSpec.upto schemaMoreSpec)) schemaMoreUptoCard
end Rows
end Go.Proofs.YtblmmldhlbnbiaaDoor
