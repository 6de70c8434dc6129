/-
  DERIVED. GIVEN WITH THE SEED: THE CARDS: each row of YtfffpflflggonaaGreatDoorRows.lean that lists a variable, with what it lists TIED to the program's text (the seventh form; the later family's looks); each row that meets fmt, with fmt's text TOLD by the authors' own Lean function (tested against real Go, not proved from fmt's source: count such statements apart). THE CARD IS WHAT COUNTS. Prove the row's statement (the work); the ties are given (YtfffpflflggonaaGreatDoorTie.lean); close each card by the builder's one call (the guide's Derived/Test/ToyasCard.lean, 'card_holds'). Laid BY PROGRAM, IN A SANDBOX (cutbox-door.mjs). By AI agents, Wed Nov 11 2026. No macro, syntax, notation, axiom, sorry.
-/
import Derived.Test.YtfffpflflggonaaGreatDoorRows
import GoSem.ClaimSeven
namespace Go.Proofs.YtfffpflflggonaaGreatDoor
namespace Rows

/-- THE TIED CARD OF 'flagstonelaw8.SourceNests'. -/
def sourceNestsCard : Claim7 := { stood := { row := sourceNestsRow, standIns := [], harness := (true, "b5a2b6ca4e38d51e8cd0e99325e77638fdd007d6625503a6acb4bc3534acf43f"), looks := true }, kinds := [], alts := [], laidByText := true, laidKinds := [.data, .data, .data, .data, .sentinel, .sentinel, .listed, .data, .pinned], laidTests := true, laidLooks := .later }
def SourceNestsCardSaid : Prop := Claim7.holds Tryz.pinned (.plain (OpenSpec.ofChange sourceNestsSpec)) sourceNestsCard

/-- THE TIED CARD OF 'flagstonelaw8.SourcePrints'. -/
def sourcePrintsCard : Claim7 := { stood := { row := sourcePrintsRow, standIns := [], harness := (true, "b5a2b6ca4e38d51e8cd0e99325e77638fdd007d6625503a6acb4bc3534acf43f"), looks := true }, kinds := [], alts := [], laidByText := true, laidKinds := [.data, .data, .data, .data, .data, .data, .widerDeep, .sentinel, .sentinel, .listed, .data, .data, .pinned], laidTests := true, laidLooks := .later }
def SourcePrintsCardSaid : Prop := Claim7.holds Tryz.pinned (.plain (OpenSpec.ofChange sourcePrintsSpec)) sourcePrintsCard

/-- THE SECOND FORM's CARD OF 'flagstonelaw8.SourceNests'. -/
def sourceNestsUptoCard : Claim7 := { stood := { row := sourceNestsUptoRow, standIns := [], harness := (true, "b5a2b6ca4e38d51e8cd0e99325e77638fdd007d6625503a6acb4bc3534acf43f"), looks := true }, kinds := [], alts := [], laidByText := true, laidKinds := [.data, .data, .data, .data, .sentinel, .sentinel, .listed, .data, .pinned], laidTests := true, laidLooks := .later }
def SourceNestsUptoCardSaid : Prop := Claim7.holds Tryz.pinned (.plain (OpenSpec.upto sourceNestsSpec)) sourceNestsUptoCard

/-- THE SECOND FORM's CARD OF 'flagstonelaw8.SourcePrints'. -/
def sourcePrintsUptoCard : Claim7 := { stood := { row := sourcePrintsUptoRow, standIns := [], harness := (true, "b5a2b6ca4e38d51e8cd0e99325e77638fdd007d6625503a6acb4bc3534acf43f"), looks := true }, kinds := [], alts := [], laidByText := true, laidKinds := [.data, .data, .data, .data, .data, .data, .widerDeep, .sentinel, .sentinel, .listed, .data, .data, .pinned], laidTests := true, laidLooks := .later }
def SourcePrintsUptoCardSaid : Prop := Claim7.holds Tryz.pinned (.plain (OpenSpec.upto sourcePrintsSpec)) sourcePrintsUptoCard
end Rows
end Go.Proofs.YtfffpflflggonaaGreatDoor
