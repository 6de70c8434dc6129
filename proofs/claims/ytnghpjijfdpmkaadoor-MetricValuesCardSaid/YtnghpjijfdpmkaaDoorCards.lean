/-
  DERIVED. GIVEN WITH THE SEED: THE CARDS: each row of YtnghpjijfdpmkaaDoorRows.lean that lists a variable, with what it lists TIED to the program's text (the seventh form; the later family's looks); each row that meets fmt, with fmt's text TOLD by the authors' own Lean function (tested against real Go, not proved from fmt's source: count such statements apart). THE CARD IS WHAT COUNTS. Prove the row's statement (the work); the ties are given (YtnghpjijfdpmkaaDoorTie.lean); close each card by the builder's one call (the guide's Derived/Test/ToyasCard.lean, 'card_holds'). Laid BY PROGRAM, IN A SANDBOX (cutbox-door.mjs). By AI agents, Wed Nov 11 2026. No macro, syntax, notation, axiom, sorry.
-/
import Derived.Test.YtnghpjijfdpmkaaDoorRows
import GoSem.ClaimSeven
namespace Go.Proofs.YtnghpjijfdpmkaaDoor
namespace Rows

/-- THE TIED CARD OF 'flagstonelaw34.MetricParses'. -/
def metricParsesCard : Claim7 := { stood := { row := metricParsesRow, standIns := [], harness := (true, "a8310a5298f3c48b233e41bc86b560768607b7a01c8fac485b1a7ee03443d697"), looks := true }, kinds := [], alts := [], laidByText := true, laidKinds := [.data, .data, .data, .sentinel, .sentinel, .listed, .data], laidTests := true, laidLooks := .later }
def MetricParsesCardSaid : Prop := Claim7.holds Tryd.pinned (.plain (OpenSpec.ofChange metricParsesSpec)) metricParsesCard

/-- THE TIED CARD OF 'flagstonelaw34.MetricLong'. -/
def metricLongCard : Claim7 := { stood := { row := metricLongRow, standIns := [], harness := (true, "a8310a5298f3c48b233e41bc86b560768607b7a01c8fac485b1a7ee03443d697"), looks := true }, kinds := [], alts := [], laidByText := true, laidKinds := [.data, .data, .data, .sentinel, .sentinel, .listed, .data], laidTests := true, laidLooks := .later }
def MetricLongCardSaid : Prop := Claim7.holds Tryd.pinned (.plain (OpenSpec.ofChange metricLongSpec)) metricLongCard

/-- THE TIED CARD OF 'flagstonelaw34.MetricValues'. -/
def metricValuesCard : Claim7 := { stood := { row := metricValuesRow, standIns := [], harness := (true, "a8310a5298f3c48b233e41bc86b560768607b7a01c8fac485b1a7ee03443d697"), looks := true }, kinds := [], alts := [], laidByText := true, laidKinds := [.data, .data, .data, .sentinel, .sentinel, .listed, .data], laidTests := true, laidLooks := .later }
def MetricValuesCardSaid : Prop := Claim7.holds Tryd.pinned (.plain (OpenSpec.ofChange metricValuesSpec)) metricValuesCard

/-- THE TIED CARD OF 'flagstonelaw34.MetricLimited'. -/
def metricLimitedCard : Claim7 := { stood := { row := metricLimitedRow, standIns := [], harness := (true, "a8310a5298f3c48b233e41bc86b560768607b7a01c8fac485b1a7ee03443d697"), looks := true }, kinds := [], alts := [], laidByText := true, laidKinds := [.data, .data, .data, .sentinel, .sentinel, .listed, .data], laidTests := true, laidLooks := .later }
def MetricLimitedCardSaid : Prop := Claim7.holds Tryd.pinned (.plain (OpenSpec.ofChange metricLimitedSpec)) metricLimitedCard

/-- THE TIED CARD OF 'flagstonelaw34.MetricChecks'. -/
def metricChecksCard : Claim7 := { stood := { row := metricChecksRow, standIns := [], harness := (true, "a8310a5298f3c48b233e41bc86b560768607b7a01c8fac485b1a7ee03443d697"), looks := true }, kinds := [], alts := [], laidByText := true, laidKinds := [.data, .data, .data, .sentinel, .sentinel, .listed, .data], laidTests := true, laidLooks := .later }
def MetricChecksCardSaid : Prop := Claim7.holds Tryd.pinned (.plain (OpenSpec.ofChange metricChecksSpec)) metricChecksCard

/-- THE TIED CARD OF 'flagstonelaw34.MetricRoundTrip'. -/
def metricRoundTripCard : Claim7 := { stood := { row := metricRoundTripRow, standIns := [], harness := (true, "a8310a5298f3c48b233e41bc86b560768607b7a01c8fac485b1a7ee03443d697"), looks := true }, kinds := [], alts := [], laidByText := true, laidKinds := [.data, .data, .data, .sentinel, .sentinel, .listed, .data], laidTests := true, laidLooks := .later }
def MetricRoundTripCardSaid : Prop := Claim7.holds Tryd.pinned (.plain (OpenSpec.ofChange metricRoundTripSpec)) metricRoundTripCard

/-- THE TIED CARD OF 'flagstonelaw3.ValueVersions'. -/
def valueVersionsCard : Claim7 := { stood := { row := valueVersionsRow, standIns := [], harness := (true, "a8310a5298f3c48b233e41bc86b560768607b7a01c8fac485b1a7ee03443d697"), looks := true }, kinds := [], alts := [], laidByText := true, laidKinds := [.data, .data, .data, .data, .sentinel, .sentinel, .pinned], laidTests := true, laidLooks := .later }
def ValueVersionsCardSaid : Prop := Claim7.holds Tryd.pinned (.plain (OpenSpec.ofChange valueVersionsSpec)) valueVersionsCard

/-- THE SECOND FORM's CARD OF 'flagstonelaw34.MetricParses'. -/
def metricParsesUptoCard : Claim7 := { stood := { row := metricParsesUptoRow, standIns := [], harness := (true, "a8310a5298f3c48b233e41bc86b560768607b7a01c8fac485b1a7ee03443d697"), looks := true }, kinds := [], alts := [], laidByText := true, laidKinds := [.data, .data, .data, .sentinel, .sentinel, .listed, .data], laidTests := true, laidLooks := .later }
def MetricParsesUptoCardSaid : Prop := Claim7.holds Tryd.pinned (.plain (OpenSpec.upto metricParsesSpec)) metricParsesUptoCard

/-- THE SECOND FORM's CARD OF 'flagstonelaw34.MetricLong'. -/
def metricLongUptoCard : Claim7 := { stood := { row := metricLongUptoRow, standIns := [], harness := (true, "a8310a5298f3c48b233e41bc86b560768607b7a01c8fac485b1a7ee03443d697"), looks := true }, kinds := [], alts := [], laidByText := true, laidKinds := [.data, .data, .data, .sentinel, .sentinel, .listed, .data], laidTests := true, laidLooks := .later }
def MetricLongUptoCardSaid : Prop := Claim7.holds Tryd.pinned (.plain (OpenSpec.upto metricLongSpec)) metricLongUptoCard

/-- THE SECOND FORM's CARD OF 'flagstonelaw34.MetricValues'. -/
def metricValuesUptoCard : Claim7 := { stood := { row := metricValuesUptoRow, standIns := [], harness := (true, "a8310a5298f3c48b233e41bc86b560768607b7a01c8fac485b1a7ee03443d697"), looks := true }, kinds := [], alts := [], laidByText := true, laidKinds := [.data, .data, .data, .sentinel, .sentinel, .listed, .data], laidTests := true, laidLooks := .later }
def MetricValuesUptoCardSaid : Prop := Claim7.holds Tryd.pinned (.plain (OpenSpec.upto metricValuesSpec)) metricValuesUptoCard

/-- THE SECOND FORM's CARD OF 'flagstonelaw34.MetricLimited'. -/
def metricLimitedUptoCard : Claim7 := { stood := { row := metricLimitedUptoRow, standIns := [], harness := (true, "a8310a5298f3c48b233e41bc86b560768607b7a01c8fac485b1a7ee03443d697"), looks := true }, kinds := [], alts := [], laidByText := true, laidKinds := [.data, .data, .data, .sentinel, .sentinel, .listed, .data], laidTests := true, laidLooks := .later }
def MetricLimitedUptoCardSaid : Prop := Claim7.holds Tryd.pinned (.plain (OpenSpec.upto metricLimitedSpec)) metricLimitedUptoCard

/-- THE SECOND FORM's CARD OF 'flagstonelaw34.MetricChecks'. -/
def metricChecksUptoCard : Claim7 := { stood := { row := metricChecksUptoRow, standIns := [], harness := (true, "a8310a5298f3c48b233e41bc86b560768607b7a01c8fac485b1a7ee03443d697"), looks := true }, kinds := [], alts := [], laidByText := true, laidKinds := [.data, .data, .data, .sentinel, .sentinel, .listed, .data], laidTests := true, laidLooks := .later }
def MetricChecksUptoCardSaid : Prop := Claim7.holds Tryd.pinned (.plain (OpenSpec.upto metricChecksSpec)) metricChecksUptoCard

/-- THE SECOND FORM's CARD OF 'flagstonelaw34.MetricRoundTrip'. -/
def metricRoundTripUptoCard : Claim7 := { stood := { row := metricRoundTripUptoRow, standIns := [], harness := (true, "a8310a5298f3c48b233e41bc86b560768607b7a01c8fac485b1a7ee03443d697"), looks := true }, kinds := [], alts := [], laidByText := true, laidKinds := [.data, .data, .data, .sentinel, .sentinel, .listed, .data], laidTests := true, laidLooks := .later }
def MetricRoundTripUptoCardSaid : Prop := Claim7.holds Tryd.pinned (.plain (OpenSpec.upto metricRoundTripSpec)) metricRoundTripUptoCard

/-- THE SECOND FORM's CARD OF 'flagstonelaw3.ValueVersions'. -/
def valueVersionsUptoCard : Claim7 := { stood := { row := valueVersionsUptoRow, standIns := [], harness := (true, "a8310a5298f3c48b233e41bc86b560768607b7a01c8fac485b1a7ee03443d697"), looks := true }, kinds := [], alts := [], laidByText := true, laidKinds := [.data, .data, .data, .data, .sentinel, .sentinel, .pinned], laidTests := true, laidLooks := .later }
def ValueVersionsUptoCardSaid : Prop := Claim7.holds Tryd.pinned (.plain (OpenSpec.upto valueVersionsSpec)) valueVersionsUptoCard
end Rows
end Go.Proofs.YtnghpjijfdpmkaaDoor
