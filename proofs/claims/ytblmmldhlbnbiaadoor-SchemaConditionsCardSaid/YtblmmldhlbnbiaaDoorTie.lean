/-
  DERIVED. GIVEN WITH THE SEED: THE PROGRAM's TIES (one call each: nine closed facts by the kernel) AND EACH ROW's TIE, after the 31st guide's Derived/Test/Toyas{Tie, Card}.lean. No idea stands in it: it is a product of the set-up. Laid BY PROGRAM, IN A SANDBOX (cutbox-door.mjs). By AI agents, Wed Nov 11 2026. No macro, syntax, notation, axiom, sorry.
-/
import Derived.Test.YtblmmldhlbnbiaaDoorRows
import Derived.LaidByTextLater
import Derived.SevenTiedAt
import Derived.LaidSub
import Derived.LaidOnce
namespace Go.Proofs.YtblmmldhlbnbiaaDoor
open Go
set_option maxRecDepth 100000
theorem seatTie1 : Tryd.prog.laidByTextLater [("flagstone/flagstonedraw.texts", Rows.laid_flagstone_flagstonedraw_texts), ("flagstone/flagstonedraw.versions", Rows.laid_flagstone_flagstonedraw_versions), ("flagstone/flagstonedraw.lists", Rows.laid_flagstone_flagstonedraw_lists)] [.data, .data, .widerDeep] true :=
  Program.laidByTextLater_by_one 29 8 12 (by kernel_rfl) (by kernel_rfl) (by kernel_rfl) (by kernel_rfl) (by kernel_rfl) (by kernel_rfl) (fun _ _ => by kernel_rfl)
theorem noOwnUnsafe : Tryd.pinned.checked.prog.headLifts.contains "ownunsafe" = false := by kernel_rfl
theorem tie : Tryd.prog.laidByTextLater [("flagstone/flagstonedraw.texts", Rows.laid_flagstone_flagstonedraw_texts), ("flagstone/flagstonedraw.versions", Rows.laid_flagstone_flagstonedraw_versions), ("flagstone/flagstonedraw.lists", Rows.laid_flagstone_flagstonedraw_lists)] [.data, .data, .widerDeep] true :=
  Program.laidByTextLater.sub seatTie1 ["flagstone/flagstonedraw.texts", "flagstone/flagstonedraw.versions", "flagstone/flagstonedraw.lists"] (by kernel_rfl) (by kernel_rfl)
theorem schemaConditions_row_tie : Rows.schemaConditionsRow.laidByTextAt .later Tryd.pinned [.data, .data, .widerDeep] true :=
  OpenClaim.laidByTextAt_later rfl rfl tie noOwnUnsafe
theorem schemaTests_row_tie : Rows.schemaTestsRow.laidByTextAt .later Tryd.pinned [.data, .data, .widerDeep] true :=
  OpenClaim.laidByTextAt_later rfl rfl tie noOwnUnsafe
theorem schemaMore_row_tie : Rows.schemaMoreRow.laidByTextAt .later Tryd.pinned [.data, .data, .widerDeep] true :=
  OpenClaim.laidByTextAt_later rfl rfl tie noOwnUnsafe
theorem schemaConditionsUpto_row_tie : Rows.schemaConditionsUptoRow.laidByTextAt .later Tryd.pinned [.data, .data, .widerDeep] true :=
  OpenClaim.laidByTextAt_later rfl rfl tie noOwnUnsafe
theorem schemaTestsUpto_row_tie : Rows.schemaTestsUptoRow.laidByTextAt .later Tryd.pinned [.data, .data, .widerDeep] true :=
  OpenClaim.laidByTextAt_later rfl rfl tie noOwnUnsafe
theorem schemaMoreUpto_row_tie : Rows.schemaMoreUptoRow.laidByTextAt .later Tryd.pinned [.data, .data, .widerDeep] true :=
  OpenClaim.laidByTextAt_later rfl rfl tie noOwnUnsafe
end Go.Proofs.YtblmmldhlbnbiaaDoor
