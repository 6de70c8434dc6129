/- SchemaTests: the walk, with what the row gives it. -/
import Derived.Test.YtblmmldhlbnbiaaDoorLawT
import Derived.Test.YtblmmldhlbnbiaaDoorGlob
namespace Go.Proofs.YtblmmldhlbnbiaaDoor.law
open Go.RowKit Go.Proofs.YtblmmldhlbnbiaaDoor.schema Go.Proofs.YtblmmldhlbnbiaaDoor.draw

theorem i64_bounds {a : Int} (h : (Lit.int .i64 a).wf = true) : -9223372036854775808 ≤ a ∧ a ≤ 9223372036854775807 := by
  simpa [Lit.wf, IntKind.min, IntKind.max, IntKind.signed, IntKind.bits] using h
theorem schemaTests_final (W : World) (hL : laidMetH Tryd.prog Rows.schemaTestsRow.laid W) (a0 : Int) (w0 : (Lit.int .i64 a0).wf = true) (a1 : Int) (w1 : (Lit.int .i64 a1).wf = true) (a2 : Option Addr) (len2 cap2 : Nat) (z2 : List Int) (w2 : IsRow .u8 W a2 len2 cap2 z2) :
    Calls Tryd.prog 4 #[.int .i64 a0, .int .i64 a1, .slice a2 len2 cap2] W fun e w' => e = .returned (.bool true) ∧ Below W.heap.size W w' :=
  tests_walk a0 a1 a2 len2 cap2 W (bytes_of_row w2) (fun b hb => (glob_of_laid (W := W) hL).mono (sub_but W b hb)) (i64_bounds w0) (i64_bounds w1)

end Go.Proofs.YtblmmldhlbnbiaaDoor.law
