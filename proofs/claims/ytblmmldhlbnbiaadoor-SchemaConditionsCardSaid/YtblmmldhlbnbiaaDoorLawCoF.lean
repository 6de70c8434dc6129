/- SchemaConditions: the walk, with what the row gives it. -/
import Derived.Test.YtblmmldhlbnbiaaDoorLawCo
import Derived.Test.YtblmmldhlbnbiaaDoorGlob
import Derived.Test.YtblmmldhlbnbiaaDoorOpenE
namespace Go.Proofs.YtblmmldhlbnbiaaDoor.law
open Go.RowKit Go.Proofs.YtblmmldhlbnbiaaDoor.schema Go.Proofs.YtblmmldhlbnbiaaDoor.draw Go.ChangeShapes Go.WideShapes Go.Deep

theorem drop_bounds {a : Int} (h : (Lit.int .i64 a).wf = true) : -9223372036854775808 ≤ a ∧ a ≤ 9223372036854775807 := by
  simpa [Lit.wf, IntKind.min, IntKind.max, IntKind.signed, IntKind.bits] using h
theorem schemaConditions_final {H : Type} {enc : TypeId × Value → H} {base b0 : Nat} {sp : Nat → Bool} {held : Bool} {d2 : DataW H} {p2 : List MemPlace} (W : World) (hL : laidMetH Tryd.prog Rows.schemaConditionsRow.laid W) (a0 : Option Addr) (len0 cap0 : Nat) (z0 : List Int) (w0 : IsRow .u8 W a0 len0 cap0 z0) (a1 : Int) (w1 : (Lit.int .i64 a1).wf = true)
    (v2 : Value) (o2 : Value.okWide Tryd.prog W .any b0 26 v2) (k2 : DataW.Trod enc Tryd.prog W base sp held 26 v2 d2 p2) :
    Calls Tryd.prog 3 #[.slice a0 len0 cap0, .int .i64 a1, v2] W fun e W' => e = .returned (.bool true) ∧ Below W.heap.size W W' := by
  obtain ⟨d, r, rfl, hE⟩ := open_expr o2 k2
  exact conditions_walk a0 len0 cap0 a1 (drop_bounds w1).1 (drop_bounds w1).2 d r W (bytes_of_row w0) (fun b hb => (glob_of_laid (W := W) hL).mono (sub_but W b hb)) hE

end Go.Proofs.YtblmmldhlbnbiaaDoor.law
