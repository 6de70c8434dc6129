/- SchemaMore: the walk, with what the row gives it. -/
import Derived.Test.YtblmmldhlbnbiaaDoorLawMr
import Derived.Test.YtblmmldhlbnbiaaDoorGlob
namespace Go.Proofs.YtblmmldhlbnbiaaDoor.law
open Go.RowKit Go.Proofs.YtblmmldhlbnbiaaDoor.schema Go.Proofs.YtblmmldhlbnbiaaDoor.draw

theorem schemaMore_final (W : World) (hL : laidMetH Tryd.prog Rows.schemaMoreRow.laid W) (a0 : Option Addr) (len0 cap0 : Nat) (z0 : List Int) (w0 : IsRow .u8 W a0 len0 cap0 z0) (s1 : ByteArray) (_ : s1.size ≤ maxLen) (s2 : ByteArray) (_ : s2.size ≤ maxLen) (s3 : ByteArray) (_ : s3.size ≤ maxLen) :
    Calls Tryd.prog 5 #[.slice a0 len0 cap0, .string s1, .string s2, .string s3] W fun e W' => e = .returned (.bool true) ∧ Below W.heap.size W W' :=
  more_walk a0 len0 cap0 s1 s2 s3 W (bytes_of_row w0) (fun b hb => (glob_of_laid (W := W) hL).mono (sub_but W b hb))

end Go.Proofs.YtblmmldhlbnbiaaDoor.law
