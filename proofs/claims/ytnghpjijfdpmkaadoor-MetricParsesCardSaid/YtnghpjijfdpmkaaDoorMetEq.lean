/- Two equal metrics are compared. -/
import Derived.Test.YtnghpjijfdpmkaaDoorMetC
import Derived.Laws.StructEq
namespace Go.Proofs.YtnghpjijfdpmkaaDoor.metric
open Go.RowKit Go.Proofs.YtnghpjijfdpmkaaDoor Go.Proofs.YtnghpjijfdpmkaaDoor.text

set_option maxRecDepth 100000 in
set_option maxHeartbeats 1000000 in
theorem eq_metric (k win cap least before : Int) (s t : ByteArray) (w : World) : (Op.equalIn 10000 29 (.agg #[.int .i64 k, .string s, .string t, .int .i64 win, .int .i64 cap, .int .i64 least, .int .i64 before]) (.agg #[.int .i64 k, .string s, .string t, .int .i64 win, .int .i64 cap, .int .i64 least, .int .i64 before])).run Tryd.prog w = .ok true w := by
  have u3 := Tryd.underlying3
  have a3 := Tryd.isAgg3
  have z3 := Tryd.sizeOf3
  have u9 := Tryd.underlying9
  have a9 := Tryd.isAgg9
  have z9 := Tryd.sizeOf9
  have hS : Tryd.prog.underlying 29 = some (.struct (Tryd.prog.fieldsOf 29)) := by kernel_rfl
  have hp : Tryd.prog.stoodInHeld 29 = false := by kernel_rfl
  rw [show (10000 : Nat) = 9999 + 1 from rfl, run_equalIn_agg w 9999 29 _ _ hS hp]
  simp only [Program.fieldsOf, Tryd.underlying29]
  go_simp
theorem eql_metric (k win cap least before : Int) (s t : ByteArray) (w : World) : (Go.binOp .eql 29 (.agg #[.int .i64 k, .string s, .string t, .int .i64 win, .int .i64 cap, .int .i64 least, .int .i64 before]) (.agg #[.int .i64 k, .string s, .string t, .int .i64 win, .int .i64 cap, .int .i64 least, .int .i64 before])).run Tryd.prog w = .ok (.bool true) w := by
  rw [run_eql_struct, eq_metric]
  rfl
theorem neq_metric (k win cap least before : Int) (s t : ByteArray) (w : World) : (Go.binOp .neq 29 (.agg #[.int .i64 k, .string s, .string t, .int .i64 win, .int .i64 cap, .int .i64 least, .int .i64 before]) (.agg #[.int .i64 k, .string s, .string t, .int .i64 win, .int .i64 cap, .int .i64 least, .int .i64 before])).run Tryd.prog w = .ok (.bool false) w := by
  rw [run_neq_struct, eq_metric]
  rfl

end Go.Proofs.YtnghpjijfdpmkaaDoor.metric

