/- Structs are what they are. -/
import Derived.Test.YtmkmaoodeebmfaaBase
import Derived.Test.YtmkmaoodeebmfaaVec4
namespace Go.Proofs.Ytmkmaoodeebmfaa
open Go.ChangeShapes Go.WideShapes Go.ChangeAt Go.RowKit

theorem cell_guard : Try.prog.eqGuardType Try.prog.depth 40 = false := by kernel_rfl
theorem boxg_guard : Try.prog.eqGuardType Try.prog.depth 28 = false := by kernel_rfl
theorem cell_ne_self (a b c : Int) (w : World) : (binOp .neq 40 (.agg #[.int .i64 a, .int .i64 b, .int .i64 c]) (.agg #[.int .i64 a, .int .i64 b, .int .i64 c])).run Try.prog w = .ok (.bool false) w := by
  rw [run_neq_struct]
  simp [go_sem]
theorem cell_eq_self (a b c : Int) (w : World) : (binOp .eql 40 (.agg #[.int .i64 a, .int .i64 b, .int .i64 c]) (.agg #[.int .i64 a, .int .i64 b, .int .i64 c])).run Try.prog w = .ok (.bool true) w := by
  rw [run_eql_struct]
  simp [go_sem]
theorem box_eq_self (a b c d e f : Int) (w : World) : (binOp .eql 28 (.agg #[.int .i64 a, .int .i64 b, .int .i64 c, .int .i64 d, .int .i64 e, .int .i64 f]) (.agg #[.int .i64 a, .int .i64 b, .int .i64 c, .int .i64 d, .int .i64 e, .int .i64 f])).run Try.prog w = .ok (.bool true) w := by
  rw [run_eql_struct]
  simp [go_sem]
end Go.Proofs.Ytmkmaoodeebmfaa
