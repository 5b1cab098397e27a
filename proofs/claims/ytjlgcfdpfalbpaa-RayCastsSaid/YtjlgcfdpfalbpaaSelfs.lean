/- Structs are what they are. -/
import Derived.Test.YtjlgcfdpfalbpaaBase
import Derived.Test.YtjlgcfdpfalbpaaVec4
namespace Go.Proofs.Ytjlgcfdpfalbpaa
open Go.ChangeShapes Go.WideShapes Go.ChangeAt Go.RowKit

theorem cell_guard : Try.prog.eqGuardType Try.prog.depth 29 = false := by kernel_rfl
theorem cell_ne_self (a b c : Int) (w : World) : (binOp .neq 29 (.agg #[.int .i64 a, .int .i64 b, .int .i64 c]) (.agg #[.int .i64 a, .int .i64 b, .int .i64 c])).run Try.prog w = .ok (.bool false) w := by
  rw [run_neq_struct]
  simp [go_sem]
theorem cell_eq_self (a b c : Int) (w : World) : (binOp .eql 29 (.agg #[.int .i64 a, .int .i64 b, .int .i64 c]) (.agg #[.int .i64 a, .int .i64 b, .int .i64 c])).run Try.prog w = .ok (.bool true) w := by
  rw [run_eql_struct]
  simp [go_sem]
end Go.Proofs.Ytjlgcfdpfalbpaa
