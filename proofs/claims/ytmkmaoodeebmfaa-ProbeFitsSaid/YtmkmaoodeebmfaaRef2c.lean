/- The walks of the reference of the layer 2: what is told of boxes. -/
import Derived.Test.YtmkmaoodeebmfaaRef2
namespace Go.Proofs.Ytmkmaoodeebmfaa
open Go.RowKit

set_option maxHeartbeats 2000000 in
theorem rover_c (a b c d e f a' b' c' d' e' f' : Int) (w : World) : Calls Try.prog 27 #[.agg #[.int .i64 a, .int .i64 b, .int .i64 c, .int .i64 d, .int .i64 e, .int .i64 f], .agg #[.int .i64 a', .int .i64 b', .int .i64 c', .int .i64 d', .int .i64 e', .int .i64 f']] w fun r w' => r = .returned (.bool (overI a b c d e f a' b' c' d' e' f')) ∧ Below w.heap.size w w' := by
  go_enter Try.func27, Try.ntmps27
  go_wp2_with fail
  all_goals
    go_returns
    exact ⟨ret_b (by unfold overI ovI; rw [Bool.eq_iff_iff]; simp <;> omega), by go_grown⟩
end Go.Proofs.Ytmkmaoodeebmfaa
