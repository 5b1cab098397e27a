/- The layer's own example, met at the end of every statement. -/
import Derived.Test.YtkfedmgodhkfgaaFix2
namespace Go.Proofs.Ytkfedmgodhkfgaa
open Go.RowKit

set_option maxHeartbeats 400000 in
theorem lives_c (w : World) : Calls Try.prog 14 #[] w fun e w' => e = .returned (.bool true) ∧ Below w.heap.size w w' := by
  have h : (mulI (-1) 1 == -1) = true := by decide
  go_enter Try.func14, Try.ntmps14
  go_wp2_with fail
  refine (fmul_c _ _ _).mono ?_; rintro e w1 ⟨rfl, hb⟩
  go_wp2_with fail
  go_returns
  exact ⟨ret_b h, hb⟩

end Go.Proofs.Ytkfedmgodhkfgaa
