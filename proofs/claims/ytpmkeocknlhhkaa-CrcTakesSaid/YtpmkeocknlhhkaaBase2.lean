/- More plain helpers of ours: no program in sight. -/
import Derived.Test.YtpmkeocknlhhkaaBase
namespace Go.Proofs.Ytpmkeocknlhhkaa
open Go.RowKit
section
variable {w W : World} {g : Nat} {t : TypeId} {cs : Array Value} {d : Nat} {os : Array Obj}
theorem Blk.reW (h : Blk w g t cs) (hW : W = Go.Sort.grow (redrawn w d) os) : Blk W g t cs := by rw [hW]; exact h.re d os
theorem re_below {v : World} (h : Below v.heap.size v w) (hW : W = Go.Sort.grow (redrawn w d) os) : Below v.heap.size v W := by rw [hW]; exact after h (below_regrown w d os)
end
end Go.Proofs.Ytpmkeocknlhhkaa
