/- More plain helpers of ours: no program in sight. -/
import Derived.Test.YtkopenemoddbbaaBase
namespace Go.Proofs.Ytkopenemoddbbaa
open Go.RowKit
section
variable {w W : World} {g : Nat} {t : TypeId} {cs : Array Value} {d : Nat} {os : Array Obj}
theorem Blk.reW (h : Blk w g t cs) (hW : W = Go.Sort.grow (redrawn w d) os) : Blk W g t cs := by rw [hW]; exact h.re d os
theorem Blk.eqw {w W : World} (e : w = W) (h : Blk w g t cs) : Blk W g t cs := e ▸ h
theorem re_below {v : World} (h : Below v.heap.size v w) (hW : W = Go.Sort.grow (redrawn w d) os) : Below v.heap.size v W := by rw [hW]; exact after h (below_regrown w d os)
end
end Go.Proofs.Ytkopenemoddbbaa
