/- The document's cells of a box. -/
import Derived.Test.YtmkmaoodeebmfaaSpan
import Derived.Test.YtmkmaoodeebmfaaVec3
import Derived.Test.YtmkmaoodeebmfaaRef2
namespace Go.Proofs.Ytmkmaoodeebmfaa
open Go.RowKit

/-- One axis of the document's Span, its values literal where they guard. -/
theorem top_ways (n m : Int) : (((lowI m * 65536 == m) = false) ∧ topI n m = lowI m) ∨ (((lowI m * 65536 == m) = true) ∧ decide (lowI n < lowI m) = false ∧ topI n m = lowI m) ∨ (((lowI m * 65536 == m) = true) ∧ decide (lowI n < lowI m) = true ∧ topI n m = lowI m - 1) := by
  unfold topI
  by_cases h1 : lowI m * 65536 = m <;> by_cases h2 : lowI n < lowI m <;> simp [h1, h2]
theorem thin_ways (n m : Int) : ((n == m) = false ∧ thinI n m = false) ∨ ((n == m) = true ∧ (lowI n * 65536 == n) = false ∧ thinI n m = false) ∨ ((n == m) = true ∧ (lowI n * 65536 == n) = true ∧ thinI n m = true) := by
  unfold thinI
  cases (n == m) <;> cases (lowI n * 65536 == n) <;> simp
end Go.Proofs.Ytmkmaoodeebmfaa
