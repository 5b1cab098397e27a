/- The walks of the layer 2 (vec): boxes that may be, that are moved, that stand. -/
import Derived.Test.YtckjpiioipkfcaaVec3
import Derived.Test.YtckjpiioipkfcaaLast
namespace Go.Proofs.Ytckjpiioipkfcaa
open Go.RowKit

