/- The walks of the layer 2 (vec): boxes. -/
import Derived.Test.YtckjpiioipkfcaaVec2
namespace Go.Proofs.Ytckjpiioipkfcaa
open Go.RowKit

