/- The walks of the layer 1 (fixed) and of its reference: what stands on memory, and quotients. -/
import Derived.Test.YtckjpiioipkfcaaFix
namespace Go.Proofs.Ytckjpiioipkfcaa
open Go.RowKit

