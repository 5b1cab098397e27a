/- The walks of the layer 2 (vec): boxes. -/
import Derived.Test.YtjlgcfdpfalbpaaVec2
namespace Go.Proofs.Ytjlgcfdpfalbpaa
open Go.RowKit

