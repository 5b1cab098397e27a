/- The walks of the layer 2 (vec): boxes that may be, that are moved, that stand. -/
import Derived.Test.YtjlgcfdpfalbpaaVec3
import Derived.Test.YtjlgcfdpfalbpaaLast
namespace Go.Proofs.Ytjlgcfdpfalbpaa
open Go.RowKit

