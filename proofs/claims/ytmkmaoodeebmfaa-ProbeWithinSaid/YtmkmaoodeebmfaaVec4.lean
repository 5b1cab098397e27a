/- The walks of the layer 2 (vec): boxes that may be, that are moved, that stand. -/
import Derived.Test.YtmkmaoodeebmfaaVec3
import Derived.Test.YtmkmaoodeebmfaaLast
namespace Go.Proofs.Ytmkmaoodeebmfaa
open Go.RowKit

