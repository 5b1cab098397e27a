/- The walks of the layer 1 (fixed) and of its reference: what stands on memory, and quotients. -/
import Derived.Test.YtmkmaoodeebmfaaFix
namespace Go.Proofs.Ytmkmaoodeebmfaa
open Go.RowKit

