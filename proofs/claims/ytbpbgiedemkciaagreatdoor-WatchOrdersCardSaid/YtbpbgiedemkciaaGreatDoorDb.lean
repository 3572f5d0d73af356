/- The specification's numbers of a condition. Conditions: as each theorem says. -/
import Derived.Test.YtbpbgiedemkciaaGreatDoorDa
namespace Go.AM
open Go.Proofs Cw
set_option maxRecDepth 10000
set_option maxHeartbeats 4000000
abbrev encI (l : List Int) : AV := .fslc false false 1 (l.map (iv .i64))
end Go.AM

namespace Go.AM
open Go.Proofs Cw
set_option maxRecDepth 10000
set_option maxHeartbeats 4000000
end Go.AM
