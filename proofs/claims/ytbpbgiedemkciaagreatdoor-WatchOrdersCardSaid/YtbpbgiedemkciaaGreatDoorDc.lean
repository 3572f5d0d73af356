/- The specification's choices. Conditions: as each theorem says. -/
import Derived.Test.YtbpbgiedemkciaaGreatDoorDb
namespace Go.AM
open Go.Proofs Cw
set_option maxRecDepth 10000
set_option maxHeartbeats 4000000
end Go.AM

namespace Go.AM
open Go.Proofs Cw
set_option maxRecDepth 10000
set_option maxHeartbeats 4000000
end Go.AM
