/- The specification's first difference. Conditions: as each theorem says. -/
import Derived.Test.YtbpbgiedemkciaaGreatDoorDc
import Derived.Test.YtbpbgiedemkciaaGreatDoorCi
import Derived.Test.YtbpbgiedemkciaaGreatDoorCg
namespace Go.AM
open Go.Proofs Cw
set_option maxRecDepth 10000
set_option maxHeartbeats 4000000
end Go.AM
