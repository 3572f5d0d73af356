/- Equal and Implies; the law WatchCompares. Conditions: as each theorem says. -/
import Derived.Test.YtbpbgiedemkciaaGreatDoorDg
import Derived.Test.YtbpbgiedemkciaaGreatDoorDd
import Derived.Test.YtbpbgiedemkciaaGreatDoorCb
import Derived.Test.YtbpbgiedemkciaaGreatDoorSe
namespace Go.AM
open Go.Proofs Cw
set_option maxRecDepth 10000
set_option maxHeartbeats 4000000
end Go.AM
