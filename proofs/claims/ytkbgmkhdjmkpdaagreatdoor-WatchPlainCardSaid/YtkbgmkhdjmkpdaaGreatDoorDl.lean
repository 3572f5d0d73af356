/- Duties of those with several on a day, by the program. Conditions: as each theorem says. -/
import Derived.Sort.Defs
import Derived.Shelf.SlGeneric
import Derived.Shelf.SlSortCmp.InsertionK
import Derived.Ground.SlsfProg
import Derived.Test.YtkbgmkhdjmkpdaaGreatDoorProg
import Derived.Test.YtkbgmkhdjmkpdaaGreatDoorPa
import Derived.Test.YtkbgmkhdjmkpdaaGreatDoorLa
import Derived.Test.YtkbgmkhdjmkpdaaGreatDoorAy
import Derived.Test.YtkbgmkhdjmkpdaaGreatDoorWx
namespace Du
open Go.Sort
instance : Inhabited Pr := ⟨(ByteArray.empty, ByteArray.empty)⟩
end Du
namespace Go.Proofs
open Go.Shelf
end Go.Proofs
namespace Go.AM
open Go.Proofs Cw Du Go.RowKit Go.Sort Go.Shelf
set_option maxRecDepth 10000
set_option maxHeartbeats 4000000
end Go.AM
namespace Go.AM
open Go.Proofs Cw Du Go.RowKit
set_option maxRecDepth 10000
set_option maxHeartbeats 4000000
end Go.AM
namespace Go.AM
open Go.Proofs Cw Du Go.RowKit
set_option maxRecDepth 10000
set_option maxHeartbeats 4000000
end Go.AM
namespace Go.AM
open Go.Proofs Cw Du Go.RowKit
set_option maxRecDepth 10000
set_option maxHeartbeats 4000000
end Go.AM
namespace Go.AM
open Go.Proofs Cw Du Go.RowKit
set_option maxRecDepth 10000
set_option maxHeartbeats 4000000
end Go.AM
namespace Go.AM
open Go.Proofs Cw Du Go.RowKit
set_option maxRecDepth 10000
set_option maxHeartbeats 4000000
end Go.AM
