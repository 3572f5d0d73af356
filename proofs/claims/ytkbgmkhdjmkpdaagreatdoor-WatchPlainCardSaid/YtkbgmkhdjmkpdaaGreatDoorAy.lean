/- More of the machine and of the days of a span. Conditions: as each theorem says. -/
import Derived.Test.YtkbgmkhdjmkpdaaGreatDoorGa
import Derived.Test.YtkbgmkhdjmkpdaaGreatDoorPb
namespace Go.AM
open Go.RowKit
theorem SubX.at {l:Nat} {H h:zI} (s:SubX l H h) (o:Option AObj):SubX l H (h.upd l o):=fun k p hk e=>by rw[zG _ _ _ _ hk];exact s k p hk e
end Go.AM
namespace Du
end Du
