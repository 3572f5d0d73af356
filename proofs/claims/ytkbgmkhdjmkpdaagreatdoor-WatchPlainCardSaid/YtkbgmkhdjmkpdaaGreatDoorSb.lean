/- The closed calls of sanity, second table. Conditions: as each theorem says. -/
import Derived.Test.YtkbgmkhdjmkpdaaGreatDoorSw
set_option maxRecDepth 100000
namespace Go.Proofs.SAN
open Go Go.AM Go.Proofs
theorem sb0:chk swt 41 [wat] [(.c (.int .i64 0))]=true:=by kernel_rfl
def sbt:List (FuncId × List AV × List AV):=[(41,[wat],[(.c (.int .i64 0))])] ++ swt
theorem JF:j4 Tryz.prog sbt:=Qb (zZ swt_ok (JS) sb0) swt_ok
end Go.Proofs.SAN
