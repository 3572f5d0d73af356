/- The closed calls of sanity: the printed duties. Conditions: as each theorem says. -/
import Derived.Test.YtkbgmkhdjmkpdaaGreatDoorSc
set_option maxRecDepth 100000
namespace Go.Proofs.SAN
open Go Go.AM Go.Proofs
theorem sp0:chk sct 32 [src] [(.tup [wat,(.c (.int .i64 0)),(.c (.int .i64 0))])]=true:=by kernel_rfl
def spt:List (FuncId × List AV × List AV):=[(32,[src],[(.tup [wat,(.c (.int .i64 0)),(.c (.int .i64 0))])])] ++ sct
theorem spt_ok:j4 Tryz.prog spt:=Qb (zZ jK (JS) sp0) jK
end Go.Proofs.SAN
