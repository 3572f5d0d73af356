/- The closed calls of sanity: the printed duties. Conditions: as each theorem says. -/
import Derived.Test.YtabidiilbgakoaaGreatDoorSw
set_option maxRecDepth 100000
namespace Go.Proofs.SAN
open Go Go.AM Go.Proofs
theorem sp0:chk sct 18 [src] [(.tup [wat,(.c (.int .i64 0)),(.c (.int .i64 0))])]=true:=by kernel_rfl
def spt:List (FuncId × List AV × List AV):=[(18,[src],[(.tup [wat,(.c (.int .i64 0)),(.c (.int .i64 0))])])] ++ sct
theorem spt_ok:JQ Tryz.prog spt:=Qx (zZ jX (J9) sp0) jX
end Go.Proofs.SAN
