/- The closed calls of sanity, second table. Conditions: as each theorem says. -/
import Derived.Test.YtabidiilbgakoaaGreatDoorSw
set_option maxRecDepth 100000
namespace Go.Proofs.SAN
open Go Go.AM Go.Proofs
theorem sb0 : chk swt 29 [wat] [(.c (.int .i64 0))] = true := by kernel_rfl
def sbt : List (FuncId × List AV × List AV) := [(29, [wat], [(.c (.int .i64 0))])] ++ swt
theorem sbt_ok : TabOk Tryz.prog sbt := tab_app (tab_cons swt_ok (tab_nil) sb0) swt_ok
end Go.Proofs.SAN
