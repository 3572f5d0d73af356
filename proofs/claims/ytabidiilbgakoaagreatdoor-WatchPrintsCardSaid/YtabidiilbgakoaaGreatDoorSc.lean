/- The closed calls of sanity, third table. Conditions: as each theorem says. -/
import Derived.Test.YtabidiilbgakoaaGreatDoorSb
set_option maxRecDepth 100000
namespace Go.Proofs.SAN
open Go Go.AM Go.Proofs
theorem sc0 : chk sbt 78 [wat, (.c (.int .i64 1))] [(.fslc false false 3 [(.agg [(.c (.int .i64 1)), (.c (.string ⟨#[110, 111, 114, 116, 104]⟩)), (.c (.string ⟨#[97, 110, 110]⟩))])])] = true := by kernel_rfl
theorem sc1 : chk sbt 78 [wat, (.c (.int .i64 2))] [(.fslc false false 3 [(.agg [(.c (.int .i64 2)), (.c (.string ⟨#[110, 111, 114, 116, 104]⟩)), (.c (.string ⟨#[98, 101, 110]⟩))])])] = true := by kernel_rfl
theorem sc2 : chk sbt 78 [wat, (.c (.int .i64 3))] [(.fslc false false 3 [(.agg [(.c (.int .i64 3)), (.c (.string ⟨#[110, 111, 114, 116, 104]⟩)), (.c (.string ⟨#[97, 110, 110]⟩))])])] = true := by kernel_rfl
theorem sc3 : chk sbt 78 [wat, (.c (.int .i64 4))] [(.fslc false false 3 [(.agg [(.c (.int .i64 4)), (.c (.string ⟨#[110, 111, 114, 116, 104]⟩)), (.c (.string ⟨#[97, 110, 110]⟩))]), (.agg [(.c (.int .i64 4)), (.c (.string ⟨#[115, 111, 117, 116, 104]⟩)), (.c (.string ⟨#[98, 101, 110]⟩))])])] = true := by kernel_rfl
theorem sc4 : chk sbt 78 [wat, (.c (.int .i64 5))] [(.fslc true true 0 [])] = true := by kernel_rfl
theorem sc5 : chk sbt 78 [wat, (.c (.int .i64 6))] [(.fslc true true 0 [])] = true := by kernel_rfl
theorem sc6 : chk sbt 78 [wat, (.c (.int .i64 7))] [(.fslc false false 3 [(.agg [(.c (.int .i64 7)), (.c (.string ⟨#[110, 111, 114, 116, 104]⟩)), (.c (.string ⟨#[97, 110, 110]⟩))])])] = true := by kernel_rfl
theorem sc7 : chk sbt 78 [wat, (.c (.int .i64 8))] [(.fslc false false 3 [(.agg [(.c (.int .i64 8)), (.c (.string ⟨#[110, 111, 114, 116, 104]⟩)), (.c (.string ⟨#[98, 101, 110]⟩))])])] = true := by kernel_rfl
theorem sc8 : chk sbt 78 [wat, (.c (.int .i64 9))] [(.fslc false false 3 [(.agg [(.c (.int .i64 9)), (.c (.string ⟨#[110, 111, 114, 116, 104]⟩)), (.c (.string ⟨#[97, 110, 110]⟩))])])] = true := by kernel_rfl
theorem sc9 : chk sbt 78 [wat, (.c (.int .i64 10))] [(.fslc false false 3 [(.agg [(.c (.int .i64 10)), (.c (.string ⟨#[110, 111, 114, 116, 104]⟩)), (.c (.string ⟨#[98, 101, 110]⟩))])])] = true := by kernel_rfl
def sct : List (FuncId × List AV × List AV) := [(78, [wat, (.c (.int .i64 1))], [(.fslc false false 3 [(.agg [(.c (.int .i64 1)), (.c (.string ⟨#[110, 111, 114, 116, 104]⟩)), (.c (.string ⟨#[97, 110, 110]⟩))])])]),
  (78, [wat, (.c (.int .i64 2))], [(.fslc false false 3 [(.agg [(.c (.int .i64 2)), (.c (.string ⟨#[110, 111, 114, 116, 104]⟩)), (.c (.string ⟨#[98, 101, 110]⟩))])])]),
  (78, [wat, (.c (.int .i64 3))], [(.fslc false false 3 [(.agg [(.c (.int .i64 3)), (.c (.string ⟨#[110, 111, 114, 116, 104]⟩)), (.c (.string ⟨#[97, 110, 110]⟩))])])]),
  (78, [wat, (.c (.int .i64 4))], [(.fslc false false 3 [(.agg [(.c (.int .i64 4)), (.c (.string ⟨#[110, 111, 114, 116, 104]⟩)), (.c (.string ⟨#[97, 110, 110]⟩))]), (.agg [(.c (.int .i64 4)), (.c (.string ⟨#[115, 111, 117, 116, 104]⟩)), (.c (.string ⟨#[98, 101, 110]⟩))])])]),
  (78, [wat, (.c (.int .i64 5))], [(.fslc true true 0 [])]),
  (78, [wat, (.c (.int .i64 6))], [(.fslc true true 0 [])]),
  (78, [wat, (.c (.int .i64 7))], [(.fslc false false 3 [(.agg [(.c (.int .i64 7)), (.c (.string ⟨#[110, 111, 114, 116, 104]⟩)), (.c (.string ⟨#[97, 110, 110]⟩))])])]),
  (78, [wat, (.c (.int .i64 8))], [(.fslc false false 3 [(.agg [(.c (.int .i64 8)), (.c (.string ⟨#[110, 111, 114, 116, 104]⟩)), (.c (.string ⟨#[98, 101, 110]⟩))])])]),
  (78, [wat, (.c (.int .i64 9))], [(.fslc false false 3 [(.agg [(.c (.int .i64 9)), (.c (.string ⟨#[110, 111, 114, 116, 104]⟩)), (.c (.string ⟨#[97, 110, 110]⟩))])])]),
  (78, [wat, (.c (.int .i64 10))], [(.fslc false false 3 [(.agg [(.c (.int .i64 10)), (.c (.string ⟨#[110, 111, 114, 116, 104]⟩)), (.c (.string ⟨#[98, 101, 110]⟩))])])])] ++ sbt
theorem sct_ok : TabOk Tryz.prog sct := tab_app (tab_cons sbt_ok (tab_cons sbt_ok (tab_cons sbt_ok (tab_cons sbt_ok (tab_cons sbt_ok (tab_cons sbt_ok (tab_cons sbt_ok (tab_cons sbt_ok (tab_cons sbt_ok (tab_cons sbt_ok (tab_nil) sc9) sc8) sc7) sc6) sc5) sc4) sc3) sc2) sc1) sc0) sbt_ok
end Go.Proofs.SAN
