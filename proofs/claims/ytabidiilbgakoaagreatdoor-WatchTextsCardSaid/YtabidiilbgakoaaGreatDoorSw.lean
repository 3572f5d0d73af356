/- The closed calls of sanity: words; second and third table. Conditions: as each theorem says. -/
import Derived.Test.YtabidiilbgakoaaGreatDoorSa
set_option maxRecDepth 100000
namespace Go.Proofs.SAN
open Go Go.AM Go.Proofs
theorem sw0:chk jW 144 [(.c (.string ⟨#[97,110,100]⟩))] [(.c (.int .i64 3))]=true:=by kernel_rfl
theorem sw1:chk jW 144 [(.c (.string ⟨#[97,110,110]⟩))] [(.c (.int .i64 1))]=true:=by kernel_rfl
theorem sw2:chk jW 144 [(.c (.string ⟨#[98,101,110]⟩))] [(.c (.int .i64 1))]=true:=by kernel_rfl
theorem sw3:chk jW 144 [(.c (.string ⟨#[98,121]⟩))] [(.c (.int .i64 3))]=true:=by kernel_rfl
theorem sw4:chk jW 144 [(.c (.string ⟨#[99,101,108,108]⟩))] [(.c (.int .i64 3))]=true:=by kernel_rfl
theorem sw5:chk jW 144 [(.c (.string ⟨#[101,118,101,114,121]⟩))] [(.c (.int .i64 3))]=true:=by kernel_rfl
theorem sw6:chk jW 144 [(.c (.string ⟨#[101,120,99,101,112,116]⟩))] [(.c (.int .i64 3))]=true:=by kernel_rfl
theorem sw7:chk jW 144 [(.c (.string ⟨#[102,114,111,109]⟩))] [(.c (.int .i64 3))]=true:=by kernel_rfl
theorem sw8:chk jW 144 [(.c (.string ⟨#[104,111,117,114]⟩))] [(.c (.int .i64 3))]=true:=by kernel_rfl
theorem sw9:chk jW 144 [(.c (.string ⟨#[105,102]⟩))] [(.c (.int .i64 3))]=true:=by kernel_rfl
theorem sw10:chk jW 144 [(.c (.string ⟨#[108,111,111,107]⟩))] [(.c (.int .i64 1))]=true:=by kernel_rfl
theorem sw11:chk jW 144 [(.c (.string ⟨#[110,111,114,116,104]⟩))] [(.c (.int .i64 1))]=true:=by kernel_rfl
theorem sw12:chk jW 144 [(.c (.string ⟨#[110,111,116]⟩))] [(.c (.int .i64 3))]=true:=by kernel_rfl
theorem sw13:chk jW 144 [(.c (.string ⟨#[111,110]⟩))] [(.c (.int .i64 3))]=true:=by kernel_rfl
theorem sw14:chk jW 144 [(.c (.string ⟨#[111,114]⟩))] [(.c (.int .i64 3))]=true:=by kernel_rfl
theorem sw15:chk jW 144 [(.c (.string ⟨#[111,114,100,101,114]⟩))] [(.c (.int .i64 3))]=true:=by kernel_rfl
theorem sw16:chk jW 144 [(.c (.string ⟨#[114,97,110,107]⟩))] [(.c (.int .i64 3))]=true:=by kernel_rfl
theorem sw17:chk jW 144 [(.c (.string ⟨#[114,101,115,116]⟩))] [(.c (.int .i64 3))]=true:=by kernel_rfl
theorem sw18:chk jW 144 [(.c (.string ⟨#[115,101,101,110]⟩))] [(.c (.int .i64 3))]=true:=by kernel_rfl
theorem sw19:chk jW 144 [(.c (.string ⟨#[115,101,110,100]⟩))] [(.c (.int .i64 1))]=true:=by kernel_rfl
theorem sw20:chk jW 144 [(.c (.string ⟨#[115,111,117,116,104]⟩))] [(.c (.int .i64 1))]=true:=by kernel_rfl
theorem sw21:chk jW 144 [(.c (.string ⟨#[115,119,97,112]⟩))] [(.c (.int .i64 3))]=true:=by kernel_rfl
theorem sw22:chk jW 144 [(.c (.string ⟨#[116,111]⟩))] [(.c (.int .i64 3))]=true:=by kernel_rfl
theorem sw23:chk jW 144 [(.c (.string ⟨#[119,97,116,99,104]⟩))] [(.c (.int .i64 3))]=true:=by kernel_rfl
theorem sw24:chk jW 175 [(.c (.string ⟨#[49]⟩))] [(.tup [(.c (.int .i64 1)),(.c .nilIface)])]=true:=by kernel_rfl
theorem sw25:chk jW 175 [(.c (.string ⟨#[50]⟩))] [(.tup [(.c (.int .i64 2)),(.c .nilIface)])]=true:=by kernel_rfl
theorem sw26:chk jW 175 [(.c (.string ⟨#[52]⟩))] [(.tup [(.c (.int .i64 4)),(.c .nilIface)])]=true:=by kernel_rfl
theorem sw27:chk jW 175 [(.c (.string ⟨#[53]⟩))] [(.tup [(.c (.int .i64 5)),(.c .nilIface)])]=true:=by kernel_rfl
theorem sw28:chk jW 175 [(.c (.string ⟨#[54]⟩))] [(.tup [(.c (.int .i64 6)),(.c .nilIface)])]=true:=by kernel_rfl
theorem sw29:chk jW 175 [(.c (.string ⟨#[57]⟩))] [(.tup [(.c (.int .i64 9)),(.c .nilIface)])]=true:=by kernel_rfl
theorem sw30:chk jW 175 [(.c (.string ⟨#[49,48]⟩))] [(.tup [(.c (.int .i64 10)),(.c .nilIface)])]=true:=by kernel_rfl
def swt:List (FuncId × List AV × List AV):=[(144,[(.c (.string ⟨#[97,110,100]⟩))],[(.c (.int .i64 3))]),
 (144,[(.c (.string ⟨#[97,110,110]⟩))],[(.c (.int .i64 1))]),
 (144,[(.c (.string ⟨#[98,101,110]⟩))],[(.c (.int .i64 1))]),
 (144,[(.c (.string ⟨#[98,121]⟩))],[(.c (.int .i64 3))]),
 (144,[(.c (.string ⟨#[99,101,108,108]⟩))],[(.c (.int .i64 3))]),
 (144,[(.c (.string ⟨#[101,118,101,114,121]⟩))],[(.c (.int .i64 3))]),
 (144,[(.c (.string ⟨#[101,120,99,101,112,116]⟩))],[(.c (.int .i64 3))]),
 (144,[(.c (.string ⟨#[102,114,111,109]⟩))],[(.c (.int .i64 3))]),
 (144,[(.c (.string ⟨#[104,111,117,114]⟩))],[(.c (.int .i64 3))]),
 (144,[(.c (.string ⟨#[105,102]⟩))],[(.c (.int .i64 3))]),
 (144,[(.c (.string ⟨#[108,111,111,107]⟩))],[(.c (.int .i64 1))]),
 (144,[(.c (.string ⟨#[110,111,114,116,104]⟩))],[(.c (.int .i64 1))]),
 (144,[(.c (.string ⟨#[110,111,116]⟩))],[(.c (.int .i64 3))]),
 (144,[(.c (.string ⟨#[111,110]⟩))],[(.c (.int .i64 3))]),
 (144,[(.c (.string ⟨#[111,114]⟩))],[(.c (.int .i64 3))]),
 (144,[(.c (.string ⟨#[111,114,100,101,114]⟩))],[(.c (.int .i64 3))]),
 (144,[(.c (.string ⟨#[114,97,110,107]⟩))],[(.c (.int .i64 3))]),
 (144,[(.c (.string ⟨#[114,101,115,116]⟩))],[(.c (.int .i64 3))]),
 (144,[(.c (.string ⟨#[115,101,101,110]⟩))],[(.c (.int .i64 3))]),
 (144,[(.c (.string ⟨#[115,101,110,100]⟩))],[(.c (.int .i64 1))]),
 (144,[(.c (.string ⟨#[115,111,117,116,104]⟩))],[(.c (.int .i64 1))]),
 (144,[(.c (.string ⟨#[115,119,97,112]⟩))],[(.c (.int .i64 3))]),
 (144,[(.c (.string ⟨#[116,111]⟩))],[(.c (.int .i64 3))]),
 (144,[(.c (.string ⟨#[119,97,116,99,104]⟩))],[(.c (.int .i64 3))]),
 (175,[(.c (.string ⟨#[49]⟩))],[(.tup [(.c (.int .i64 1)),(.c .nilIface)])]),
 (175,[(.c (.string ⟨#[50]⟩))],[(.tup [(.c (.int .i64 2)),(.c .nilIface)])]),
 (175,[(.c (.string ⟨#[52]⟩))],[(.tup [(.c (.int .i64 4)),(.c .nilIface)])]),
 (175,[(.c (.string ⟨#[53]⟩))],[(.tup [(.c (.int .i64 5)),(.c .nilIface)])]),
 (175,[(.c (.string ⟨#[54]⟩))],[(.tup [(.c (.int .i64 6)),(.c .nilIface)])]),
 (175,[(.c (.string ⟨#[57]⟩))],[(.tup [(.c (.int .i64 9)),(.c .nilIface)])]),
 (175,[(.c (.string ⟨#[49,48]⟩))],[(.tup [(.c (.int .i64 10)),(.c .nilIface)])])] ++ jW
theorem swt_ok:JQ Tryz.prog swt:=Qx (zZ tab1_ok (zZ tab1_ok (zZ tab1_ok (zZ tab1_ok (zZ tab1_ok (zZ tab1_ok (zZ tab1_ok (zZ tab1_ok (zZ tab1_ok (zZ tab1_ok (zZ tab1_ok (zZ tab1_ok (zZ tab1_ok (zZ tab1_ok (zZ tab1_ok (zZ tab1_ok (zZ tab1_ok (zZ tab1_ok (zZ tab1_ok (zZ tab1_ok (zZ tab1_ok (zZ tab1_ok (zZ tab1_ok (zZ tab1_ok (zZ tab1_ok (zZ tab1_ok (zZ tab1_ok (zZ tab1_ok (zZ tab1_ok (zZ tab1_ok (zZ tab1_ok (J9) sw30) sw29) sw28) sw27) sw26) sw25) sw24) sw23) sw22) sw21) sw20) sw19) sw18) sw17) sw16) sw15) sw14) sw13) sw12) sw11) sw10) sw9) sw8) sw7) sw6) sw5) sw4) sw3) sw2) sw1) sw0) tab1_ok
end Go.Proofs.SAN
set_option maxRecDepth 100000
namespace Go.Proofs.SAN
open Go Go.AM Go.Proofs
theorem sb0:chk swt 29 [wat] [(.c (.int .i64 0))]=true:=by kernel_rfl
def sbt:List (FuncId × List AV × List AV):=[(29,[wat],[(.c (.int .i64 0))])] ++ swt
theorem Jw:JQ Tryz.prog sbt:=Qx (zZ swt_ok (J9) sb0) swt_ok
end Go.Proofs.SAN
set_option maxRecDepth 100000
namespace Go.Proofs.SAN
open Go Go.AM Go.Proofs
theorem sc0:chk sbt 78 [wat,(.c (.int .i64 1))] [(.fslc false false 3 [(.agg [(.c (.int .i64 1)),(.c (.string ⟨#[110,111,114,116,104]⟩)),(.c (.string ⟨#[97,110,110]⟩))])])]=true:=by kernel_rfl
theorem sc1:chk sbt 78 [wat,(.c (.int .i64 2))] [(.fslc false false 3 [(.agg [(.c (.int .i64 2)),(.c (.string ⟨#[110,111,114,116,104]⟩)),(.c (.string ⟨#[98,101,110]⟩))])])]=true:=by kernel_rfl
theorem sc2:chk sbt 78 [wat,(.c (.int .i64 3))] [(.fslc false false 3 [(.agg [(.c (.int .i64 3)),(.c (.string ⟨#[110,111,114,116,104]⟩)),(.c (.string ⟨#[97,110,110]⟩))])])]=true:=by kernel_rfl
theorem sc3:chk sbt 78 [wat,(.c (.int .i64 4))] [(.fslc false false 3 [(.agg [(.c (.int .i64 4)),(.c (.string ⟨#[110,111,114,116,104]⟩)),(.c (.string ⟨#[97,110,110]⟩))]),(.agg [(.c (.int .i64 4)),(.c (.string ⟨#[115,111,117,116,104]⟩)),(.c (.string ⟨#[98,101,110]⟩))])])]=true:=by kernel_rfl
theorem sc4:chk sbt 78 [wat,(.c (.int .i64 5))] [(.fslc true true 0 [])]=true:=by kernel_rfl
theorem sc5:chk sbt 78 [wat,(.c (.int .i64 6))] [(.fslc true true 0 [])]=true:=by kernel_rfl
theorem sc6:chk sbt 78 [wat,(.c (.int .i64 7))] [(.fslc false false 3 [(.agg [(.c (.int .i64 7)),(.c (.string ⟨#[110,111,114,116,104]⟩)),(.c (.string ⟨#[97,110,110]⟩))])])]=true:=by kernel_rfl
theorem sc7:chk sbt 78 [wat,(.c (.int .i64 8))] [(.fslc false false 3 [(.agg [(.c (.int .i64 8)),(.c (.string ⟨#[110,111,114,116,104]⟩)),(.c (.string ⟨#[98,101,110]⟩))])])]=true:=by kernel_rfl
theorem sc8:chk sbt 78 [wat,(.c (.int .i64 9))] [(.fslc false false 3 [(.agg [(.c (.int .i64 9)),(.c (.string ⟨#[110,111,114,116,104]⟩)),(.c (.string ⟨#[97,110,110]⟩))])])]=true:=by kernel_rfl
theorem sc9:chk sbt 78 [wat,(.c (.int .i64 10))] [(.fslc false false 3 [(.agg [(.c (.int .i64 10)),(.c (.string ⟨#[110,111,114,116,104]⟩)),(.c (.string ⟨#[98,101,110]⟩))])])]=true:=by kernel_rfl
def sct:List (FuncId × List AV × List AV):=[(78,[wat,(.c (.int .i64 1))],[(.fslc false false 3 [(.agg [(.c (.int .i64 1)),(.c (.string ⟨#[110,111,114,116,104]⟩)),(.c (.string ⟨#[97,110,110]⟩))])])]),
 (78,[wat,(.c (.int .i64 2))],[(.fslc false false 3 [(.agg [(.c (.int .i64 2)),(.c (.string ⟨#[110,111,114,116,104]⟩)),(.c (.string ⟨#[98,101,110]⟩))])])]),
 (78,[wat,(.c (.int .i64 3))],[(.fslc false false 3 [(.agg [(.c (.int .i64 3)),(.c (.string ⟨#[110,111,114,116,104]⟩)),(.c (.string ⟨#[97,110,110]⟩))])])]),
 (78,[wat,(.c (.int .i64 4))],[(.fslc false false 3 [(.agg [(.c (.int .i64 4)),(.c (.string ⟨#[110,111,114,116,104]⟩)),(.c (.string ⟨#[97,110,110]⟩))]),(.agg [(.c (.int .i64 4)),(.c (.string ⟨#[115,111,117,116,104]⟩)),(.c (.string ⟨#[98,101,110]⟩))])])]),
 (78,[wat,(.c (.int .i64 5))],[(.fslc true true 0 [])]),
 (78,[wat,(.c (.int .i64 6))],[(.fslc true true 0 [])]),
 (78,[wat,(.c (.int .i64 7))],[(.fslc false false 3 [(.agg [(.c (.int .i64 7)),(.c (.string ⟨#[110,111,114,116,104]⟩)),(.c (.string ⟨#[97,110,110]⟩))])])]),
 (78,[wat,(.c (.int .i64 8))],[(.fslc false false 3 [(.agg [(.c (.int .i64 8)),(.c (.string ⟨#[110,111,114,116,104]⟩)),(.c (.string ⟨#[98,101,110]⟩))])])]),
 (78,[wat,(.c (.int .i64 9))],[(.fslc false false 3 [(.agg [(.c (.int .i64 9)),(.c (.string ⟨#[110,111,114,116,104]⟩)),(.c (.string ⟨#[97,110,110]⟩))])])]),
 (78,[wat,(.c (.int .i64 10))],[(.fslc false false 3 [(.agg [(.c (.int .i64 10)),(.c (.string ⟨#[110,111,114,116,104]⟩)),(.c (.string ⟨#[98,101,110]⟩))])])])] ++ sbt
theorem jX:JQ Tryz.prog sct:=Qx (zZ Jw (zZ Jw (zZ Jw (zZ Jw (zZ Jw (zZ Jw (zZ Jw (zZ Jw (zZ Jw (zZ Jw (J9) sc9) sc8) sc7) sc6) sc5) sc4) sc3) sc2) sc1) sc0) Jw
end Go.Proofs.SAN
