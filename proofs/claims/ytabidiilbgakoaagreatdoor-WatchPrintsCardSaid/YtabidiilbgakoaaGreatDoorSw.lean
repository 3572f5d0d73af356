/- The closed calls of sanity: words. Conditions: as each theorem says. -/
import Derived.Test.YtabidiilbgakoaaGreatDoorSa
set_option maxRecDepth 100000
namespace Go.Proofs.SAN
open Go Go.AM Go.Proofs
theorem sw0 : chk tab1 144 [(.c (.string ⟨#[97, 110, 100]⟩))] [(.c (.int .i64 3))] = true := by kernel_rfl
theorem sw1 : chk tab1 144 [(.c (.string ⟨#[97, 110, 110]⟩))] [(.c (.int .i64 1))] = true := by kernel_rfl
theorem sw2 : chk tab1 144 [(.c (.string ⟨#[98, 101, 110]⟩))] [(.c (.int .i64 1))] = true := by kernel_rfl
theorem sw3 : chk tab1 144 [(.c (.string ⟨#[98, 121]⟩))] [(.c (.int .i64 3))] = true := by kernel_rfl
theorem sw4 : chk tab1 144 [(.c (.string ⟨#[99, 101, 108, 108]⟩))] [(.c (.int .i64 3))] = true := by kernel_rfl
theorem sw5 : chk tab1 144 [(.c (.string ⟨#[101, 118, 101, 114, 121]⟩))] [(.c (.int .i64 3))] = true := by kernel_rfl
theorem sw6 : chk tab1 144 [(.c (.string ⟨#[101, 120, 99, 101, 112, 116]⟩))] [(.c (.int .i64 3))] = true := by kernel_rfl
theorem sw7 : chk tab1 144 [(.c (.string ⟨#[102, 114, 111, 109]⟩))] [(.c (.int .i64 3))] = true := by kernel_rfl
theorem sw8 : chk tab1 144 [(.c (.string ⟨#[104, 111, 117, 114]⟩))] [(.c (.int .i64 3))] = true := by kernel_rfl
theorem sw9 : chk tab1 144 [(.c (.string ⟨#[105, 102]⟩))] [(.c (.int .i64 3))] = true := by kernel_rfl
theorem sw10 : chk tab1 144 [(.c (.string ⟨#[108, 111, 111, 107]⟩))] [(.c (.int .i64 1))] = true := by kernel_rfl
theorem sw11 : chk tab1 144 [(.c (.string ⟨#[110, 111, 114, 116, 104]⟩))] [(.c (.int .i64 1))] = true := by kernel_rfl
theorem sw12 : chk tab1 144 [(.c (.string ⟨#[110, 111, 116]⟩))] [(.c (.int .i64 3))] = true := by kernel_rfl
theorem sw13 : chk tab1 144 [(.c (.string ⟨#[111, 110]⟩))] [(.c (.int .i64 3))] = true := by kernel_rfl
theorem sw14 : chk tab1 144 [(.c (.string ⟨#[111, 114]⟩))] [(.c (.int .i64 3))] = true := by kernel_rfl
theorem sw15 : chk tab1 144 [(.c (.string ⟨#[111, 114, 100, 101, 114]⟩))] [(.c (.int .i64 3))] = true := by kernel_rfl
theorem sw16 : chk tab1 144 [(.c (.string ⟨#[114, 97, 110, 107]⟩))] [(.c (.int .i64 3))] = true := by kernel_rfl
theorem sw17 : chk tab1 144 [(.c (.string ⟨#[114, 101, 115, 116]⟩))] [(.c (.int .i64 3))] = true := by kernel_rfl
theorem sw18 : chk tab1 144 [(.c (.string ⟨#[115, 101, 101, 110]⟩))] [(.c (.int .i64 3))] = true := by kernel_rfl
theorem sw19 : chk tab1 144 [(.c (.string ⟨#[115, 101, 110, 100]⟩))] [(.c (.int .i64 1))] = true := by kernel_rfl
theorem sw20 : chk tab1 144 [(.c (.string ⟨#[115, 111, 117, 116, 104]⟩))] [(.c (.int .i64 1))] = true := by kernel_rfl
theorem sw21 : chk tab1 144 [(.c (.string ⟨#[115, 119, 97, 112]⟩))] [(.c (.int .i64 3))] = true := by kernel_rfl
theorem sw22 : chk tab1 144 [(.c (.string ⟨#[116, 111]⟩))] [(.c (.int .i64 3))] = true := by kernel_rfl
theorem sw23 : chk tab1 144 [(.c (.string ⟨#[119, 97, 116, 99, 104]⟩))] [(.c (.int .i64 3))] = true := by kernel_rfl
theorem sw24 : chk tab1 175 [(.c (.string ⟨#[49]⟩))] [(.tup [(.c (.int .i64 1)), (.c .nilIface)])] = true := by kernel_rfl
theorem sw25 : chk tab1 175 [(.c (.string ⟨#[50]⟩))] [(.tup [(.c (.int .i64 2)), (.c .nilIface)])] = true := by kernel_rfl
theorem sw26 : chk tab1 175 [(.c (.string ⟨#[52]⟩))] [(.tup [(.c (.int .i64 4)), (.c .nilIface)])] = true := by kernel_rfl
theorem sw27 : chk tab1 175 [(.c (.string ⟨#[53]⟩))] [(.tup [(.c (.int .i64 5)), (.c .nilIface)])] = true := by kernel_rfl
theorem sw28 : chk tab1 175 [(.c (.string ⟨#[54]⟩))] [(.tup [(.c (.int .i64 6)), (.c .nilIface)])] = true := by kernel_rfl
theorem sw29 : chk tab1 175 [(.c (.string ⟨#[57]⟩))] [(.tup [(.c (.int .i64 9)), (.c .nilIface)])] = true := by kernel_rfl
theorem sw30 : chk tab1 175 [(.c (.string ⟨#[49, 48]⟩))] [(.tup [(.c (.int .i64 10)), (.c .nilIface)])] = true := by kernel_rfl
def swt : List (FuncId × List AV × List AV) := [(144, [(.c (.string ⟨#[97, 110, 100]⟩))], [(.c (.int .i64 3))]),
  (144, [(.c (.string ⟨#[97, 110, 110]⟩))], [(.c (.int .i64 1))]),
  (144, [(.c (.string ⟨#[98, 101, 110]⟩))], [(.c (.int .i64 1))]),
  (144, [(.c (.string ⟨#[98, 121]⟩))], [(.c (.int .i64 3))]),
  (144, [(.c (.string ⟨#[99, 101, 108, 108]⟩))], [(.c (.int .i64 3))]),
  (144, [(.c (.string ⟨#[101, 118, 101, 114, 121]⟩))], [(.c (.int .i64 3))]),
  (144, [(.c (.string ⟨#[101, 120, 99, 101, 112, 116]⟩))], [(.c (.int .i64 3))]),
  (144, [(.c (.string ⟨#[102, 114, 111, 109]⟩))], [(.c (.int .i64 3))]),
  (144, [(.c (.string ⟨#[104, 111, 117, 114]⟩))], [(.c (.int .i64 3))]),
  (144, [(.c (.string ⟨#[105, 102]⟩))], [(.c (.int .i64 3))]),
  (144, [(.c (.string ⟨#[108, 111, 111, 107]⟩))], [(.c (.int .i64 1))]),
  (144, [(.c (.string ⟨#[110, 111, 114, 116, 104]⟩))], [(.c (.int .i64 1))]),
  (144, [(.c (.string ⟨#[110, 111, 116]⟩))], [(.c (.int .i64 3))]),
  (144, [(.c (.string ⟨#[111, 110]⟩))], [(.c (.int .i64 3))]),
  (144, [(.c (.string ⟨#[111, 114]⟩))], [(.c (.int .i64 3))]),
  (144, [(.c (.string ⟨#[111, 114, 100, 101, 114]⟩))], [(.c (.int .i64 3))]),
  (144, [(.c (.string ⟨#[114, 97, 110, 107]⟩))], [(.c (.int .i64 3))]),
  (144, [(.c (.string ⟨#[114, 101, 115, 116]⟩))], [(.c (.int .i64 3))]),
  (144, [(.c (.string ⟨#[115, 101, 101, 110]⟩))], [(.c (.int .i64 3))]),
  (144, [(.c (.string ⟨#[115, 101, 110, 100]⟩))], [(.c (.int .i64 1))]),
  (144, [(.c (.string ⟨#[115, 111, 117, 116, 104]⟩))], [(.c (.int .i64 1))]),
  (144, [(.c (.string ⟨#[115, 119, 97, 112]⟩))], [(.c (.int .i64 3))]),
  (144, [(.c (.string ⟨#[116, 111]⟩))], [(.c (.int .i64 3))]),
  (144, [(.c (.string ⟨#[119, 97, 116, 99, 104]⟩))], [(.c (.int .i64 3))]),
  (175, [(.c (.string ⟨#[49]⟩))], [(.tup [(.c (.int .i64 1)), (.c .nilIface)])]),
  (175, [(.c (.string ⟨#[50]⟩))], [(.tup [(.c (.int .i64 2)), (.c .nilIface)])]),
  (175, [(.c (.string ⟨#[52]⟩))], [(.tup [(.c (.int .i64 4)), (.c .nilIface)])]),
  (175, [(.c (.string ⟨#[53]⟩))], [(.tup [(.c (.int .i64 5)), (.c .nilIface)])]),
  (175, [(.c (.string ⟨#[54]⟩))], [(.tup [(.c (.int .i64 6)), (.c .nilIface)])]),
  (175, [(.c (.string ⟨#[57]⟩))], [(.tup [(.c (.int .i64 9)), (.c .nilIface)])]),
  (175, [(.c (.string ⟨#[49, 48]⟩))], [(.tup [(.c (.int .i64 10)), (.c .nilIface)])])] ++ tab1
theorem swt_ok : TabOk Tryz.prog swt := tab_app (tab_cons tab1_ok (tab_cons tab1_ok (tab_cons tab1_ok (tab_cons tab1_ok (tab_cons tab1_ok (tab_cons tab1_ok (tab_cons tab1_ok (tab_cons tab1_ok (tab_cons tab1_ok (tab_cons tab1_ok (tab_cons tab1_ok (tab_cons tab1_ok (tab_cons tab1_ok (tab_cons tab1_ok (tab_cons tab1_ok (tab_cons tab1_ok (tab_cons tab1_ok (tab_cons tab1_ok (tab_cons tab1_ok (tab_cons tab1_ok (tab_cons tab1_ok (tab_cons tab1_ok (tab_cons tab1_ok (tab_cons tab1_ok (tab_cons tab1_ok (tab_cons tab1_ok (tab_cons tab1_ok (tab_cons tab1_ok (tab_cons tab1_ok (tab_cons tab1_ok (tab_cons tab1_ok (tab_nil) sw30) sw29) sw28) sw27) sw26) sw25) sw24) sw23) sw22) sw21) sw20) sw19) sw18) sw17) sw16) sw15) sw14) sw13) sw12) sw11) sw10) sw9) sw8) sw7) sw6) sw5) sw4) sw3) sw2) sw1) sw0) tab1_ok
end Go.Proofs.SAN
