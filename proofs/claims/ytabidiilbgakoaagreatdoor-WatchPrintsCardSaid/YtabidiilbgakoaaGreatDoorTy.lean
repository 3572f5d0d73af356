/- Closed facts on the types of this seat's program. Conditions: as each theorem says. -/
import Derived.Test.YtabidiilbgakoaaGreatDoorSa
namespace Go.AM
open Go.Proofs
@[go_sem] theorem lay3 : lay Tryz.prog 3 = some (1, false) := by kernel_rfl
@[go_sem] theorem szOf3 : szOf Tryz.prog 3 = some 1 := by kernel_rfl
@[go_sem] theorem byOf3 : byOf Tryz.prog 3 = some 8 := by kernel_rfl
@[go_sem] theorem zerOf3 : zerOf Tryz.prog 3 = some (iv .i64 0) := by kernel_rfl
@[go_sem] theorem lay4 : lay Tryz.prog 4 = some (1, false) := by kernel_rfl
@[go_sem] theorem szOf4 : szOf Tryz.prog 4 = some 1 := by kernel_rfl
@[go_sem] theorem byOf4 : byOf Tryz.prog 4 = some 1 := by kernel_rfl
@[go_sem] theorem zerOf4 : zerOf Tryz.prog 4 = some (bv false) := by kernel_rfl
@[go_sem] theorem kdOf4 : kdOf Tryz.prog 4 = .bool := by kernel_rfl
@[go_sem] theorem lay52 : lay Tryz.prog 52 = some (1, false) := by kernel_rfl
@[go_sem] theorem szOf52 : szOf Tryz.prog 52 = some 1 := by kernel_rfl
@[go_sem] theorem byOf52 : byOf Tryz.prog 52 = some 24 := by kernel_rfl
@[go_sem] theorem zerOf52 : zerOf Tryz.prog 52 = some (.fslc true true 0 []) := by kernel_rfl
@[go_sem] theorem eltOf52 : eltOf Tryz.prog 52 = some 54 := by kernel_rfl
@[go_sem] theorem kdOf52 : kdOf Tryz.prog 52 = .slice 54 := by kernel_rfl
@[go_sem] theorem lenK52 : lenK Tryz.prog 52 = .slice := by kernel_rfl
@[go_sem] theorem lay54 : lay Tryz.prog 54 = some (5, true) := by kernel_rfl
@[go_sem] theorem szOf54 : szOf Tryz.prog 54 = some 5 := by kernel_rfl
@[go_sem] theorem byOf54 : byOf Tryz.prog 54 = some 56 := by kernel_rfl
@[go_sem] theorem zerOf54 : zerOf Tryz.prog 54 = some (.agg [iv .i64 0, iv .i64 0, iv .i64 0, iv .i64 0, .fslc true true 0 []]) := by kernel_rfl
@[go_sem] theorem fldOf54_0 : fldOf Tryz.prog 54 0 = some (0, 1) := by kernel_rfl
@[go_sem] theorem fldOf54_1 : fldOf Tryz.prog 54 1 = some (1, 1) := by kernel_rfl
@[go_sem] theorem fldOf54_2 : fldOf Tryz.prog 54 2 = some (2, 1) := by kernel_rfl
@[go_sem] theorem fldOf54_3 : fldOf Tryz.prog 54 3 = some (3, 1) := by kernel_rfl
@[go_sem] theorem fldOf54_4 : fldOf Tryz.prog 54 4 = some (4, 1) := by kernel_rfl
@[go_sem] theorem sizesOk54 : sizesOk Tryz.prog 54 = true := by kernel_rfl
@[go_sem] theorem lay98 : lay Tryz.prog 98 = some (5, true) := by kernel_rfl
@[go_sem] theorem szOf98 : szOf Tryz.prog 98 = some 5 := by kernel_rfl
@[go_sem] theorem byOf98 : byOf Tryz.prog 98 = some 40 := by kernel_rfl
@[go_sem] theorem zerOf98 : zerOf Tryz.prog 98 = some (.agg [iv .i64 0, iv .i64 0, iv .i64 0, iv .i64 0, iv .i64 0]) := by kernel_rfl
@[go_sem] theorem lay32 : lay Tryz.prog 32 = some (1, false) := by kernel_rfl
@[go_sem] theorem szOf32 : szOf Tryz.prog 32 = some 1 := by kernel_rfl
@[go_sem] theorem byOf32 : byOf Tryz.prog 32 = some 8 := by kernel_rfl
@[go_sem] theorem zerOf32 : zerOf Tryz.prog 32 = some (iv .i64 0) := by kernel_rfl
@[go_sem] theorem lay203 : lay Tryz.prog 203 = some (1, false) := by kernel_rfl
@[go_sem] theorem szOf203 : szOf Tryz.prog 203 = some 1 := by kernel_rfl
@[go_sem] theorem byOf203 : byOf Tryz.prog 203 = some 8 := by kernel_rfl
@[go_sem] theorem zerOf203 : zerOf Tryz.prog 203 = some (.c (.pointer none)) := by kernel_rfl
@[go_sem] theorem kdOf203 : kdOf Tryz.prog 203 = .ptr 3 := by kernel_rfl
@[go_sem] theorem lay226 : lay Tryz.prog 226 = some (7, true) := by kernel_rfl
@[go_sem] theorem szOf226 : szOf Tryz.prog 226 = some 7 := by kernel_rfl
@[go_sem] theorem byOf226 : byOf Tryz.prog 226 = some 56 := by kernel_rfl
@[go_sem] theorem zerOf226 : zerOf Tryz.prog 226 = some (.agg [iv .i64 0, iv .i64 0, iv .i64 0, iv .i64 0, iv .i64 0, iv .i64 0, iv .i64 0]) := by kernel_rfl
@[go_sem] theorem lay238 : lay Tryz.prog 238 = some (1, false) := by kernel_rfl
@[go_sem] theorem szOf238 : szOf Tryz.prog 238 = some 1 := by kernel_rfl
@[go_sem] theorem byOf238 : byOf Tryz.prog 238 = some 8 := by kernel_rfl
@[go_sem] theorem zerOf238 : zerOf Tryz.prog 238 = some (.c (.map none)) := by kernel_rfl
@[go_sem] theorem kdOf238 : kdOf Tryz.prog 238 = .map := by kernel_rfl
@[go_sem] theorem lenK238 : lenK Tryz.prog 238 = .map := by kernel_rfl
@[go_sem] theorem typed3 : (@Vars.typed Go.Proofs.SAN.vars).contains 3 = false := by kernel_rfl
@[go_sem] theorem typed4 : (@Vars.typed Go.Proofs.SAN.vars).contains 4 = false := by kernel_rfl
@[go_sem] theorem typed52 : (@Vars.typed Go.Proofs.SAN.vars).contains 52 = false := by kernel_rfl
@[go_sem] theorem typed54 : (@Vars.typed Go.Proofs.SAN.vars).contains 54 = false := by kernel_rfl
@[go_sem] theorem typed98 : (@Vars.typed Go.Proofs.SAN.vars).contains 98 = false := by kernel_rfl
@[go_sem] theorem typed32 : (@Vars.typed Go.Proofs.SAN.vars).contains 32 = false := by kernel_rfl
@[go_sem] theorem typed203 : (@Vars.typed Go.Proofs.SAN.vars).contains 203 = false := by kernel_rfl
@[go_sem] theorem typed226 : (@Vars.typed Go.Proofs.SAN.vars).contains 226 = false := by kernel_rfl
@[go_sem] theorem typed238 : (@Vars.typed Go.Proofs.SAN.vars).contains 238 = false := by kernel_rfl
@[go_sem] theorem arrOf25 : arrOf Tryz.prog 98 = some (5, 3, 1, false) := by kernel_rfl
@[go_sem] theorem arrOf167 : arrOf Tryz.prog 226 = some (7, 3, 1, false) := by kernel_rfl
@[go_sem] theorem mapTys238 : mapTys Tryz.prog 238 = some (3, 3) := by kernel_rfl
@[go_sem] theorem eltOf98 : eltOf Tryz.prog 98 = none := by kernel_rfl
theorem mixed : Tryz.prog.follows .mixedOrders = true := by kernel_rfl
end Go.AM

