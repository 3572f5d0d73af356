/- Closed facts on the types of this seat's program. Conditions: as each theorem says. -/
import Derived.Test.YtbpbgiedemkciaaGreatDoorSa
namespace Go.AM
open Go.Proofs
@[go_sem] theorem lay3 : lay Tryz.prog 3 = some (1, false) := by kernel_rfl
@[go_sem] theorem szOf3 : szOf Tryz.prog 3 = some 1 := by kernel_rfl
@[go_sem] theorem byOf3 : byOf Tryz.prog 3 = some 8 := by kernel_rfl
@[go_sem] theorem zerOf3 : zerOf Tryz.prog 3 = some (iv .i64 0) := by kernel_rfl
@[go_sem] theorem lay4 : lay Tryz.prog 4 = some (1, false) := by kernel_rfl
@[go_sem] theorem szOf4 : szOf Tryz.prog 4 = some 1 := by kernel_rfl
@[go_sem] theorem byOf4 : byOf Tryz.prog 4 = some 1 := by kernel_rfl
@[go_sem] theorem zerOf4 : zerOf Tryz.prog 4 = some (bv false) := by kernel_rfl
@[go_sem] theorem kdOf4 : kdOf Tryz.prog 4 = .bool := by kernel_rfl
@[go_sem] theorem lay22 : lay Tryz.prog 22 = some (1, false) := by kernel_rfl
@[go_sem] theorem szOf22 : szOf Tryz.prog 22 = some 1 := by kernel_rfl
@[go_sem] theorem byOf22 : byOf Tryz.prog 22 = some 24 := by kernel_rfl
@[go_sem] theorem zerOf22 : zerOf Tryz.prog 22 = some (.fslc true true 0 []) := by kernel_rfl
@[go_sem] theorem eltOf22 : eltOf Tryz.prog 22 = some 24 := by kernel_rfl
@[go_sem] theorem kdOf22 : kdOf Tryz.prog 22 = .slice 24 := by kernel_rfl
@[go_sem] theorem lenK22 : lenK Tryz.prog 22 = .slice := by kernel_rfl
@[go_sem] theorem lay24 : lay Tryz.prog 24 = some (5, true) := by kernel_rfl
@[go_sem] theorem szOf24 : szOf Tryz.prog 24 = some 5 := by kernel_rfl
@[go_sem] theorem byOf24 : byOf Tryz.prog 24 = some 56 := by kernel_rfl
@[go_sem] theorem zerOf24 : zerOf Tryz.prog 24 = some (.agg [iv .i64 0, iv .i64 0, iv .i64 0, iv .i64 0, .fslc true true 0 []]) := by kernel_rfl
@[go_sem] theorem fldOf24_0 : fldOf Tryz.prog 24 0 = some (0, 1) := by kernel_rfl
@[go_sem] theorem fldOf24_1 : fldOf Tryz.prog 24 1 = some (1, 1) := by kernel_rfl
@[go_sem] theorem fldOf24_2 : fldOf Tryz.prog 24 2 = some (2, 1) := by kernel_rfl
@[go_sem] theorem fldOf24_3 : fldOf Tryz.prog 24 3 = some (3, 1) := by kernel_rfl
@[go_sem] theorem fldOf24_4 : fldOf Tryz.prog 24 4 = some (4, 1) := by kernel_rfl
@[go_sem] theorem sizesOk24 : sizesOk Tryz.prog 24 = true := by kernel_rfl
@[go_sem] theorem lay25 : lay Tryz.prog 25 = some (5, true) := by kernel_rfl
@[go_sem] theorem szOf25 : szOf Tryz.prog 25 = some 5 := by kernel_rfl
@[go_sem] theorem byOf25 : byOf Tryz.prog 25 = some 40 := by kernel_rfl
@[go_sem] theorem zerOf25 : zerOf Tryz.prog 25 = some (.agg [iv .i64 0, iv .i64 0, iv .i64 0, iv .i64 0, iv .i64 0]) := by kernel_rfl
@[go_sem] theorem lay28 : lay Tryz.prog 28 = some (1, false) := by kernel_rfl
@[go_sem] theorem szOf28 : szOf Tryz.prog 28 = some 1 := by kernel_rfl
@[go_sem] theorem byOf28 : byOf Tryz.prog 28 = some 8 := by kernel_rfl
@[go_sem] theorem zerOf28 : zerOf Tryz.prog 28 = some (iv .i64 0) := by kernel_rfl
@[go_sem] theorem lay34 : lay Tryz.prog 34 = some (6, true) := by kernel_rfl
@[go_sem] theorem szOf34 : szOf Tryz.prog 34 = some 6 := by kernel_rfl
@[go_sem] theorem byOf34 : byOf Tryz.prog 34 = some 64 := by kernel_rfl
@[go_sem] theorem zerOf34 : zerOf Tryz.prog 34 = some (.agg [iv .i64 0, iv .i64 0, iv .i64 0, iv .i64 0, .fslc true true 0 [], iv .i64 0]) := by kernel_rfl
@[go_sem] theorem fldOf34_0 : fldOf Tryz.prog 34 0 = some (0, 5) := by kernel_rfl
@[go_sem] theorem fldOf34_1 : fldOf Tryz.prog 34 1 = some (5, 1) := by kernel_rfl
@[go_sem] theorem sizesOk34 : sizesOk Tryz.prog 34 = true := by kernel_rfl
@[go_sem] theorem lay165 : lay Tryz.prog 165 = some (1, false) := by kernel_rfl
@[go_sem] theorem szOf165 : szOf Tryz.prog 165 = some 1 := by kernel_rfl
@[go_sem] theorem byOf165 : byOf Tryz.prog 165 = some 8 := by kernel_rfl
@[go_sem] theorem zerOf165 : zerOf Tryz.prog 165 = some (.c (.pointer none)) := by kernel_rfl
@[go_sem] theorem kdOf165 : kdOf Tryz.prog 165 = .ptr 3 := by kernel_rfl
@[go_sem] theorem lay167 : lay Tryz.prog 167 = some (7, true) := by kernel_rfl
@[go_sem] theorem szOf167 : szOf Tryz.prog 167 = some 7 := by kernel_rfl
@[go_sem] theorem byOf167 : byOf Tryz.prog 167 = some 56 := by kernel_rfl
@[go_sem] theorem zerOf167 : zerOf Tryz.prog 167 = some (.agg [iv .i64 0, iv .i64 0, iv .i64 0, iv .i64 0, iv .i64 0, iv .i64 0, iv .i64 0]) := by kernel_rfl
@[go_sem] theorem lay213 : lay Tryz.prog 213 = some (1, false) := by kernel_rfl
@[go_sem] theorem szOf213 : szOf Tryz.prog 213 = some 1 := by kernel_rfl
@[go_sem] theorem byOf213 : byOf Tryz.prog 213 = some 8 := by kernel_rfl
@[go_sem] theorem zerOf213 : zerOf Tryz.prog 213 = some (.c (.map none)) := by kernel_rfl
@[go_sem] theorem kdOf213 : kdOf Tryz.prog 213 = .map := by kernel_rfl
@[go_sem] theorem lenK213 : lenK Tryz.prog 213 = .map := by kernel_rfl
@[go_sem] theorem typed3 : (@Vars.typed Go.Proofs.SAN.vars).contains 3 = false := by kernel_rfl
@[go_sem] theorem typed4 : (@Vars.typed Go.Proofs.SAN.vars).contains 4 = false := by kernel_rfl
@[go_sem] theorem typed22 : (@Vars.typed Go.Proofs.SAN.vars).contains 22 = false := by kernel_rfl
@[go_sem] theorem typed24 : (@Vars.typed Go.Proofs.SAN.vars).contains 24 = false := by kernel_rfl
@[go_sem] theorem typed25 : (@Vars.typed Go.Proofs.SAN.vars).contains 25 = false := by kernel_rfl
@[go_sem] theorem typed28 : (@Vars.typed Go.Proofs.SAN.vars).contains 28 = false := by kernel_rfl
@[go_sem] theorem typed34 : (@Vars.typed Go.Proofs.SAN.vars).contains 34 = false := by kernel_rfl
@[go_sem] theorem typed165 : (@Vars.typed Go.Proofs.SAN.vars).contains 165 = false := by kernel_rfl
@[go_sem] theorem typed167 : (@Vars.typed Go.Proofs.SAN.vars).contains 167 = false := by kernel_rfl
@[go_sem] theorem typed213 : (@Vars.typed Go.Proofs.SAN.vars).contains 213 = false := by kernel_rfl
@[go_sem] theorem arrOf25 : arrOf Tryz.prog 25 = some (5, 3, 1, false) := by kernel_rfl
@[go_sem] theorem arrOf167 : arrOf Tryz.prog 167 = some (7, 3, 1, false) := by kernel_rfl
@[go_sem] theorem mapTys213 : mapTys Tryz.prog 213 = some (3, 3) := by kernel_rfl
@[go_sem] theorem eltOf25 : eltOf Tryz.prog 25 = none := by kernel_rfl
theorem mixed : Tryz.prog.follows .mixedOrders = true := by kernel_rfl
end Go.AM
