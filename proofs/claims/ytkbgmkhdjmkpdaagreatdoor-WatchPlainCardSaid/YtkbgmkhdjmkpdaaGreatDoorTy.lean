/- Closed facts on the types of this seat's program. Conditions: as each theorem says. -/
import Derived.Test.YtkbgmkhdjmkpdaaGreatDoorSa
namespace Go.AM
open Go.Proofs
@[go_sem] theorem lay3:lay Tryz.prog 3=some (1,false):=by kernel_rfl
@[go_sem] theorem szOf3:zu Tryz.prog 3=some 1:=by kernel_rfl
@[go_sem] theorem byOf3:ZS Tryz.prog 3=some 8:=by kernel_rfl
@[go_sem] theorem zerOf3:zo Tryz.prog 3=some (iv .i64 0):=by kernel_rfl
@[go_sem] theorem lay4:lay Tryz.prog 4=some (1,false):=by kernel_rfl
@[go_sem] theorem szOf4:zu Tryz.prog 4=some 1:=by kernel_rfl
@[go_sem] theorem byOf4:ZS Tryz.prog 4=some 1:=by kernel_rfl
@[go_sem] theorem zerOf4:zo Tryz.prog 4=some (bv false):=by kernel_rfl
@[go_sem] theorem kdOf4:Zo Tryz.prog 4=.bool:=by kernel_rfl
@[go_sem] theorem lay78:lay Tryz.prog 78=some (1,false):=by kernel_rfl
@[go_sem] theorem szOf78:zu Tryz.prog 78=some 1:=by kernel_rfl
@[go_sem] theorem byOf78:ZS Tryz.prog 78=some 24:=by kernel_rfl
@[go_sem] theorem zerOf78:zo Tryz.prog 78=some (.fslc true true 0 []):=by kernel_rfl
@[go_sem] theorem eltOf78:ZQ Tryz.prog 78=some 80:=by kernel_rfl
@[go_sem] theorem kdOf78:Zo Tryz.prog 78=.slice 80:=by kernel_rfl
@[go_sem] theorem lenK78:qi Tryz.prog 78=.slice:=by kernel_rfl
@[go_sem] theorem lay80:lay Tryz.prog 80=some (5,true):=by kernel_rfl
@[go_sem] theorem szOf80:zu Tryz.prog 80=some 5:=by kernel_rfl
@[go_sem] theorem byOf80:ZS Tryz.prog 80=some 56:=by kernel_rfl
@[go_sem] theorem zerOf80:zo Tryz.prog 80=some (.agg [iv .i64 0,iv .i64 0,iv .i64 0,iv .i64 0,.fslc true true 0 []]):=by kernel_rfl
@[go_sem] theorem fldOf80_0:ZA Tryz.prog 80 0=some (0,1):=by kernel_rfl
@[go_sem] theorem fldOf80_1:ZA Tryz.prog 80 1=some (1,1):=by kernel_rfl
@[go_sem] theorem fldOf80_2:ZA Tryz.prog 80 2=some (2,1):=by kernel_rfl
@[go_sem] theorem fldOf80_3:ZA Tryz.prog 80 3=some (3,1):=by kernel_rfl
@[go_sem] theorem fldOf80_4:ZA Tryz.prog 80 4=some (4,1):=by kernel_rfl
@[go_sem] theorem sizesOk80:Z0 Tryz.prog 80=true:=by kernel_rfl
@[go_sem] theorem lay95:lay Tryz.prog 95=some (5,true):=by kernel_rfl
@[go_sem] theorem szOf95:zu Tryz.prog 95=some 5:=by kernel_rfl
@[go_sem] theorem byOf95:ZS Tryz.prog 95=some 40:=by kernel_rfl
@[go_sem] theorem zerOf95:zo Tryz.prog 95=some (.agg [iv .i64 0,iv .i64 0,iv .i64 0,iv .i64 0,iv .i64 0]):=by kernel_rfl
@[go_sem] theorem lay29:lay Tryz.prog 29=some (1,false):=by kernel_rfl
@[go_sem] theorem szOf29:zu Tryz.prog 29=some 1:=by kernel_rfl
@[go_sem] theorem byOf29:ZS Tryz.prog 29=some 8:=by kernel_rfl
@[go_sem] theorem zerOf29:zo Tryz.prog 29=some (iv .i64 0):=by kernel_rfl
@[go_sem] theorem lay203:lay Tryz.prog 203=some (1,false):=by kernel_rfl
@[go_sem] theorem szOf203:zu Tryz.prog 203=some 1:=by kernel_rfl
@[go_sem] theorem byOf203:ZS Tryz.prog 203=some 8:=by kernel_rfl
@[go_sem] theorem zerOf203:zo Tryz.prog 203=some (.c (.pointer none)):=by kernel_rfl
@[go_sem] theorem kdOf203:Zo Tryz.prog 203=.ptr 3:=by kernel_rfl
@[go_sem] theorem lay204:lay Tryz.prog 204=some (7,true):=by kernel_rfl
@[go_sem] theorem szOf204:zu Tryz.prog 204=some 7:=by kernel_rfl
@[go_sem] theorem byOf204:ZS Tryz.prog 204=some 56:=by kernel_rfl
@[go_sem] theorem zerOf204:zo Tryz.prog 204=some (.agg [iv .i64 0,iv .i64 0,iv .i64 0,iv .i64 0,iv .i64 0,iv .i64 0,iv .i64 0]):=by kernel_rfl
@[go_sem] theorem lay232:lay Tryz.prog 232=some (1,false):=by kernel_rfl
@[go_sem] theorem szOf232:zu Tryz.prog 232=some 1:=by kernel_rfl
@[go_sem] theorem byOf232:ZS Tryz.prog 232=some 8:=by kernel_rfl
@[go_sem] theorem zerOf232:zo Tryz.prog 232=some (.c (.map none)):=by kernel_rfl
@[go_sem] theorem kdOf232:Zo Tryz.prog 232=.map:=by kernel_rfl
@[go_sem] theorem lenK232:qi Tryz.prog 232=.map:=by kernel_rfl
@[go_sem] theorem typed3:(@Vars.typed Go.Proofs.SAN.vars).contains 3=false:=by kernel_rfl
@[go_sem] theorem typed4:(@Vars.typed Go.Proofs.SAN.vars).contains 4=false:=by kernel_rfl
@[go_sem] theorem typed78:(@Vars.typed Go.Proofs.SAN.vars).contains 78=false:=by kernel_rfl
@[go_sem] theorem typed80:(@Vars.typed Go.Proofs.SAN.vars).contains 80=false:=by kernel_rfl
@[go_sem] theorem typed95:(@Vars.typed Go.Proofs.SAN.vars).contains 95=false:=by kernel_rfl
@[go_sem] theorem typed29:(@Vars.typed Go.Proofs.SAN.vars).contains 29=false:=by kernel_rfl
@[go_sem] theorem typed203:(@Vars.typed Go.Proofs.SAN.vars).contains 203=false:=by kernel_rfl
@[go_sem] theorem typed204:(@Vars.typed Go.Proofs.SAN.vars).contains 204=false:=by kernel_rfl
@[go_sem] theorem typed232:(@Vars.typed Go.Proofs.SAN.vars).contains 232=false:=by kernel_rfl
@[go_sem] theorem arrOf25:arrOf Tryz.prog 95=some (5,3,1,false):=by kernel_rfl
@[go_sem] theorem arrOf167:arrOf Tryz.prog 204=some (7,3,1,false):=by kernel_rfl
@[go_sem] theorem mapTys232:Z7 Tryz.prog 232=some (3,3):=by kernel_rfl
@[go_sem] theorem eltOf95:ZQ Tryz.prog 95=none:=by kernel_rfl
theorem mixed:Tryz.prog.follows .mixedOrders=true:=by kernel_rfl
end Go.AM
