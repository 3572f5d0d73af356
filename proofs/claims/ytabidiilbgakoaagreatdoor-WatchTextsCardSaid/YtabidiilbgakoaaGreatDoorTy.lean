/- Closed J5 on the types of this seat's program. Conditions: as each theorem says. -/
import Derived.Test.YtabidiilbgakoaaGreatDoorSa
namespace Go.AM
open Go.Proofs
@[go_sem] theorem lay3:lay Tryz.prog 3=some (1,false):=by kernel_rfl
@[go_sem] theorem szOf3:zo Tryz.prog 3=some 1:=by kernel_rfl
@[go_sem] theorem byOf3:ZC Tryz.prog 3=some 8:=by kernel_rfl
@[go_sem] theorem zerOf3:zd Tryz.prog 3=some (iv .i64 0):=by kernel_rfl
@[go_sem] theorem lay4:lay Tryz.prog 4=some (1,false):=by kernel_rfl
@[go_sem] theorem szOf4:zo Tryz.prog 4=some 1:=by kernel_rfl
@[go_sem] theorem byOf4:ZC Tryz.prog 4=some 1:=by kernel_rfl
@[go_sem] theorem zerOf4:zd Tryz.prog 4=some (bv false):=by kernel_rfl
@[go_sem] theorem kdOf4:ZM Tryz.prog 4=.bool:=by kernel_rfl
@[go_sem] theorem lay52:lay Tryz.prog 52=some (1,false):=by kernel_rfl
@[go_sem] theorem szOf52:zo Tryz.prog 52=some 1:=by kernel_rfl
@[go_sem] theorem byOf52:ZC Tryz.prog 52=some 24:=by kernel_rfl
@[go_sem] theorem zerOf52:zd Tryz.prog 52=some (.fslc true true 0 []):=by kernel_rfl
@[go_sem] theorem eltOf52:ZS Tryz.prog 52=some 54:=by kernel_rfl
@[go_sem] theorem kdOf52:ZM Tryz.prog 52=.slice 54:=by kernel_rfl
@[go_sem] theorem lenK52:qG Tryz.prog 52=.slice:=by kernel_rfl
@[go_sem] theorem lay54:lay Tryz.prog 54=some (5,true):=by kernel_rfl
@[go_sem] theorem szOf54:zo Tryz.prog 54=some 5:=by kernel_rfl
@[go_sem] theorem byOf54:ZC Tryz.prog 54=some 56:=by kernel_rfl
@[go_sem] theorem zerOf54:zd Tryz.prog 54=some (.agg [iv .i64 0,iv .i64 0,iv .i64 0,iv .i64 0,.fslc true true 0 []]):=by kernel_rfl
@[go_sem] theorem fldOf54_0:zt Tryz.prog 54 0=some (0,1):=by kernel_rfl
@[go_sem] theorem fldOf54_1:zt Tryz.prog 54 1=some (1,1):=by kernel_rfl
@[go_sem] theorem fldOf54_2:zt Tryz.prog 54 2=some (2,1):=by kernel_rfl
@[go_sem] theorem fldOf54_3:zt Tryz.prog 54 3=some (3,1):=by kernel_rfl
@[go_sem] theorem fldOf54_4:zt Tryz.prog 54 4=some (4,1):=by kernel_rfl
@[go_sem] theorem sizesOk54:ZO Tryz.prog 54=true:=by kernel_rfl
@[go_sem] theorem lay98:lay Tryz.prog 98=some (5,true):=by kernel_rfl
@[go_sem] theorem szOf98:zo Tryz.prog 98=some 5:=by kernel_rfl
@[go_sem] theorem byOf98:ZC Tryz.prog 98=some 40:=by kernel_rfl
@[go_sem] theorem zerOf98:zd Tryz.prog 98=some (.agg [iv .i64 0,iv .i64 0,iv .i64 0,iv .i64 0,iv .i64 0]):=by kernel_rfl
@[go_sem] theorem lay32:lay Tryz.prog 32=some (1,false):=by kernel_rfl
@[go_sem] theorem szOf32:zo Tryz.prog 32=some 1:=by kernel_rfl
@[go_sem] theorem byOf32:ZC Tryz.prog 32=some 8:=by kernel_rfl
@[go_sem] theorem zerOf32:zd Tryz.prog 32=some (iv .i64 0):=by kernel_rfl
@[go_sem] theorem lay203:lay Tryz.prog 203=some (1,false):=by kernel_rfl
@[go_sem] theorem szOf203:zo Tryz.prog 203=some 1:=by kernel_rfl
@[go_sem] theorem byOf203:ZC Tryz.prog 203=some 8:=by kernel_rfl
@[go_sem] theorem zerOf203:zd Tryz.prog 203=some (.c (.pointer none)):=by kernel_rfl
@[go_sem] theorem kdOf203:ZM Tryz.prog 203=.ptr 3:=by kernel_rfl
@[go_sem] theorem lay226:lay Tryz.prog 226=some (7,true):=by kernel_rfl
@[go_sem] theorem szOf226:zo Tryz.prog 226=some 7:=by kernel_rfl
@[go_sem] theorem byOf226:ZC Tryz.prog 226=some 56:=by kernel_rfl
@[go_sem] theorem zerOf226:zd Tryz.prog 226=some (.agg [iv .i64 0,iv .i64 0,iv .i64 0,iv .i64 0,iv .i64 0,iv .i64 0,iv .i64 0]):=by kernel_rfl
@[go_sem] theorem lay238:lay Tryz.prog 238=some (1,false):=by kernel_rfl
@[go_sem] theorem szOf238:zo Tryz.prog 238=some 1:=by kernel_rfl
@[go_sem] theorem byOf238:ZC Tryz.prog 238=some 8:=by kernel_rfl
@[go_sem] theorem zerOf238:zd Tryz.prog 238=some (.c (.map none)):=by kernel_rfl
@[go_sem] theorem kdOf238:ZM Tryz.prog 238=.map:=by kernel_rfl
@[go_sem] theorem lenK238:qG Tryz.prog 238=.map:=by kernel_rfl
@[go_sem] theorem typed3:(@Vars.typed Go.Proofs.SAN.vars).contains 3=false:=by kernel_rfl
@[go_sem] theorem typed4:(@Vars.typed Go.Proofs.SAN.vars).contains 4=false:=by kernel_rfl
@[go_sem] theorem typed52:(@Vars.typed Go.Proofs.SAN.vars).contains 52=false:=by kernel_rfl
@[go_sem] theorem typed54:(@Vars.typed Go.Proofs.SAN.vars).contains 54=false:=by kernel_rfl
@[go_sem] theorem typed98:(@Vars.typed Go.Proofs.SAN.vars).contains 98=false:=by kernel_rfl
@[go_sem] theorem typed32:(@Vars.typed Go.Proofs.SAN.vars).contains 32=false:=by kernel_rfl
@[go_sem] theorem typed203:(@Vars.typed Go.Proofs.SAN.vars).contains 203=false:=by kernel_rfl
@[go_sem] theorem typed226:(@Vars.typed Go.Proofs.SAN.vars).contains 226=false:=by kernel_rfl
@[go_sem] theorem typed238:(@Vars.typed Go.Proofs.SAN.vars).contains 238=false:=by kernel_rfl
@[go_sem] theorem arrOf25:arrOf Tryz.prog 98=some (5,3,1,false):=by kernel_rfl
@[go_sem] theorem arrOf167:arrOf Tryz.prog 226=some (7,3,1,false):=by kernel_rfl
@[go_sem] theorem mapTys238:jm Tryz.prog 238=some (3,3):=by kernel_rfl
@[go_sem] theorem eltOf98:ZS Tryz.prog 98=none:=by kernel_rfl
theorem mixed:Tryz.prog.follows .mixedOrders=true:=by kernel_rfl
end Go.AM
