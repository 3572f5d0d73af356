/- Closed J5 on more types. Conditions: as each theorem says. -/
import Derived.Test.YtabidiilbgakoaaGreatDoorCa
namespace Go.AM
open Go.Proofs
@[go_sem] theorem lay70:lay Tryz.prog 70=some (1,false):=by kernel_rfl
@[go_sem] theorem szOf70:zo Tryz.prog 70=some 1:=by kernel_rfl
@[go_sem] theorem byOf70:ZC Tryz.prog 70=some 24:=by kernel_rfl
@[go_sem] theorem zerOf70:zd Tryz.prog 70=some (.fslc true true 0 []):=by kernel_rfl
@[go_sem] theorem eltOf70:ZS Tryz.prog 70=some 3:=by kernel_rfl
@[go_sem] theorem kdOf70:ZM Tryz.prog 70=.slice 3:=by kernel_rfl
@[go_sem] theorem lenK70:qG Tryz.prog 70=.slice:=by kernel_rfl
@[go_sem] theorem lay171:lay Tryz.prog 171=some (1,false):=by kernel_rfl
@[go_sem] theorem szOf171:zo Tryz.prog 171=some 1:=by kernel_rfl
@[go_sem] theorem byOf171:ZC Tryz.prog 171=some 8:=by kernel_rfl
@[go_sem] theorem zerOf171:zd Tryz.prog 171=some (.c .nilFunc):=by kernel_rfl
@[go_sem] theorem kdOf171:ZM Tryz.prog 171=.fn:=by kernel_rfl
@[go_sem] theorem lay170:lay Tryz.prog 170=some (1,false):=by kernel_rfl
@[go_sem] theorem szOf170:zo Tryz.prog 170=some 1:=by kernel_rfl
@[go_sem] theorem byOf170:ZC Tryz.prog 170=some 8:=by kernel_rfl
@[go_sem] theorem zerOf170:zd Tryz.prog 170=some (.c .nilFunc):=by kernel_rfl
@[go_sem] theorem kdOf170:ZM Tryz.prog 170=.fn:=by kernel_rfl
@[go_sem] theorem lay227:lay Tryz.prog 227=some (5,true):=by kernel_rfl
@[go_sem] theorem szOf227:zo Tryz.prog 227=some 5:=by kernel_rfl
@[go_sem] theorem byOf227:ZC Tryz.prog 227=some 120:=by kernel_rfl
@[go_sem] theorem zerOf227:zd Tryz.prog 227=some (.agg [.fslc true true 0 [],.fslc true true 0 [],.fslc true true 0 [],.fslc true true 0 [],.fslc true true 0 []]):=by kernel_rfl
@[go_sem] theorem lay255:lay Tryz.prog 255=some (1,false):=by kernel_rfl
@[go_sem] theorem szOf255:zo Tryz.prog 255=some 1:=by kernel_rfl
@[go_sem] theorem byOf255:ZC Tryz.prog 255=some 8:=by kernel_rfl
@[go_sem] theorem zerOf255:zd Tryz.prog 255=some (.c (.pointer none)):=by kernel_rfl
@[go_sem] theorem kdOf255:ZM Tryz.prog 255=.ptr 227:=by kernel_rfl
@[go_sem] theorem lay175:lay Tryz.prog 175=some (1,false):=by kernel_rfl
@[go_sem] theorem szOf175:zo Tryz.prog 175=some 1:=by kernel_rfl
@[go_sem] theorem byOf175:ZC Tryz.prog 175=some 8:=by kernel_rfl
@[go_sem] theorem zerOf175:zd Tryz.prog 175=some (.c .nilFunc):=by kernel_rfl
@[go_sem] theorem kdOf175:ZM Tryz.prog 175=.fn:=by kernel_rfl
@[go_sem] theorem typed70:(@Vars.typed Go.Proofs.SAN.vars).contains 70=false:=by kernel_rfl
@[go_sem] theorem nt70:¬(70 ∈ (@Vars.typed Go.Proofs.SAN.vars)):=by decide
@[go_sem] theorem typed171:(@Vars.typed Go.Proofs.SAN.vars).contains 171=false:=by kernel_rfl
@[go_sem] theorem nt171:¬(171 ∈ (@Vars.typed Go.Proofs.SAN.vars)):=by decide
@[go_sem] theorem typed170:(@Vars.typed Go.Proofs.SAN.vars).contains 170=false:=by kernel_rfl
@[go_sem] theorem nt170:¬(170 ∈ (@Vars.typed Go.Proofs.SAN.vars)):=by decide
@[go_sem] theorem typed227:(@Vars.typed Go.Proofs.SAN.vars).contains 227=false:=by kernel_rfl
@[go_sem] theorem nt227:¬(227 ∈ (@Vars.typed Go.Proofs.SAN.vars)):=by decide
@[go_sem] theorem typed255:(@Vars.typed Go.Proofs.SAN.vars).contains 255=false:=by kernel_rfl
@[go_sem] theorem nt255:¬(255 ∈ (@Vars.typed Go.Proofs.SAN.vars)):=by decide
@[go_sem] theorem typed175:(@Vars.typed Go.Proofs.SAN.vars).contains 175=false:=by kernel_rfl
@[go_sem] theorem nt175:¬(175 ∈ (@Vars.typed Go.Proofs.SAN.vars)):=by decide
@[go_sem] theorem nt98:¬(98 ∈ (@Vars.typed Go.Proofs.SAN.vars)):=by decide
@[go_sem] theorem arrOf99:arrOf Tryz.prog 227=some (5,70,1,false):=by kernel_rfl
@[go_sem] theorem so98:ZO Tryz.prog 98=false:=by kernel_rfl
@[go_sem] theorem bA98:qR Tryz.prog 98 []=some (.agg [iv .i64 0,iv .i64 0,iv .i64 0,iv .i64 0,iv .i64 0]):=by kernel_rfl
@[go_sem] theorem eltOf227:ZS Tryz.prog 227=none:=by kernel_rfl
end Go.AM
namespace Go.AM
open Go.Proofs
@[go_sem] theorem lay5:lay Tryz.prog 5=some (1,false):=by kernel_rfl
@[go_sem] theorem szOf5:zo Tryz.prog 5=some 1:=by kernel_rfl
@[go_sem] theorem byOf5:ZC Tryz.prog 5=some 1:=by kernel_rfl
@[go_sem] theorem zerOf5:zd Tryz.prog 5=some (iv .u8 0):=by kernel_rfl
@[go_sem] theorem lay9:lay Tryz.prog 9=some (1,false):=by kernel_rfl
@[go_sem] theorem szOf9:zo Tryz.prog 9=some 1:=by kernel_rfl
@[go_sem] theorem byOf9:ZC Tryz.prog 9=some 16:=by kernel_rfl
@[go_sem] theorem zerOf9:zd Tryz.prog 9=some (sv ByteArray.empty):=by kernel_rfl
@[go_sem] theorem kdOf9:ZM Tryz.prog 9=.string:=by kernel_rfl
@[go_sem] theorem lenK9:qG Tryz.prog 9=.string:=by kernel_rfl
@[go_sem] theorem lay24:lay Tryz.prog 24=some (1,false):=by kernel_rfl
@[go_sem] theorem szOf24:zo Tryz.prog 24=some 1:=by kernel_rfl
@[go_sem] theorem byOf24:ZC Tryz.prog 24=some 24:=by kernel_rfl
@[go_sem] theorem zerOf24:zd Tryz.prog 24=some (.fslc true true 0 []):=by kernel_rfl
@[go_sem] theorem eltOf24:ZS Tryz.prog 24=some 74:=by kernel_rfl
@[go_sem] theorem kdOf24:ZM Tryz.prog 24=.slice 74:=by kernel_rfl
@[go_sem] theorem lenK24:qG Tryz.prog 24=.slice:=by kernel_rfl
@[go_sem] theorem lay23:lay Tryz.prog 23=some (1,false):=by kernel_rfl
@[go_sem] theorem szOf23:zo Tryz.prog 23=some 1:=by kernel_rfl
@[go_sem] theorem byOf23:ZC Tryz.prog 23=some 24:=by kernel_rfl
@[go_sem] theorem zerOf23:zd Tryz.prog 23=some (.fslc true true 0 []):=by kernel_rfl
@[go_sem] theorem eltOf23:ZS Tryz.prog 23=some 72:=by kernel_rfl
@[go_sem] theorem kdOf23:ZM Tryz.prog 23=.slice 72:=by kernel_rfl
@[go_sem] theorem lenK23:qG Tryz.prog 23=.slice:=by kernel_rfl
@[go_sem] theorem lay26:lay Tryz.prog 26=some (2,true):=by kernel_rfl
@[go_sem] theorem szOf26:zo Tryz.prog 26=some 2:=by kernel_rfl
@[go_sem] theorem byOf26:ZC Tryz.prog 26=some 48:=by kernel_rfl
@[go_sem] theorem zerOf26:zd Tryz.prog 26=some (.agg [.fslc true true 0 [],.fslc true true 0 []]):=by kernel_rfl
@[go_sem] theorem fldOf26_0:zt Tryz.prog 26 0=some (0,1):=by kernel_rfl
@[go_sem] theorem fldOf26_1:zt Tryz.prog 26 1=some (1,1):=by kernel_rfl
@[go_sem] theorem sizesOk26:ZO Tryz.prog 26=true:=by kernel_rfl
@[go_sem] theorem lay74:lay Tryz.prog 74=some (7,true):=by kernel_rfl
@[go_sem] theorem szOf74:zo Tryz.prog 74=some 7:=by kernel_rfl
@[go_sem] theorem byOf74:ZC Tryz.prog 74=some 80:=by kernel_rfl
@[go_sem] theorem zerOf74:zd Tryz.prog 74=some (.agg [sv ByteArray.empty,iv .i64 0,iv .i64 0,iv .i64 0,iv .i64 0,iv .i64 0,.fslc true true 0 []]):=by kernel_rfl
@[go_sem] theorem fldOf74_0:zt Tryz.prog 74 0=some (0,1):=by kernel_rfl
@[go_sem] theorem fldOf74_1:zt Tryz.prog 74 1=some (1,1):=by kernel_rfl
@[go_sem] theorem fldOf74_2:zt Tryz.prog 74 2=some (2,5):=by kernel_rfl
@[go_sem] theorem sizesOk74:ZO Tryz.prog 74=true:=by kernel_rfl
@[go_sem] theorem lay72:lay Tryz.prog 72=some (8,true):=by kernel_rfl
@[go_sem] theorem szOf72:zo Tryz.prog 72=some 8:=by kernel_rfl
@[go_sem] theorem byOf72:ZC Tryz.prog 72=some 104:=by kernel_rfl
@[go_sem] theorem zerOf72:zd Tryz.prog 72=some (.agg [iv .i64 0,sv ByteArray.empty,sv ByteArray.empty,sv ByteArray.empty,iv .i64 0,iv .i64 0,iv .i64 0,.fslc true true 0 []]):=by kernel_rfl
@[go_sem] theorem fldOf72_0:zt Tryz.prog 72 0=some (0,1):=by kernel_rfl
@[go_sem] theorem fldOf72_1:zt Tryz.prog 72 1=some (1,1):=by kernel_rfl
@[go_sem] theorem fldOf72_2:zt Tryz.prog 72 2=some (2,1):=by kernel_rfl
@[go_sem] theorem fldOf72_3:zt Tryz.prog 72 3=some (3,1):=by kernel_rfl
@[go_sem] theorem fldOf72_4:zt Tryz.prog 72 4=some (4,1):=by kernel_rfl
@[go_sem] theorem fldOf72_5:zt Tryz.prog 72 5=some (5,1):=by kernel_rfl
@[go_sem] theorem fldOf72_6:zt Tryz.prog 72 6=some (6,1):=by kernel_rfl
@[go_sem] theorem fldOf72_7:zt Tryz.prog 72 7=some (7,1):=by kernel_rfl
@[go_sem] theorem sizesOk72:ZO Tryz.prog 72=true:=by kernel_rfl
@[go_sem] theorem lay194:lay Tryz.prog 194=some (1,false):=by kernel_rfl
@[go_sem] theorem szOf194:zo Tryz.prog 194=some 1:=by kernel_rfl
@[go_sem] theorem byOf194:ZC Tryz.prog 194=some 8:=by kernel_rfl
@[go_sem] theorem zerOf194:zd Tryz.prog 194=some (.c .nilFunc):=by kernel_rfl
@[go_sem] theorem kdOf194:ZM Tryz.prog 194=.fn:=by kernel_rfl
@[go_sem] theorem typed5:(@Vars.typed Go.Proofs.SAN.vars).contains 5=false:=by kernel_rfl
@[go_sem] theorem nt5:¬(5 ∈ (@Vars.typed Go.Proofs.SAN.vars)):=by decide
@[go_sem] theorem typed9:(@Vars.typed Go.Proofs.SAN.vars).contains 9=false:=by kernel_rfl
@[go_sem] theorem nt9:¬(9 ∈ (@Vars.typed Go.Proofs.SAN.vars)):=by decide
@[go_sem] theorem typed194:(@Vars.typed Go.Proofs.SAN.vars).contains 194=false:=by kernel_rfl
@[go_sem] theorem nt194:¬(194 ∈ (@Vars.typed Go.Proofs.SAN.vars)):=by decide
@[go_sem] theorem typed26:(@Vars.typed Go.Proofs.SAN.vars).contains 26=false:=by kernel_rfl
@[go_sem] theorem nt26:¬(26 ∈ (@Vars.typed Go.Proofs.SAN.vars)):=by decide
@[go_sem] theorem typed24:(@Vars.typed Go.Proofs.SAN.vars).contains 24=false:=by kernel_rfl
@[go_sem] theorem nt24:¬(24 ∈ (@Vars.typed Go.Proofs.SAN.vars)):=by decide
@[go_sem] theorem typed23:(@Vars.typed Go.Proofs.SAN.vars).contains 23=false:=by kernel_rfl
@[go_sem] theorem nt23:¬(23 ∈ (@Vars.typed Go.Proofs.SAN.vars)):=by decide
@[go_sem] theorem typed74:(@Vars.typed Go.Proofs.SAN.vars).contains 74=false:=by kernel_rfl
@[go_sem] theorem nt74:¬(74 ∈ (@Vars.typed Go.Proofs.SAN.vars)):=by decide
@[go_sem] theorem typed72:(@Vars.typed Go.Proofs.SAN.vars).contains 72=false:=by kernel_rfl
@[go_sem] theorem nt72:¬(72 ∈ (@Vars.typed Go.Proofs.SAN.vars)):=by decide
@[go_sem] theorem typed101:(@Vars.typed Go.Proofs.SAN.vars).contains 101=false:=by kernel_rfl
@[go_sem] theorem nt101:¬(101 ∈ (@Vars.typed Go.Proofs.SAN.vars)):=by decide
end Go.AM
namespace Go.AM
open Go.Proofs
@[go_sem] theorem lay80:lay Tryz.prog 80=some (1,false):=by kernel_rfl
@[go_sem] theorem szOf80:zo Tryz.prog 80=some 1:=by kernel_rfl
@[go_sem] theorem byOf80:ZC Tryz.prog 80=some 24:=by kernel_rfl
@[go_sem] theorem zerOf80:zd Tryz.prog 80=some (.fslc true true 0 []):=by kernel_rfl
@[go_sem] theorem eltOf80:ZS Tryz.prog 80=some 9:=by kernel_rfl
@[go_sem] theorem kdOf80:ZM Tryz.prog 80=.slice 9:=by kernel_rfl
@[go_sem] theorem lenK80:qG Tryz.prog 80=.slice:=by kernel_rfl
@[go_sem] theorem typed80:(@Vars.typed Go.Proofs.SAN.vars).contains 80=false:=by kernel_rfl
end Go.AM
namespace Go.AM
open Go.Proofs
@[go_sem] theorem lay76:lay Tryz.prog 76=some (1,false):=by kernel_rfl
@[go_sem] theorem szOf76:zo Tryz.prog 76=some 1:=by kernel_rfl
@[go_sem] theorem byOf76:ZC Tryz.prog 76=some 24:=by kernel_rfl
@[go_sem] theorem zerOf76:zd Tryz.prog 76=some (.fslc true true 0 []):=by kernel_rfl
@[go_sem] theorem eltOf76:ZS Tryz.prog 76=some 90:=by kernel_rfl
@[go_sem] theorem kdOf76:ZM Tryz.prog 76=.slice 90:=by kernel_rfl
@[go_sem] theorem lenK76:qG Tryz.prog 76=.slice:=by kernel_rfl
@[go_sem] theorem typed76:(@Vars.typed Go.Proofs.SAN.vars).contains 76=false:=by kernel_rfl
@[go_sem] theorem nt76:¬(76 ∈ (@Vars.typed Go.Proofs.SAN.vars)):=by decide
@[go_sem] theorem lay90:lay Tryz.prog 90=some (3,true):=by kernel_rfl
@[go_sem] theorem szOf90:zo Tryz.prog 90=some 3:=by kernel_rfl
@[go_sem] theorem byOf90:ZC Tryz.prog 90=some 40:=by kernel_rfl
@[go_sem] theorem zerOf90:zd Tryz.prog 90=some (.agg [iv .i64 0,sv ByteArray.empty,sv ByteArray.empty]):=by kernel_rfl
@[go_sem] theorem fldOf90_0:zt Tryz.prog 90 0=some (0,1):=by kernel_rfl
@[go_sem] theorem fldOf90_1:zt Tryz.prog 90 1=some (1,1):=by kernel_rfl
@[go_sem] theorem fldOf90_2:zt Tryz.prog 90 2=some (2,1):=by kernel_rfl
@[go_sem] theorem sizesOk90:ZO Tryz.prog 90=true:=by kernel_rfl
@[go_sem] theorem typed90:(@Vars.typed Go.Proofs.SAN.vars).contains 90=false:=by kernel_rfl
@[go_sem] theorem nt90:¬(90 ∈ (@Vars.typed Go.Proofs.SAN.vars)):=by decide
@[go_sem] theorem lay158:lay Tryz.prog 158=some (2,true):=by kernel_rfl
@[go_sem] theorem szOf158:zo Tryz.prog 158=some 2:=by kernel_rfl
@[go_sem] theorem byOf158:ZC Tryz.prog 158=some 32:=by kernel_rfl
@[go_sem] theorem zerOf158:zd Tryz.prog 158=some (.agg [sv ByteArray.empty,sv ByteArray.empty]):=by kernel_rfl
@[go_sem] theorem fldOf158_0:zt Tryz.prog 158 0=some (0,1):=by kernel_rfl
@[go_sem] theorem fldOf158_1:zt Tryz.prog 158 1=some (1,1):=by kernel_rfl
@[go_sem] theorem sizesOk158:ZO Tryz.prog 158=true:=by kernel_rfl
@[go_sem] theorem typed158:(@Vars.typed Go.Proofs.SAN.vars).contains 158=false:=by kernel_rfl
@[go_sem] theorem nt158:¬(158 ∈ (@Vars.typed Go.Proofs.SAN.vars)):=by decide
@[go_sem] theorem lay211:lay Tryz.prog 211=some (1,false):=by kernel_rfl
@[go_sem] theorem szOf211:zo Tryz.prog 211=some 1:=by kernel_rfl
@[go_sem] theorem mapTys211:jm Tryz.prog 211=some (158,4):=by kernel_rfl
@[go_sem] theorem kdOf211:ZM Tryz.prog 211=.map:=by kernel_rfl
@[go_sem] theorem typed211:(@Vars.typed Go.Proofs.SAN.vars).contains 211=false:=by kernel_rfl
@[go_sem] theorem nt211:¬(211 ∈ (@Vars.typed Go.Proofs.SAN.vars)):=by decide
@[go_sem] theorem lay213:lay Tryz.prog 213=some (1,false):=by kernel_rfl
@[go_sem] theorem szOf213:zo Tryz.prog 213=some 1:=by kernel_rfl
@[go_sem] theorem mapTys213:jm Tryz.prog 213=some (3,212):=by kernel_rfl
@[go_sem] theorem kdOf213:ZM Tryz.prog 213=.map:=by kernel_rfl
@[go_sem] theorem typed213:(@Vars.typed Go.Proofs.SAN.vars).contains 213=false:=by kernel_rfl
@[go_sem] theorem nt213:¬(213 ∈ (@Vars.typed Go.Proofs.SAN.vars)):=by decide
end Go.AM
namespace Go.AM
open Go.Proofs
end Go.AM
namespace Go.AM
open Go.Proofs
@[go_sem] theorem lay150:lay Tryz.prog 150=some (1,false):=by kernel_rfl
@[go_sem] theorem szOf150:zo Tryz.prog 150=some 1:=by kernel_rfl
@[go_sem] theorem mapTys150:jm Tryz.prog 150=some (9,3):=by kernel_rfl
@[go_sem] theorem kdOf150:ZM Tryz.prog 150=.map:=by kernel_rfl
@[go_sem] theorem zerOf150:zd Tryz.prog 150=some (.c (.map none)):=by kernel_rfl
@[go_sem] theorem typed150:(@Vars.typed Go.Proofs.SAN.vars).contains 150=false:=by kernel_rfl
@[go_sem] theorem nt150:¬(150 ∈ (@Vars.typed Go.Proofs.SAN.vars)):=by decide
@[go_sem] theorem lay151:lay Tryz.prog 151=some (1,false):=by kernel_rfl
@[go_sem] theorem szOf151:zo Tryz.prog 151=some 1:=by kernel_rfl
@[go_sem] theorem mapTys151:jm Tryz.prog 151=some (9,4):=by kernel_rfl
@[go_sem] theorem kdOf151:ZM Tryz.prog 151=.map:=by kernel_rfl
@[go_sem] theorem zerOf151:zd Tryz.prog 151=some (.c (.map none)):=by kernel_rfl
@[go_sem] theorem typed151:(@Vars.typed Go.Proofs.SAN.vars).contains 151=false:=by kernel_rfl
@[go_sem] theorem nt151:¬(151 ∈ (@Vars.typed Go.Proofs.SAN.vars)):=by decide
@[go_sem] theorem lay156:lay Tryz.prog 156=some (1,false):=by kernel_rfl
@[go_sem] theorem szOf156:zo Tryz.prog 156=some 1:=by kernel_rfl
@[go_sem] theorem mapTys156:jm Tryz.prog 156=some (158,70):=by kernel_rfl
@[go_sem] theorem kdOf156:ZM Tryz.prog 156=.map:=by kernel_rfl
@[go_sem] theorem zerOf156:zd Tryz.prog 156=some (.c (.map none)):=by kernel_rfl
@[go_sem] theorem typed156:(@Vars.typed Go.Proofs.SAN.vars).contains 156=false:=by kernel_rfl
@[go_sem] theorem nt156:¬(156 ∈ (@Vars.typed Go.Proofs.SAN.vars)):=by decide
@[go_sem] theorem lay83:lay Tryz.prog 83=some (1,false):=by kernel_rfl
@[go_sem] theorem szOf83:zo Tryz.prog 83=some 1:=by kernel_rfl
@[go_sem] theorem byOf83:ZC Tryz.prog 83=some 24:=by kernel_rfl
@[go_sem] theorem zerOf83:zd Tryz.prog 83=some (.fslc true true 0 []):=by kernel_rfl
@[go_sem] theorem eltOf83:ZS Tryz.prog 83=some 94:=by kernel_rfl
@[go_sem] theorem kdOf83:ZM Tryz.prog 83=.slice 94:=by kernel_rfl
@[go_sem] theorem lenK83:qG Tryz.prog 83=.slice:=by kernel_rfl
@[go_sem] theorem typed83:(@Vars.typed Go.Proofs.SAN.vars).contains 83=false:=by kernel_rfl
@[go_sem] theorem nt83:¬(83 ∈ (@Vars.typed Go.Proofs.SAN.vars)):=by decide
@[go_sem] theorem lay159:lay Tryz.prog 159=some (1,false):=by kernel_rfl
@[go_sem] theorem szOf159:zo Tryz.prog 159=some 1:=by kernel_rfl
@[go_sem] theorem byOf159:ZC Tryz.prog 159=some 24:=by kernel_rfl
@[go_sem] theorem zerOf159:zd Tryz.prog 159=some (.fslc true true 0 []):=by kernel_rfl
@[go_sem] theorem eltOf159:ZS Tryz.prog 159=some 158:=by kernel_rfl
@[go_sem] theorem kdOf159:ZM Tryz.prog 159=.slice 158:=by kernel_rfl
@[go_sem] theorem lenK159:qG Tryz.prog 159=.slice:=by kernel_rfl
@[go_sem] theorem typed159:(@Vars.typed Go.Proofs.SAN.vars).contains 159=false:=by kernel_rfl
@[go_sem] theorem nt159:¬(159 ∈ (@Vars.typed Go.Proofs.SAN.vars)):=by decide
@[go_sem] theorem lay94:lay Tryz.prog 94=some (2,true):=by kernel_rfl
@[go_sem] theorem szOf94:zo Tryz.prog 94=some 2:=by kernel_rfl
@[go_sem] theorem byOf94:ZC Tryz.prog 94=some 24:=by kernel_rfl
@[go_sem] theorem zerOf94:zd Tryz.prog 94=some (.agg [sv ByteArray.empty,iv .i64 0]):=by kernel_rfl
@[go_sem] theorem fldOf94_0:zt Tryz.prog 94 0=some (0,1):=by kernel_rfl
@[go_sem] theorem fldOf94_1:zt Tryz.prog 94 1=some (1,1):=by kernel_rfl
@[go_sem] theorem sizesOk94:ZO Tryz.prog 94=true:=by kernel_rfl
@[go_sem] theorem typed94:(@Vars.typed Go.Proofs.SAN.vars).contains 94=false:=by kernel_rfl
@[go_sem] theorem nt94:¬(94 ∈ (@Vars.typed Go.Proofs.SAN.vars)):=by decide
end Go.AM
namespace Go.AM
open Go.Proofs
@[go_sem] theorem nt4:¬(4 ∈ (@Vars.typed Go.Proofs.SAN.vars)):=by decide
@[go_sem] theorem nt32:¬(32 ∈ (@Vars.typed Go.Proofs.SAN.vars)):=by decide
@[go_sem] theorem zerOfB4:zd Tryz.prog 4=some (bv false):=by kernel_rfl
end Go.AM
namespace Go.AM
open Go.Proofs
@[go_sem] theorem lay28:lay Tryz.prog 28=some (4,true):=by kernel_rfl
@[go_sem] theorem szOf28:zo Tryz.prog 28=some 4:=by kernel_rfl
@[go_sem] theorem byOf28:ZC Tryz.prog 28=some 64:=by kernel_rfl
@[go_sem] theorem zerOf28:zd Tryz.prog 28=some (.agg [iv .i64 0,iv .i64 0,.fslc true true 0 [],.fslc true true 0 []]):=by kernel_rfl
@[go_sem] theorem fldOf28_0:zt Tryz.prog 28 0=some (0,1):=by kernel_rfl
@[go_sem] theorem fldOf28_1:zt Tryz.prog 28 1=some (1,1):=by kernel_rfl
@[go_sem] theorem fldOf28_2:zt Tryz.prog 28 2=some (2,2):=by kernel_rfl
@[go_sem] theorem sizesOk28:ZO Tryz.prog 28=true:=by kernel_rfl
@[go_sem] theorem typed28:(@Vars.typed Go.Proofs.SAN.vars).contains 28=false:=by kernel_rfl
@[go_sem] theorem nt28:¬(28 ∈ (@Vars.typed Go.Proofs.SAN.vars)):=by decide
@[go_sem] theorem lay22:lay Tryz.prog 22=some (1,false):=by kernel_rfl
@[go_sem] theorem szOf22:zo Tryz.prog 22=some 1:=by kernel_rfl
@[go_sem] theorem byOf22:ZC Tryz.prog 22=some 24:=by kernel_rfl
@[go_sem] theorem zerOf22:zd Tryz.prog 22=some (.fslc true true 0 []):=by kernel_rfl
@[go_sem] theorem eltOf22:ZS Tryz.prog 22=some 28:=by kernel_rfl
@[go_sem] theorem kdOf22:ZM Tryz.prog 22=.slice 28:=by kernel_rfl
@[go_sem] theorem lenK22:qG Tryz.prog 22=.slice:=by kernel_rfl
@[go_sem] theorem typed22:(@Vars.typed Go.Proofs.SAN.vars).contains 22=false:=by kernel_rfl
@[go_sem] theorem nt22:¬(22 ∈ (@Vars.typed Go.Proofs.SAN.vars)):=by decide
@[go_sem] theorem lay38:lay Tryz.prog 38=some (2,true):=by kernel_rfl
@[go_sem] theorem szOf38:zo Tryz.prog 38=some 2:=by kernel_rfl
@[go_sem] theorem byOf38:ZC Tryz.prog 38=some 32:=by kernel_rfl
@[go_sem] theorem zerOf38:zd Tryz.prog 38=some (.agg [.fslc true true 0 [],iv .i64 0]):=by kernel_rfl
@[go_sem] theorem fldOf38_0:zt Tryz.prog 38 0=some (0,1):=by kernel_rfl
@[go_sem] theorem fldOf38_1:zt Tryz.prog 38 1=some (1,1):=by kernel_rfl
@[go_sem] theorem sizesOk38:ZO Tryz.prog 38=true:=by kernel_rfl
@[go_sem] theorem typed38:(@Vars.typed Go.Proofs.SAN.vars).contains 38=false:=by kernel_rfl
@[go_sem] theorem nt38:¬(38 ∈ (@Vars.typed Go.Proofs.SAN.vars)):=by decide
@[go_sem] theorem lay43:lay Tryz.prog 43=some (5,true):=by kernel_rfl
@[go_sem] theorem szOf43:zo Tryz.prog 43=some 5:=by kernel_rfl
@[go_sem] theorem byOf43:ZC Tryz.prog 43=some 72:=by kernel_rfl
@[go_sem] theorem zerOf43:zd Tryz.prog 43=some (.agg [iv .i64 0,iv .i64 0,.fslc true true 0 [],.fslc true true 0 [],iv .i64 0]):=by kernel_rfl
@[go_sem] theorem fldOf43_0:zt Tryz.prog 43 0=some (0,4):=by kernel_rfl
@[go_sem] theorem fldOf43_1:zt Tryz.prog 43 1=some (4,1):=by kernel_rfl
@[go_sem] theorem sizesOk43:ZO Tryz.prog 43=true:=by kernel_rfl
@[go_sem] theorem typed43:(@Vars.typed Go.Proofs.SAN.vars).contains 43=false:=by kernel_rfl
@[go_sem] theorem nt43:¬(43 ∈ (@Vars.typed Go.Proofs.SAN.vars)):=by decide
@[go_sem] theorem lay105:lay Tryz.prog 105=some (1,false):=by kernel_rfl
@[go_sem] theorem szOf105:zo Tryz.prog 105=some 1:=by kernel_rfl
@[go_sem] theorem byOf105:ZC Tryz.prog 105=some 8:=by kernel_rfl
@[go_sem] theorem zerOf105:zd Tryz.prog 105=some (.c .nilFunc):=by kernel_rfl
@[go_sem] theorem kdOf105:ZM Tryz.prog 105=.fn:=by kernel_rfl
@[go_sem] theorem typed105:(@Vars.typed Go.Proofs.SAN.vars).contains 105=false:=by kernel_rfl
@[go_sem] theorem nt105:¬(105 ∈ (@Vars.typed Go.Proofs.SAN.vars)):=by decide
@[go_sem] theorem lay109:lay Tryz.prog 109=some (1,false):=by kernel_rfl
@[go_sem] theorem szOf109:zo Tryz.prog 109=some 1:=by kernel_rfl
@[go_sem] theorem byOf109:ZC Tryz.prog 109=some 8:=by kernel_rfl
@[go_sem] theorem zerOf109:zd Tryz.prog 109=some (.c .nilFunc):=by kernel_rfl
@[go_sem] theorem kdOf109:ZM Tryz.prog 109=.fn:=by kernel_rfl
@[go_sem] theorem typed109:(@Vars.typed Go.Proofs.SAN.vars).contains 109=false:=by kernel_rfl
@[go_sem] theorem nt109:¬(109 ∈ (@Vars.typed Go.Proofs.SAN.vars)):=by decide
@[go_sem] theorem lay112:lay Tryz.prog 112=some (1,false):=by kernel_rfl
@[go_sem] theorem szOf112:zo Tryz.prog 112=some 1:=by kernel_rfl
@[go_sem] theorem byOf112:ZC Tryz.prog 112=some 8:=by kernel_rfl
@[go_sem] theorem zerOf112:zd Tryz.prog 112=some (.c (.pointer none)):=by kernel_rfl
@[go_sem] theorem kdOf112:ZM Tryz.prog 112=.ptr 182:=by kernel_rfl
@[go_sem] theorem typed112:(@Vars.typed Go.Proofs.SAN.vars).contains 112=false:=by kernel_rfl
@[go_sem] theorem nt112:¬(112 ∈ (@Vars.typed Go.Proofs.SAN.vars)):=by decide
@[go_sem] theorem lay182:lay Tryz.prog 182=some (2,true):=by kernel_rfl
@[go_sem] theorem szOf182:zo Tryz.prog 182=some 2:=by kernel_rfl
@[go_sem] theorem byOf182:ZC Tryz.prog 182=some 32:=by kernel_rfl
@[go_sem] theorem zerOf182:zd Tryz.prog 182=some (.agg [.fslc true true 0 [],iv .i64 0]):=by kernel_rfl
@[go_sem] theorem fldOf182_0:zt Tryz.prog 182 0=some (0,1):=by kernel_rfl
@[go_sem] theorem fldOf182_1:zt Tryz.prog 182 1=some (1,1):=by kernel_rfl
@[go_sem] theorem sizesOk182:ZO Tryz.prog 182=true:=by kernel_rfl
@[go_sem] theorem typed182:(@Vars.typed Go.Proofs.SAN.vars).contains 182=false:=by kernel_rfl
@[go_sem] theorem nt182:¬(182 ∈ (@Vars.typed Go.Proofs.SAN.vars)):=by decide
@[go_sem] theorem lay180:lay Tryz.prog 180=some (1,false):=by kernel_rfl
@[go_sem] theorem szOf180:zo Tryz.prog 180=some 1:=by kernel_rfl
@[go_sem] theorem byOf180:ZC Tryz.prog 180=some 24:=by kernel_rfl
@[go_sem] theorem zerOf180:zd Tryz.prog 180=some (.fslc true true 0 []):=by kernel_rfl
@[go_sem] theorem eltOf180:ZS Tryz.prog 180=some 187:=by kernel_rfl
@[go_sem] theorem kdOf180:ZM Tryz.prog 180=.slice 187:=by kernel_rfl
@[go_sem] theorem lenK180:qG Tryz.prog 180=.slice:=by kernel_rfl
@[go_sem] theorem typed180:(@Vars.typed Go.Proofs.SAN.vars).contains 180=false:=by kernel_rfl
@[go_sem] theorem nt180:¬(180 ∈ (@Vars.typed Go.Proofs.SAN.vars)):=by decide
@[go_sem] theorem lay187:lay Tryz.prog 187=some (3,true):=by kernel_rfl
@[go_sem] theorem szOf187:zo Tryz.prog 187=some 3:=by kernel_rfl
@[go_sem] theorem byOf187:ZC Tryz.prog 187=some 32:=by kernel_rfl
@[go_sem] theorem zerOf187:zd Tryz.prog 187=some (.agg [iv .i64 0,sv ByteArray.empty,iv .i64 0]):=by kernel_rfl
@[go_sem] theorem fldOf187_0:zt Tryz.prog 187 0=some (0,1):=by kernel_rfl
@[go_sem] theorem fldOf187_1:zt Tryz.prog 187 1=some (1,1):=by kernel_rfl
@[go_sem] theorem fldOf187_2:zt Tryz.prog 187 2=some (2,1):=by kernel_rfl
@[go_sem] theorem sizesOk187:ZO Tryz.prog 187=true:=by kernel_rfl
@[go_sem] theorem typed187:(@Vars.typed Go.Proofs.SAN.vars).contains 187=false:=by kernel_rfl
@[go_sem] theorem nt187:¬(187 ∈ (@Vars.typed Go.Proofs.SAN.vars)):=by decide
@[go_sem] theorem lay189:lay Tryz.prog 189=some (0,true):=by kernel_rfl
@[go_sem] theorem szOf189:zo Tryz.prog 189=some 0:=by kernel_rfl
@[go_sem] theorem byOf189:ZC Tryz.prog 189=some 0:=by kernel_rfl
@[go_sem] theorem zerOf189:zd Tryz.prog 189=some (.agg []):=by kernel_rfl
@[go_sem] theorem sizesOk189:ZO Tryz.prog 189=true:=by kernel_rfl
@[go_sem] theorem typed189:(@Vars.typed Go.Proofs.SAN.vars).contains 189=false:=by kernel_rfl
@[go_sem] theorem nt189:¬(189 ∈ (@Vars.typed Go.Proofs.SAN.vars)):=by decide
@[go_sem] theorem lay50:lay Tryz.prog 50=some (4,true):=by kernel_rfl
@[go_sem] theorem szOf50:zo Tryz.prog 50=some 4:=by kernel_rfl
@[go_sem] theorem byOf50:ZC Tryz.prog 50=some 64:=by kernel_rfl
@[go_sem] theorem zerOf50:zd Tryz.prog 50=some (.agg [.fslc true true 0 [],.fslc true true 0 [],iv .i64 0,iv .i64 0]):=by kernel_rfl
@[go_sem] theorem fldOf50_0:zt Tryz.prog 50 0=some (0,2):=by kernel_rfl
@[go_sem] theorem fldOf50_1:zt Tryz.prog 50 1=some (2,1):=by kernel_rfl
@[go_sem] theorem fldOf50_2:zt Tryz.prog 50 2=some (3,1):=by kernel_rfl
@[go_sem] theorem sizesOk50:ZO Tryz.prog 50=true:=by kernel_rfl
@[go_sem] theorem typed50:(@Vars.typed Go.Proofs.SAN.vars).contains 50=false:=by kernel_rfl
@[go_sem] theorem nt50:¬(50 ∈ (@Vars.typed Go.Proofs.SAN.vars)):=by decide
@[go_sem] theorem lay58:lay Tryz.prog 58=some (7,true):=by kernel_rfl
@[go_sem] theorem szOf58:zo Tryz.prog 58=some 7:=by kernel_rfl
@[go_sem] theorem byOf58:ZC Tryz.prog 58=some 72:=by kernel_rfl
@[go_sem] theorem zerOf58:zd Tryz.prog 58=some (.agg [iv .i64 0,iv .i64 0,iv .i64 0,iv .i64 0,.fslc true true 0 [],iv .i64 0,iv .i64 0]):=by kernel_rfl
@[go_sem] theorem fldOf58_0:zt Tryz.prog 58 0=some (0,5):=by kernel_rfl
@[go_sem] theorem fldOf58_1:zt Tryz.prog 58 1=some (5,1):=by kernel_rfl
@[go_sem] theorem fldOf58_2:zt Tryz.prog 58 2=some (6,1):=by kernel_rfl
@[go_sem] theorem sizesOk58:ZO Tryz.prog 58=true:=by kernel_rfl
@[go_sem] theorem typed58:(@Vars.typed Go.Proofs.SAN.vars).contains 58=false:=by kernel_rfl
@[go_sem] theorem nt58:¬(58 ∈ (@Vars.typed Go.Proofs.SAN.vars)):=by decide
@[go_sem] theorem lay115:lay Tryz.prog 115=some (1,false):=by kernel_rfl
@[go_sem] theorem szOf115:zo Tryz.prog 115=some 1:=by kernel_rfl
@[go_sem] theorem byOf115:ZC Tryz.prog 115=some 24:=by kernel_rfl
@[go_sem] theorem zerOf115:zd Tryz.prog 115=some (.fslc true true 0 []):=by kernel_rfl
@[go_sem] theorem eltOf115:ZS Tryz.prog 115=some 123:=by kernel_rfl
@[go_sem] theorem kdOf115:ZM Tryz.prog 115=.slice 123:=by kernel_rfl
@[go_sem] theorem lenK115:qG Tryz.prog 115=.slice:=by kernel_rfl
@[go_sem] theorem typed115:(@Vars.typed Go.Proofs.SAN.vars).contains 115=false:=by kernel_rfl
@[go_sem] theorem nt115:¬(115 ∈ (@Vars.typed Go.Proofs.SAN.vars)):=by decide
@[go_sem] theorem lay117:lay Tryz.prog 117=some (3,true):=by kernel_rfl
@[go_sem] theorem szOf117:zo Tryz.prog 117=some 3:=by kernel_rfl
@[go_sem] theorem byOf117:ZC Tryz.prog 117=some 40:=by kernel_rfl
@[go_sem] theorem zerOf117:zd Tryz.prog 117=some (.agg [.fslc true true 0 [],iv .i64 0,iv .i64 0]):=by kernel_rfl
@[go_sem] theorem fldOf117_0:zt Tryz.prog 117 0=some (0,1):=by kernel_rfl
@[go_sem] theorem fldOf117_1:zt Tryz.prog 117 1=some (1,1):=by kernel_rfl
@[go_sem] theorem fldOf117_2:zt Tryz.prog 117 2=some (2,1):=by kernel_rfl
@[go_sem] theorem sizesOk117:ZO Tryz.prog 117=true:=by kernel_rfl
@[go_sem] theorem typed117:(@Vars.typed Go.Proofs.SAN.vars).contains 117=false:=by kernel_rfl
@[go_sem] theorem nt117:¬(117 ∈ (@Vars.typed Go.Proofs.SAN.vars)):=by decide
@[go_sem] theorem lay121:lay Tryz.prog 121=some (3,true):=by kernel_rfl
@[go_sem] theorem szOf121:zo Tryz.prog 121=some 3:=by kernel_rfl
@[go_sem] theorem byOf121:ZC Tryz.prog 121=some 40:=by kernel_rfl
@[go_sem] theorem zerOf121:zd Tryz.prog 121=some (.agg [.fslc true true 0 [],iv .i64 0,iv .i64 0]):=by kernel_rfl
@[go_sem] theorem fldOf121_0:zt Tryz.prog 121 0=some (0,1):=by kernel_rfl
@[go_sem] theorem fldOf121_1:zt Tryz.prog 121 1=some (1,1):=by kernel_rfl
@[go_sem] theorem fldOf121_2:zt Tryz.prog 121 2=some (2,1):=by kernel_rfl
@[go_sem] theorem sizesOk121:ZO Tryz.prog 121=true:=by kernel_rfl
@[go_sem] theorem typed121:(@Vars.typed Go.Proofs.SAN.vars).contains 121=false:=by kernel_rfl
@[go_sem] theorem nt121:¬(121 ∈ (@Vars.typed Go.Proofs.SAN.vars)):=by decide
@[go_sem] theorem lay119:lay Tryz.prog 119=some (1,false):=by kernel_rfl
@[go_sem] theorem szOf119:zo Tryz.prog 119=some 1:=by kernel_rfl
@[go_sem] theorem byOf119:ZC Tryz.prog 119=some 8:=by kernel_rfl
@[go_sem] theorem zerOf119:zd Tryz.prog 119=some (.c (.pointer none)):=by kernel_rfl
@[go_sem] theorem kdOf119:ZM Tryz.prog 119=.ptr 121:=by kernel_rfl
@[go_sem] theorem typed119:(@Vars.typed Go.Proofs.SAN.vars).contains 119=false:=by kernel_rfl
@[go_sem] theorem nt119:¬(119 ∈ (@Vars.typed Go.Proofs.SAN.vars)):=by decide
@[go_sem] theorem lay123:lay Tryz.prog 123=some (4,true):=by kernel_rfl
@[go_sem] theorem szOf123:zo Tryz.prog 123=some 4:=by kernel_rfl
@[go_sem] theorem byOf123:ZC Tryz.prog 123=some 40:=by kernel_rfl
@[go_sem] theorem zerOf123:zd Tryz.prog 123=some (.agg [iv .i64 0,sv ByteArray.empty,iv .i64 0,iv .i64 0]):=by kernel_rfl
@[go_sem] theorem fldOf123_0:zt Tryz.prog 123 0=some (0,1):=by kernel_rfl
@[go_sem] theorem fldOf123_1:zt Tryz.prog 123 1=some (1,1):=by kernel_rfl
@[go_sem] theorem fldOf123_2:zt Tryz.prog 123 2=some (2,1):=by kernel_rfl
@[go_sem] theorem fldOf123_3:zt Tryz.prog 123 3=some (3,1):=by kernel_rfl
@[go_sem] theorem sizesOk123:ZO Tryz.prog 123=true:=by kernel_rfl
@[go_sem] theorem typed123:(@Vars.typed Go.Proofs.SAN.vars).contains 123=false:=by kernel_rfl
@[go_sem] theorem nt123:¬(123 ∈ (@Vars.typed Go.Proofs.SAN.vars)):=by decide
@[go_sem] theorem lay190:lay Tryz.prog 190=some (1,false):=by kernel_rfl
@[go_sem] theorem szOf190:zo Tryz.prog 190=some 1:=by kernel_rfl
@[go_sem] theorem byOf190:ZC Tryz.prog 190=some 8:=by kernel_rfl
@[go_sem] theorem zerOf190:zd Tryz.prog 190=some (.c .nilFunc):=by kernel_rfl
@[go_sem] theorem kdOf190:ZM Tryz.prog 190=.fn:=by kernel_rfl
@[go_sem] theorem typed190:(@Vars.typed Go.Proofs.SAN.vars).contains 190=false:=by kernel_rfl
@[go_sem] theorem nt190:¬(190 ∈ (@Vars.typed Go.Proofs.SAN.vars)):=by decide
@[go_sem] theorem lay191:lay Tryz.prog 191=some (1,false):=by kernel_rfl
@[go_sem] theorem szOf191:zo Tryz.prog 191=some 1:=by kernel_rfl
@[go_sem] theorem byOf191:ZC Tryz.prog 191=some 8:=by kernel_rfl
@[go_sem] theorem zerOf191:zd Tryz.prog 191=some (.c (.map none)):=by kernel_rfl
@[go_sem] theorem kdOf191:ZM Tryz.prog 191=.map:=by kernel_rfl
@[go_sem] theorem lenK191:qG Tryz.prog 191=.map:=by kernel_rfl
@[go_sem] theorem typed191:(@Vars.typed Go.Proofs.SAN.vars).contains 191=false:=by kernel_rfl
@[go_sem] theorem nt191:¬(191 ∈ (@Vars.typed Go.Proofs.SAN.vars)):=by decide
@[go_sem] theorem lay236:lay Tryz.prog 236=some (1,false):=by kernel_rfl
@[go_sem] theorem szOf236:zo Tryz.prog 236=some 1:=by kernel_rfl
@[go_sem] theorem byOf236:ZC Tryz.prog 236=some 8:=by kernel_rfl
@[go_sem] theorem zerOf236:zd Tryz.prog 236=some (.c .nilFunc):=by kernel_rfl
@[go_sem] theorem kdOf236:ZM Tryz.prog 236=.fn:=by kernel_rfl
@[go_sem] theorem typed236:(@Vars.typed Go.Proofs.SAN.vars).contains 236=false:=by kernel_rfl
@[go_sem] theorem nt236:¬(236 ∈ (@Vars.typed Go.Proofs.SAN.vars)):=by decide
@[go_sem] theorem nt203:¬(203 ∈ (@Vars.typed Go.Proofs.SAN.vars)):=by decide
@[go_sem] theorem lay205:lay Tryz.prog 205=some (2,true):=by kernel_rfl
@[go_sem] theorem szOf205:zo Tryz.prog 205=some 2:=by kernel_rfl
@[go_sem] theorem byOf205:ZC Tryz.prog 205=some 32:=by kernel_rfl
@[go_sem] theorem zerOf205:zd Tryz.prog 205=some (.agg [sv ByteArray.empty,sv ByteArray.empty]):=by kernel_rfl
@[go_sem] theorem typed205:(@Vars.typed Go.Proofs.SAN.vars).contains 205=false:=by kernel_rfl
@[go_sem] theorem nt205:¬(205 ∈ (@Vars.typed Go.Proofs.SAN.vars)):=by decide
@[go_sem] theorem lay208:lay Tryz.prog 208=some (1,false):=by kernel_rfl
@[go_sem] theorem szOf208:zo Tryz.prog 208=some 1:=by kernel_rfl
@[go_sem] theorem byOf208:ZC Tryz.prog 208=some 8:=by kernel_rfl
@[go_sem] theorem zerOf208:zd Tryz.prog 208=some (.c (.pointer none)):=by kernel_rfl
@[go_sem] theorem kdOf208:ZM Tryz.prog 208=.ptr 5:=by kernel_rfl
@[go_sem] theorem typed208:(@Vars.typed Go.Proofs.SAN.vars).contains 208=false:=by kernel_rfl
@[go_sem] theorem nt208:¬(208 ∈ (@Vars.typed Go.Proofs.SAN.vars)):=by decide
@[go_sem] theorem lay133:lay Tryz.prog 133=some (1,false):=by kernel_rfl
@[go_sem] theorem szOf133:zo Tryz.prog 133=some 1:=by kernel_rfl
@[go_sem] theorem byOf133:ZC Tryz.prog 133=some 16:=by kernel_rfl
@[go_sem] theorem zerOf133:zd Tryz.prog 133=some (.c .nilIface):=by kernel_rfl
@[go_sem] theorem typed133:(@Vars.typed Go.Proofs.SAN.vars).contains 133=false:=by kernel_rfl
@[go_sem] theorem nt133:¬(133 ∈ (@Vars.typed Go.Proofs.SAN.vars)):=by decide
@[go_sem] theorem lay114:lay Tryz.prog 114=some (1,false):=by kernel_rfl
@[go_sem] theorem szOf114:zo Tryz.prog 114=some 1:=by kernel_rfl
@[go_sem] theorem byOf114:ZC Tryz.prog 114=some 8:=by kernel_rfl
@[go_sem] theorem zerOf114:zd Tryz.prog 114=some (.c .nilFunc):=by kernel_rfl
@[go_sem] theorem kdOf114:ZM Tryz.prog 114=.fn:=by kernel_rfl
@[go_sem] theorem typed114:(@Vars.typed Go.Proofs.SAN.vars).contains 114=false:=by kernel_rfl
@[go_sem] theorem nt114:¬(114 ∈ (@Vars.typed Go.Proofs.SAN.vars)):=by decide
@[go_sem] theorem lay184:lay Tryz.prog 184=some (1,false):=by kernel_rfl
@[go_sem] theorem szOf184:zo Tryz.prog 184=some 1:=by kernel_rfl
@[go_sem] theorem byOf184:ZC Tryz.prog 184=some 8:=by kernel_rfl
@[go_sem] theorem zerOf184:zd Tryz.prog 184=some (.c .nilFunc):=by kernel_rfl
@[go_sem] theorem kdOf184:ZM Tryz.prog 184=.fn:=by kernel_rfl
@[go_sem] theorem typed184:(@Vars.typed Go.Proofs.SAN.vars).contains 184=false:=by kernel_rfl
@[go_sem] theorem nt184:¬(184 ∈ (@Vars.typed Go.Proofs.SAN.vars)):=by decide
@[go_sem] theorem lay129:lay Tryz.prog 129=some (1,false):=by kernel_rfl
@[go_sem] theorem szOf129:zo Tryz.prog 129=some 1:=by kernel_rfl
@[go_sem] theorem byOf129:ZC Tryz.prog 129=some 24:=by kernel_rfl
@[go_sem] theorem zerOf129:zd Tryz.prog 129=some (.fslc true true 0 []):=by kernel_rfl
@[go_sem] theorem eltOf129:ZS Tryz.prog 129=some 5:=by kernel_rfl
@[go_sem] theorem kdOf129:ZM Tryz.prog 129=.slice 5:=by kernel_rfl
@[go_sem] theorem lenK129:qG Tryz.prog 129=.slice:=by kernel_rfl
@[go_sem] theorem typed129:(@Vars.typed Go.Proofs.SAN.vars).contains 129=false:=by kernel_rfl
@[go_sem] theorem nt129:¬(129 ∈ (@Vars.typed Go.Proofs.SAN.vars)):=by decide
@[go_sem] theorem lay20:lay Tryz.prog 20=some (1,false):=by kernel_rfl
@[go_sem] theorem szOf20:zo Tryz.prog 20=some 1:=by kernel_rfl
@[go_sem] theorem byOf20:ZC Tryz.prog 20=some 16:=by kernel_rfl
@[go_sem] theorem zerOf20:zd Tryz.prog 20=some (.c .nilIface):=by kernel_rfl
@[go_sem] theorem typed20:(@Vars.typed Go.Proofs.SAN.vars).contains 20=false:=by kernel_rfl
@[go_sem] theorem nt20:¬(20 ∈ (@Vars.typed Go.Proofs.SAN.vars)):=by decide
@[go_sem] theorem lay197:lay Tryz.prog 197=some (1,false):=by kernel_rfl
@[go_sem] theorem szOf197:zo Tryz.prog 197=some 1:=by kernel_rfl
@[go_sem] theorem byOf197:ZC Tryz.prog 197=some 8:=by kernel_rfl
@[go_sem] theorem zerOf197:zd Tryz.prog 197=some (.c .nilFunc):=by kernel_rfl
@[go_sem] theorem kdOf197:ZM Tryz.prog 197=.fn:=by kernel_rfl
@[go_sem] theorem typed197:(@Vars.typed Go.Proofs.SAN.vars).contains 197=false:=by kernel_rfl
@[go_sem] theorem nt197:¬(197 ∈ (@Vars.typed Go.Proofs.SAN.vars)):=by decide
@[go_sem] theorem lay126:lay Tryz.prog 126=some (1,false):=by kernel_rfl
@[go_sem] theorem szOf126:zo Tryz.prog 126=some 1:=by kernel_rfl
@[go_sem] theorem byOf126:ZC Tryz.prog 126=some 8:=by kernel_rfl
@[go_sem] theorem zerOf126:zd Tryz.prog 126=some (.c .nilFunc):=by kernel_rfl
@[go_sem] theorem kdOf126:ZM Tryz.prog 126=.fn:=by kernel_rfl
@[go_sem] theorem typed126:(@Vars.typed Go.Proofs.SAN.vars).contains 126=false:=by kernel_rfl
@[go_sem] theorem nt126:¬(126 ∈ (@Vars.typed Go.Proofs.SAN.vars)):=by decide
@[go_sem] theorem nt52:¬(52 ∈ (@Vars.typed Go.Proofs.SAN.vars)):=by decide
@[go_sem] theorem nt80:¬(80 ∈ (@Vars.typed Go.Proofs.SAN.vars)):=by decide
end Go.AM
