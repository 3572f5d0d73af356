/- Closed facts on more types. Conditions: as each theorem says. -/
import Derived.Test.YtkbgmkhdjmkpdaaGreatDoorCa
namespace Go.AM
open Go.Proofs
@[go_sem] theorem lay53:lay Tryz.prog 53=some (1,false):=by kernel_rfl
@[go_sem] theorem szOf53:zx Tryz.prog 53=some 1:=by kernel_rfl
@[go_sem] theorem byOf53:ZP Tryz.prog 53=some 24:=by kernel_rfl
@[go_sem] theorem zerOf53:zo Tryz.prog 53=some (.fslc true true 0 []):=by kernel_rfl
@[go_sem] theorem eltOf53:ZM Tryz.prog 53=some 3:=by kernel_rfl
@[go_sem] theorem kdOf53:Zd Tryz.prog 53=.slice 3:=by kernel_rfl
@[go_sem] theorem lenK53:qY Tryz.prog 53=.slice:=by kernel_rfl
@[go_sem] theorem lay159:lay Tryz.prog 159=some (1,false):=by kernel_rfl
@[go_sem] theorem szOf159:zx Tryz.prog 159=some 1:=by kernel_rfl
@[go_sem] theorem byOf159:ZP Tryz.prog 159=some 8:=by kernel_rfl
@[go_sem] theorem zerOf159:zo Tryz.prog 159=some (.c .nilFunc):=by kernel_rfl
@[go_sem] theorem kdOf159:Zd Tryz.prog 159=.fn:=by kernel_rfl
@[go_sem] theorem lay158:lay Tryz.prog 158=some (1,false):=by kernel_rfl
@[go_sem] theorem szOf158:zx Tryz.prog 158=some 1:=by kernel_rfl
@[go_sem] theorem byOf158:ZP Tryz.prog 158=some 8:=by kernel_rfl
@[go_sem] theorem zerOf158:zo Tryz.prog 158=some (.c .nilFunc):=by kernel_rfl
@[go_sem] theorem kdOf158:Zd Tryz.prog 158=.fn:=by kernel_rfl
@[go_sem] theorem lay205:lay Tryz.prog 205=some (5,true):=by kernel_rfl
@[go_sem] theorem szOf205:zx Tryz.prog 205=some 5:=by kernel_rfl
@[go_sem] theorem byOf205:ZP Tryz.prog 205=some 120:=by kernel_rfl
@[go_sem] theorem zerOf205:zo Tryz.prog 205=some (.agg [.fslc true true 0 [],.fslc true true 0 [],.fslc true true 0 [],.fslc true true 0 [],.fslc true true 0 []]):=by kernel_rfl
@[go_sem] theorem lay234:lay Tryz.prog 234=some (1,false):=by kernel_rfl
@[go_sem] theorem szOf234:zx Tryz.prog 234=some 1:=by kernel_rfl
@[go_sem] theorem byOf234:ZP Tryz.prog 234=some 8:=by kernel_rfl
@[go_sem] theorem zerOf234:zo Tryz.prog 234=some (.c (.pointer none)):=by kernel_rfl
@[go_sem] theorem kdOf234:Zd Tryz.prog 234=.ptr 205:=by kernel_rfl
@[go_sem] theorem lay237:lay Tryz.prog 237=some (1,false):=by kernel_rfl
@[go_sem] theorem szOf237:zx Tryz.prog 237=some 1:=by kernel_rfl
@[go_sem] theorem byOf237:ZP Tryz.prog 237=some 8:=by kernel_rfl
@[go_sem] theorem zerOf237:zo Tryz.prog 237=some (.c .nilFunc):=by kernel_rfl
@[go_sem] theorem kdOf237:Zd Tryz.prog 237=.fn:=by kernel_rfl
@[go_sem] theorem typed53:(@Vars.typed Go.Proofs.SAN.vars).contains 53=false:=by kernel_rfl
@[go_sem] theorem nt53:¬(53 ∈ (@Vars.typed Go.Proofs.SAN.vars)):=by decide
@[go_sem] theorem typed159:(@Vars.typed Go.Proofs.SAN.vars).contains 159=false:=by kernel_rfl
@[go_sem] theorem nt159:¬(159 ∈ (@Vars.typed Go.Proofs.SAN.vars)):=by decide
@[go_sem] theorem typed158:(@Vars.typed Go.Proofs.SAN.vars).contains 158=false:=by kernel_rfl
@[go_sem] theorem nt158:¬(158 ∈ (@Vars.typed Go.Proofs.SAN.vars)):=by decide
@[go_sem] theorem typed205:(@Vars.typed Go.Proofs.SAN.vars).contains 205=false:=by kernel_rfl
@[go_sem] theorem nt205:¬(205 ∈ (@Vars.typed Go.Proofs.SAN.vars)):=by decide
@[go_sem] theorem typed234:(@Vars.typed Go.Proofs.SAN.vars).contains 234=false:=by kernel_rfl
@[go_sem] theorem nt234:¬(234 ∈ (@Vars.typed Go.Proofs.SAN.vars)):=by decide
@[go_sem] theorem typed237:(@Vars.typed Go.Proofs.SAN.vars).contains 237=false:=by kernel_rfl
@[go_sem] theorem nt237:¬(237 ∈ (@Vars.typed Go.Proofs.SAN.vars)):=by decide
@[go_sem] theorem nt95:¬(95 ∈ (@Vars.typed Go.Proofs.SAN.vars)):=by decide
@[go_sem] theorem arrOf99:arrOf Tryz.prog 205=some (5,53,1,false):=by kernel_rfl
@[go_sem] theorem so95:Zn Tryz.prog 95=false:=by kernel_rfl
@[go_sem] theorem bA95:Jp Tryz.prog 95 []=some (.agg [iv .i64 0,iv .i64 0,iv .i64 0,iv .i64 0,iv .i64 0]):=by kernel_rfl
@[go_sem] theorem eltOf205:ZM Tryz.prog 205=none:=by kernel_rfl
end Go.AM
namespace Go.AM
open Go.Proofs
@[go_sem] theorem lay5:lay Tryz.prog 5=some (1,false):=by kernel_rfl
@[go_sem] theorem szOf5:zx Tryz.prog 5=some 1:=by kernel_rfl
@[go_sem] theorem byOf5:ZP Tryz.prog 5=some 1:=by kernel_rfl
@[go_sem] theorem zerOf5:zo Tryz.prog 5=some (iv .u8 0):=by kernel_rfl
@[go_sem] theorem lay9:lay Tryz.prog 9=some (1,false):=by kernel_rfl
@[go_sem] theorem szOf9:zx Tryz.prog 9=some 1:=by kernel_rfl
@[go_sem] theorem byOf9:ZP Tryz.prog 9=some 16:=by kernel_rfl
@[go_sem] theorem zerOf9:zo Tryz.prog 9=some (sv ByteArray.empty):=by kernel_rfl
@[go_sem] theorem kdOf9:Zd Tryz.prog 9=.string:=by kernel_rfl
@[go_sem] theorem lenK9:qY Tryz.prog 9=.string:=by kernel_rfl
@[go_sem] theorem lay23:lay Tryz.prog 23=some (1,false):=by kernel_rfl
@[go_sem] theorem szOf23:zx Tryz.prog 23=some 1:=by kernel_rfl
@[go_sem] theorem byOf23:ZP Tryz.prog 23=some 24:=by kernel_rfl
@[go_sem] theorem zerOf23:zo Tryz.prog 23=some (.fslc true true 0 []):=by kernel_rfl
@[go_sem] theorem eltOf23:ZM Tryz.prog 23=some 82:=by kernel_rfl
@[go_sem] theorem kdOf23:Zd Tryz.prog 23=.slice 82:=by kernel_rfl
@[go_sem] theorem lenK23:qY Tryz.prog 23=.slice:=by kernel_rfl
@[go_sem] theorem lay22:lay Tryz.prog 22=some (1,false):=by kernel_rfl
@[go_sem] theorem szOf22:zx Tryz.prog 22=some 1:=by kernel_rfl
@[go_sem] theorem byOf22:ZP Tryz.prog 22=some 24:=by kernel_rfl
@[go_sem] theorem zerOf22:zo Tryz.prog 22=some (.fslc true true 0 []):=by kernel_rfl
@[go_sem] theorem eltOf22:ZM Tryz.prog 22=some 55:=by kernel_rfl
@[go_sem] theorem kdOf22:Zd Tryz.prog 22=.slice 55:=by kernel_rfl
@[go_sem] theorem lenK22:qY Tryz.prog 22=.slice:=by kernel_rfl
@[go_sem] theorem lay25:lay Tryz.prog 25=some (2,true):=by kernel_rfl
@[go_sem] theorem szOf25:zx Tryz.prog 25=some 2:=by kernel_rfl
@[go_sem] theorem byOf25:ZP Tryz.prog 25=some 48:=by kernel_rfl
@[go_sem] theorem zerOf25:zo Tryz.prog 25=some (.agg [.fslc true true 0 [],.fslc true true 0 []]):=by kernel_rfl
@[go_sem] theorem fldOf25_0:ZC Tryz.prog 25 0=some (0,1):=by kernel_rfl
@[go_sem] theorem fldOf25_1:ZC Tryz.prog 25 1=some (1,1):=by kernel_rfl
@[go_sem] theorem sizesOk25:Zn Tryz.prog 25=true:=by kernel_rfl
@[go_sem] theorem lay82:lay Tryz.prog 82=some (7,true):=by kernel_rfl
@[go_sem] theorem szOf82:zx Tryz.prog 82=some 7:=by kernel_rfl
@[go_sem] theorem byOf82:ZP Tryz.prog 82=some 80:=by kernel_rfl
@[go_sem] theorem zerOf82:zo Tryz.prog 82=some (.agg [sv ByteArray.empty,iv .i64 0,iv .i64 0,iv .i64 0,iv .i64 0,iv .i64 0,.fslc true true 0 []]):=by kernel_rfl
@[go_sem] theorem fldOf82_0:ZC Tryz.prog 82 0=some (0,1):=by kernel_rfl
@[go_sem] theorem fldOf82_1:ZC Tryz.prog 82 1=some (1,1):=by kernel_rfl
@[go_sem] theorem fldOf82_2:ZC Tryz.prog 82 2=some (2,5):=by kernel_rfl
@[go_sem] theorem sizesOk82:Zn Tryz.prog 82=true:=by kernel_rfl
@[go_sem] theorem lay55:lay Tryz.prog 55=some (8,true):=by kernel_rfl
@[go_sem] theorem szOf55:zx Tryz.prog 55=some 8:=by kernel_rfl
@[go_sem] theorem byOf55:ZP Tryz.prog 55=some 104:=by kernel_rfl
@[go_sem] theorem zerOf55:zo Tryz.prog 55=some (.agg [iv .i64 0,sv ByteArray.empty,sv ByteArray.empty,sv ByteArray.empty,iv .i64 0,iv .i64 0,iv .i64 0,.fslc true true 0 []]):=by kernel_rfl
@[go_sem] theorem fldOf55_0:ZC Tryz.prog 55 0=some (0,1):=by kernel_rfl
@[go_sem] theorem fldOf55_1:ZC Tryz.prog 55 1=some (1,1):=by kernel_rfl
@[go_sem] theorem fldOf55_2:ZC Tryz.prog 55 2=some (2,1):=by kernel_rfl
@[go_sem] theorem fldOf55_3:ZC Tryz.prog 55 3=some (3,1):=by kernel_rfl
@[go_sem] theorem fldOf55_4:ZC Tryz.prog 55 4=some (4,1):=by kernel_rfl
@[go_sem] theorem fldOf55_5:ZC Tryz.prog 55 5=some (5,1):=by kernel_rfl
@[go_sem] theorem fldOf55_6:ZC Tryz.prog 55 6=some (6,1):=by kernel_rfl
@[go_sem] theorem fldOf55_7:ZC Tryz.prog 55 7=some (7,1):=by kernel_rfl
@[go_sem] theorem sizesOk55:Zn Tryz.prog 55=true:=by kernel_rfl
@[go_sem] theorem lay169:lay Tryz.prog 169=some (1,false):=by kernel_rfl
@[go_sem] theorem szOf169:zx Tryz.prog 169=some 1:=by kernel_rfl
@[go_sem] theorem byOf169:ZP Tryz.prog 169=some 8:=by kernel_rfl
@[go_sem] theorem zerOf169:zo Tryz.prog 169=some (.c .nilFunc):=by kernel_rfl
@[go_sem] theorem kdOf169:Zd Tryz.prog 169=.fn:=by kernel_rfl
@[go_sem] theorem typed5:(@Vars.typed Go.Proofs.SAN.vars).contains 5=false:=by kernel_rfl
@[go_sem] theorem nt5:¬(5 ∈ (@Vars.typed Go.Proofs.SAN.vars)):=by decide
@[go_sem] theorem typed9:(@Vars.typed Go.Proofs.SAN.vars).contains 9=false:=by kernel_rfl
@[go_sem] theorem nt9:¬(9 ∈ (@Vars.typed Go.Proofs.SAN.vars)):=by decide
@[go_sem] theorem typed169:(@Vars.typed Go.Proofs.SAN.vars).contains 169=false:=by kernel_rfl
@[go_sem] theorem nt169:¬(169 ∈ (@Vars.typed Go.Proofs.SAN.vars)):=by decide
@[go_sem] theorem typed25:(@Vars.typed Go.Proofs.SAN.vars).contains 25=false:=by kernel_rfl
@[go_sem] theorem nt25:¬(25 ∈ (@Vars.typed Go.Proofs.SAN.vars)):=by decide
@[go_sem] theorem typed23:(@Vars.typed Go.Proofs.SAN.vars).contains 23=false:=by kernel_rfl
@[go_sem] theorem nt23:¬(23 ∈ (@Vars.typed Go.Proofs.SAN.vars)):=by decide
@[go_sem] theorem typed22:(@Vars.typed Go.Proofs.SAN.vars).contains 22=false:=by kernel_rfl
@[go_sem] theorem nt22:¬(22 ∈ (@Vars.typed Go.Proofs.SAN.vars)):=by decide
@[go_sem] theorem typed82:(@Vars.typed Go.Proofs.SAN.vars).contains 82=false:=by kernel_rfl
@[go_sem] theorem nt82:¬(82 ∈ (@Vars.typed Go.Proofs.SAN.vars)):=by decide
@[go_sem] theorem typed55:(@Vars.typed Go.Proofs.SAN.vars).contains 55=false:=by kernel_rfl
@[go_sem] theorem nt55:¬(55 ∈ (@Vars.typed Go.Proofs.SAN.vars)):=by decide
@[go_sem] theorem typed60:(@Vars.typed Go.Proofs.SAN.vars).contains 60=false:=by kernel_rfl
@[go_sem] theorem nt60:¬(60 ∈ (@Vars.typed Go.Proofs.SAN.vars)):=by decide
end Go.AM
namespace Go.AM
open Go.Proofs
@[go_sem] theorem lay35:lay Tryz.prog 35=some (1,false):=by kernel_rfl
@[go_sem] theorem szOf35:zx Tryz.prog 35=some 1:=by kernel_rfl
@[go_sem] theorem byOf35:ZP Tryz.prog 35=some 24:=by kernel_rfl
@[go_sem] theorem zerOf35:zo Tryz.prog 35=some (.fslc true true 0 []):=by kernel_rfl
@[go_sem] theorem eltOf35:ZM Tryz.prog 35=some 9:=by kernel_rfl
@[go_sem] theorem kdOf35:Zd Tryz.prog 35=.slice 9:=by kernel_rfl
@[go_sem] theorem lenK35:qY Tryz.prog 35=.slice:=by kernel_rfl
@[go_sem] theorem typed35:(@Vars.typed Go.Proofs.SAN.vars).contains 35=false:=by kernel_rfl
end Go.AM
namespace Go.AM
open Go.Proofs
@[go_sem] theorem lay28:lay Tryz.prog 28=some (1,false):=by kernel_rfl
@[go_sem] theorem szOf28:zx Tryz.prog 28=some 1:=by kernel_rfl
@[go_sem] theorem byOf28:ZP Tryz.prog 28=some 24:=by kernel_rfl
@[go_sem] theorem zerOf28:zo Tryz.prog 28=some (.fslc true true 0 []):=by kernel_rfl
@[go_sem] theorem eltOf28:ZM Tryz.prog 28=some 51:=by kernel_rfl
@[go_sem] theorem kdOf28:Zd Tryz.prog 28=.slice 51:=by kernel_rfl
@[go_sem] theorem lenK28:qY Tryz.prog 28=.slice:=by kernel_rfl
@[go_sem] theorem typed28:(@Vars.typed Go.Proofs.SAN.vars).contains 28=false:=by kernel_rfl
@[go_sem] theorem nt28:¬(28 ∈ (@Vars.typed Go.Proofs.SAN.vars)):=by decide
@[go_sem] theorem lay51:lay Tryz.prog 51=some (3,true):=by kernel_rfl
@[go_sem] theorem szOf51:zx Tryz.prog 51=some 3:=by kernel_rfl
@[go_sem] theorem byOf51:ZP Tryz.prog 51=some 40:=by kernel_rfl
@[go_sem] theorem zerOf51:zo Tryz.prog 51=some (.agg [iv .i64 0,sv ByteArray.empty,sv ByteArray.empty]):=by kernel_rfl
@[go_sem] theorem fldOf51_0:ZC Tryz.prog 51 0=some (0,1):=by kernel_rfl
@[go_sem] theorem fldOf51_1:ZC Tryz.prog 51 1=some (1,1):=by kernel_rfl
@[go_sem] theorem fldOf51_2:ZC Tryz.prog 51 2=some (2,1):=by kernel_rfl
@[go_sem] theorem sizesOk51:Zn Tryz.prog 51=true:=by kernel_rfl
@[go_sem] theorem typed51:(@Vars.typed Go.Proofs.SAN.vars).contains 51=false:=by kernel_rfl
@[go_sem] theorem nt51:¬(51 ∈ (@Vars.typed Go.Proofs.SAN.vars)):=by decide
@[go_sem] theorem lay119:lay Tryz.prog 119=some (2,true):=by kernel_rfl
@[go_sem] theorem szOf119:zx Tryz.prog 119=some 2:=by kernel_rfl
@[go_sem] theorem byOf119:ZP Tryz.prog 119=some 32:=by kernel_rfl
@[go_sem] theorem zerOf119:zo Tryz.prog 119=some (.agg [sv ByteArray.empty,sv ByteArray.empty]):=by kernel_rfl
@[go_sem] theorem fldOf119_0:ZC Tryz.prog 119 0=some (0,1):=by kernel_rfl
@[go_sem] theorem fldOf119_1:ZC Tryz.prog 119 1=some (1,1):=by kernel_rfl
@[go_sem] theorem sizesOk119:Zn Tryz.prog 119=true:=by kernel_rfl
@[go_sem] theorem typed119:(@Vars.typed Go.Proofs.SAN.vars).contains 119=false:=by kernel_rfl
@[go_sem] theorem nt119:¬(119 ∈ (@Vars.typed Go.Proofs.SAN.vars)):=by decide
@[go_sem] theorem lay163:lay Tryz.prog 163=some (1,false):=by kernel_rfl
@[go_sem] theorem szOf163:zx Tryz.prog 163=some 1:=by kernel_rfl
@[go_sem] theorem Jn:Zz Tryz.prog 163=some (119,4):=by kernel_rfl
@[go_sem] theorem kdOf163:Zd Tryz.prog 163=.map:=by kernel_rfl
@[go_sem] theorem typed163:(@Vars.typed Go.Proofs.SAN.vars).contains 163=false:=by kernel_rfl
@[go_sem] theorem nt163:¬(163 ∈ (@Vars.typed Go.Proofs.SAN.vars)):=by decide
@[go_sem] theorem lay165:lay Tryz.prog 165=some (1,false):=by kernel_rfl
@[go_sem] theorem szOf165:zx Tryz.prog 165=some 1:=by kernel_rfl
@[go_sem] theorem mapTys165:Zz Tryz.prog 165=some (3,164):=by kernel_rfl
@[go_sem] theorem kdOf165:Zd Tryz.prog 165=.map:=by kernel_rfl
@[go_sem] theorem typed165:(@Vars.typed Go.Proofs.SAN.vars).contains 165=false:=by kernel_rfl
@[go_sem] theorem nt165:¬(165 ∈ (@Vars.typed Go.Proofs.SAN.vars)):=by decide
end Go.AM
namespace Go.AM
open Go.Proofs
@[go_sem] theorem lay33:lay Tryz.prog 33=some (2,true):=by kernel_rfl
@[go_sem] theorem szOf33:zx Tryz.prog 33=some 2:=by kernel_rfl
@[go_sem] theorem byOf33:ZP Tryz.prog 33=some 32:=by kernel_rfl
@[go_sem] theorem zerOf33:zo Tryz.prog 33=some (.agg [.fslc true true 0 [],iv .i64 0]):=by kernel_rfl
@[go_sem] theorem fldOf33_0:ZC Tryz.prog 33 0=some (0,1):=by kernel_rfl
@[go_sem] theorem fldOf33_1:ZC Tryz.prog 33 1=some (1,1):=by kernel_rfl
@[go_sem] theorem sizesOk33:Zn Tryz.prog 33=true:=by kernel_rfl
@[go_sem] theorem typed33:(@Vars.typed Go.Proofs.SAN.vars).contains 33=false:=by kernel_rfl
@[go_sem] theorem nt33:¬(33 ∈ (@Vars.typed Go.Proofs.SAN.vars)):=by decide
@[go_sem] theorem lay39:lay Tryz.prog 39=some (2,true):=by kernel_rfl
@[go_sem] theorem szOf39:zx Tryz.prog 39=some 2:=by kernel_rfl
@[go_sem] theorem byOf39:ZP Tryz.prog 39=some 32:=by kernel_rfl
@[go_sem] theorem zerOf39:zo Tryz.prog 39=some (.agg [.fslc true true 0 [],iv .i64 0]):=by kernel_rfl
@[go_sem] theorem fldOf39_0:ZC Tryz.prog 39 0=some (0,1):=by kernel_rfl
@[go_sem] theorem fldOf39_1:ZC Tryz.prog 39 1=some (1,1):=by kernel_rfl
@[go_sem] theorem sizesOk39:Zn Tryz.prog 39=true:=by kernel_rfl
@[go_sem] theorem typed39:(@Vars.typed Go.Proofs.SAN.vars).contains 39=false:=by kernel_rfl
@[go_sem] theorem nt39:¬(39 ∈ (@Vars.typed Go.Proofs.SAN.vars)):=by decide
end Go.AM
