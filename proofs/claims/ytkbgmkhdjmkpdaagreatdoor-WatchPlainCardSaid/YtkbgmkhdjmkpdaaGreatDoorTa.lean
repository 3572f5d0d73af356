/- Closed facts on more types. Conditions: as each theorem says. -/
import Derived.Test.YtkbgmkhdjmkpdaaGreatDoorCa
namespace Go.AM
open Go.Proofs
@[go_sem] theorem lay53:lay Tryz.prog 53=some (1,false):=by kernel_rfl
@[go_sem] theorem szOf53:zu Tryz.prog 53=some 1:=by kernel_rfl
@[go_sem] theorem byOf53:ZS Tryz.prog 53=some 24:=by kernel_rfl
@[go_sem] theorem zerOf53:zo Tryz.prog 53=some (.fslc true true 0 []):=by kernel_rfl
@[go_sem] theorem eltOf53:ZQ Tryz.prog 53=some 3:=by kernel_rfl
@[go_sem] theorem kdOf53:Zo Tryz.prog 53=.slice 3:=by kernel_rfl
@[go_sem] theorem lenK53:qi Tryz.prog 53=.slice:=by kernel_rfl
@[go_sem] theorem lay159:lay Tryz.prog 159=some (1,false):=by kernel_rfl
@[go_sem] theorem szOf159:zu Tryz.prog 159=some 1:=by kernel_rfl
@[go_sem] theorem byOf159:ZS Tryz.prog 159=some 8:=by kernel_rfl
@[go_sem] theorem zerOf159:zo Tryz.prog 159=some (.c .nilFunc):=by kernel_rfl
@[go_sem] theorem kdOf159:Zo Tryz.prog 159=.fn:=by kernel_rfl
@[go_sem] theorem lay158:lay Tryz.prog 158=some (1,false):=by kernel_rfl
@[go_sem] theorem szOf158:zu Tryz.prog 158=some 1:=by kernel_rfl
@[go_sem] theorem byOf158:ZS Tryz.prog 158=some 8:=by kernel_rfl
@[go_sem] theorem zerOf158:zo Tryz.prog 158=some (.c .nilFunc):=by kernel_rfl
@[go_sem] theorem kdOf158:Zo Tryz.prog 158=.fn:=by kernel_rfl
@[go_sem] theorem lay205:lay Tryz.prog 205=some (5,true):=by kernel_rfl
@[go_sem] theorem szOf205:zu Tryz.prog 205=some 5:=by kernel_rfl
@[go_sem] theorem byOf205:ZS Tryz.prog 205=some 120:=by kernel_rfl
@[go_sem] theorem zerOf205:zo Tryz.prog 205=some (.agg [.fslc true true 0 [],.fslc true true 0 [],.fslc true true 0 [],.fslc true true 0 [],.fslc true true 0 []]):=by kernel_rfl
@[go_sem] theorem lay234:lay Tryz.prog 234=some (1,false):=by kernel_rfl
@[go_sem] theorem szOf234:zu Tryz.prog 234=some 1:=by kernel_rfl
@[go_sem] theorem byOf234:ZS Tryz.prog 234=some 8:=by kernel_rfl
@[go_sem] theorem zerOf234:zo Tryz.prog 234=some (.c (.pointer none)):=by kernel_rfl
@[go_sem] theorem kdOf234:Zo Tryz.prog 234=.ptr 205:=by kernel_rfl
@[go_sem] theorem lay237:lay Tryz.prog 237=some (1,false):=by kernel_rfl
@[go_sem] theorem szOf237:zu Tryz.prog 237=some 1:=by kernel_rfl
@[go_sem] theorem byOf237:ZS Tryz.prog 237=some 8:=by kernel_rfl
@[go_sem] theorem zerOf237:zo Tryz.prog 237=some (.c .nilFunc):=by kernel_rfl
@[go_sem] theorem kdOf237:Zo Tryz.prog 237=.fn:=by kernel_rfl
@[go_sem] theorem typed53:(@Vars.typed Go.Proofs.SAN.vars).contains 53=false:=by kernel_rfl
@[go_sem] theorem nt53:¬(53 ∈ (@Vars.typed Go.Proofs.SAN.vars)):=by decide
@[go_sem] theorem typed159:(@Vars.typed Go.Proofs.SAN.vars).contains 159=false:=by kernel_rfl
@[go_sem] theorem nt159:¬(159 ∈ (@Vars.typed Go.Proofs.SAN.vars)):=by decide
@[go_sem] theorem typed158:(@Vars.typed Go.Proofs.SAN.vars).contains 158=false:=by kernel_rfl
@[go_sem] theorem nt158:¬(158 ∈ (@Vars.typed Go.Proofs.SAN.vars)):=by decide
@[go_sem] theorem typed205:(@Vars.typed Go.Proofs.SAN.vars).contains 205=false:=by kernel_rfl
@[go_sem] theorem nt205:¬(205 ∈ (@Vars.typed Go.Proofs.SAN.vars)):=by decide
@[go_sem] theorem typed234:(@Vars.typed Go.Proofs.SAN.vars).contains 234=false:=by kernel_rfl
@[go_sem] theorem nt234:¬(234 ∈ (@Vars.typed Go.Proofs.SAN.vars)):=by decide
@[go_sem] theorem typed237:(@Vars.typed Go.Proofs.SAN.vars).contains 237=false:=by kernel_rfl
@[go_sem] theorem nt237:¬(237 ∈ (@Vars.typed Go.Proofs.SAN.vars)):=by decide
@[go_sem] theorem nt95:¬(95 ∈ (@Vars.typed Go.Proofs.SAN.vars)):=by decide
@[go_sem] theorem arrOf99:arrOf Tryz.prog 205=some (5,53,1,false):=by kernel_rfl
@[go_sem] theorem so95:Z0 Tryz.prog 95=false:=by kernel_rfl
@[go_sem] theorem bA95:Jx Tryz.prog 95 []=some (.agg [iv .i64 0,iv .i64 0,iv .i64 0,iv .i64 0,iv .i64 0]):=by kernel_rfl
@[go_sem] theorem eltOf205:ZQ Tryz.prog 205=none:=by kernel_rfl
end Go.AM
namespace Go.AM
open Go.Proofs
@[go_sem] theorem lay5:lay Tryz.prog 5=some (1,false):=by kernel_rfl
@[go_sem] theorem szOf5:zu Tryz.prog 5=some 1:=by kernel_rfl
@[go_sem] theorem byOf5:ZS Tryz.prog 5=some 1:=by kernel_rfl
@[go_sem] theorem zerOf5:zo Tryz.prog 5=some (iv .u8 0):=by kernel_rfl
@[go_sem] theorem lay9:lay Tryz.prog 9=some (1,false):=by kernel_rfl
@[go_sem] theorem szOf9:zu Tryz.prog 9=some 1:=by kernel_rfl
@[go_sem] theorem byOf9:ZS Tryz.prog 9=some 16:=by kernel_rfl
@[go_sem] theorem zerOf9:zo Tryz.prog 9=some (sv ByteArray.empty):=by kernel_rfl
@[go_sem] theorem kdOf9:Zo Tryz.prog 9=.string:=by kernel_rfl
@[go_sem] theorem lenK9:qi Tryz.prog 9=.string:=by kernel_rfl
@[go_sem] theorem lay23:lay Tryz.prog 23=some (1,false):=by kernel_rfl
@[go_sem] theorem szOf23:zu Tryz.prog 23=some 1:=by kernel_rfl
@[go_sem] theorem byOf23:ZS Tryz.prog 23=some 24:=by kernel_rfl
@[go_sem] theorem zerOf23:zo Tryz.prog 23=some (.fslc true true 0 []):=by kernel_rfl
@[go_sem] theorem eltOf23:ZQ Tryz.prog 23=some 82:=by kernel_rfl
@[go_sem] theorem kdOf23:Zo Tryz.prog 23=.slice 82:=by kernel_rfl
@[go_sem] theorem lenK23:qi Tryz.prog 23=.slice:=by kernel_rfl
@[go_sem] theorem lay22:lay Tryz.prog 22=some (1,false):=by kernel_rfl
@[go_sem] theorem szOf22:zu Tryz.prog 22=some 1:=by kernel_rfl
@[go_sem] theorem byOf22:ZS Tryz.prog 22=some 24:=by kernel_rfl
@[go_sem] theorem zerOf22:zo Tryz.prog 22=some (.fslc true true 0 []):=by kernel_rfl
@[go_sem] theorem eltOf22:ZQ Tryz.prog 22=some 55:=by kernel_rfl
@[go_sem] theorem kdOf22:Zo Tryz.prog 22=.slice 55:=by kernel_rfl
@[go_sem] theorem lenK22:qi Tryz.prog 22=.slice:=by kernel_rfl
@[go_sem] theorem lay25:lay Tryz.prog 25=some (2,true):=by kernel_rfl
@[go_sem] theorem szOf25:zu Tryz.prog 25=some 2:=by kernel_rfl
@[go_sem] theorem byOf25:ZS Tryz.prog 25=some 48:=by kernel_rfl
@[go_sem] theorem zerOf25:zo Tryz.prog 25=some (.agg [.fslc true true 0 [],.fslc true true 0 []]):=by kernel_rfl
@[go_sem] theorem fldOf25_0:ZA Tryz.prog 25 0=some (0,1):=by kernel_rfl
@[go_sem] theorem fldOf25_1:ZA Tryz.prog 25 1=some (1,1):=by kernel_rfl
@[go_sem] theorem sizesOk25:Z0 Tryz.prog 25=true:=by kernel_rfl
@[go_sem] theorem lay82:lay Tryz.prog 82=some (7,true):=by kernel_rfl
@[go_sem] theorem szOf82:zu Tryz.prog 82=some 7:=by kernel_rfl
@[go_sem] theorem byOf82:ZS Tryz.prog 82=some 80:=by kernel_rfl
@[go_sem] theorem zerOf82:zo Tryz.prog 82=some (.agg [sv ByteArray.empty,iv .i64 0,iv .i64 0,iv .i64 0,iv .i64 0,iv .i64 0,.fslc true true 0 []]):=by kernel_rfl
@[go_sem] theorem fldOf82_0:ZA Tryz.prog 82 0=some (0,1):=by kernel_rfl
@[go_sem] theorem fldOf82_1:ZA Tryz.prog 82 1=some (1,1):=by kernel_rfl
@[go_sem] theorem fldOf82_2:ZA Tryz.prog 82 2=some (2,5):=by kernel_rfl
@[go_sem] theorem sizesOk82:Z0 Tryz.prog 82=true:=by kernel_rfl
@[go_sem] theorem lay55:lay Tryz.prog 55=some (8,true):=by kernel_rfl
@[go_sem] theorem szOf55:zu Tryz.prog 55=some 8:=by kernel_rfl
@[go_sem] theorem byOf55:ZS Tryz.prog 55=some 104:=by kernel_rfl
@[go_sem] theorem zerOf55:zo Tryz.prog 55=some (.agg [iv .i64 0,sv ByteArray.empty,sv ByteArray.empty,sv ByteArray.empty,iv .i64 0,iv .i64 0,iv .i64 0,.fslc true true 0 []]):=by kernel_rfl
@[go_sem] theorem fldOf55_0:ZA Tryz.prog 55 0=some (0,1):=by kernel_rfl
@[go_sem] theorem fldOf55_1:ZA Tryz.prog 55 1=some (1,1):=by kernel_rfl
@[go_sem] theorem fldOf55_2:ZA Tryz.prog 55 2=some (2,1):=by kernel_rfl
@[go_sem] theorem fldOf55_3:ZA Tryz.prog 55 3=some (3,1):=by kernel_rfl
@[go_sem] theorem fldOf55_4:ZA Tryz.prog 55 4=some (4,1):=by kernel_rfl
@[go_sem] theorem fldOf55_5:ZA Tryz.prog 55 5=some (5,1):=by kernel_rfl
@[go_sem] theorem fldOf55_6:ZA Tryz.prog 55 6=some (6,1):=by kernel_rfl
@[go_sem] theorem fldOf55_7:ZA Tryz.prog 55 7=some (7,1):=by kernel_rfl
@[go_sem] theorem sizesOk55:Z0 Tryz.prog 55=true:=by kernel_rfl
@[go_sem] theorem lay169:lay Tryz.prog 169=some (1,false):=by kernel_rfl
@[go_sem] theorem szOf169:zu Tryz.prog 169=some 1:=by kernel_rfl
@[go_sem] theorem byOf169:ZS Tryz.prog 169=some 8:=by kernel_rfl
@[go_sem] theorem zerOf169:zo Tryz.prog 169=some (.c .nilFunc):=by kernel_rfl
@[go_sem] theorem kdOf169:Zo Tryz.prog 169=.fn:=by kernel_rfl
@[go_sem] theorem typed5:(@Vars.typed Go.Proofs.SAN.vars).contains 5=false:=by kernel_rfl
@[go_sem] theorem nt5:¬(5 ∈ (@Vars.typed Go.Proofs.SAN.vars)):=by decide
@[go_sem] theorem typed9:(@Vars.typed Go.Proofs.SAN.vars).contains 9=false:=by kernel_rfl
@[go_sem] theorem nt9:¬(9 ∈ (@Vars.typed Go.Proofs.SAN.vars)):=by decide
@[go_sem] theorem typed169:(@Vars.typed Go.Proofs.SAN.vars).contains 169=false:=by kernel_rfl
@[go_sem] theorem nt169:¬(169 ∈ (@Vars.typed Go.Proofs.SAN.vars)):=by decide
@[go_sem] theorem typed25:(@Vars.typed Go.Proofs.SAN.vars).contains 25=false:=by kernel_rfl
@[go_sem] theorem nt25:¬(25 ∈ (@Vars.typed Go.Proofs.SAN.vars)):=by decide
@[go_sem] theorem typed23:(@Vars.typed Go.Proofs.SAN.vars).contains 23=false:=by kernel_rfl
@[go_sem] theorem nt23:¬(23 ∈ (@Vars.typed Go.Proofs.SAN.vars)):=by decide
@[go_sem] theorem typed22:(@Vars.typed Go.Proofs.SAN.vars).contains 22=false:=by kernel_rfl
@[go_sem] theorem nt22:¬(22 ∈ (@Vars.typed Go.Proofs.SAN.vars)):=by decide
@[go_sem] theorem typed82:(@Vars.typed Go.Proofs.SAN.vars).contains 82=false:=by kernel_rfl
@[go_sem] theorem nt82:¬(82 ∈ (@Vars.typed Go.Proofs.SAN.vars)):=by decide
@[go_sem] theorem typed55:(@Vars.typed Go.Proofs.SAN.vars).contains 55=false:=by kernel_rfl
@[go_sem] theorem nt55:¬(55 ∈ (@Vars.typed Go.Proofs.SAN.vars)):=by decide
@[go_sem] theorem typed60:(@Vars.typed Go.Proofs.SAN.vars).contains 60=false:=by kernel_rfl
@[go_sem] theorem nt60:¬(60 ∈ (@Vars.typed Go.Proofs.SAN.vars)):=by decide
end Go.AM
namespace Go.AM
open Go.Proofs
@[go_sem] theorem lay35:lay Tryz.prog 35=some (1,false):=by kernel_rfl
@[go_sem] theorem szOf35:zu Tryz.prog 35=some 1:=by kernel_rfl
@[go_sem] theorem byOf35:ZS Tryz.prog 35=some 24:=by kernel_rfl
@[go_sem] theorem zerOf35:zo Tryz.prog 35=some (.fslc true true 0 []):=by kernel_rfl
@[go_sem] theorem eltOf35:ZQ Tryz.prog 35=some 9:=by kernel_rfl
@[go_sem] theorem kdOf35:Zo Tryz.prog 35=.slice 9:=by kernel_rfl
@[go_sem] theorem lenK35:qi Tryz.prog 35=.slice:=by kernel_rfl
@[go_sem] theorem typed35:(@Vars.typed Go.Proofs.SAN.vars).contains 35=false:=by kernel_rfl
end Go.AM
namespace Go.AM
open Go.Proofs
@[go_sem] theorem lay28:lay Tryz.prog 28=some (1,false):=by kernel_rfl
@[go_sem] theorem szOf28:zu Tryz.prog 28=some 1:=by kernel_rfl
@[go_sem] theorem byOf28:ZS Tryz.prog 28=some 24:=by kernel_rfl
@[go_sem] theorem zerOf28:zo Tryz.prog 28=some (.fslc true true 0 []):=by kernel_rfl
@[go_sem] theorem eltOf28:ZQ Tryz.prog 28=some 51:=by kernel_rfl
@[go_sem] theorem kdOf28:Zo Tryz.prog 28=.slice 51:=by kernel_rfl
@[go_sem] theorem lenK28:qi Tryz.prog 28=.slice:=by kernel_rfl
@[go_sem] theorem typed28:(@Vars.typed Go.Proofs.SAN.vars).contains 28=false:=by kernel_rfl
@[go_sem] theorem nt28:¬(28 ∈ (@Vars.typed Go.Proofs.SAN.vars)):=by decide
@[go_sem] theorem lay51:lay Tryz.prog 51=some (3,true):=by kernel_rfl
@[go_sem] theorem szOf51:zu Tryz.prog 51=some 3:=by kernel_rfl
@[go_sem] theorem byOf51:ZS Tryz.prog 51=some 40:=by kernel_rfl
@[go_sem] theorem zerOf51:zo Tryz.prog 51=some (.agg [iv .i64 0,sv ByteArray.empty,sv ByteArray.empty]):=by kernel_rfl
@[go_sem] theorem fldOf51_0:ZA Tryz.prog 51 0=some (0,1):=by kernel_rfl
@[go_sem] theorem fldOf51_1:ZA Tryz.prog 51 1=some (1,1):=by kernel_rfl
@[go_sem] theorem fldOf51_2:ZA Tryz.prog 51 2=some (2,1):=by kernel_rfl
@[go_sem] theorem sizesOk51:Z0 Tryz.prog 51=true:=by kernel_rfl
@[go_sem] theorem typed51:(@Vars.typed Go.Proofs.SAN.vars).contains 51=false:=by kernel_rfl
@[go_sem] theorem nt51:¬(51 ∈ (@Vars.typed Go.Proofs.SAN.vars)):=by decide
@[go_sem] theorem lay119:lay Tryz.prog 119=some (2,true):=by kernel_rfl
@[go_sem] theorem szOf119:zu Tryz.prog 119=some 2:=by kernel_rfl
@[go_sem] theorem byOf119:ZS Tryz.prog 119=some 32:=by kernel_rfl
@[go_sem] theorem zerOf119:zo Tryz.prog 119=some (.agg [sv ByteArray.empty,sv ByteArray.empty]):=by kernel_rfl
@[go_sem] theorem fldOf119_0:ZA Tryz.prog 119 0=some (0,1):=by kernel_rfl
@[go_sem] theorem fldOf119_1:ZA Tryz.prog 119 1=some (1,1):=by kernel_rfl
@[go_sem] theorem sizesOk119:Z0 Tryz.prog 119=true:=by kernel_rfl
@[go_sem] theorem typed119:(@Vars.typed Go.Proofs.SAN.vars).contains 119=false:=by kernel_rfl
@[go_sem] theorem nt119:¬(119 ∈ (@Vars.typed Go.Proofs.SAN.vars)):=by decide
@[go_sem] theorem lay163:lay Tryz.prog 163=some (1,false):=by kernel_rfl
@[go_sem] theorem szOf163:zu Tryz.prog 163=some 1:=by kernel_rfl
@[go_sem] theorem J0:Z7 Tryz.prog 163=some (119,4):=by kernel_rfl
@[go_sem] theorem kdOf163:Zo Tryz.prog 163=.map:=by kernel_rfl
@[go_sem] theorem typed163:(@Vars.typed Go.Proofs.SAN.vars).contains 163=false:=by kernel_rfl
@[go_sem] theorem nt163:¬(163 ∈ (@Vars.typed Go.Proofs.SAN.vars)):=by decide
@[go_sem] theorem lay165:lay Tryz.prog 165=some (1,false):=by kernel_rfl
@[go_sem] theorem szOf165:zu Tryz.prog 165=some 1:=by kernel_rfl
@[go_sem] theorem mapTys165:Z7 Tryz.prog 165=some (3,164):=by kernel_rfl
@[go_sem] theorem kdOf165:Zo Tryz.prog 165=.map:=by kernel_rfl
@[go_sem] theorem typed165:(@Vars.typed Go.Proofs.SAN.vars).contains 165=false:=by kernel_rfl
@[go_sem] theorem nt165:¬(165 ∈ (@Vars.typed Go.Proofs.SAN.vars)):=by decide
end Go.AM
namespace Go.AM
open Go.Proofs
@[go_sem] theorem lay33:lay Tryz.prog 33=some (2,true):=by kernel_rfl
@[go_sem] theorem szOf33:zu Tryz.prog 33=some 2:=by kernel_rfl
@[go_sem] theorem byOf33:ZS Tryz.prog 33=some 32:=by kernel_rfl
@[go_sem] theorem zerOf33:zo Tryz.prog 33=some (.agg [.fslc true true 0 [],iv .i64 0]):=by kernel_rfl
@[go_sem] theorem fldOf33_0:ZA Tryz.prog 33 0=some (0,1):=by kernel_rfl
@[go_sem] theorem fldOf33_1:ZA Tryz.prog 33 1=some (1,1):=by kernel_rfl
@[go_sem] theorem sizesOk33:Z0 Tryz.prog 33=true:=by kernel_rfl
@[go_sem] theorem typed33:(@Vars.typed Go.Proofs.SAN.vars).contains 33=false:=by kernel_rfl
@[go_sem] theorem nt33:¬(33 ∈ (@Vars.typed Go.Proofs.SAN.vars)):=by decide
@[go_sem] theorem lay39:lay Tryz.prog 39=some (2,true):=by kernel_rfl
@[go_sem] theorem szOf39:zu Tryz.prog 39=some 2:=by kernel_rfl
@[go_sem] theorem byOf39:ZS Tryz.prog 39=some 32:=by kernel_rfl
@[go_sem] theorem zerOf39:zo Tryz.prog 39=some (.agg [.fslc true true 0 [],iv .i64 0]):=by kernel_rfl
@[go_sem] theorem fldOf39_0:ZA Tryz.prog 39 0=some (0,1):=by kernel_rfl
@[go_sem] theorem fldOf39_1:ZA Tryz.prog 39 1=some (1,1):=by kernel_rfl
@[go_sem] theorem sizesOk39:Z0 Tryz.prog 39=true:=by kernel_rfl
@[go_sem] theorem typed39:(@Vars.typed Go.Proofs.SAN.vars).contains 39=false:=by kernel_rfl
@[go_sem] theorem nt39:¬(39 ∈ (@Vars.typed Go.Proofs.SAN.vars)):=by decide
end Go.AM
