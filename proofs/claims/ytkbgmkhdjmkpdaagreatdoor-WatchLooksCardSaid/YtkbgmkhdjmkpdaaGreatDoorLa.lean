/- On how many days each one watches, by the program. Conditions: as each theorem says. -/
import Derived.Shelf.SortM.SortNone
import Derived.Sort.Walk0
import Derived.Shelf.SlGeneric
import Derived.Shelf.SortM.Plain
import Derived.Ground.SlgmProg
import Derived.Test.YtkbgmkhdjmkpdaaGreatDoorProg
import Derived.Test.YtkbgmkhdjmkpdaaGreatDoorGa
import Derived.Test.YtkbgmkhdjmkpdaaGreatDoorWx
import Derived.Test.YtkbgmkhdjmkpdaaGreatDoorDb
namespace Go.AM
open Go.Proofs
@[go_sem] theorem lay111:lay Tryz.prog 111=some (1,false):=by kernel_rfl
@[go_sem] theorem szOf111:zx Tryz.prog 111=some 1:=by kernel_rfl
@[go_sem] theorem jn:Zz Tryz.prog 111=some (9,3):=by kernel_rfl
@[go_sem] theorem kdOf111:Zd Tryz.prog 111=.map:=by kernel_rfl
@[go_sem] theorem zerOf111:zo Tryz.prog 111=some (.c (.map none)):=by kernel_rfl
@[go_sem] theorem typed111:(@Vars.typed Go.Proofs.SAN.vars).contains 111=false:=by kernel_rfl
@[go_sem] theorem nt111:¬(111 ∈ (@Vars.typed Go.Proofs.SAN.vars)):=by decide
@[go_sem] theorem lay112:lay Tryz.prog 112=some (1,false):=by kernel_rfl
@[go_sem] theorem szOf112:zx Tryz.prog 112=some 1:=by kernel_rfl
@[go_sem] theorem mapTys112:Zz Tryz.prog 112=some (9,4):=by kernel_rfl
@[go_sem] theorem kdOf112:Zd Tryz.prog 112=.map:=by kernel_rfl
@[go_sem] theorem zerOf112:zo Tryz.prog 112=some (.c (.map none)):=by kernel_rfl
@[go_sem] theorem typed112:(@Vars.typed Go.Proofs.SAN.vars).contains 112=false:=by kernel_rfl
@[go_sem] theorem nt112:¬(112 ∈ (@Vars.typed Go.Proofs.SAN.vars)):=by decide
@[go_sem] theorem lay117:lay Tryz.prog 117=some (1,false):=by kernel_rfl
@[go_sem] theorem szOf117:zx Tryz.prog 117=some 1:=by kernel_rfl
@[go_sem] theorem mapTys117:Zz Tryz.prog 117=some (119,53):=by kernel_rfl
@[go_sem] theorem kdOf117:Zd Tryz.prog 117=.map:=by kernel_rfl
@[go_sem] theorem zerOf117:zo Tryz.prog 117=some (.c (.map none)):=by kernel_rfl
@[go_sem] theorem typed117:(@Vars.typed Go.Proofs.SAN.vars).contains 117=false:=by kernel_rfl
@[go_sem] theorem nt117:¬(117 ∈ (@Vars.typed Go.Proofs.SAN.vars)):=by decide
@[go_sem] theorem lay47:lay Tryz.prog 47=some (1,false):=by kernel_rfl
@[go_sem] theorem szOf47:zx Tryz.prog 47=some 1:=by kernel_rfl
@[go_sem] theorem byOf47:ZP Tryz.prog 47=some 24:=by kernel_rfl
@[go_sem] theorem zerOf47:zo Tryz.prog 47=some (.fslc true true 0 []):=by kernel_rfl
@[go_sem] theorem eltOf47:ZM Tryz.prog 47=some 58:=by kernel_rfl
@[go_sem] theorem kdOf47:Zd Tryz.prog 47=.slice 58:=by kernel_rfl
@[go_sem] theorem lenK47:qY Tryz.prog 47=.slice:=by kernel_rfl
@[go_sem] theorem typed47:(@Vars.typed Go.Proofs.SAN.vars).contains 47=false:=by kernel_rfl
@[go_sem] theorem nt47:¬(47 ∈ (@Vars.typed Go.Proofs.SAN.vars)):=by decide
@[go_sem] theorem lay120:lay Tryz.prog 120=some (1,false):=by kernel_rfl
@[go_sem] theorem szOf120:zx Tryz.prog 120=some 1:=by kernel_rfl
@[go_sem] theorem byOf120:ZP Tryz.prog 120=some 24:=by kernel_rfl
@[go_sem] theorem zerOf120:zo Tryz.prog 120=some (.fslc true true 0 []):=by kernel_rfl
@[go_sem] theorem eltOf120:ZM Tryz.prog 120=some 119:=by kernel_rfl
@[go_sem] theorem kdOf120:Zd Tryz.prog 120=.slice 119:=by kernel_rfl
@[go_sem] theorem lenK120:qY Tryz.prog 120=.slice:=by kernel_rfl
@[go_sem] theorem typed120:(@Vars.typed Go.Proofs.SAN.vars).contains 120=false:=by kernel_rfl
@[go_sem] theorem nt120:¬(120 ∈ (@Vars.typed Go.Proofs.SAN.vars)):=by decide
@[go_sem] theorem lay129:lay Tryz.prog 129=some (1,false):=by kernel_rfl
@[go_sem] theorem szOf129:zx Tryz.prog 129=some 1:=by kernel_rfl
@[go_sem] theorem byOf129:ZP Tryz.prog 129=some 24:=by kernel_rfl
@[go_sem] theorem zerOf129:zo Tryz.prog 129=some (.fslc true true 0 []):=by kernel_rfl
@[go_sem] theorem eltOf129:ZM Tryz.prog 129=some 33:=by kernel_rfl
@[go_sem] theorem kdOf129:Zd Tryz.prog 129=.slice 33:=by kernel_rfl
@[go_sem] theorem lenK129:qY Tryz.prog 129=.slice:=by kernel_rfl
@[go_sem] theorem typed129:(@Vars.typed Go.Proofs.SAN.vars).contains 129=false:=by kernel_rfl
@[go_sem] theorem nt129:¬(129 ∈ (@Vars.typed Go.Proofs.SAN.vars)):=by decide
@[go_sem] theorem lay58:lay Tryz.prog 58=some (2,true):=by kernel_rfl
@[go_sem] theorem szOf58:zx Tryz.prog 58=some 2:=by kernel_rfl
@[go_sem] theorem byOf58:ZP Tryz.prog 58=some 24:=by kernel_rfl
@[go_sem] theorem zerOf58:zo Tryz.prog 58=some (.agg [sv ByteArray.empty,iv .i64 0]):=by kernel_rfl
@[go_sem] theorem fldOf58_0:ZC Tryz.prog 58 0=some (0,1):=by kernel_rfl
@[go_sem] theorem fldOf58_1:ZC Tryz.prog 58 1=some (1,1):=by kernel_rfl
@[go_sem] theorem sizesOk58:Zn Tryz.prog 58=true:=by kernel_rfl
@[go_sem] theorem typed58:(@Vars.typed Go.Proofs.SAN.vars).contains 58=false:=by kernel_rfl
@[go_sem] theorem nt58:¬(58 ∈ (@Vars.typed Go.Proofs.SAN.vars)):=by decide
@[go_sem] theorem lay74:lay Tryz.prog 74=some (2,true):=by kernel_rfl
@[go_sem] theorem szOf74:zx Tryz.prog 74=some 2:=by kernel_rfl
@[go_sem] theorem byOf74:ZP Tryz.prog 74=some 32:=by kernel_rfl
@[go_sem] theorem zerOf74:zo Tryz.prog 74=some (.agg [.fslc true true 0 [],iv .i64 0]):=by kernel_rfl
@[go_sem] theorem fldOf74_0:ZC Tryz.prog 74 0=some (0,1):=by kernel_rfl
@[go_sem] theorem fldOf74_1:ZC Tryz.prog 74 1=some (1,1):=by kernel_rfl
@[go_sem] theorem sizesOk74:Zn Tryz.prog 74=true:=by kernel_rfl
@[go_sem] theorem typed74:(@Vars.typed Go.Proofs.SAN.vars).contains 74=false:=by kernel_rfl
@[go_sem] theorem nt74:¬(74 ∈ (@Vars.typed Go.Proofs.SAN.vars)):=by decide
@[go_sem] theorem lay65:lay Tryz.prog 65=some (3,true):=by kernel_rfl
@[go_sem] theorem szOf65:zx Tryz.prog 65=some 3:=by kernel_rfl
@[go_sem] theorem byOf65:ZP Tryz.prog 65=some 56:=by kernel_rfl
@[go_sem] theorem zerOf65:zo Tryz.prog 65=some (.agg [.fslc true true 0 [],.fslc true true 0 [],iv .i64 0]):=by kernel_rfl
@[go_sem] theorem fldOf65_0:ZC Tryz.prog 65 0=some (0,2):=by kernel_rfl
@[go_sem] theorem fldOf65_1:ZC Tryz.prog 65 1=some (2,1):=by kernel_rfl
@[go_sem] theorem sizesOk65:Zn Tryz.prog 65=true:=by kernel_rfl
@[go_sem] theorem typed65:(@Vars.typed Go.Proofs.SAN.vars).contains 65=false:=by kernel_rfl
@[go_sem] theorem nt65:¬(65 ∈ (@Vars.typed Go.Proofs.SAN.vars)):=by decide
end Go.AM
namespace Go.AM
open Go.RowKit Go.Proofs Go.Sort Go.Shelf Du
variable {w0 : World} {G : Gh} {h : zH} {w : World}
def lstS (a:ByteArray):List UInt8:=a.data.toList
theorem encStr_lst (a:ByteArray):encStr (lstS a)=.string a:=by simp[encStr,lstS]
theorem lst_map [Vars]:∀ss:List ByteArray,(ss.map lstS).map encStr=ss.map Value.string
 | []=>rfl
 | a :: r=>by simp only[List.map_cons,encStr_lst,lst_map r]
theorem bl_lst (a b:ByteArray):bl a b=decide (lstS a < lstS b):=by rw[bl,ByteArray.toList_eq,ByteArray.toList_eq,bytesLess_eq];rfl
theorem le_lst [Vars] (a b:ByteArray):decide (lstS a≤lstS b)=leB a b:=by
 rw[leB,bl_lst]
 rw[Bool.eq_iff_iff]
 simp only[decide_eq_true_eq,Bool.not_eq_true',decide_eq_false_iff_not]
 exact Iff.rfl
theorem holds_map {α:Type} [Inhabited α] (enc:α→Value) {blk off:Nat} {xs:List α} (hH:Holds id w blk off (xs.map enc).toArray):Holds enc w blk off xs.toArray:=by
 intro j hj
 have hj':j < xs.length:=by simpa using hj
 have:=hH j (by simpa using hj')
 simpa [hj'] using this
theorem putRow_map {α:Type} [Inhabited α] (enc:α→Value) (w:World) (blk off:Nat) (xs:List α):putRow enc w blk off xs.toArray=putRow id w blk off (xs.map enc).toArray:=by
 unfold putRow
 congr 1
 funext cs
 unfold putCells
 congr 1
 funext k v
 split
 ·rename_i hk
  rw[if_pos (by simpa using hk)]
  obtain⟨h1,h2⟩:=hk
  have hj:k - off < xs.length:=by simp at h2;omega
  simp[hj]
 ·rename_i hk
  rw[if_neg (by simpa using hk)]
theorem mergeS_map [Vars]:∀ss:List ByteArray,∃ts:List ByteArray,ts.map lstS=((ss.map lstS).mergeSort fun x y=>decide (x≤y))∧ts.Perm ss∧ts.Pairwise fun a b=>leB a b=true:=by
 intro ss
 refine⟨ss.mergeSort fun a b=>leB a b,?_,List.mergeSort_perm _ _,?_⟩
 ·rw[←List.map_mergeSort (r:=fun a b=>leB a b)]
  ·intro a _ b _;exact (le_lst a b).symm
 ·exact List.pairwise_mergeSort (le:=leB) (fun a b c h1 h2=>QG h1 h2) (fun a b=>by
   rcases leB_or a b with h | h
   ·simp[h]
   ·simp[Qy h]) ss
theorem sortS_ac [Vars] {P:Program} {ρ:Ren} (Ly:SlLaysM.n6 P ρ) (hgo:qp P (ρ.f 6)=true) (n nn:Nat) (h:zH) (ss:List ByteArray) (hn:h n=some (.cells (ss.map sv))) (hsz:ss.length < 4611686018427387904) :
  zQ P (ρ.f 6) [.slc n 0 ss.length 1] h nn fun r h' n'=>r=.tup []∧n'=nn∧∃ts:List ByteArray,ts.Perm ss∧(ts.Pairwise fun a b=>leB a b=true)∧h'=h.upd n (some (.cells (ts.map sv))):=by
 refine⟨hgo,fun w0 G w vs I hf hr=>?_⟩
 simp only[RvL] at hr
 obtain⟨v,vr,rfl,hv,rfl⟩:=hr
 rw[Rv] at hv
 obtain⟨b,lo,t,cap,hreg,rfl,hcap,htot,_⟩:=hv
 have em:∀L:List ByteArray,L.map sv=(L.map Value.string).map AV.c:=fun L=>by rw[List.map_map];rfl
 rw[em] at hn
 obtain⟨hH,hlt,hlen⟩:=JA I hn hreg
 rw[←lst_map] at hH
 have hc:=AnyM.slices_Sort_string Ly b lo cap (ss.map lstS) w (holds_map encStr hH) hlt (by simpa using hsz)
 rw[List.length_map] at hc
 obtain⟨ts,e1,e2,e3⟩:=mergeS_map ss
 rw[←e1] at hc
 rw[Nat.add_zero] at *
 refine hc.mono fun e w' ⟨he,k,os,hw⟩=>?_
 have I2:Inv w0 G (h.upd n (some (.cells (ts.map sv)))) w':=by
  rw[hw,putRow_map,lst_map,em ts]
  exact ((I.ahead k).putRowV hn hreg (by simp[e2.length_eq]) (fun u hu=>by obtain⟨x,_,rfl⟩:=List.mem_map.1 hu;rfl)).grow os
 exact⟨G,_,.tup [],_,nn,he,⟨Ext.refl _ _,rfl⟩,I2,hf,Nat.le_refl _,by simp[Rv,RvL],rfl,rfl,ts,e2,e3,rfl⟩
theorem sortS_none [Vars] {P:Program} {ρ:Ren} (Ly:SlLaysM.n6 P ρ) (hgo:qp P (ρ.f 6)=true) (nl fu:Bool) (s:Nat) (h:zH) (nn:Nat) :
  zQ P (ρ.f 6) [.fslc nl fu s []] h nn fun r h' n'=>r=.tup []∧h'=h∧n'=nn:=by
 refine⟨hgo,fun w0 G w vs I hf hr=>?_⟩
 simp only[RvL] at hr
 obtain⟨v,vr,rfl,hv,rfl⟩:=hr
 rw[Rv] at hv
 obtain⟨a,cap,e1,_⟩:=hv
 have e1:v=.slice a 0 cap:=e1
 subst e1
 refine (AnyM.slices_Sort_string_none (P:=P) (ρ:=ρ) Ly a cap w).mono fun e w' ⟨he,hw⟩=>?_
 subst hw
 exact⟨G,_,.tup [],_,nn,he,⟨Ext.refl _ _,rfl⟩,I,hf,Nat.le_refl _,by simp[Rv,RvL],rfl,rfl,rfl⟩
end Go.AM
namespace Go.Proofs
open Go.Shelf
def Tryz.laysorts_ren:Go.Shelf.Ren:=⟨fun | 6=>116 | 8=>151 | 9=>157 | 19=>188 | 20=>189 | 21=>193 | 22=>194 | 23=>195 | 24=>196 | 25=>197 | 26=>198 | 27=>199 | 28=>200 | 29=>201 | 36=>227 | 31=>221 | 32=>222 | 37=>228 | 38=>229 | 39=>121 | 41=>255 | n=>n,fun | 27=>35 | 29=>9 | 3=>3 | 32=>216 | 26=>35 | 0=>0 | 44=>246 | 46=>248 | 4=>4 | 36=>240 | 35=>239 | 41=>201 | 5=>5 | 9=>9 | 53=>268 | 57=>203 | 63=>296 | 64=>297 | n=>n,fun | n=>n⟩
theorem Tryz.laysorts:Go.Proofs.SlLaysM.n6 Tryz.prog Tryz.laysorts_ren:={
 mixed:=by kernel_rfl
 f6:=⟨Tryz.f116.name,by decide,Tryz.func116.trans (congrArg some (by kernel_rfl))⟩
 f8:=Tryz.func151.trans (congrArg some (by kernel_rfl))
 f9:=⟨Tryz.f157.name,by decide,Tryz.func157.trans (congrArg some (by kernel_rfl))⟩
 f19:=Tryz.func188.trans (congrArg some (by kernel_rfl))
 f20:=Tryz.func189.trans (congrArg some (by kernel_rfl))
 f21:=⟨Tryz.f193.name,by decide,Tryz.func193.trans (congrArg some (by kernel_rfl))⟩
 f22:=⟨Tryz.f194.name,by decide,Tryz.func194.trans (congrArg some (by kernel_rfl))⟩
 f23:=⟨Tryz.f195.name,by decide,Tryz.func195.trans (congrArg some (by kernel_rfl))⟩
 f24:=⟨Tryz.f196.name,by decide,Tryz.func196.trans (congrArg some (by kernel_rfl))⟩
 f25:=⟨Tryz.f197.name,by decide,Tryz.func197.trans (congrArg some (by kernel_rfl))⟩
 f26:=⟨Tryz.f198.name,by decide,Tryz.func198.trans (congrArg some (by kernel_rfl))⟩
 f27:=⟨Tryz.f199.name,by decide,Tryz.func199.trans (congrArg some (by kernel_rfl))⟩
 f28:=⟨Tryz.f200.name,by decide,Tryz.func200.trans (congrArg some (by kernel_rfl))⟩
 f29:=⟨Tryz.f201.name,by decide,Tryz.func201.trans (congrArg some (by kernel_rfl))⟩
 f31:=Tryz.func221.trans (congrArg some (by kernel_rfl))
 f32:=Tryz.func222.trans (congrArg some (by kernel_rfl))
 f36:=⟨Tryz.f227.name,by decide,Tryz.func227.trans (congrArg some (by kernel_rfl))⟩
 f37:=⟨Tryz.f228.name,by decide,Tryz.func228.trans (congrArg some (by kernel_rfl))⟩
 f38:=⟨Tryz.f229.name,by decide,Tryz.func229.trans (congrArg some (by kernel_rfl))⟩
 f39:=⟨Tryz.f121.name,by decide,Tryz.func121.trans (congrArg some (by kernel_rfl))⟩
 f41:=⟨Tryz.f255.name,by decide,Tryz.func255.trans (congrArg some (by kernel_rfl))⟩
 t0:=Tryz.underlying0
 a0:=Tryz.isAgg0
 z0:=Tryz.sizeOf0
 v0:=Tryz.zeroValue0
 t3:=Tryz.underlying3
 a3:=Tryz.isAgg3
 z3:=Tryz.sizeOf3
 v3:=Tryz.zeroValue3
 t4:=Tryz.underlying4
 a4:=Tryz.isAgg4
 z4:=Tryz.sizeOf4
 v4:=Tryz.zeroValue4
 t5:=Tryz.underlying5
 a5:=Tryz.isAgg5
 z5:=Tryz.sizeOf5
 v5:=Tryz.zeroValue5
 t9:=Tryz.underlying9
 a9:=Tryz.isAgg9
 z9:=Tryz.sizeOf9
 v9:=Tryz.zeroValue9
 t26:=Tryz.underlying35
 a26:=Tryz.isAgg35
 z26:=Tryz.sizeOf35
 v26:=Tryz.zeroValue35
 t27:=Tryz.underlying35
 a27:=Tryz.isAgg35
 z27:=Tryz.sizeOf35
 v27:=Tryz.zeroValue35
 t29:=Tryz.underlying9
 a29:=Tryz.isAgg9
 z29:=Tryz.sizeOf9
 v29:=Tryz.zeroValue9
 t32:=Tryz.underlying216
 a32:=Tryz.isAgg216
 z32:=Tryz.sizeOf216
 v32:=Tryz.zeroValue216
 t35:=Tryz.underlying239
 a35:=Tryz.isAgg239
 z35:=Tryz.sizeOf239
 v35:=Tryz.zeroValue239
 t36:=Tryz.underlying240
 a36:=Tryz.isAgg240
 z36:=Tryz.sizeOf240
 v36:=Tryz.zeroValue240
 t41:=Tryz.underlying201
 a41:=Tryz.isAgg201
 z41:=Tryz.sizeOf201
 v41:=Tryz.zeroValue201
 t44:=Tryz.underlying246
 a44:=Tryz.isAgg246
 z44:=Tryz.sizeOf246
 v44:=Tryz.zeroValue246
 t46:=Tryz.underlying248
 a46:=Tryz.isAgg248
 z46:=Tryz.sizeOf248
 v46:=Tryz.zeroValue248
 t53:=Tryz.underlying268
 a53:=Tryz.isAgg268
 z53:=Tryz.sizeOf268
 v53:=Tryz.zeroValue268
 t57:=Tryz.underlying203
 a57:=Tryz.isAgg203
 z57:=Tryz.sizeOf203
 v57:=Tryz.zeroValue203
 t63:=Tryz.underlying296
 a63:=Tryz.isAgg296
 z63:=Tryz.sizeOf296
 v63:=Tryz.zeroValue296
 t64:=Tryz.underlying297
 a64:=Tryz.isAgg297
 z64:=Tryz.sizeOf297
 v64:=Tryz.zeroValue297}
end Go.Proofs
namespace Go.AM
open Go.Proofs Cw Du Go.RowKit
set_option maxRecDepth 10000
set_option maxHeartbeats 4000000
theorem beqB (a b:ByteArray):(a == b)=true↔a=b:=by
 cases a with | mk x=>cases b with | mk y=>
 show (x == y)=true↔_
 rw[beq_iff_eq]
 exact⟨fun h=>by rw[h],fun h=>by injection h⟩
theorem keyS:KeyE Tryz.prog 9 (fun a:ByteArray=>Value.string a) sv eqB:=by
 refine⟨fun p=>?_,fun p q=>?_,zl,fun p=>rfl,fun p=>?_⟩
 ·simp[JP,Tryz.underlying9]
 ·simp only[jS,Option.some.injEq]
  rw[Bool.eq_iff_iff,zl];exact beqB p q
 ·have hb:∀a:ByteArray,(a == a)=true:=fun a=>by
   cases a
   simp only[BEq.beq,ByteArray.beq]
   first | exact Array.isEqv_self _ | simp[Array.isEqv_self]|(rw[Array.isEqv_iff_rel];simp)
  simp[Go.Instr.sameBits,hb]
def vS (a:ByteArray):Value:=.string a
theorem keysS (m:Nat) (h:zH) (n:Nat) (hmn:m < n):APureAt Tryz.prog 57 [.map m] h n (.func (.func 117) [] [.fptr [.map m]]):=by
 refine zQ.pure (zQ.entry (by kernel_rfl) fun hb _=>zV Tryz.func57 rfl (by kernel_rfl) (by simp[Tryz.ntmps57]) ?_)
 refine zD fun K hK=>?_
 refine zA fun K2 hK2=>?_
 simp (disch:=omega) [go_sem,Tryz.ntmps57]
 refine hK2.out _ ?_
 clear hK2 K2
 dsimp only[zC]
 refine hK.out _ ?_
 clear hK K
 refine Zr (t:=1) (m:=n) (c:=[.map m]) (by simp (disch:=omega) only[zL]) (by simp[go_sem]) ?_
 repeat' (first|(refine zD fun K hK=>?_)|(refine zA fun K hK=>?_;simp (disch:=omega) [go_sem, *])|(apply zB.out hK;clear hK K;try with_reducible dsimp only[zC]))
 (refine zf ?_;try dsimp only[zC,zP];refine⟨by simp,_,(by first | rfl|(simp (disch:=omega) [go_sem,zG] <;> rfl)),?_⟩;refine zZ ⟨fun k hk=>(by first | rfl|(repeat rw[zG _ _ _ _ (by omega)])),(by simp[go_sem,below,belowL,hmn]),(by simp[go_sem] <;> omega),by simp,by simp⟩)
theorem keysS_iter (y m clk:Nat) (Z:List (Nat × ByteArray × Int)) (hn:(Z.map (·.1)).Nodup) (hlt:∀b ∈ Z.map (·.1),b < clk) (I:List (Nat × ByteArray × Int)→zH→Nat→Prop) (h:zH) (n:Nat) (K:AV→zH→Nat→Prop)
  (h0:I [] (h.upd (n + 1) (some (.iter m clk clk []))) (n + 2)) (hm:Jh vS (iv .i64) h m clk Z)
  (hp:∀V h' n',I V h' n'→h' (n + 1)=some (.iter m clk clk (V.map (·.1)))∧Jh vS (iv .i64) h' m clk Z∧Went Z V∧n + 2≤n') (mono:∀V h' a b,I V h' a→a≤b→I V h' b)
  (step:∀V b p x h' n' n2,I V h' n'→n'≤n2→(b,p,x) ∈ Z→b ∉ V.map (·.1)→YieldsA Tryz.prog y [sv p] (I (V ++ [(b,p,x)])) (fun _ _=>False) (h'.upd (n + 1) (some (.iter m clk clk (V.map (·.1) ++ [b])))) n2)
  (hI:∀V h' n',I V h' n'→V.Perm Z→K (.tup []) h' n'):zQ Tryz.prog 117 [.yld y,.fptr [.map m]] h n K:=by
 refine zQ.entry (by kernel_rfl) fun hb _=>zV Tryz.func117 rfl (by kernel_rfl) (by simp[Tryz.ntmps117]) ?_
 have hr:=fun nm=>range_K (P:=Tryz.prog) (nm:=nm) jn hm
 replace hn:zB _:=hn
 replace hlt:zB _:=hlt
 replace h0:zB _:=h0
 replace hm:zB _:=hm
 replace hp:zB _:=hp
 replace mono:zB _:=mono
 replace step:zB _:=step
 replace hI:zB _:=hI
 replace hr:zB _:=hr
 repeat' (first|(refine zD fun K hK=>?_)|(refine zA fun K hK=>?_;simp (disch:=omega) [go_sem, *,Tryz.ntmps117]))
 rw[hr.out]
 simp (disch:=omega) [go_sem]
 repeat' (first|(apply zB.out hK;clear hK K;try with_reducible dsimp only[zC])|(refine zI ?_))
 refine zW (fun s'=>∃(n':Nat) (V:List (Nat × ByteArray × Int)) (H':zH),n + 2≤n'∧I V H' n'∧s'=⟨14,[(0,.yld y),(1,.fptr [.map m]),(5,.ptr (n + 1) 0)],H',n'⟩)
  (fun s'=>Z.length - (ZA s'.h (n + 1)).length) ?_ ?_
 ·exact zX (by simp[go_sem]) (Sub.refl _) ⟨_,[],_,by omega,mono.out _ _ _ _ h0.out (by omega),rfl⟩
 ·rintro s' ⟨n',V,H',hn',hIV,rfl⟩
  obtain⟨hit,hmp,hW,_⟩:=hp.out _ _ _ hIV
  replace hIV:zB _:=hIV
  have hsn:(ZA H' (n + 1)).length=V.length:=by unfold ZA;rw[hit];simp
  refine zD fun K hK=>?_
  refine Jv (it:=.tmp 5) (n:=n + 1) (m:=m) (since:=clk) (last:=clk) (clk:=clk) (seen:=V.map (·.1)) rfl rfl rfl rfl (by simp[go_sem]) hit hmp hlt.out (Nat.le_refl _) (fun hall K3 hK3=>?_) (fun j b k v hj hbj hns K3 hK3=>?_)
  ·have hpm:=hW.perm hn.out hall
   replace hpm:zB _:=hpm
   clear hall hmp hit
   simp (disch:=omega) [go_sem]
   refine hK3.out _ ?_
   clear hK3 K3
   dsimp only[zC]
   refine hK.out _ ?_
   clear hK K
   repeat' (first|(refine zD fun K hK=>?_)|(apply zB.out hf;clear ht hf Kt Kf)|(refine zT ?_;simp only[zC,zP,if_true])|(refine zF fun Kt Kf ht hf=>?_;simp (disch:=omega) [go_sem, *];try (refine⟨fun hc=>?_,fun hc=>?_⟩ <;> try (exfalso;omega))))
   refine⟨by simp,_,(by first | rfl|(simp (disch:=omega) [go_sem,zG] <;> rfl)),?_⟩
   exact zZ (hI.out _ _ _ (mono.out _ _ _ _ hIV.out (by omega)) hpm.out)
  ·obtain⟨p,x,hjz,rfl,rfl⟩:∃p x,Z[j]? = some (b,p,x)∧k=vS p∧v=iv .i64 x:=by
    rw[entK_get,List.getElem?_map] at hj
    rw[List.getElem?_map] at hbj
    cases hq:Z[j]? with
    | none=>rw[hq] at hj;cases hj
    | some z=>
     rw[hq] at hj hbj
     simp only[Option.map_some,Option.some.injEq,Prod.mk.injEq] at hj hbj
     exact⟨z.2.1,z.2.2,by rw[←hbj],hj.1.symm,hj.2.symm⟩
   have hzm:=List.mem_of_getElem? hjz
   have hlt2:=hW.lt hns hzm
   have hst:=fun n2 hb=>step.out V b p x H' n' n2 hIV.out hb hzm hns
   have hit2:(H'.upd (n + 1) (some (.iter m clk clk (V.map (·.1) ++ [b])))) (n + 1)=some (.iter m clk clk (V.map (·.1) ++ [b])):=zL _ _ _
   have hmp2:Jh vS (iv .i64) (H'.upd (n + 1) (some (.iter m clk clk (V.map (·.1) ++ [b])))) m clk Z:=by
    have hmn:m≠n + 1:=fun e=>by unfold Jh at hmp;rw[e,hit] at hmp;cases hmp
    unfold Jh;rw[zG _ _ _ _ hmn];exact hmp
   have hent:=entry_K keyS hit2 hmp2 hn.out hjz
   have eof:ZV (vS p)=sv p:=rfl
   rw[eof]
   generalize H'.upd (n + 1) (some (.iter m clk clk (V.map (·.1) ++ [b])))=H2 at *
   replace hst:zB _:=hst
   replace hzm:zB _:=hzm
   replace hns:zB _:=hns
   clear hmp hj hbj hit hjz eof hmp2 hit2
   simp (disch:=omega) [go_sem]
   refine hK3.out _ ?_
   clear hK3 K3
   dsimp only[zC]
   refine hK.out _ ?_
   clear hK K
   repeat' (first|(refine zD fun K hK=>?_)|(refine zA fun K hK=>?_;simp (disch:=omega) [go_sem, *])|(apply zB.out hK;clear hK K;try with_reducible dsimp only[zC])|(apply zB.out ht;clear ht hf Kt Kf)|(refine zI ?_)|(refine zK ?_;simp only[zC])|(refine zF fun Kt Kf ht hf=>?_;simp (disch:=omega) [go_sem, *];try (refine⟨fun hc=>?_,fun hc=>?_⟩ <;> try (exfalso;omega))))
   refine hst.out _ (by omega) _ (fun h3 n3 hI3=>?_) (fun _ _ hf=>hf.elim)
   obtain⟨hit3,_,_,hn3⟩:=hp.out _ _ _ hI3
   have hs3:(ZA h3 (n + 1)).length=V.length + 1:=by unfold ZA;rw[hit3];simp
   replace hI3:zB _:=hI3
   clear hit3
   simp (disch:=omega) [go_sem]
   repeat' (first|(apply zB.out hK;clear hK K;try with_reducible dsimp only[zC])|(apply zB.out hf;clear ht hf Kt Kf)|(refine zK ?_;simp only[zC,zP])|(refine zF fun Kt Kf ht hf=>?_;simp (disch:=omega) [go_sem, *];try (refine⟨fun hc=>?_,fun hc=>?_⟩ <;> try (exfalso;omega))))
   refine zS (by simp (disch:=omega) [go_sem]) (Sub.refl _) ⟨_,V ++ [(b,p,x)],h3,by omega,mono.out _ _ _ _ hI3.out (by omega),rfl⟩ ?_
   simp only[hs3,hsn];omega
theorem ap_S {nm m:Nat} {V:List ByteArray} {X:List ByteArray} {h:zH} {b c:Bool} (hm:h m=acO (V.map sv)) (hX:X≠[]) (hl:V.length + X.length≤2000000) :
  zm Tryz.prog nm 35 (acV 1 m (V.map sv)) (.fslc b c 1 (X.map sv)) h=some (acV 1 nm ((V ++ X).map sv),(h.upd m none).upd nm (acO ((V ++ X).map sv))):=by
 have:=ap_ac (P:=Tryz.prog) (T:=35) (e:=9) (s:=1) (by_:=16) (z:=sv ByteArray.empty) (by kernel_rfl) (by kernel_rfl) (by kernel_rfl) (by kernel_rfl) (by simp[cellsOf,AV.scalar]) (nm:=nm) (m:=m) (L:=V.map sv) (X:=X.map sv) (nl:=b) (full:=c) hm (fun y hy=>by obtain⟨o,_,rfl⟩:=List.mem_map.1 hy;rfl) (by simpa using hX) (by simp;omega)
 rw[List.map_append];exact this
theorem flat_sv:∀L:List ByteArray,flat (L.map sv)=L.map sv
 | []=>rfl
 | a :: r=>by have:=flat_sv r;simp only[flat,List.map_cons,List.flatten_cons] at this ⊢;rw[this];rfl
theorem appendSeqS (m clk:Nat) (Z:List (Nat × ByteArray × Int)) (hn:(Z.map (·.1)).Nodup) (hlt:∀b ∈ Z.map (·.1),b < clk) (hZl:Z.length≤1000000) (h:zH) (n:Nat) (hmn:m < n) (hm:Jh vS (iv .i64) h m clk Z) :
  zQ Tryz.prog 156 [.fslc true true 0 [],.func (.func 117) [] [.fptr [.map m]]] h n fun r h' n'=>∃(q:Nat) (ks:List ByteArray),n≤q∧q < n'∧r=acV 1 q (ks.map sv)∧h' q=acO (ks.map sv)∧ks.Perm (Z.map (·.2.1))∧∀x,x < n→h' x=h x:=by
 refine zQ.entry (by kernel_rfl) fun hb _=>zV Tryz.func156 rfl (by kernel_rfl) (by simp[Tryz.ntmps156]) ?_
 replace hn:zB _:=hn
 replace hlt:zB _:=hlt
 replace hm:zB _:=hm
 repeat' (first|(refine zD fun K hK=>?_)|(refine zA fun K hK=>?_;simp (disch:=omega) [go_sem, *,Tryz.ntmps156])|(apply zB.out hK;clear hK K;try with_reducible dsimp only[zC])|(refine zI ?_))
 refine ja (by rfl) ?_
 generalize hLO:AObj.loop LoopState.ready none 13 _ _ _ _=LO
 replace hLO:zB _:=hLO
 show zQ Tryz.prog 117 [.yld (n + 2 + 1),.fptr [.map m]] ((h.upd n (some (.cells [.fslc true true 0 []]))).upd (n + 2 + 1) (some LO)) (n + 2 + 1 + 1) _
 refine keysS_iter (n + 2 + 1) m clk Z hn.out hlt.out (fun V h' n'=>∃q,Went Z V∧n + 6≤n'∧n + 1≤q∧q≠n + 3∧q≠n + 5∧q < n'∧h' (n + 2 + 1 + 1 + 1)=some (.iter m clk clk (V.map (·.1)))∧h' (n + 2 + 1)=some LO∧h' n=some (.cells [acV 1 q ((V.map (·.2.1)).map sv)])∧h' q=acO ((V.map (·.2.1)).map sv)∧∀x,x < n→h' x=h x) _ _ _ ?_ ?_ ?_ ?_ ?_ ?_
 ·refine⟨n + 1,Went.nil Z,by omega,by omega,by omega,by omega,by omega,zL _ _ _,?_,?_,?_,fun x hx=>?_⟩
  ·simp (disch:=omega) only[zG,zL]
  ·simp (disch:=omega) only[zG,zL];rfl
  ·simp (disch:=omega) only[zG];exact hb.none (by omega)
  ·simp (disch:=omega) only[zG]
 ·unfold Jh;simp (disch:=omega) only[zG];exact hm.out
 ·rintro V h' n' ⟨q,w1,w2,w3,w4,w5,w6,w7,w8,w9,w10,w11⟩
  exact⟨w7,by unfold Jh;rw[w11 m hmn];exact hm.out,w1,by omega⟩
 ·rintro V h' a b ⟨q,w1,w2,w3,w4,w5,w6,w7⟩ hab
  exact⟨q,w1,by omega,w3,w4,w5,by omega,w7⟩
 ·rintro V b p x h' n' n2 ⟨q,w1,w2,w3,w4,w5,w6,w7,w8,w9,w10,w11⟩ hb2 hz hns KK hI hJ
  have hlo7:=hLO.out
  subst hlo7
  refine yield_at (by rw[zG _ _ _ _ (by omega)];exact w8) rfl (by simp) ?_
  simp only[go_sem]
  have hVl:V.length≤1000000:=by have:=w1.len;omega
  have hW2:=w1.snoc hns hz
  have g8:(h'.upd (n + 2 + 1 + 1 + 1) (some (.iter m clk clk (V.map (·.1) ++ [b])))) (n + 2 + 1)=_:=(zG _ _ _ _ (by omega)).trans w8
  have g9:(h'.upd (n + 2 + 1 + 1 + 1) (some (.iter m clk clk (V.map (·.1) ++ [b])))) n=_:=(zG _ _ _ _ (by omega)).trans w9
  have g10:(h'.upd (n + 2 + 1 + 1 + 1) (some (.iter m clk clk (V.map (·.1) ++ [b])))) q=_:=(zG _ _ _ _ (by omega)).trans w10
  have g11:∀x,x < n→(h'.upd (n + 2 + 1 + 1 + 1) (some (.iter m clk clk (V.map (·.1) ++ [b])))) x=h x:=fun x hx=>(zG _ _ _ _ (by omega)).trans (w11 x hx)
  have g7:=zL h' (n + 2 + 1 + 1 + 1) (some (.iter m clk clk (V.map (·.1) ++ [b])))
  generalize h'.upd (n + 2 + 1 + 1 + 1) (some (.iter m clk clk (V.map (·.1) ++ [b])))=H2 at *
  replace g7:zB _:=g7
  replace g10:zB _:=g10
  replace g11:zB _:=g11
  replace hW2:zB _:=hW2
  replace hz:zB _:=hz
  replace hns:zB _:=hns
  clear w7 w8 w9 w10 w11
  repeat' (first|(refine zA fun K hK=>?_;simp (disch:=omega) [go_sem, *])|(apply zB.out hK;clear hK K;try with_reducible dsimp only[zC]))
  refine⟨_,_,_,_,_,g8,?_⟩
  dsimp only
  generalize hH5:zH.upd H2 _ _=H5
  have k8:=(congrFun hH5 (n + 2 + 1)).symm.trans (zL _ _ _)
  have k9:H5 n=some (.cells [acV 1 q ((V.map (·.2.1)).map sv)]):=by rw[←hH5,zG _ _ _ _ (by omega)];exact g9
  have k10:H5 q=acO ((V.map (·.2.1)).map sv):=by rw[←hH5,zG _ _ _ _ (by omega)];exact g10.out
  have k7:H5 (n + 2 + 1 + 1 + 1)=some (.iter m clk clk (V.map (·.1) ++ [b])):=by rw[←hH5,zG _ _ _ _ (by omega)];exact g7.out
  have k11:∀x,x < n→H5 x=h x:=fun x hx=>by rw[←hH5,zG _ _ _ _ (by omega)];exact g11.out x hx
  replace k8:zB _:=k8
  replace k10:zB _:=k10
  replace k11:zB _:=k11
  replace k7:zB _:=k7
  clear hH5 g7 g8 g9 g10 g11
  obtain⟨M,hM⟩:∃M,zB (M=V.map (·.2.1)):=⟨_,rfl⟩
  simp only[←hM.out] at k9 k10
  have hMl:M.length=V.length:=by rw[hM.out,List.length_map]
  repeat' (first|(refine zA fun K hK=>?_;simp (disch:=omega) [go_sem, *])|(refine zI ?_))
  have hap:=ap_S (nm:=n2 + 1 + 3) (m:=q) (V:=M) (X:=[p]) (h:=H5) (b:=false) (c:=false) k10.out (by simp) (by simp;omega)
  simp only[List.map_cons,List.map_nil] at hap
  have e1:acV 1 (n2 + 1 + 3) ((M ++ [p]).map sv)=.slc (n2 + 1 + 3) 0 (M.length + 1) 1:=by rw[ZQ (by simp)];simp
  rw[hap,e1]
  have s9:((H5.upd q none).upd (n2 + 1 + 3) (acO ((M ++ [p]).map sv))) n=_:=(zG _ _ _ _ (by omega)).trans ((zG _ _ _ _ (by omega)).trans k9)
  have s10:=zL (H5.upd q none) (n2 + 1 + 3) (acO ((M ++ [p]).map sv))
  have s8:((H5.upd q none).upd (n2 + 1 + 3) (acO ((M ++ [p]).map sv))) (n + 2 + 1)=_:=(zG _ _ _ _ (by omega)).trans ((zG _ _ _ _ (by omega)).trans k8.out)
  have s7:((H5.upd q none).upd (n2 + 1 + 3) (acO ((M ++ [p]).map sv))) (n + 2 + 1 + 1 + 1)=_:=(zG _ _ _ _ (by omega)).trans ((zG _ _ _ _ (by omega)).trans k7.out)
  have s11:∀x,x < n→((H5.upd q none).upd (n2 + 1 + 3) (acO ((M ++ [p]).map sv))) x=h x:=fun x hx=>(zG _ _ _ _ (by omega)).trans ((zG _ _ _ _ (by omega)).trans (k11.out x hx))
  generalize (H5.upd q none).upd (n2 + 1 + 3) (acO ((M ++ [p]).map sv))=H7 at *
  replace hap:zB _:=trivial
  replace e1:zB _:=e1
  replace s7:zB _:=s7
  replace s8:zB _:=s8
  replace s10:zB _:=s10
  replace s11:zB _:=s11
  clear k9 k10 k8 k11 k7
  simp (disch:=omega) [go_sem,s9]
  repeat' (first|(apply zB.out hK;clear hK K;try with_reducible dsimp only[zC]))
  have eM:(V ++ [(b,p,x)]).map (fun z=>z.2.1)=M ++ [p]:=by rw[List.map_append,←hM.out];rfl
  refine⟨_,_,_,_,_,(zG _ _ _ _ (by omega)).trans s8.out,hI.out _ _ ?_⟩
  dsimp only
  exact⟨n2 + 1 + 3,hW2.out,by omega,by omega,by omega,by omega,by omega,by rw[zG _ _ _ _ (by omega),zG _ _ _ _ (by omega),s7.out];simp,zL _ _ _,by rw[zG _ _ _ _ (by omega),zL,eM,e1.out],by rw[zG _ _ _ _ (by omega),zG _ _ _ _ (by omega),eM];exact s10.out,fun x hx=>by rw[zG _ _ _ _ (by omega),zG _ _ _ _ (by omega)];exact s11.out x hx⟩
 ·rintro V h' n' ⟨q,w1,w2,w3,w4,w5,w6,w7,w8,w9,w10,w11⟩ hpm
  obtain⟨M,hM⟩:∃M,zB (M=V.map (·.2.1)):=⟨_,rfl⟩
  simp only[←hM.out] at w9 w10
  have hMp:zB (M.Perm (Z.map (·.2.1))):=by rw[hM.out];exact hpm.map _
  replace hpm:zB _:=trivial
  replace w10:zB _:=w10
  replace w11:zB _:=w11
  show JB (n + 2 + 1) _ _ _ _ _
  rw[JB,w8,←hLO.out]
  refine⟨by simp,?_⟩
  dsimp only[zP,zC]
  repeat (refine hK.out _ ?_;clear hK K;try with_reducible dsimp only[zC])
  repeat' (first|(refine zD fun K hK=>?_)|(refine zA fun K hK=>?_;simp (disch:=omega) [go_sem, *,zG])|(apply zB.out hK;clear hK K;try with_reducible dsimp only[zC]))
  refine zf ?_
  try dsimp only[zC,zP]
  refine⟨by simp,_,(by first | rfl|(simp (disch:=omega) [go_sem,zG] <;> rfl)),?_⟩
  show ZD _ _ (acV 1 q (M.map sv)) _ _
  refine zZ ⟨q,M,by omega,by omega,rfl,by rw[zG _ _ _ _ (by omega)];exact w10.out,hMp.out,fun x hx=>by rw[zG _ _ _ _ (by omega)];exact w11.out x hx⟩
def srtS (ks:List ByteArray):List ByteArray:=ks.mergeSort leB
theorem QQ (ks:List ByteArray):(srtS ks).Perm ks:=List.mergeSort_perm _ _
theorem srtS_le (ks:List ByteArray):(srtS ks).Pairwise fun a b=>leB a b=true:=
 List.pairwise_mergeSort (le:=leB) (fun a b c h1 h2=>QG h1 h2) (fun a b=>by
  rcases leB_or a b with h | h
  ·simp[h]
  ·simp[Qy h]) ks
theorem leB_anti {a b:ByteArray} (h1:leB a b=true) (h2:leB b a=true):a=b:=by
 simp only[leB,Bool.not_eq_true'] at h1 h2
 exact bl_eq h2 h1
theorem srt_uniq:∀(A B:List ByteArray),A.Perm B→(A.Pairwise fun a b=>leB a b=true)→(B.Pairwise fun a b=>leB a b=true)→A=B:=by
 intro A B hp ha hb
 exact hp.eq_of_pairwise (fun a b _ _ h1 h2=>leB_anti h1 h2) ha hb
theorem collectS (m clk:Nat) (Z:List (Nat × ByteArray × Int)) (hn:(Z.map (·.1)).Nodup) (hlt:∀b ∈ Z.map (·.1),b < clk) (hZl:Z.length≤1000000) (h:zH) (n:Nat) (hmn:m < n) (hm:Jh vS (iv .i64) h m clk Z) :
  zQ Tryz.prog 115 [.func (.func 117) [] [.fptr [.map m]]] h n fun r h' n'=>∃(q:Nat) (ks:List ByteArray),n≤q∧q < n'∧r=acV 1 q (ks.map sv)∧h' q=acO (ks.map sv)∧ks.Perm (Z.map (·.2.1))∧∀x,x < n→h' x=h x:=by
 refine zQ.entry (by kernel_rfl) fun hb _=>zV Tryz.func115 rfl (by kernel_rfl) (by simp[Tryz.ntmps115]) ?_
 have k1:=fun nn hh=>appendSeqS m clk Z hn hlt hZl h nn hh hm
 replace k1:zB _:=k1
 clear hn hlt hm
 repeat' (first|(refine zD fun K hK=>?_)|(refine zA fun K hK=>?_;simp (disch:=omega) [go_sem, *,Tryz.ntmps115])|(apply zB.out hK;clear hK K;try with_reducible dsimp only[zC]))
 refine .inl ((k1.out _ (by omega)).mono fun r h' n' hp=>?_)
 obtain⟨q,ks,a1,a2,rfl,a4,a5,a6⟩:=hp
 replace a4:zB _:=a4
 replace a5:zB _:=a5
 replace a6:zB _:=a6
 simp (disch:=omega) [go_sem]
 repeat' (first|(apply zB.out hK;clear hK K;try with_reducible dsimp only[zC]))
 refine zf ?_
 try dsimp only[zC,zP]
 refine⟨by simp,_,(by first | rfl|(simp (disch:=omega) [go_sem,zG] <;> rfl)),?_⟩
 show ZD _ _ (acV 1 q (ks.map sv)) _ _
 exact zZ ⟨q,ks,by omega,by omega,rfl,a4.out,a5.out,fun x hx=>a6.out x (by omega)⟩
theorem ret_txV {fl:Nat} {K:AV→zH→Nat→Prop} {m:Nat} {V:List ByteArray} {h:zH} {n:Nat} (hm:h m=some (.cells (V.map sv))) (h0:V≠[]) (hk:ZD fl K (txF V) (h.upd m none) n):ZD fl K (.slc m 0 V.length 1) h n:=by
 refine Qa false hm ?_
 have ef:fzD m (V.map sv) false (.slc m 0 V.length 1)=.fslc false false 1 (V.map sv):=by
  simp only[fzD,Nat.zero_add,List.drop_zero]
  have e:=elemsT V
  rw[flat_sv] at e
  rw[if_pos ⟨trivial,by simp,by simp⟩,e]
 rw[ef]
 simpa [txF,h0] using hk
theorem sortedS (m clk:Nat) (Z:List (Nat × ByteArray × Int)) (hn:(Z.map (·.1)).Nodup) (hlt:∀b ∈ Z.map (·.1),b < clk) (hZl:Z.length≤1000000) (h:zH) (n:Nat) (hmn:m < n) (hm:Jh vS (iv .i64) h m clk Z) :
  APureAt Tryz.prog 56 [.func (.func 117) [] [.fptr [.map m]]] h n (txF (srtS (Z.map (·.2.1)))):=by
 refine zQ.pure (zQ.entry (by kernel_rfl) fun hb _=>zV Tryz.func56 rfl (by kernel_rfl) (by simp[Tryz.ntmps56]) ?_)
 have k1:=fun nn hh=>collectS m clk Z hn hlt hZl h nn hh hm
 obtain⟨KS,hKS⟩:∃KS,zB (KS=Z.map (·.2.1)):=⟨_,rfl⟩
 simp only[←hKS.out] at k1 ⊢
 have hKl:KS.length≤1000000:=by rw[hKS.out,List.length_map];exact hZl
 replace k1:zB _:=k1
 clear hn hlt hm
 repeat' (first|(refine zD fun K hK=>?_)|(refine zA fun K hK=>?_;simp (disch:=omega) [go_sem, *,Tryz.ntmps56])|(apply zB.out hK;clear hK K;try with_reducible dsimp only[zC]))
 refine .inl ((k1.out _ (by omega)).mono fun r h' n' hp=>?_)
 obtain⟨q,ks,a1,a2,rfl,a4,a5,a6⟩:=hp
 have hkl:=a5.length_eq
 have hser:zB (srtS KS=srtS ks):=srt_uniq _ _ ((QQ KS).trans (a5.symm.trans (QQ ks).symm)) (srtS_le KS) (srtS_le ks)
 by_cases h0:ks=[]
 ·subst h0
  have k2:=fun nn=>sortS_none (ρ:=Tryz.laysorts_ren) Tryz.laysorts (by kernel_rfl) true true 0 h' nn
  change ∀nn,zQ Tryz.prog 116 _ _ _ _ at k2
  have a6:zB (∀x,x < n→h' x=h x):=fun x hx=>a6 x (by omega)
  simp only[List.map_nil,jk]
  replace a4:zB _:=trivial
  replace a5:zB _:=trivial
  replace k2:zB _:=k2
  simp (disch:=omega) [go_sem]
  repeat' (first|(refine zD fun K hK=>?_)|(refine zA fun K hK=>?_;simp (disch:=omega) [go_sem, *])|(apply zB.out hK;clear hK K;try with_reducible dsimp only[zC]))
  refine .inl ((k2.out _).mono fun r h3 n3 hp=>?_)
  obtain⟨rfl,rfl,rfl⟩:=hp
  simp (disch:=omega) [go_sem]
  repeat' (first|(refine zD fun K hK=>?_)|(refine zA fun K hK=>?_;simp (disch:=omega) [go_sem, *])|(apply zB.out hK;clear hK K;try with_reducible dsimp only[zC]))
  refine zf ?_
  try dsimp only[zC,zP]
  refine⟨by simp,_,(by first | rfl|(simp (disch:=omega) [go_sem,zG] <;> rfl)),?_⟩
  exact zZ ⟨a6.out,by simp[go_sem,below,belowL,ZW],by rw[hser.out];simp[go_sem,ZW,srtS,txF],by simp,by simp⟩
 ·have h1:ks.map sv≠[]:=by simpa using h0
  have ev:acV 1 q (ks.map sv)=.slc q 0 ks.length 1:=by rw[ZQ h1,List.length_map]
  have em:h' q=some (.cells (ks.map sv)):=by rw[a4,Zm h1,flat_sv]
  have k2:=fun nn=>sortS_ac (ρ:=Tryz.laysorts_ren) Tryz.laysorts (by kernel_rfl) q nn h' ks em (by omega)
  replace hkl:zB _:=hkl
  change ∀nn,zQ Tryz.prog 116 _ _ _ _ at k2
  rw[ev]
  have a6:zB (∀x,x < n→h' x=h x):=fun x hx=>a6 x (by omega)
  replace a4:zB _:=trivial
  replace a5:zB _:=trivial
  replace k2:zB _:=k2
  replace h0:zB _:=h0
  replace em:zB _:=trivial
  replace ev:zB _:=trivial
  clear h1
  simp (disch:=omega) [go_sem]
  repeat' (first|(refine zD fun K hK=>?_)|(refine zA fun K hK=>?_;simp (disch:=omega) [go_sem, *])|(apply zB.out hK;clear hK K;try with_reducible dsimp only[zC]))
  refine .inl ((k2.out _).mono fun r h3 n3 hp=>?_)
  obtain⟨rfl,rfl,ts,t1,t2,rfl⟩:=hp
  have ht:zB (srtS KS=ts):=by rw[hser.out];exact srt_uniq _ _ ((QQ ks).trans t1.symm) (srtS_le ks) t2
  have htl:=t1.length_eq
  have ht0:zB (ts≠[]):=fun e=>by subst e;exact h0.out (List.length_eq_zero_iff.1 htl.symm)
  replace t1:zB _:=trivial
  replace t2:zB _:=trivial
  simp (disch:=omega) [go_sem]
  repeat' (first|(refine zD fun K hK=>?_)|(refine zA fun K hK=>?_;simp (disch:=omega) [go_sem, *])|(apply zB.out hK;clear hK K;try with_reducible dsimp only[zC]))
  refine zf ?_
  try dsimp only[zC,zP]
  refine⟨by simp,_,(by first | rfl|(simp (disch:=omega) [go_sem,zG] <;> rfl)),?_⟩
  show ZD _ _ (.slc q 0 ks.length 1) _ _
  rw[←htl]
  refine ret_txV (zL _ _ _) ht0.out ?_
  rw[←ht.out]
  exact zZ ⟨fun x hx=>by rw[zG _ _ _ _ (by omega),zG _ _ _ _ (by omega)];exact a6.out x hx,below_txF _ _,rfl,by simp,by simp⟩
end Go.AM
namespace Du
theorem ldS_succ (ls:List Lin) (lo:Int) (k:Nat):ldS ls lo (k + 1)=ldD (ldS ls lo k) (duR ls (lo + k)):=by
 unfold ldS;rw[dys_snoc,List.foldl_append];rfl
theorem ldS_to (ls:List Lin) (lo d:Int) (h:lo≤d):ldS ls lo (d + 1 - lo).toNat=ldD (ldS ls lo (d - lo).toNat) (duR ls d):=by
 have e:(d + 1 - lo).toNat=(d - lo).toNat + 1:=by omega
 rw[e,ldS_succ];congr 2;omega
theorem ldS_srt (ls:List Lin) (lo:Int):∀k,Q4 (ldS ls lo k)
 | 0=>List.Pairwise.nil
 | k + 1=>by rw[ldS_succ];exact (ldD_ok ByteArray.empty _ _ (ldS_srt ls lo k)).1
theorem ldS_le (ls:List Lin) (lo:Int) (s:ByteArray):∀k:Nat,0≤ldN (ldS ls lo k) s∧ldN (ldS ls lo k) s≤k
 | 0=>by simp[ldS,dys,ldN]
 | k + 1=>by
  have ih:=ldS_le ls lo s k
  rw[ldS_succ,(ldD_ok s _ _ (ldS_srt ls lo k)).2.1]
  split <;> omega
theorem addL_len (s:ByteArray):∀O:Ld,(Zu O s).length≤O.length + 1
 | []=>by simp[Zu]
 | x :: r=>by
  have:=addL_len s r
  rw[Zu];split
  ·simp only[List.length_cons];omega
  ·split <;> simp
theorem foldA_len:∀(L:List ByteArray) (O:Ld),(L.foldl Zu O).length≤O.length + L.length
 | [],_=>by simp
 | x :: r,O=>by
  have h1:=foldA_len r (Zu O x)
  have h2:=addL_len x O
  rw[List.foldl_cons,List.length_cons];omega
theorem fstP_len:∀(l seen:List Pr),(Jm seen l).length≤l.length
 | [],_=>by simp[Jm]
 | p :: r,seen=>by
  have:=fstP_len r (seen ++ [p])
  rw[Jm];split <;> simp only[List.length_cons] <;> omega
theorem ldS_len (ls:List Lin) (lo:Int):∀k:Nat,(ldS ls lo k).length≤k * ls.length
 | 0=>by simp[ldS,dys]
 | k + 1=>by
  have ih:=ldS_len ls lo k
  rw[ldS_succ]
  have h1:=foldA_len (Jm [] (duR ls (lo + k))) (ldS ls lo k)
  have h2:=fstP_len (duR ls (lo + k)) []
  have h3:(duR ls (lo + k)).length≤ls.length:=by unfold duR;rw[(Z7 _).length_eq];exact dayD_len ls _
  rw[Nat.succ_mul];unfold ldD;omega
theorem srtL_keys {O:Ld} (h:Q4 O):(O.map (·.1)).Pairwise (fun a b=>leB a b=true)∧(O.map (·.1)).Nodup:=by
 constructor
 ·rw[List.pairwise_map];exact h.imp fun h=>Qy h
 ·refine List.pairwise_map.2 (h.imp fun h e=>?_)
  rw[e] at h;simp[bl,Zt] at h
theorem ldN_at:∀(O:Ld) (i:Nat) (p:ByteArray × Int),Q4 O→O[i]? = some p→ldN O p.1=p.2
 | [],_,_,_,h=>by simp at h
 | x :: r,0,p,_,h=>by
  simp only[List.getElem?_cons_zero,Option.some.injEq] at h
  subst h;rw[ldN,if_pos ((zl _ _).2 rfl)]
 | x :: r,i + 1,p,hs,h=>by
  simp only[List.getElem?_cons_succ] at h
  have a:=List.pairwise_cons.1 hs
  have hm:=a.1 p (List.mem_of_getElem? h)
  rw[ldN,if_neg (by rw[bl_ne hm];simp)]
  exact ldN_at r i p a.2 h
end Du
namespace Go.AM
open Go.Proofs Cw Du Go.RowKit
set_option maxRecDepth 10000
set_option maxHeartbeats 4000000
theorem ite_iff {p q:Prop} [Decidable p] [Decidable q] (h:p↔q):(if p then (1:Int) else 0)=if q then 1 else 0:=by
 by_cases hp:p
 ·rw[if_pos hp,if_pos (h.1 hp)]
 ·rw[if_neg hp,if_neg fun hq=>hp (h.2 hq)]
structure RelL (E:List (ByteArray × Int)) (O:Ld):Prop where
 nd:(E.map (·.1)).Nodup
 val:∀s,(Zo eqB s E).getD 0=ldN O s
 key:∀s,s ∈ E.map (·.1)↔s ∈ O.map (·.1)
open Classical in
structure RelV (E:List (ByteArray × Int)) (O:Ld) (V:List ByteArray):Prop where
 nd:(E.map (·.1)).Nodup
 val:∀s,(Zo eqB s E).getD 0=ldN O s + if s ∈ V then 1 else 0
 key:∀s,s ∈ E.map (·.1)↔s ∈ O.map (·.1)∨s ∈ V
open Classical in
theorem RelL.v {E:List (ByteArray × Int)} {O:Ld} (R:RelL E O):RelV E O []:=⟨R.nd,fun s=>by rw[R.val];simp,fun s=>by rw[R.key];simp⟩
open Classical in
theorem RelV.snoc {E:List (ByteArray × Int)} {O:Ld} {V:List ByteArray} (R:RelV E O V) {p:ByteArray} (hp:p ∉ V):RelV (Zx eqB p ((Zo eqB p E).getD 0 + 1) E) O (V ++ [p]):=by
 refine⟨nodup_put zl p _ E R.nd,fun s=>?_,fun s=>?_⟩
 ·rw[valK_put zl p s]
  by_cases e:s=p
  ·subst e
   rw[(zl s s).2 rfl]
   simp[R.val,hp]
  ·have:eqB s p=false:=by
    cases e2:eqB s p with
    | false=>rfl
    | true=>exact absurd ((zl _ _).1 e2) e
   have e3:(s ∈ V ++ [p])↔s ∈ V:=by simp[e]
   rw[this]
   simp only[Bool.false_eq_true,if_false,R.val]
   rw[ite_iff e3]
 ·rw[j1 zl,R.key,List.mem_append,List.mem_singleton]
  exact⟨fun h=>h.elim (fun h=>.inr (.inr h)) fun h=>h.elim .inl fun h=>.inr (.inl h),fun h=>h.elim (fun h=>.inr (.inl h)) fun h=>h.elim (fun h=>.inr (.inr h)) .inl⟩
open Classical in
theorem RelV.day {E:List (ByteArray × Int)} {O:Ld} {V:List ByteArray} (R:RelV E O V) (hs:Q4 O) {l:List Pr} (hV:∀s,s ∈ V↔s ∈ l.map (·.2)):RelL E (ldD O l):=by
 refine⟨R.nd,fun s=>?_,fun s=>?_⟩
 ·rw[R.val,(ldD_ok s O l hs).2.1,ite_iff (hV s)]
 ·rw[R.key,(ldD_ok s O l hs).2.2,hV]
theorem RelL.keys {E:List (ByteArray × Int)} {O:Ld} (R:RelL E O) (hs:Q4 O):srtS (E.map (·.1))=O.map (·.1):=by
 have h1:=srtL_keys hs
 have hp:(E.map (·.1)).Perm (O.map (·.1)):=(List.perm_ext_iff_of_nodup R.nd h1.2).2 fun s=>R.key s
 exact srt_uniq _ _ ((QQ _).trans hp) (srtS_le _) h1.1
theorem RelL.len {E:List (ByteArray × Int)} {O:Ld} (R:RelL E O) (hs:Q4 O):E.length=O.length:=by
 have h1:=srtL_keys hs
 have hp:(E.map (·.1)).Perm (O.map (·.1)):=(List.perm_ext_iff_of_nodup R.nd h1.2).2 fun s=>R.key s
 have:=hp.length_eq
 simpa using this
def ldA (y:ByteArray × Int):AV:=.agg [sv y.1,iv .i64 y.2]
theorem ld_len (y:ByteArray × Int):(cellsOf (ldA y)).length=2:=rfl
theorem elemsLd:∀D:Ld,Zp true 2 D.length (flat (D.map ldA))=D.map ldA
 | []=>rfl
 | p :: r=>by
  have ih:=elemsLd r
  have e:flat ((p :: r).map ldA)=[sv p.1,iv .i64 p.2] ++ flat (r.map ldA):=by simp[flat,ldA,cellsOf]
  rw[e]
  simp only[Zp,List.length_cons,qP,List.map_cons] at ih ⊢
  have e1:List.drop 2 ([sv p.1,iv .i64 p.2] ++ flat (r.map ldA))=flat (r.map ldA):=rfl
  have e2:List.take 2 ([sv p.1,iv .i64 p.2] ++ flat (r.map ldA))=[sv p.1,iv .i64 p.2]:=rfl
  rw[e1,e2,ih];rfl
theorem ap_ld {nm m:Nat} {V:Ld} {X:Ld} {h:zH} {b c:Bool} (hm:h m=acO (V.map ldA)) (hX:X≠[]) (hl:V.length + X.length≤2000000) :
  zm Tryz.prog nm 47 (acV 2 m (V.map ldA)) (.fslc b c 2 (X.map ldA)) h=some (acV 2 nm ((V ++ X).map ldA),(h.upd m none).upd nm (acO ((V ++ X).map ldA))):=by
 have:=ap_ac (P:=Tryz.prog) (T:=47) (e:=58) (s:=2) (by_:=24) (z:=.agg [sv ByteArray.empty,iv .i64 0]) (by kernel_rfl) (by kernel_rfl) (by kernel_rfl) (by kernel_rfl) (by simp[cellsOf,AV.scalar]) (nm:=nm) (m:=m) (L:=V.map ldA) (X:=X.map ldA) (nl:=b) (full:=c) hm (fun y hy=>by obtain⟨o,_,rfl⟩:=List.mem_map.1 hy;exact ld_len o) (by simpa using hX) (by simp;omega)
 rw[List.map_append];exact this
def ldF (L:Ld):AV:=if L=[] then .fslc true true 0 [] else .fslc false false 2 (L.map ldA)
theorem below_ldF (n:Nat) (V:Ld):below n (ldF V):=by
 unfold ldF
 split
 ·simp[below,belowL]
 ·simp[below];rw[Z1];intro y hy;obtain⟨o,_,rfl⟩:=List.mem_map.1 hy;simp[ldA,below,belowL]
theorem ret_ldV {fl:Nat} {K:AV→zH→Nat→Prop} {m:Nat} {V:Ld} {e:Int} {h:zH} {n:Nat} (hm:h m=acO (V.map ldA)) (hk:ZD fl K (.tup [ldF V,iv .i64 e]) (h.upd m none) n):ZD fl K (.tup [acV 2 m (V.map ldA),iv .i64 e]) h n:=by
 by_cases h0:V=[]
 ·subst h0
  rw[JQ hm] at hk
  exact hk
 ·have h1:V.map ldA≠[]:=by simpa using h0
  rw[Zm h1] at hm
  rw[ZQ h1,List.length_map]
  refine Qa true hm ?_
  have hfl:(flat (V.map ldA)).length=V.length * 2:=by
   have:=Zy (s:=2) (L:=V.map ldA) (fun y hy=>by obtain⟨o,_,rfl⟩:=List.mem_map.1 hy;exact ld_len o)
   rw[this,List.length_map]
  have ef:fzD m (flat (V.map ldA)) true (.tup [.slc m 0 V.length 2,iv .i64 e])=.tup [.fslc false false 2 (V.map ldA),iv .i64 e]:=by
   simp only[fzD,fzDL,Nat.zero_add,List.drop_zero]
   rw[if_pos ⟨trivial,by omega,by simp⟩,elemsLd]
  rw[ef]
  simpa [ldF,h0] using hk
def qV (ls:List Lin) (l:List Ordr) (lo hi:Int):Ld × Int:=if Zc ls l lo hi≠0 then ([],Zc ls l lo hi) else (ldS ls lo (hi + 1 - lo).toNat,0)
theorem Loads_spec (nlL fuL:Bool) (sL:Nat) (ls:List Lin) (hnlL:ls=[]∨nlL=false∧sL=8) (hsL:smL ls) (hlL:ls.length≤1000000) (nl fu:Bool) (s:Nat) (l:List Ordr) (hnl:l=[]∨nl=false∧s=7) (hw:wfO l) (hs:smO l) (hl:l.length≤1000000) (lo hi:Int) :
  zJ Tryz.prog 17 [.agg [.fslc nlL fuL sL (ls.map zg),.fslc nl fu s (l.map ZH)],.agg [iv .i64 lo,iv .i64 hi]] (.tup [ldF (qV ls l lo hi).1,iv .i64 (qV ls l lo hi).2]):=by
 intro h n
 have k1:=qO nlL fuL sL ls hnlL hsL hlL nl fu s l hnl hw hs hl lo hi
 refine zQ.pure (zQ.entry (by kernel_rfl) fun hb _=>zV Tryz.func17 rfl (by kernel_rfl) (by simp[Tryz.ntmps17]) ?_)
 by_cases hc:Zc ls l lo hi=0
 ·rw[hc] at k1
  obtain⟨hc0,hlo,hlh,hhi⟩:=jD hc
  have hz:=j4 hc0 hsL
  have ho:qV ls l lo hi=(ldS ls lo (hi + 1 - lo).toNat,0):=by unfold qV;rw[if_neg (by simpa using hc)]
  have k3:=each_spec nlL fuL sL (ls.map zg) nl fu s (l.map ZH) lo hi
  replace ho:zB _:=ho
  replace hz:zB _:=hz
  replace hnlL:zB _:=hnlL
  generalize hLL:List.map zg ls=LL at *
  generalize List.map ZH l=OO at *
  replace hLL:zB _:=hLL
  clear hc hc0 hsL hs hw hnl
  repeat' (first|(refine zD fun K hK=>?_)|(refine zA fun K hK=>?_;simp (disch:=omega) [go_sem, *,zG,Tryz.ntmps17])|(apply zB.out hK;clear hK K;try with_reducible dsimp only[zC])|(apply zB.out hf;clear ht hf Kt Kf)|(with_reducible refine zJ.gcall (k1) ?_;try simp (disch:=omega) [go_sem, *])|(with_reducible refine zJ.gcall (k3) ?_;try simp (disch:=omega) [go_sem, *])|(refine zI ?_)|(refine zK ?_;simp only[zC])|(refine zF fun Kt Kf ht hf=>?_;simp (disch:=omega) [go_sem, *];try (refine⟨fun hc=>?_,fun hc=>?_⟩ <;> try (exfalso;omega))))
  refine Zr (t:=7) (m:=n + 4 + 4 + 2 + 1) (c:=[.map (n + 10)]) (by simp (disch:=omega) only[zL]) (by simp[go_sem]) ?_
  dsimp only
  clear k1 k3
  refine ja (by rfl) ?_
  generalize hLO:AObj.loop LoopState.ready none 68 _ _ _ _=LO
  replace hLO:zB _:=hLO
  show zQ Tryz.prog 113 [.yld (n + 4 + 4 + 2 + 3 + 3),.fptr [iv .i64 lo,iv .i64 hi],.fptr [.fslc nlL fuL sL LL,.fslc nl fu s OO]] _ _ _
  rw[←hLL.out]
  refine each_iter nlL fuL sL ls hnlL.out hlL hz.out.1 nl fu s OO lo hi hlo hlh hhi _ (fun d h' n2=>∃E clk bs O,n + 17≤n2∧O=ldS ls lo (d - lo).toNat∧MapK vS (iv .i64) h' (n + 10) E clk bs∧RelL E O∧h' (n + 4 + 4 + 2 + 3 + 3)=some LO∧(∀x,x < n→h' x=h x)) (fun _ _=>False) _ _ _ ?_ ?_ ?_ ?_ ?_ ?_
  ·refine⟨[],0,[],[],by simp only;omega,by rw[Int.sub_self];rfl,⟨?_,rfl,List.nodup_nil,fun b hb=>by simp at hb⟩,⟨List.nodup_nil,fun s=>rfl,fun s=>Iff.rfl⟩,?_,fun x hx=>?_⟩
   ·simp (disch:=omega) only[zG,zL];rfl
   ·simp (disch:=omega) only[zL]
   ·simp (disch:=omega) only[zG]
  ·rintro d h' n2 ⟨E,clk,bs,O,q0,_⟩;simp only;omega
  ·rintro d h' a b ⟨E,clk,bs,O,q0,q1⟩ hab;exact⟨E,clk,bs,O,by omega,q1⟩
  ·rintro d h' n2 h2 mo n3 hd1 hd2 ⟨E,clk,bs,O,q0,q1,q2,q3,q4,q5⟩ hm1 hm2 hx2 hm3 KK hI hJ
   have hlo7:=hLO.out
   subst hlo7
   refine yield_at ((hx2 (n + 4 + 4 + 2 + 3 + 3) (by omega)).trans q4) rfl (by simp) ?_
   simp only[go_sem]
   repeat' (first|(refine zA fun K hK=>?_;simp (disch:=omega) [go_sem, *])|(apply zB.out hK;clear hK K;try with_reducible dsimp only[zC]))
   refine⟨_,_,_,_,_,(hx2 _ (by omega)).trans q4,?_⟩
   have hO':ldS ls lo (d + 1 - lo).toNat=ldD O (duR ls d):=by rw[q1];exact ldS_to ls lo d hd1
   have hOs:Q4 O:=by rw[q1];exact ldS_srt ls lo _
   have hOn:∀s,0≤ldN O s∧ldN O s≤401:=fun s=>by rw[q1];have:=ldS_le ls lo s (d - lo).toNat;omega
   have hSl:=qA ls d
   have hls:=hz.out.2.1
   change h2 mo=acO ((duR ls d).map (dutyA d)) at hm3
   rw[show (ZN (dayD ls d))=duR ls d from rfl]
   generalize duR ls d=S at *
   refine ac_fzac (t:=9) (m:=mo) (s:=3) (L:=S.map (dutyA d)) true (by simp) (by simp (disch:=omega) only[zG];exact hm3) (by simp[go_sem]) (fun x hx=>by obtain⟨o,_,rfl⟩:=List.mem_map.1 hx;rfl) (by rw[List.length_map];exact elemsD d S) ?_
   dsimp only
   generalize hH5:zH.upd (zH.upd h2 _ _) mo none=H5
   have hl5:=(congrFun hH5 (n + 4 + 4 + 2 + 3 + 3)).symm.trans ((zG _ _ _ _ (by omega)).trans (zL _ _ _))
   have hM5:MapK vS (iv .i64) H5 (n + 10) E clk bs:=⟨by rw[←hH5];simp (disch:=omega) only[zG];rw[hx2 _ (by omega)];exact q2.at_,q2.len,q2.nd,q2.lt⟩
   have hf5:∀x,x < n→H5 x=h x:=fun x hx=>by rw[←hH5];simp (disch:=omega) only[zG];rw[hx2 _ (by omega),q5 x hx]
   replace hl5:zB _:=hl5
   replace hM5:zB _:=hM5
   replace hf5:zB _:=hf5
   replace hO':zB _:=hO'
   replace hOs:zB _:=hOs
   replace hOn:zB _:=hOn
   replace q3:zB _:=q3
   clear hH5 hx2 hm3 q1 q2 q4 q5
   repeat' (first|(refine zD fun K hK=>?_)|(refine zA fun K hK=>?_;simp (disch:=omega) [go_sem, *])|(apply zB.out hK;clear hK K;try with_reducible dsimp only[zC])|(refine zI ?_))
   refine zW (fun s'=>∃(i n4:Nat) (ET:List (ByteArray × Bool)) (ck:Nat) (bt:List Nat) (H':zH),n3 + 2≤n4∧i≤S.length∧MapK vS bv H' (n3 + 1) ET ck bt∧(ET.map (·.1)).Nodup∧(∀s,s ∈ ET.map (·.1)↔s ∈ (S.take i).map (·.2))∧H' (n + 4 + 4 + 2 + 3 + 3)=H5 (n + 4 + 4 + 2 + 3 + 3)∧H' (n + 10)=H5 (n + 10)∧(∀x,x < n→H' x=h x)∧
     s'=⟨68,[(7,.fptr [.map (n + 10)]),(10,.map (n3 + 1)),(30,.fslc S.isEmpty false 3 (List.map (dutyA d) S)),(31,iv .i64 S.length),(32,iv .i64 i)],H',n4⟩)
    (fun s'=>S.length - (zY s' 32).toNat) ?_ ?_
   ·refine zX (by simp[go_sem]) (Sub.refl _) ⟨0,_,[],0,[],_,by omega,by omega,⟨zL _ _ _,rfl,List.nodup_nil,fun b hb=>by simp at hb⟩,List.nodup_nil,fun s=>by simp,?_,?_,fun x hx=>?_,rfl⟩
    ·rw[zG _ _ _ _ (by omega)]
    ·rw[zG _ _ _ _ (by omega)]
    ·rw[zG _ _ _ _ (by omega)];exact hf5.out x hx
   ·rintro s' ⟨i,n4,ET,ck,bt,H',p1,p2,p3,p4,p5,p6,p7,p8,rfl⟩
    replace p3:zB _:=p3
    replace p4:zB _:=p4
    replace p5:zB _:=p5
    replace p6:zB _:=p6
    replace p7:zB _:=p7
    replace p8:zB _:=p8
    by_cases hlt2:i < S.length
    ·obtain⟨p,hp⟩:∃p,S[i]=p:=⟨_,rfl⟩
     have hne:S.isEmpty=false:=by cases S with | nil=>simp at hlt2 | cons a r=>rfl
     have htk:S.take (i + 1)=S.take i ++ [p]:=by rw[List.take_succ_eq_append_getElem hlt2,hp]
     have hex:dutyA d S[i]=.agg [iv .i64 d,sv p.1,sv p.2]:=by rw[hp];rfl
     replace htk:zB _:=htk
     replace hp:zB _:=hp
     rw[hne]
     replace hne:zB _:=hne
     obtain⟨Hx,hHx⟩:∃Hx,Hx=(H'.upd (n4 + 1 + 2) (some (.cells [iv .i64 0,sv ByteArray.empty,sv ByteArray.empty]))).upd (n4 + 1 + 2) (some (.cells [iv .i64 d,sv p.1,sv p.2])):=⟨_,rfl⟩
     have hxf:∀x,x≠n4 + 1 + 2→Hx x=H' x:=fun x hx=>by rw[hHx];simp only[zG _ _ _ _ hx]
     obtain⟨ck',bt',hput,M3⟩:=put_K keyS mapTys112 (va:=bv) (E:=ET) (h:=Hx) ⟨(hxf _ (by omega)).trans p3.out.at_,p3.out.len,p3.out.nd,p3.out.lt⟩ p.2 true
     have hnd:=nodup_put zl p.2 true ET p4.out
     have hky:∀s,s ∈ (Zx eqB p.2 true ET).map (·.1)↔s ∈ (S.take (i + 1)).map (·.2):=fun s=>by
      rw[j1 zl,p5.out,htk.out,List.map_append,List.mem_append]
      simp[or_comm]
     have t6:(Hx.upd (n3 + 1) (some (.map ck' bt' (ju (fun a=>Value.string a) bv (Zx eqB p.2 true ET))))) (n + 4 + 4 + 2 + 3 + 3)=H5 (n + 4 + 4 + 2 + 3 + 3):=by rw[zG _ _ _ _ (by omega),hxf _ (by omega)];exact p6.out
     have t7:(Hx.upd (n3 + 1) (some (.map ck' bt' (ju (fun a=>Value.string a) bv (Zx eqB p.2 true ET))))) (n + 10)=H5 (n + 10):=by rw[zG _ _ _ _ (by omega),hxf _ (by omega)];exact p7.out
     have t8:∀x,x < n→(Hx.upd (n3 + 1) (some (.map ck' bt' (ju (fun a=>Value.string a) bv (Zx eqB p.2 true ET))))) x=h x:=fun x hx=>by rw[zG _ _ _ _ (by omega),hxf _ (by omega)];exact p8.out x hx
     generalize Hx.upd (n3 + 1) (some (.map ck' bt' (ju (fun a=>Value.string a) bv (Zx eqB p.2 true ET))))=H7 at *
     rw[hHx] at hput
     generalize Zx eqB p.2 true ET=ET2 at *
     replace M3:zB (MapK vS bv H7 (n3 + 1) ET2 ck' bt'):=M3
     replace hnd:zB _:=hnd
     replace hky:zB _:=hky
     replace t6:zB _:=t6
     replace t7:zB _:=t7
     replace t8:zB _:=t8
     replace hput:zB _:=hput
     clear hxf hHx p3 p4 p5 p6 p7 p8
     repeat' (first|(refine zD fun K hK=>?_)|(refine zA fun K hK=>?_;simp (disch:=omega) [go_sem, *,zG,zN,zO])|(apply zB.out hK;clear hK K;try with_reducible dsimp only[zC])|(apply zB.out ht;clear ht hf Kt Kf)|(refine zI ?_)|(refine zK ?_;simp only[zC])|(refine zF fun Kt Kf ht hf=>?_;simp (disch:=omega) [go_sem, *];try (refine⟨fun hc=>?_,fun hc=>?_⟩ <;> try (exfalso;omega))))
     have h7:=hput.out
     simp (disch:=omega) [go_sem,zG] at h7
     rw[h7]
     replace h7:zB _:=trivial
     replace hput:zB _:=trivial
     simp (disch:=omega) [go_sem]
     repeat' (first|(refine zA fun K hK=>?_;simp (disch:=omega) [go_sem, *,zM])|(apply zB.out hK;clear hK K;try with_reducible dsimp only[zC]))
     exact zS (by simp (disch:=omega) [go_sem]) (Sub.refl _) ⟨i + 1,_,ET2,ck',bt',H7,by omega,by omega,M3.out,hnd.out,hky.out,t6.out,t7.out,t8.out,rfl⟩ (by simp[zY,go_sem];omega)
    ·have hii:i=S.length:=by omega
     subst hii
     have p5:=p5.out
     rw[List.take_length] at p5
     replace p5:zB _:=p5
     obtain⟨Z,z1,z2,z3,z4⟩:=p3.out.z
     have hr:=fun nm=>range_K (P:=Tryz.prog) (nm:=nm) mapTys112 z2
     replace hr:zB _:=hr
     repeat' (first|(refine zD fun K hK=>?_)|(refine zA fun K hK=>?_;simp (disch:=omega) [go_sem, *])|(apply zB.out hK;clear hK K;try with_reducible dsimp only[zC])|(apply zB.out hf;clear ht hf Kt Kf)|(clear hK K;apply zB.out hK;clear hK K;try with_reducible dsimp only[zC])|(refine zT ?_;simp only[zC,zP,if_true,if_false,Nat.reduceEqDiff])|(refine zF fun Kt Kf ht hf=>?_;simp (disch:=omega) [go_sem, *];try (refine⟨fun hc=>?_,fun hc=>?_⟩ <;> try (exfalso;omega))))
     rw[hr.out]
     obtain⟨Hi,hHi⟩:∃Hi,Hi=H'.upd (n4 + 1 + 1) (some (.iter (n3 + 1) ck ck [])):=⟨_,rfl⟩
     have hif:∀x,x≠n4 + 1 + 1→Hi x=H' x:=fun x hx=>by rw[hHi];simp only[zG _ _ _ _ hx]
     have hi0:Hi (n4 + 1 + 1)=some (.iter (n3 + 1) ck ck []):=by rw[hHi];exact zL _ _ _
     have hiZ:Jh vS bv Hi (n3 + 1) ck Z:=by unfold Jh;rw[hif _ (by omega)];exact z2
     have hiE:MapK vS (iv .i64) Hi (n + 10) E clk bs:=⟨by rw[hif _ (by omega),p7.out];exact hM5.out.at_,hM5.out.len,hM5.out.nd,hM5.out.lt⟩
     have hil:Hi (n + 4 + 4 + 2 + 3 + 3)=H5 (n + 4 + 4 + 2 + 3 + 3):=by rw[hif _ (by omega)];exact p6.out
     have hi8:∀x,x < n→Hi x=h x:=fun x hx=>by rw[hif _ (by omega)];exact p8.out x hx
     have hkz:∀s,s ∈ (Z.map (·.2.1))↔s ∈ S.map (·.2):=fun s=>by
      rw[←p5.out,←z1,List.map_map];rfl
     have hkn:(Z.map (·.2.1)).Nodup:=by have:=p4.out;rw[←z1,List.map_map] at this;exact this
     rw[←hHi]
     replace hHi:zB _:=trivial
     replace hr:zB _:=trivial
     replace hi0:zB _:=hi0
     replace hiZ:zB _:=hiZ
     replace hiE:zB _:=hiE
     replace hil:zB _:=hil
     replace hi8:zB _:=hi8
     replace hkz:zB _:=hkz
     replace hkn:zB _:=hkn
     replace z3:zB _:=z3
     replace z4:zB _:=z4
     clear hif p3 p4 p5 p6 p7 p8 z1 z2 hM5 hf5
     simp (disch:=omega) [go_sem]
     repeat' (first|(apply zB.out hK;clear hK K;try with_reducible dsimp only[zC])|(refine zI ?_))
     refine zW (fun s'=>∃(n5:Nat) (V:List (Nat × ByteArray × Bool)) (E':List (ByteArray × Int)) (clk':Nat) (bs':List Nat) (H2:zH),n4 + 3≤n5∧H2 (n4 + 1 + 1)=some (.iter (n3 + 1) ck ck (V.map (·.1)))∧Jh vS bv H2 (n3 + 1) ck Z∧Went Z V∧MapK vS (iv .i64) H2 (n + 10) E' clk' bs'∧RelV E' O (V.map (·.2.1))∧H2 (n + 4 + 4 + 2 + 3 + 3)=H5 (n + 4 + 4 + 2 + 3 + 3)∧(∀x,x < n→H2 x=h x)∧
       s'=⟨68,[(7,.fptr [.map (n + 10)]),(41,.ptr (n4 + 1 + 1) 0)],H2,n5⟩)
      (fun s'=>Z.length - (ZA s'.h (n4 + 1 + 1)).length) ?_ ?_
     ·exact zX (by simp[go_sem]) (Sub.refl _) ⟨_,[],E,clk,bs,Hi,by omega,hi0.out,hiZ.out,Went.nil Z,hiE.out,q3.out.v,hil.out,hi8.out,rfl⟩
     ·rintro s' ⟨n5,V,E',clk',bs',H2,r1,hit,hmp,hW,r5,r6,r7,r8,rfl⟩
      have hsn:(ZA H2 (n4 + 1 + 1)).length=V.length:=by unfold ZA;rw[hit];simp
      replace r5:zB _:=r5
      replace r6:zB _:=r6
      replace r7:zB _:=r7
      replace r8:zB _:=r8
      refine zD fun K hK=>?_
      refine Jv (it:=.tmp 41) (n:=n4 + 1 + 1) (m:=n3 + 1) (since:=ck) (last:=ck) (clk:=ck) (seen:=V.map (·.1)) rfl rfl rfl rfl (by simp[go_sem]) hit hmp z4.out (Nat.le_refl _) (fun hall K3 hK3=>?_) (fun j b k v hj hbj hns K3 hK3=>?_)
      ·have hpm:=hW.perm z3.out hall
       have hRd:RelL E' (ldD O S):=r6.out.day hOs.out fun s=>by
        rw[←hkz.out];exact (hpm.map _).mem_iff
       replace hRd:zB _:=hRd
       clear hall hmp hit hpm
       simp (disch:=omega) [go_sem]
       refine hK3.out _ ?_
       clear hK3 K3
       dsimp only[zC]
       refine hK.out _ ?_
       clear hK K
       repeat' (first|(refine zD fun K hK=>?_)|(apply zB.out hf;clear ht hf Kt Kf)|(refine zT ?_;simp only[zC,zP,if_true,if_false,Nat.reduceEqDiff])|(refine zF fun Kt Kf ht hf=>?_;simp (disch:=omega) [go_sem, *];try (refine⟨fun hc=>?_,fun hc=>?_⟩ <;> try (exfalso;omega))))
       have r7':=r7.out.trans hl5.out
       refine⟨_,_,_,_,_,r7',hI.out _ _ ?_⟩
       dsimp only
       exact⟨E',clk',bs',ldD O S,by omega,hO'.out.symm,⟨by rw[zG _ _ _ _ (by omega)];exact r5.out.at_,r5.out.len,r5.out.nd,r5.out.lt⟩,hRd.out,zL _ _ _,fun x hx=>by rw[zG _ _ _ _ (by omega)];exact r8.out x hx⟩
      ·obtain⟨p,x,hjz,rfl,rfl⟩:∃p x,Z[j]? = some (b,p,x)∧k=vS p∧v=bv x:=by
        rw[entK_get,List.getElem?_map] at hj
        rw[List.getElem?_map] at hbj
        cases hq:Z[j]? with
        | none=>rw[hq] at hj;cases hj
        | some z=>
         rw[hq] at hj hbj
         simp only[Option.map_some,Option.some.injEq,Prod.mk.injEq] at hj hbj
         exact⟨z.2.1,z.2.2,by rw[←hbj],hj.1.symm,hj.2.symm⟩
       have hzm:=List.mem_of_getElem? hjz
       have hlt2:=hW.lt hns hzm
       have hW2:=hW.snoc hns hzm
       have hpV:p ∉ V.map (·.2.1):=fun hm=>by
        obtain⟨u,hu,e⟩:=List.mem_map.1 hm
        have hu2:=hW.sub u hu
        have:u=(b,p,x):=by
         obtain⟨i1,hi1,e1⟩:=List.mem_iff_getElem.1 hu2
         obtain⟨i2,hi2,e2⟩:=List.mem_iff_getElem.1 hzm
         have hij:i1=i2:=by
          refine Decidable.byContradiction fun hne=>?_
          have hh:=List.nodup_iff_pairwise_ne.1 hkn.out
          rw[List.pairwise_map,List.pairwise_iff_getElem] at hh
          rcases Nat.lt_or_gt_of_ne hne with hl | hl
          ·exact hh i1 i2 hi1 hi2 hl (by rw[e1,e2];exact e)
          ·exact hh i2 i1 hi2 hi1 hl (by rw[e1,e2];exact e.symm)
         subst hij;rw[←e1,←e2]
        subst this
        exact hns (List.mem_map.2 ⟨_,hu,rfl⟩)
       obtain⟨H3,hH3⟩:∃H3,H3=H2.upd (n4 + 1 + 1) (some (.iter (n3 + 1) ck ck (V.map (·.1) ++ [b]))):=⟨_,rfl⟩
       have h3f:∀y,y≠n4 + 1 + 1→H3 y=H2 y:=fun y hy=>by rw[hH3];simp only[zG _ _ _ _ hy]
       have hit2:H3 (n4 + 1 + 1)=some (.iter (n3 + 1) ck ck (V.map (·.1) ++ [b])):=by rw[hH3];exact zL _ _ _
       have hmp2:Jh vS bv H3 (n3 + 1) ck Z:=by unfold Jh;rw[h3f _ (by omega)];exact hmp
       have hent:=entry_K keyS hit2 hmp2 z3.out hjz
       have u5:MapK vS (iv .i64) H3 (n + 10) E' clk' bs':=⟨by rw[h3f _ (by omega)];exact r5.out.at_,r5.out.len,r5.out.nd,r5.out.lt⟩
       have hlook:=look_K keyS jn (va:=iv .i64) (z:=0) (by kernel_rfl) u5 p false
       have hval:0≤(Zo eqB p E').getD 0∧(Zo eqB p E').getD 0≤402:=by
        have h1:=r6.out.val p
        have h2:=hOn.out p
        rw[h1]
        split <;> omega
       have hR2:=r6.out.snoc hpV
       obtain⟨ck2,bt2,hput,M3⟩:=put_K keyS jn (va:=iv .i64) u5 p ((Zo eqB p E').getD 0 + 1)
       have t1:(H3.upd (n + 10) (some (.map ck2 bt2 (ju (fun a=>Value.string a) (iv .i64) (Zx eqB p ((Zo eqB p E').getD 0 + 1) E'))))) (n4 + 1 + 1)=some (.iter (n3 + 1) ck ck (V.map (·.1) ++ [b])):=by rw[zG _ _ _ _ (by omega)];exact hit2
       have t2:Jh vS bv (H3.upd (n + 10) (some (.map ck2 bt2 (ju (fun a=>Value.string a) (iv .i64) (Zx eqB p ((Zo eqB p E').getD 0 + 1) E'))))) (n3 + 1) ck Z:=by unfold Jh;rw[zG _ _ _ _ (by omega)];exact hmp2
       have t7:(H3.upd (n + 10) (some (.map ck2 bt2 (ju (fun a=>Value.string a) (iv .i64) (Zx eqB p ((Zo eqB p E').getD 0 + 1) E'))))) (n + 4 + 4 + 2 + 3 + 3)=H5 (n + 4 + 4 + 2 + 3 + 3):=by rw[zG _ _ _ _ (by omega),h3f _ (by omega)];exact r7.out
       have t8:∀y,y < n→(H3.upd (n + 10) (some (.map ck2 bt2 (ju (fun a=>Value.string a) (iv .i64) (Zx eqB p ((Zo eqB p E').getD 0 + 1) E'))))) y=h y:=fun y hy=>by rw[zG _ _ _ _ (by omega),h3f _ (by omega)];exact r8.out y hy
       generalize H3.upd (n + 10) (some (.map ck2 bt2 (ju (fun a=>Value.string a) (iv .i64) (Zx eqB p ((Zo eqB p E').getD 0 + 1) E'))))=H7 at *
       generalize Zx eqB p ((Zo eqB p E').getD 0 + 1) E'=E2 at *
       generalize (Zo eqB p E').getD 0=w at *
       have eof:ZV (vS p)=sv p:=rfl
       rw[eof,←hH3]
       replace hH3:zB _:=trivial
       replace M3:zB (MapK vS (iv .i64) H7 (n + 10) E2 ck2 bt2):=M3
       have hR2:zB (RelV E2 O ((V ++ [(b,p,x)]).map (·.2.1))):=by rw[List.map_append];exact hR2
       replace hW2:zB _:=hW2
       replace t1:zB _:=t1
       replace t2:zB _:=t2
       replace t7:zB _:=t7
       replace t8:zB _:=t8
       replace hlook:zB _:=hlook
       replace hput:zB _:=hput
       replace hzm:zB _:=hzm
       replace hns:zB _:=hns
       replace hpV:zB _:=trivial
       clear hmp hj hbj hit hjz eof hmp2 hit2 h3f r5 r6 r7 r8 u5
       simp (disch:=omega) [go_sem]
       refine hK3.out _ ?_
       clear hK3 K3
       dsimp only[zC]
       refine hK.out _ ?_
       clear hK K
       repeat' (first|(refine zD fun K hK=>?_)|(refine zA fun K hK=>?_;simp (disch:=omega) [go_sem, *])|(apply zB.out hK;clear hK K;try with_reducible dsimp only[zC])|(apply zB.out ht;clear ht hf Kt Kf)|(refine zI ?_)|(refine zK ?_;simp only[zC])|(refine zF fun Kt Kf ht hf=>?_;simp (disch:=omega) [go_sem, *];try (refine⟨fun hc=>?_,fun hc=>?_⟩ <;> try (exfalso;omega))))
       have hl7:=hlook.out
       simp (disch:=omega) [go_sem] at hl7
       rw[hl7]
       replace hl7:zB _:=trivial
       replace hlook:zB _:=trivial
       simp (disch:=omega) [go_sem,zM]
       repeat' (first|(refine zD fun K hK=>?_)|(refine zA fun K hK=>?_;simp (disch:=omega) [go_sem, *,zM,zG,ZO,zb,ZF,zN,zU,zO,ze])|(refine Zw (by simp[go_sem]) (by simp (disch:=omega) [go_sem, *];first | exact rfl | exact⟨rfl,rfl,rfl⟩) ?_;try simp only[zq,JL])|(refine Zw (by simp[go_sem]) (by (try simp (disch:=omega) [go_sem, *]);first | exact rfl | exact⟨rfl,rfl,rfl⟩) ?_;try simp only[zq,JL])|(refine ZE ?_)|(apply zB.out hK;clear hK K;try with_reducible dsimp only[zC])|(apply zB.out ht;clear ht hf Kt Kf)|(apply zB.out hf;clear ht hf Kt Kf)|(clear hK K;apply zB.out hK;clear hK K;try with_reducible dsimp only[zC])|(clear hK K;clear hK K;apply zB.out hK;clear hK K;try with_reducible dsimp only[zC])|(refine zI ?_)|(refine zK ?_;simp only[zC,zP])|(refine zT ?_;simp only[zC,zP,if_true,if_false,Nat.reduceEqDiff])|(with_reducible show nextK _ _ _ _ _ _ _;simp (disch:=omega) [go_sem, *,zM,zG,ZO,zb,ZF,zN,zU,zO,ze])|(refine JO (fun hc=>?_) (fun hc=>?_) <;> (try simp only[Bool.not_eq_true',Bool.not_eq_false',Bool.not_eq_eq_eq_not,Bool.not_true,Bool.not_false,decide_eq_true_eq,decide_eq_false_iff_not,Int.not_lt,Int.not_le] at hc) <;> (try (exfalso;omega)) <;> (try simp (disch:=omega) [go_sem, *,zM,zG,ZO,zb,ZF,zN,zU,zO,ze]))|(refine zF fun Kt Kf ht hf=>?_;simp (disch:=omega) [go_sem, *,zM,zG,ZO,zb,ZF,zN,zU,zO,ze];try (refine⟨fun hc=>?_,fun hc=>?_⟩ <;> try (exfalso;omega))))
       have h7:=hput.out
       simp (disch:=omega) [go_sem] at h7
       rw[h7]
       replace h7:zB _:=trivial
       replace hput:zB _:=trivial
       simp (disch:=omega) [go_sem]
       repeat' (first|(apply zB.out hK;clear hK K;try with_reducible dsimp only[zC]))
       refine zS (by simp (disch:=omega) [go_sem]) (Sub.refl _) ⟨_,V ++ [(b,p,x)],E2,ck2,bt2,H7,by omega,by rw[t1.out];simp,t2.out,hW2.out,M3.out,hR2.out,t7.out,t8.out,rfl⟩ ?_
       have e1:(ZA H7 (n4 + 1 + 1)).length=V.length + 1:=by unfold ZA;rw[t1.out];simp
       simp only[e1,hsn];omega
  ·rintro h' n2 ⟨E,clk,bs,O,q0,q1,q2,q3,q4,q5⟩
   have hOs:Q4 O:=by rw[q1];exact ldS_srt ls lo _
   have hOl:O.length≤401 * 60:=by
    rw[q1]
    have h1:=ldS_len ls lo (hi + 1 - lo).toNat
    have h2:(hi + 1 - lo).toNat * ls.length≤401 * 60:=Nat.mul_le_mul (by omega) hz.out.2.1
    omega
   have hOn:∀s,0≤ldN O s∧ldN O s≤401:=fun s=>by rw[q1];have:=ldS_le ls lo s (hi + 1 - lo).toNat;omega
   have ho3:=ho.out
   rw[←q1] at ho3
   obtain⟨H4,hH4⟩:∃H4,H4=h'.upd (n + 4 + 4 + 2 + 3 + 3) none:=⟨_,rfl⟩
   have hM4:MapK vS (iv .i64) H4 (n + 10) E clk bs:=⟨by rw[hH4,zG _ _ _ _ (by omega)];exact q2.at_,q2.len,q2.nd,q2.lt⟩
   have hf4:∀x,x < n→H4 x=h x:=fun x hx=>by rw[hH4,zG _ _ _ _ (by omega)];exact q5 x hx
   obtain⟨Z,z1,z2,z3,z4⟩:=hM4.z
   have hZk:Z.map (·.2.1)=E.map (·.1):=by rw[←z1,List.map_map];rfl
   have hZl:Z.length≤1000000:=by
    have h1:=q3.len hOs
    have:Z.length=E.length:=by rw[←z1,List.length_map]
    omega
   have kk:=fun nn (hh:n + 10 < nn)=>keysS (n + 10) H4 nn hh
   have ks:=fun nn (hh:n + 10 < nn)=>sortedS (n + 10) clk Z z3 z4 hZl H4 nn hh z2
   rw[hZk,q3.keys hOs] at ks
   obtain⟨tn,tz,et,e3⟩:∃tn tz,txF (O.map (·.1))=.fslc tn tn tz ((O.map (·.1)).map sv)∧(O=[]∨tn=false∧tz=1):=by
    unfold txF
    by_cases h0:O=[]
    ·subst h0;exact⟨true,0,rfl,.inl rfl⟩
    ·rw[if_neg (by simpa using h0)];exact⟨false,1,rfl,.inr ⟨rfl,rfl⟩⟩
   rw[et] at ks
   have hKl:(O.map (·.1)).length=O.length:=by simp
   have hKi:∀i (hi:i < O.length) (hk:i < (O.map (·.1)).length),(O.map (·.1))[i]=O[i].1:=fun i hi hk=>by simp
   generalize O.map (·.1)=KS at *
   replace hOs:zB _:=hOs
   replace hOn:zB _:=hOn
   replace ho3:zB _:=ho3
   replace hM4:zB _:=hM4
   replace hf4:zB _:=hf4
   replace q3:zB _:=q3
   replace e3:zB _:=e3
   replace hKi:zB _:=hKi
   show JB (n + 4 + 4 + 2 + 3 + 3) _ _ _ _ _
   rw[JB,q4,←hLO.out]
   refine⟨by simp,?_⟩
   dsimp only[zP,zC]
   rw[←hH4]
   replace hH4:zB _:=trivial
   clear q1 q2 q4 q5 et hZk z1 z2 z3 z4
   repeat (refine hK.out _ ?_;clear hK K;try with_reducible dsimp only[zC])
   refine ac_hbD fun hB=>?_
   have h40:H4 (n2 + 1)=none:=HB_none hB (by simp only;omega)
   replace h40:zB _:=h40
   replace hB:zB _:=trivial
   repeat' (first|(refine zD fun K hK=>?_)|(refine zA fun K hK=>?_;simp (disch:=omega) [go_sem, *])|(apply zB.out hK;clear hK K;try with_reducible dsimp only[zC])|(with_reducible refine APureAt.gcall (kk _ (by omega)) ?_;try simp (disch:=omega) [go_sem, *])|(with_reducible refine APureAt.gcall (ks _ (by omega)) ?_;try simp (disch:=omega) [go_sem, *])|(refine zI ?_))
   clear kk ks
   refine zW (fun s'=>∃(i n5 q:Nat) (V:Ld) (H5:zH),n2 + 6≤n5∧i≤O.length∧n2 + 1≤q∧q < n5∧V=O.take i∧MapK vS (iv .i64) H5 (n + 10) E clk bs∧H5 q=acO (V.map ldA)∧(∀x,x < n→H5 x=h x)∧
     s'=⟨68,[(7,.fptr [.map (n + 10)]),(14,acV 2 q (V.map ldA)),(52,.fslc tn tn tz (KS.map sv)),(53,iv .i64 O.length),(54,iv .i64 i)],H5,n5⟩)
    (fun s'=>O.length - (zY s' 54).toNat) ?_ ?_
   ·exact zX (by simp[go_sem,jk]) (Sub.refl _) ⟨0,_,n2 + 1,[],H4,by omega,by omega,by omega,by omega,rfl,hM4.out,h40.out,hf4.out,rfl⟩
   ·rintro s' ⟨i,n5,q,V,H5,r1,r2,r3,r4,hVe,r5,r6,r7,rfl⟩
    replace r6:zB _:=r6
    replace r7:zB _:=r7
    by_cases hlt:i < O.length
    ·obtain⟨p,hp⟩:∃p,O[i]=p:=⟨_,rfl⟩
     have hne:O≠[]:=fun e=>by rw[e] at hlt;simp at hlt
     obtain⟨rfl,rfl⟩:=e3.out.resolve_left hne
     have hk1:i < KS.length:=by omega
     have hk2:KS[i]=p.1:=by rw[hKi.out i hlt hk1,hp]
     have htk:O.take (i + 1)=O.take i ++ [p]:=by rw[List.take_succ_eq_append_getElem hlt,hp]
     have hlook:=look_K keyS jn (va:=iv .i64) (z:=0) (by kernel_rfl) r5 p.1 false
     have hval:(Zo eqB p.1 E).getD 0=p.2:=by
      rw[q3.out.val];exact ldN_at O i p hOs.out (by rw[List.getElem?_eq_getElem hlt,hp])
     rw[hval] at hlook
     have hpn:0≤p.2∧p.2≤401:=by
      rw[←ldN_at O i p hOs.out (by rw[List.getElem?_eq_getElem hlt,hp])];exact hOn.out p.1
     replace r5:zB _:=r5
     rw[←hVe] at htk
     have hVl:V.length≤30000:=by rw[hVe,List.length_take];omega
     replace hVe:zB _:=trivial
     replace htk:zB _:=htk
     replace hp:zB _:=hp
     replace hlook:zB _:=hlook
     replace hval:zB _:=trivial
     clear hne
     obtain⟨p1,p2⟩:=p
     simp only at hk2 hpn
     repeat' (first|(refine zD fun K hK=>?_)|(refine zA fun K hK=>?_;simp (disch:=omega) [go_sem, *,zN,zO])|(apply zB.out hK;clear hK K;try with_reducible dsimp only[zC])|(apply zB.out ht;clear ht hf Kt Kf)|(refine zI ?_)|(refine zK ?_;simp only[zC])|(refine zF fun Kt Kf ht hf=>?_;simp (disch:=omega) [go_sem, *];try (refine⟨fun hc=>?_,fun hc=>?_⟩ <;> try (exfalso;omega))))
     have hl7:=hlook.out
     simp (disch:=omega) [go_sem] at hl7
     rw[hl7]
     replace hl7:zB _:=trivial
     replace hlook:zB _:=trivial
     simp (disch:=omega) [go_sem]
     repeat' (first|(refine zD fun K hK=>?_)|(refine zA fun K hK=>?_;simp (disch:=omega) [go_sem, *,zM,zG,ZO,zb,ZF,zN,zU,zO,ze])|(refine Zw (by simp[go_sem]) (by simp (disch:=omega) [go_sem, *];first | exact rfl | exact⟨rfl,rfl,rfl⟩) ?_;try simp only[zq,JL])|(refine Zw (by simp[go_sem]) (by (try simp (disch:=omega) [go_sem, *]);first | exact rfl | exact⟨rfl,rfl,rfl⟩) ?_;try simp only[zq,JL])|(refine ZE ?_)|(apply zB.out hK;clear hK K;try with_reducible dsimp only[zC])|(apply zB.out ht;clear ht hf Kt Kf)|(apply zB.out hf;clear ht hf Kt Kf)|(clear hK K;apply zB.out hK;clear hK K;try with_reducible dsimp only[zC])|(clear hK K;clear hK K;apply zB.out hK;clear hK K;try with_reducible dsimp only[zC])|(refine zI ?_)|(refine zK ?_;simp only[zC,zP])|(refine zT ?_;simp only[zC,zP,if_true,if_false,Nat.reduceEqDiff])|(with_reducible show nextK _ _ _ _ _ _ _;simp (disch:=omega) [go_sem, *,zM,zG,ZO,zb,ZF,zN,zU,zO,ze])|(refine JO (fun hc=>?_) (fun hc=>?_) <;> (try simp only[Bool.not_eq_true',Bool.not_eq_false',Bool.not_eq_eq_eq_not,Bool.not_true,Bool.not_false,decide_eq_true_eq,decide_eq_false_iff_not,Int.not_lt,Int.not_le] at hc) <;> (try (exfalso;omega)) <;> (try simp (disch:=omega) [go_sem, *,zM,zG,ZO,zb,ZF,zN,zU,zO,ze]))|(refine zF fun Kt Kf ht hf=>?_;simp (disch:=omega) [go_sem, *,zM,zG,ZO,zb,ZF,zN,zU,zO,ze];try (refine⟨fun hc=>?_,fun hc=>?_⟩ <;> try (exfalso;omega))))
     have hap:=ap_ld (nm:=n5 + 1 + 3 + 7) (m:=q) (V:=V) (X:=[(p1,p2)]) (h:=H5) (b:=false) (c:=false) r6.out (by simp) (by simp;omega)
     simp only[List.map_cons,List.map_nil,ldA] at hap
     rw[hap]
     have s5:MapK vS (iv .i64) ((H5.upd q none).upd (n5 + 1 + 3 + 7) (acO ((V ++ [(p1,p2)]).map ldA))) (n + 10) E clk bs:=⟨by rw[zG _ _ _ _ (by omega),zG _ _ _ _ (by omega)];exact r5.out.at_,r5.out.len,r5.out.nd,r5.out.lt⟩
     have s6:=zL (H5.upd q none) (n5 + 1 + 3 + 7) (acO ((V ++ [(p1,p2)]).map ldA))
     have s7:∀x,x < n→((H5.upd q none).upd (n5 + 1 + 3 + 7) (acO ((V ++ [(p1,p2)]).map ldA))) x=h x:=fun x hx=>by rw[zG _ _ _ _ (by omega),zG _ _ _ _ (by omega)];exact r7.out x hx
     generalize (H5.upd q none).upd (n5 + 1 + 3 + 7) (acO ((V ++ [(p1,p2)]).map ldA))=H7 at *
     replace hap:zB _:=trivial
     replace s5:zB _:=s5
     replace s6:zB _:=s6
     replace s7:zB _:=s7
     simp (disch:=omega) [go_sem]
     repeat' (first|(refine zA fun K hK=>?_;simp (disch:=omega) [go_sem, *,zM])|(apply zB.out hK;clear hK K;try with_reducible dsimp only[zC]))
     exact zS (by simp (disch:=omega) [go_sem]) (Sub.refl _) ⟨i + 1,_,n5 + 1 + 3 + 7,V ++ [(p1,p2)],H7,by omega,by omega,by omega,by omega,htk.out.symm,s5.out,s6.out,s7.out,rfl⟩ (by simp[zY,go_sem];omega)
    ·have hii:i=O.length:=by omega
     subst hii
     rw[List.take_length] at hVe
     subst hVe
     repeat' (first|(refine zD fun K hK=>?_)|(refine zA fun K hK=>?_;simp (disch:=omega) [go_sem, *])|(apply zB.out hK;clear hK K;try with_reducible dsimp only[zC])|(apply zB.out hf;clear ht hf Kt Kf)|(clear hK K;apply zB.out hK;clear hK K;try with_reducible dsimp only[zC])|(refine zT ?_;simp only[zC,zP,if_true])|(refine zF fun Kt Kf ht hf=>?_;simp (disch:=omega) [go_sem, *];try (refine⟨fun hc=>?_,fun hc=>?_⟩ <;> try (exfalso;omega))))
     rw[ho3.out]
     refine zf ?_
     try dsimp only[zC,zP]
     refine⟨by simp,_,(by first | rfl|(simp (disch:=omega) [go_sem,zG] <;> rfl)),?_⟩
     show ZD _ _ (AV.tup [acV 2 q (V.map ldA),iv .i64 0]) _ _
     refine ret_ldV r6.out ?_
     refine zZ ⟨fun x hx=>?_,?_,rfl,by simp,by simp⟩
     ·rw[zG _ _ _ _ (by omega)];exact r7.out x hx
     ·simp[below,belowL,below_ldF]
  ·rintro h' n2 hf;exact hf.elim
 ·have hne:(Zc ls l lo hi != 0)=true:=by simpa using hc
  have ho:qV ls l lo hi=([],Zc ls l lo hi):=by unfold qV;rw[if_pos hc]
  rw[ho,show ldF []=.fslc true true 0 [] from rfl]
  generalize Zc ls l lo hi=e at *
  generalize List.map zg ls=LL at *
  generalize List.map ZH l=OO at *
  clear ho hc hsL hs hw hnl hnlL
  repeat' (first|(refine zD fun K hK=>?_)|(refine zA fun K hK=>?_;simp (disch:=omega) [go_sem, *,zG,Tryz.ntmps17])|(apply zB.out hK;clear hK K;try with_reducible dsimp only[zC])|(apply zB.out ht;clear ht hf Kt Kf)|(with_reducible refine zJ.gcall (k1) ?_;try simp (disch:=omega) [go_sem, *])|(refine zF fun Kt Kf ht hf=>?_;simp (disch:=omega) [go_sem, *];try (refine⟨fun hc=>?_,fun hc=>?_⟩ <;> try (exfalso;omega))))
  (refine zf ?_;try dsimp only[zC,zP];refine⟨by simp,_,(by first | rfl|(simp (disch:=omega) [go_sem,zG] <;> rfl)),?_⟩;refine zZ ⟨fun k hk=>(by first | rfl|(repeat rw[zG _ _ _ _ (by omega)])),(by simp[go_sem,below,belowL]),(by simp[go_sem] <;> omega),by simp,by simp⟩)
end Go.AM
