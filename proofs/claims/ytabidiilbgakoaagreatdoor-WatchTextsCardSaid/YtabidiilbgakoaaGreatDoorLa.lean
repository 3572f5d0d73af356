/- Sources as tokens, plainly; numbers read, by the program. Conditions: as each theorem says. -/
import Derived.Lib.AtoiAllCases
import Derived.Shelf.LaysC
import Derived.Shelf.Strconv.AtoiAll
import Derived.Ground.NamesProg
import Derived.Test.YtabidiilbgakoaaGreatDoorProg
import Derived.Test.YtabidiilbgakoaaGreatDoorPa
import Derived.Test.YtabidiilbgakoaaGreatDoorEa
namespace Du
def JU (p:Nat→Bool) (s:ByteArray) (i:Nat):Nat:=i + ((s.data.toList.drop i).takeWhile fun u=>p u.toNat).length
theorem takeW {α:Type} (p:α→Bool):∀(l:List α) (i:Nat),i≤l.length→(∀j x,j < i→l[j]? = some x→p x=true)→(∀x,l[i]? = some x→p x=false)→(l.takeWhile p).length=i
 | [],i,h,_,_=>by simp at h;subst h;rfl
 | y :: r,0,_,_,h2=>by
  have:=h2 y (by simp)
  simp[List.takeWhile,this]
 | y :: r,i + 1,h,h1,h2=>by
  have:=h1 0 y (by omega) (by simp)
  simp only[List.takeWhile,this,List.length_cons]
  rw[takeW p r i (by simpa using h) (fun j x hj hx=>h1 (j + 1) x (by omega) (by simpa using hx)) (fun x hx=>h2 x (by simpa using hx))]
theorem ZT (s:ByteArray):s.data.toList.length=s.size:=by rw[Array.length_toList];rfl
theorem runF_at {p:Nat→Bool} {s:ByteArray} {i j:Nat} (hij:i≤j) (hj:j≤s.size) (h1:∀k x,i≤k→k < j→s.data.toList[k]? = some x→p x.toNat=true) (h2:∀x,s.data.toList[j]? = some x→p x.toNat=false):JU p s i=j:=by
 unfold JU
 rw[takeW _ _ (j - i) (by rw[List.length_drop,ZT];omega) (fun k x hk hx=>?_) (fun x hx=>?_)]
 ·omega
 ·rw[List.getElem?_drop] at hx
  exact h1 (i + k) x (by omega) (by omega) hx
 ·rw[List.getElem?_drop,show i + (j - i)=j by omega] at hx
  exact h2 x hx
theorem runF_le {p:Nat→Bool} {s:ByteArray} {i:Nat} (hi:i≤s.size):i≤JU p s i∧JU p s i≤s.size:=by
 unfold JU
 have:=(List.takeWhile_prefix (l:=s.data.toList.drop i) (fun u=>p u.toNat)).length_le
 rw[List.length_drop,ZT] at this
 omega
theorem runF_gt {p:Nat→Bool} {s:ByteArray} {i:Nat} {x:UInt8} (hx:s.data.toList[i]? = some x) (hp:p x.toNat=true):i < JU p s i:=by
 unfold JU
 obtain⟨hi,he⟩:=List.getElem?_eq_some_iff.1 hx
 rw[List.drop_eq_getElem_cons hi,he,List.takeWhile_cons_of_pos (by exact hp),List.length_cons]
 omega
def nlf (u:Nat):Bool:=!decide (u=10)
end Du
namespace Du
def valN (l:List UInt8):Nat:=l.foldl (fun a c=>a * 10 + (c.toNat - 48)) 0
theorem fold_ge:∀(l:List UInt8) (a:Nat),a≤l.foldl (fun a c=>a * 10 + (c.toNat - 48)) a
 | [],a=>Nat.le_refl _
 | c :: r,a=>Nat.le_trans (show a≤a * 10 + (c.toNat - 48) by omega) (fold_ge r _)
def dgts (l:List UInt8):Prop:=∀c ∈ l,48≤c.toNat∧c.toNat≤57
theorem parse_dig:∀(l:List UInt8) (acc:Nat),dgts l→acc < 18446744073709551616→Go.Lib.parseUint10 acc l=if l.foldl (fun a c=>a * 10 + (c.toNat - 48)) acc < 18446744073709551616 then .ok (l.foldl (fun a c=>a * 10 + (c.toNat - 48)) acc) else .range
 | [],acc,_,h=>by simp[Go.Lib.parseUint10,h]
 | c :: r,acc,hd,h=>by
  have hc:=hd c (by simp)
  have hr:dgts r:=fun x hx=>hd x (by simp[hx])
  have hge:=fold_ge r (acc * 10 + (c.toNat - 48))
  simp only[Go.Lib.parseUint10,List.foldl_cons]
  rw[if_pos hc]
  by_cases h1:1844674407370955162≤acc
  ·rw[if_pos h1];exact (if_neg (by omega)).symm
  ·rw[if_neg h1]
   by_cases h2:18446744073709551616≤acc * 10 + (c.toNat - 48)
   ·rw[if_pos h2];exact (if_neg (by omega)).symm
   ·rw[if_neg h2];exact parse_dig r _ hr (by omega)
theorem atoi_dig {l:List UInt8} (h0:l≠[]) (hd:dgts l):Go.Lib.atoiAll l=if valN l≤9223372036854775807 then .ok (valN l:Int) else .range:=by
 obtain⟨c,r,rfl⟩:∃c r,l=c :: r:=by
  cases l with
  | nil=>exact absurd rfl h0
  | cons c r=>exact⟨c,r,rfl⟩
 have hc:=hd c (by simp)
 have hm:Go.Lib.parseMag (c :: r)=if valN (c :: r) < 18446744073709551616 then .ok (valN (c :: r)) else .range:=by
  unfold Go.Lib.parseMag
  rw[if_neg (by simp),parse_dig _ _ hd (by omega)];rfl
 simp only[Go.Lib.atoiAll]
 rw[if_neg (by omega),hm]
 by_cases h1:valN (c :: r) < 18446744073709551616
 ·rw[if_pos h1]
  simp only
  by_cases h2:valN (c :: r)≤9223372036854775807
  ·rw[if_neg (by omega),if_neg (by omega),if_neg (by omega),if_pos h2]
  ·rw[if_pos (by omega),if_neg h2]
 ·rw[if_neg h1,if_neg (by omega)]
theorem sat_dig {l:List UInt8} (h0:l≠[]) (hd:dgts l):Go.Lib.atoiSat l=9223372036854775807:=by
 obtain⟨c,r,rfl⟩:∃c r,l=c :: r:=by
  cases l with
  | nil=>exact absurd rfl h0
  | cons c r=>exact⟨c,r,rfl⟩
 have hc:=hd c (by simp)
 exact Go.Lib.atoiSat_other c r (by omega)
theorem valN_snoc (l:List UInt8) (c:UInt8):valN (l ++ [c])=valN l * 10 + (c.toNat - 48):=by simp[valN,List.foldl_append]
end Du
namespace Du
theorem runF_all {p:Nat→Bool} {s:ByteArray} {i k:Nat} {c:UInt8} (hik:i≤k) (hk:k < JU p s i) (hc:s.data.toList[k]? = some c):p c.toNat=true:=by
 unfold JU at hk
 obtain⟨t,ht⟩:=List.takeWhile_prefix (l:=s.data.toList.drop i) (fun u=>p u.toNat)
 have h1:(s.data.toList.drop i)[k - i]? = some c:=by rw[List.getElem?_drop,show i + (k - i)=k by omega];exact hc
 rw[←ht,List.getElem?_append_left (by omega)] at h1
 have h2:=List.mem_of_getElem? h1
 exact List.all_eq_true.1 (List.all_takeWhile (p:=fun u:UInt8=>p u.toNat) (l:=s.data.toList.drop i)) c h2
theorem ext_mem {s:ByteArray} {i j:Nat} {c:UInt8} (h:c ∈ (s.extract i j).data.toList):∃k,i≤k∧k < j∧s.data.toList[k]? = some c:=by
 rw[ByteArray.data_extract,Array.toList_extract,List.extract_eq_take_drop] at h
 obtain⟨q,hq⟩:=List.mem_iff_getElem?.1 h
 have hlt:=(List.getElem?_eq_some_iff.1 hq).1
 rw[List.length_take] at hlt
 rw[List.getElem?_take,if_pos (by omega),List.getElem?_drop] at hq
 exact⟨i + q,by omega,by omega,hq⟩
end Du
namespace Go.AM
open Go.Proofs Cw Du
set_option maxRecDepth 10000
set_option maxHeartbeats 4000000
theorem run_gen (f:FuncId) (p:Nat→Bool) (hp0:∀u:Nat,zK Tryz.prog f [iv .u8 u] (bv (p u))) (s:ByteArray) (hl:s.size≤1000000) (i0:Nat) (h0:i0≤s.size):zK Tryz.prog 142 [sv s,iv .i64 i0,.func (.func f) [] []] (iv .i64 (JU p s i0)):=by
 intro h n
 replace hp0:zC _:=hp0
 refine zQ.pure (zQ.entry (by kernel_rfl) fun hb _=>za Tryz.func142 rfl (by kernel_rfl) (by simp[Tryz.ntmps142]) ?_)
 obtain⟨T,hT⟩:∃T,zC (T=JU p s i0):=⟨_,rfl⟩
 rw[←hT.out]
 repeat' (first|(refine zF fun K hK=>?_)|(refine zA fun K hK=>?_;simp (disch:=omega) [go_sem, *,Tryz.ntmps142])|(apply zC.out hK;clear hK K;try with_reducible dsimp only[zG])|(refine zJ ?_))
 refine z8 (fun s'=>∃(i:Nat) (n':Nat),n≤n'∧i0≤i∧i≤s.size∧(∀j (x:UInt8),i0≤j→j < i→s.data.toList[j]? = some x→p x.toNat=true)∧s'=⟨21,[(0,sv s),(1,iv .i64 i),(2,.func (.func f) [] [])],h,n'⟩)
   (fun s'=>s.size - (ZL s' 1).toNat) ?_ ?_
 ·exact zS (by simp[go_sem, *]) (Sub.refl _) ⟨i0,_,by omega,Nat.le_refl _,h0,fun j x hj hk=>by omega,rfl⟩
 ·rintro s' ⟨i,n',hn',hi0,hi,hall,rfl⟩
  replace hall:zC _:=hall
  by_cases hlt:i < s.size
  ·obtain⟨x,hx⟩:∃x,s[i]=x:=⟨_,rfl⟩
   have hxl:s.data.toList[i]? = some x:=by
    have hz:i < s.data.toList.length:=by rw[Array.length_toList];exact hlt
    rw[List.getElem?_eq_getElem hz,←hx];rfl
   have k1:=hp0.out x.toNat
   cases hp:p x.toNat with
   | true=>
    rw[hp] at k1
    replace hp:zC _:=hp
    replace hxl:zC _:=hxl
    repeat' (first|(refine zF fun K hK=>?_)|(refine zA fun K hK=>?_;simp (disch:=omega) [go_sem, *,zM,zO,zP])|(apply zC.out hK;clear hK K;try with_reducible dsimp only[zG])|(apply zC.out ht;clear ht hf Kt Kf)|(with_reducible refine zK.gcall (k1) ?_;try simp (disch:=omega) [go_sem, *])|(refine zJ ?_)|(refine zL ?_;simp only[zG])|(refine zH fun Kt Kf ht hf=>?_;simp (disch:=omega) [go_sem, *];try (refine⟨fun hc=>?_,fun hc=>?_⟩ <;> try (exfalso;omega))))
    exact zl (by simp (disch:=omega) [go_sem]) (Sub.refl _) ⟨i + 1,_,by omega,by omega,by omega,fun j y hj0 hj hy=>by
     rcases Nat.lt_or_ge j i with h1 | h1
     ·exact hall.out j y hj0 h1 hy
     ·have:j=i:=by omega
      subst this
      rw[hxl.out] at hy;cases hy;exact hp.out,rfl⟩ (by simp[ZL,go_sem];omega)
   | false=>
    rw[hp] at k1
    have hTi:T=i:=by
     rw[hT.out]
     exact runF_at hi0 hi hall.out fun y hy=>by rw[hxl] at hy;cases hy;exact hp
    subst hTi
    replace hp:zC _:=hp
    replace hxl:zC _:=hxl
    repeat' (first|(refine zF fun K hK=>?_)|(refine zA fun K hK=>?_;simp (disch:=omega) [go_sem, *,zO,zP])|(apply zC.out hK;clear hK K;try with_reducible dsimp only[zG])|(apply zC.out hf;clear ht hf Kt Kf)|(clear hK K;apply zC.out hK;clear hK K;try with_reducible dsimp only[zG])|(with_reducible refine zK.gcall (k1) ?_;try simp (disch:=omega) [go_sem, *])|(refine zk ?_;simp only[zG,zN,if_true])|(refine zH fun Kt Kf ht hf=>?_;simp (disch:=omega) [go_sem, *];try (refine⟨fun hc=>?_,fun hc=>?_⟩ <;> try (exfalso;omega))))
    exact zR
  ·have hii:i=s.size:=by omega
   have hTi:T=i:=by
    rw[hT.out]
    exact runF_at hi0 hi hall.out fun y hy=>by
     rw[List.getElem?_eq_none (by rw[Array.length_toList];show s.size≤i;omega)] at hy;cases hy
   subst hTi
   repeat' (first|(refine zF fun K hK=>?_)|(refine zA fun K hK=>?_;simp (disch:=omega) [go_sem, *])|(apply zC.out hK;clear hK K;try with_reducible dsimp only[zG])|(apply zC.out hf;clear ht hf Kt Kf)|(clear hK K;apply zC.out hK;clear hK K;try with_reducible dsimp only[zG])|(refine zk ?_;simp only[zG,zN,if_true])|(refine zH fun Kt Kf ht hf=>?_;simp (disch:=omega) [go_sem, *];try (refine⟨fun hc=>?_,fun hc=>?_⟩ <;> try (exfalso;omega))))
   exact zR
end Go.AM
namespace Go.Proofs
open Go.Shelf
def Tryz.laysatoi_ren:Go.Shelf.Ren:=⟨fun | 172=>175 | 244=>206 | 245=>207 | 247=>247 | 279=>248 | 280=>249 | 281=>250 | 282=>251 | 287=>279 | 316=>280 | 171=>68 | 205=>281 | 321=>291 | 322=>292 | 243=>134 | 246=>186 | 283=>212 | 284=>213 | 285=>214 | 286=>215 | 129=>227 | 317=>253 | 318=>254 | 319=>255 | 320=>256 | 337=>282 | 338=>283 | n=>n,fun | 9=>9 | 3=>3 | 75=>133 | 76=>134 | 4=>4 | 5=>5 | 167=>287 | 37=>129 | 0=>0 | 85=>288 | 2=>2 | 168=>290 | 53=>259 | 175=>315 | 46=>248 | 210=>319 | 127=>208 | 145=>336 | 143=>334 | 21=>21 | 171=>258 | 173=>262 | 212=>295 | 51=>274 | 20=>20 | 213=>296 | 232=>337 | 233=>338 | 80=>75 | n=>n,fun | 15=>2 | 16=>3 | 17=>0 | 18=>6 | 19=>7 | n=>n⟩
theorem Tryz.laysatoi:Go.Proofs.LaysC.n172 Tryz.prog Tryz.laysatoi_ren:={
 mixed:=by kernel_rfl
 f129:=Tryz.func227.trans (congrArg some (by kernel_rfl))
 f171:=Tryz.func68.trans (congrArg some (by kernel_rfl))
 f172:=Tryz.func175.trans (congrArg some (by kernel_rfl))
 f205:=Tryz.func281.trans (congrArg some (by kernel_rfl))
 f243:=Tryz.func134.trans (congrArg some (by kernel_rfl))
 f244:=Tryz.func206.trans (congrArg some (by kernel_rfl))
 f245:=Tryz.func207.trans (congrArg some (by kernel_rfl))
 f246:=Tryz.func186.trans (congrArg some (by kernel_rfl))
 f247:=Tryz.func247.trans (congrArg some (by kernel_rfl))
 f279:=Tryz.func248.trans (congrArg some (by kernel_rfl))
 f280:=Tryz.func249.trans (congrArg some (by kernel_rfl))
 f281:=Tryz.func250.trans (congrArg some (by kernel_rfl))
 f282:=Tryz.func251.trans (congrArg some (by kernel_rfl))
 f283:=Tryz.func212.trans (congrArg some (by kernel_rfl))
 f284:=Tryz.func213.trans (congrArg some (by kernel_rfl))
 f285:=Tryz.func214.trans (congrArg some (by kernel_rfl))
 f286:=Tryz.func215.trans (congrArg some (by kernel_rfl))
 f287:=Tryz.func279.trans (congrArg some (by kernel_rfl))
 f316:=Tryz.func280.trans (congrArg some (by kernel_rfl))
 f317:=Tryz.func253.trans (congrArg some (by kernel_rfl))
 f318:=Tryz.func254.trans (congrArg some (by kernel_rfl))
 f319:=Tryz.func255.trans (congrArg some (by kernel_rfl))
 f320:=Tryz.func256.trans (congrArg some (by kernel_rfl))
 f321:=Tryz.func291.trans (congrArg some (by kernel_rfl))
 f322:=Tryz.func292.trans (congrArg some (by kernel_rfl))
 f337:=Tryz.func282.trans (congrArg some (by kernel_rfl))
 f338:=Tryz.func283.trans (congrArg some (by kernel_rfl))
 t0:=Tryz.underlying0
 a0:=Tryz.isAgg0
 z0:=Tryz.sizeOf0
 v0:=Tryz.zeroValue0
 t2:=Tryz.underlying2
 a2:=Tryz.isAgg2
 z2:=Tryz.sizeOf2
 v2:=Tryz.zeroValue2
 t3:=Tryz.underlying3
 a3:=Tryz.isAgg3
 z3:=Tryz.sizeOf3
 v3:=Tryz.zeroValue3
 t4:=Tryz.underlying4
 a4:=Tryz.isAgg4
 z4:=Tryz.sizeOf4
 v4:=Tryz.zeroValue4
 t5:=Tryz.underlying5
 a5:=Tryz.isAgg5
 z5:=Tryz.sizeOf5
 v5:=Tryz.zeroValue5
 t9:=Tryz.underlying9
 a9:=Tryz.isAgg9
 z9:=Tryz.sizeOf9
 v9:=Tryz.zeroValue9
 t20:=Tryz.underlying20
 a20:=Tryz.isAgg20
 z20:=Tryz.sizeOf20
 v20:=Tryz.zeroValue20
 t21:=Tryz.underlying21
 a21:=Tryz.isAgg21
 z21:=Tryz.sizeOf21
 v21:=Tryz.zeroValue21
 t37:=Tryz.underlying129
 a37:=Tryz.isAgg129
 z37:=Tryz.sizeOf129
 v37:=Tryz.zeroValue129
 t46:=Tryz.underlying248
 a46:=Tryz.isAgg248
 z46:=Tryz.sizeOf248
 v46:=Tryz.zeroValue248
 t51:=Tryz.underlying274
 a51:=Tryz.isAgg274
 z51:=Tryz.sizeOf274
 v51:=Tryz.zeroValue274
 t53:=Tryz.underlying259
 a53:=Tryz.isAgg259
 z53:=Tryz.sizeOf259
 v53:=Tryz.zeroValue259
 t75:=Tryz.underlying133
 a75:=Tryz.isAgg133
 z75:=Tryz.sizeOf133
 v75:=Tryz.zeroValue133
 t76:=Tryz.underlying134
 a76:=Tryz.isAgg134
 z76:=Tryz.sizeOf134
 v76:=Tryz.zeroValue134
 t85:=Tryz.underlying288
 a85:=Tryz.isAgg288
 z85:=Tryz.sizeOf288
 v85:=Tryz.zeroValue288
 t127:=Tryz.underlying208
 a127:=Tryz.isAgg208
 z127:=Tryz.sizeOf208
 v127:=Tryz.zeroValue208
 t143:=Tryz.underlying334
 a143:=Tryz.isAgg334
 z143:=Tryz.sizeOf334
 v143:=Tryz.zeroValue334
 t145:=Tryz.underlying336
 a145:=Tryz.isAgg336
 z145:=Tryz.sizeOf336
 v145:=Tryz.zeroValue336
 t167:=Tryz.underlying287
 a167:=Tryz.isAgg287
 z167:=Tryz.sizeOf287
 v167:=Tryz.zeroValue287
 t168:=Tryz.underlying290
 a168:=Tryz.isAgg290
 z168:=Tryz.sizeOf290
 v168:=Tryz.zeroValue290
 t171:=Tryz.underlying258
 a171:=Tryz.isAgg258
 z171:=Tryz.sizeOf258
 v171:=Tryz.zeroValue258
 t173:=Tryz.underlying262
 a173:=Tryz.isAgg262
 z173:=Tryz.sizeOf262
 v173:=Tryz.zeroValue262
 t175:=Tryz.underlying315
 a175:=Tryz.isAgg315
 z175:=Tryz.sizeOf315
 v175:=Tryz.zeroValue315
 t210:=Tryz.underlying319
 a210:=Tryz.isAgg319
 z210:=Tryz.sizeOf319
 v210:=Tryz.zeroValue319
 t212:=Tryz.underlying295
 a212:=Tryz.isAgg295
 z212:=Tryz.sizeOf295
 v212:=Tryz.zeroValue295
 t213:=Tryz.underlying296
 a213:=Tryz.isAgg296
 z213:=Tryz.sizeOf296
 t232:=Tryz.underlying337
 a232:=Tryz.isAgg337
 z232:=Tryz.sizeOf337
 v232:=Tryz.zeroValue337
 t233:=Tryz.underlying338
 a233:=Tryz.isAgg338
 z233:=Tryz.sizeOf338
 v233:=Tryz.zeroValue338
 g15:=by kernel_rfl
 g16:=by kernel_rfl
 g17:=by kernel_rfl
 g18:=by kernel_rfl
 g19:=by kernel_rfl
 t80:=Tryz.underlying75
 a80:=Tryz.isAgg75
 z80:=Tryz.sizeOf75
 v80:=Tryz.zeroValue75
 i0:=by kernel_rfl
 i2:=by kernel_rfl
 i3:=by kernel_rfl
 i4:=by kernel_rfl
 i5:=by kernel_rfl
 i9:=by kernel_rfl
 i20:=by kernel_rfl
 i21:=by kernel_rfl
 i37:=by kernel_rfl
 i46:=by kernel_rfl
 i51:=by kernel_rfl
 i53:=by kernel_rfl
 i75:=by kernel_rfl
 i76:=by kernel_rfl
 i80:=by kernel_rfl
 i85:=by kernel_rfl
 i127:=by kernel_rfl
 i143:=by kernel_rfl
 i145:=by kernel_rfl
 i167:=by kernel_rfl
 i168:=by kernel_rfl
 i171:=by kernel_rfl
 i173:=by kernel_rfl
 i175:=by kernel_rfl
 i210:=by kernel_rfl
 i212:=by kernel_rfl
 i232:=by kernel_rfl
 i233:=by kernel_rfl
 m15:=by kernel_rfl
 m16:=by kernel_rfl
 m17:=by kernel_rfl
 m18:=by kernel_rfl
 m19:=by kernel_rfl
 c0:=by kernel_rfl
 c2:=by kernel_rfl
 c3:=by kernel_rfl
 c4:=by kernel_rfl
 c5:=by kernel_rfl
 c9:=by kernel_rfl
 c20:=by kernel_rfl
 c21:=by kernel_rfl
 c37:=by kernel_rfl
 c46:=by kernel_rfl
 c51:=by kernel_rfl
 c53:=by kernel_rfl
 c75:=by kernel_rfl
 c76:=by kernel_rfl
 c80:=by kernel_rfl
 c85:=by kernel_rfl
 c127:=by kernel_rfl
 c143:=by kernel_rfl
 c145:=by kernel_rfl
 c167:=by kernel_rfl
 c168:=by kernel_rfl
 c171:=by kernel_rfl
 c173:=by kernel_rfl
 c175:=by kernel_rfl
 c210:=by kernel_rfl
 c212:=by kernel_rfl
 c213:=by kernel_rfl
 c232:=by kernel_rfl
 c233:=by kernel_rfl}
end Go.Proofs
namespace Go.AM
open Go.Proofs Cw Du Go.RowKit
set_option maxRecDepth 10000
set_option maxHeartbeats 4000000
theorem Inv.extend {w0 w w':World} {G:Gh} {h:zI} (I:Inv w0 G h w) (hb:Below w.heap.size w w') (hk:Vars.keep=true→w.drawn≤w'.drawn):Inv w0 G h w':=by
 refine⟨I.below.trans ⟨hb.mono I.below.size,hk⟩,fun a v e=>?_,fun n o e=>?_,I.disj,I.sep,I.oth.keep rfl rfl rfl fun k o e _=>?_⟩
 ·rw[cell?_congr (hb.block _ (I.imm_lt e))];exact I.imm a v e
 ·have ok:=I.obj n o e
  refine ok.keep (VLe.refl G) hb.size (fun r hr a ha=>?_) (fun r hr _=>hb.block _ (ok.lt hr)) (fun r p hr hp=>?_)
  ·have:a.block < w.heap.size:=by rw[ha.1];exact ok.lt hr
   exact⟨cell?_congr (hb.block _ this),frozen?_congr (hb.block _ this)⟩
  ·rw[Zr (hb.block _ (ok.lt hr))];exact hp
 ·rw[hb.block _ (Array.getElem?_eq_some_iff.1 e).1];exact e
theorem atoi_ok (s:ByteArray) (hz:s.size≤1000000) (v:Int) (hv:Go.Lib.atoiAll s.data.toList=.ok v):zK Tryz.prog 175 [sv s] (.tup [iv .i64 v,.c .nilIface]):=fun h nn=>⟨(by kernel_rfl:JZ Tryz.prog 175=true),fun w0 G w vs I hf hr=>by
 simp only[RvL] at hr
 obtain⟨u,vr,rfl,hu,rfl⟩:=hr
 rw[Rv_sv] at hu;subst hu
 have hc:Calls Tryz.prog 175 #[.string s] w _:=Any.strconv_Atoi_ok Tryz.laysatoi s (by omega) v hv w
 refine hc.mono fun e w' ⟨he,hw⟩=>?_
 have I2:Inv w0 G h w':=by
  rcases hw with rfl | ⟨t,rfl⟩
  ·exact I
  ·exact I.extend (Lib.bytesWorld_below _ _ _) (by intro h;cases h)
 exact⟨G,_,_,h,nn,he,⟨Ext.refl _ _,rfl⟩,I2,hf,Nat.le_refl _,by simp[Rv,RvL,Value.oneCell'],rfl,rfl,rfl⟩⟩
theorem atoi_range (s:ByteArray) (hz:s.size≤1000000) (hv:Go.Lib.atoiAll s.data.toList=.range):zK Tryz.prog 175 [sv s] (.tup [iv .i64 (Go.Lib.atoiSat s.data.toList),.iface 290 .undef]):=fun h nn=>⟨(by kernel_rfl:JZ Tryz.prog 175=true),fun w0 G w vs I hf hr=>by
 simp only[RvL] at hr
 obtain⟨u,vr,rfl,hu,rfl⟩:=hr
 rw[Rv_sv] at hu;subst hu
 obtain⟨e1,z1,t1,p1,h1⟩:=I.tabs.2 3 (by decide)
 have hc:Calls Tryz.prog 175 #[.string s] w _:=Any.strconv_Atoi_range Tryz.laysatoi s (by omega) hv (.iface t1 p1) w (by show w.cell? ⟨3,0,none⟩=_;simp[World.cell?,h1]) (.inr ⟨_,_,rfl⟩)
 refine hc.mono fun e w' ⟨N,he,hN,hcell,hb⟩=>?_
 have I2:Inv w0 G h w':=I.extend hb (by intro h;cases h)
 exact⟨G,_,_,h,nn,he,⟨Ext.refl _ _,rfl⟩,I2,hf,Nat.le_refl _,by simp only[Rv,RvL,Value.oneCell'];exact⟨_,rfl,_,_,rfl,⟨rfl,trivial⟩,_,_,rfl,⟨_,rfl,trivial⟩,rfl⟩,rfl,rfl,rfl⟩⟩
theorem idxByte (s:ByteArray) (c:UInt8):zK Tryz.prog 176 [sv s,iv .u8 c.toNat] (iv .i64 (firstIdx s c)):=by
 have k1:zK Tryz.prog 208 [sv s,iv .u8 c.toNat] (iv .i64 (firstIdx s c)):=by
  intro h n
  refine zQ.pure (zQ.entry (by kernel_rfl) fun hb _=>za Tryz.func208 rfl (by kernel_rfl) (by simp[Tryz.ntmps208]) ?_)
  have ke:∀(h:zI) (n:Nat) (K:AV→zI→Nat→Prop),K (iv .i64 (firstIdx s c)) h n→GCalls Tryz.prog 252 [sv s,iv .u8 c.toNat] h n K:=fun h n K hK=>
   .inr (evExt_ok SAN.xt_ok (g:=252) (k:=1) (by simp[SAN.xt]) (o:=(iv .i64 (firstIdx s c),h,n)) (by simp[evExt,sv,iv]) hK)
  replace ke:zC _:=ke
  repeat' (first|(refine zF fun K hK=>?_)|(refine zA fun K hK=>?_;simp (disch:=omega) [go_sem, *,Tryz.ntmps208])|(apply zC.out hK;clear hK K;try with_reducible dsimp only[zG]))
  refine ke.out _ _ _ ?_
  repeat' (first|(apply zC.out hK;clear hK K;try with_reducible dsimp only[zG])|(with_reducible show nextK _ _ _ _ _ _ _;simp (disch:=omega) [go_sem, *]))
  exact zR
 intro h n
 refine zQ.pure (zQ.entry (by kernel_rfl) fun hb _=>za Tryz.func176 rfl (by kernel_rfl) (by simp[Tryz.ntmps176]) ?_)
 repeat' (first|(refine zF fun K hK=>?_)|(refine zA fun K hK=>?_;simp (disch:=omega) [go_sem, *,Tryz.ntmps176])|(apply zC.out hK;clear hK K;try with_reducible dsimp only[zG])|(with_reducible refine zK.gcall (k1) ?_;try simp (disch:=omega) [go_sem, *]))
 exact zR
end Go.AM
