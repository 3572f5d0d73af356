/- What is printed, plainly; numbers in decimal digits, by the program. Conditions: as each theorem says. -/
import Derived.Laws.Strings
import Derived.Lib.ItoaMem
import Derived.Shelf.LaysM
import Derived.Shelf.Strconv.Itoa4
import Derived.Test.YtabidiilbgakoaaGreatDoorProg
import Derived.Shelf.SortM.Plain
import Derived.Shelf.Slices.CompactI
import Derived.Test.YtabidiilbgakoaaGreatDoorTa
namespace Du
open Go
theorem u8 (a b:UInt8):(a < b)↔a.toNat < b.toNat:=UInt8.lt_iff_toNat_lt
theorem toList_inj {a b:ByteArray} (h:a.toList=b.toList):a=b:=by
 rw[ByteArray.toList_eq,ByteArray.toList_eq] at h
 exact ByteArray.ext (Array.toList_inj.1 h)
def eqB (a b:ByteArray):Bool:=a.toList == b.toList
theorem Qk (a b:ByteArray):eqB a b=true↔a=b:=by
 rw[eqB,beq_iff_eq];exact⟨toList_inj,fun h=>by rw[h]⟩
end Du
namespace Du
structure Lin where
 kind:Int
 tower:ByteArray
 person:ByteArray
 other:ByteArray
 fr:Int
 to:Int
 ev:Int
 nl:Bool
 fu:Bool
 s:Nat
 exc:List Int
end Du
namespace Du
open Cw
def dec (n:Int):ByteArray:=⟨(Go.Lib.itoa n).toArray⟩
theorem digits_len:∀(k u:Nat),u < 10 ^ (k + 1)→(Go.Lib.decDigits u).length≤k + 1
 | 0,u,h=>by rw[Go.Lib.decDigits_one (by omega)];simp
 | k + 1,u,h=>by
  rw[Go.Lib.decDigits]
  split
  ·simp
  ·have:=digits_len k (u / 10) (by rw[Nat.pow_succ] at h;omega)
   simp only[List.length_append,List.length_cons,List.length_nil];omega
theorem Zd {n:Int} (h0:0≤n) (h1:n≤100000):(dec n).size≤21:=by
 obtain⟨u,rfl⟩:∃u:Nat,n=u:=⟨n.toNat,by omega⟩
 have:=digits_len 20 u (by omega)
 unfold dec
 rw[Go.Lib.itoa_nonneg]
 simpa [ByteArray.size] using this
def Q2 (f:Int):ByteArray:=if f=0 then ⟨#[99,101,108,108]⟩ else if f=1 then ⟨#[115,101,101,110]⟩ else if f=2 then ⟨#[97,103,101]⟩ else if f=3 then ⟨#[104,111,117,114]⟩ else ⟨#[102,114,101,101]⟩
def opT (o:Int):ByteArray:=if o=1 then ⟨#[61]⟩ else if o=2 then ⟨#[33,61]⟩ else if o=3 then ⟨#[60]⟩ else if o=4 then ⟨#[60,61]⟩ else if o=5 then ⟨#[62]⟩ else ⟨#[62,61]⟩
def spT:ByteArray:=⟨#[32]⟩
def lvl:Cnd→Int
 | .mk k _ _ _ _ _ _ _=>if k=4 then 0 else if k=3 then 1 else 2
def plc (x:Int × ByteArray) (a:Int):ByteArray:=if x.1 < a then (⟨#[40]⟩:ByteArray) ++ x.2 ++ ⟨#[41]⟩ else x.2
def shN (k f o n:Int) (L:List (Int × ByteArray)):ByteArray:=
 if k=1 then Q2 f ++ spT ++ opT o ++ spT ++ dec n
 else if k=2 then (⟨#[110,111,116,32]⟩:ByteArray) ++ plc (L.getD 0 (0,⟨#[]⟩)) 2
 else if k=3 then plc (L.getD 0 (0,⟨#[]⟩)) 1 ++ ⟨#[32,97,110,100,32]⟩ ++ plc (L.getD 1 (0,⟨#[]⟩)) 2
 else plc (L.getD 0 (0,⟨#[]⟩)) 0 ++ ⟨#[32,111,114,32]⟩ ++ plc (L.getD 1 (0,⟨#[]⟩)) 1
mutual
def shC:Cnd→ByteArray
 | .mk k f o n _ _ _ ks=>shN k f o n (shL ks)
def shL:List Cnd→List (Int × ByteArray)
 | []=>[]
 | c :: r=>(lvl c,shC c) :: shL r
end
theorem facT_size (f:Int):(Q2 f).size≤4:=by unfold Q2;(repeat' split) <;> decide
theorem opT_size (f:Int):(opT f).size≤2:=by unfold opT;(repeat' split) <;> decide
theorem qX (x:Int × ByteArray) (a:Int):(plc x a).size≤x.2.size + 2:=by
 unfold plc;split
 ·simp only[ByteArray.size_append]
  have e1:(⟨#[40]⟩:ByteArray).size=1:=rfl
  have e2:(⟨#[41]⟩:ByteArray).size=1:=rfl
  omega
 ·omega
theorem two_sum (L:List (Int × ByteArray)):(L.getD 0 (0,⟨#[]⟩)).2.size + (L.getD 1 (0,⟨#[]⟩)).2.size≤(L.map fun x=>x.2.size).sum:=by
 have e0:(⟨#[]⟩:ByteArray).size=0:=rfl
 match L with
 | []=>simp[e0]
 | [x]=>simp[e0]
 | x :: y :: r=>simp
theorem shN_size {k f o n:Int} {len:Nat} (L:List (Int × ByteArray)) (h:zw k f o n len=true):(shN k f o n L).size≤(L.map fun x=>x.2.size).sum + 40:=by
 have h2:=two_sum L
 have e1:(⟨#[110,111,116,32]⟩:ByteArray).size=4:=rfl
 have e2:(⟨#[32,97,110,100,32]⟩:ByteArray).size=5:=rfl
 have e3:(⟨#[32,111,114,32]⟩:ByteArray).size=4:=rfl
 unfold shN
 split
 ·rename_i hk
  unfold zw at h
  rw[if_pos hk] at h
  simp only[Bool.and_eq_true,wi,decide_eq_true_eq] at h
  have a1:=facT_size f
  have a2:=opT_size o
  have a3:=Zd (n:=n) (by omega) (by omega)
  have a4:spT.size=1:=rfl
  simp only[ByteArray.size_append]
  omega
 ·split
  ·have:=qX (L.getD 0 (0,⟨#[]⟩)) 2
   simp only[ByteArray.size_append]
   omega
  ·split
   ·have:=qX (L.getD 0 (0,⟨#[]⟩)) 1
    have:=qX (L.getD 1 (0,⟨#[]⟩)) 2
    simp only[ByteArray.size_append]
    omega
   ·have:=qX (L.getD 0 (0,⟨#[]⟩)) 0
    have:=qX (L.getD 1 (0,⟨#[]⟩)) 1
    simp only[ByteArray.size_append]
    omega
mutual
theorem qO:∀c,ok c=true→(shC c).size≤40 * tot c
 | .mk k f o n nl fu s ks,h=>by
  simp only[ok,Bool.and_eq_true] at h
  have hL:=shL_size ks h.2
  have:=shN_size (shL ks) h.1
  simp only[shC,tot]
  omega
theorem shL_size:∀l,okL l=true→((shL l).map fun x=>x.2.size).sum≤40 * totL l
 | [],_=>by simp[shL,totL]
 | c :: r,h=>by
  simp only[okL,Bool.and_eq_true] at h
  have h1:=qO c h.1
  have h2:=shL_size r h.2
  simp only[shL,totL,List.map_cons,List.sum_cons]
  omega
end
def sepT (i:Nat):ByteArray:=if i=0 then ⟨#[32,101,120,99,101,112,116,32]⟩ else ⟨#[44,32]⟩
def exT (xs:List Int):Nat→ByteArray
 | 0=>⟨#[]⟩
 | i + 1=>exT xs i ++ (sepT i ++ dec (xs.getD i 0))
def frT (l:Lin):ByteArray:=if l.fr=l.to∧l.ev=1 then (⟨#[32,111,110,32]⟩:ByteArray) ++ dec l.fr else (⟨#[32,102,114,111,109,32]⟩:ByteArray) ++ dec l.fr ++ ⟨#[32,116,111,32]⟩ ++ dec l.to
def Js (l:Lin):ByteArray:=if l.ev=1 then ⟨#[]⟩ else (⟨#[32,101,118,101,114,121,32]⟩:ByteArray) ++ dec l.ev
def endT:ByteArray:=⟨#[59,10]⟩
def dayT (l:Lin):ByteArray:=frT l ++ Js l ++ exT l.exc l.exc.length ++ endT
def hdT (l:Lin):ByteArray:=
 if l.kind=1 then (⟨#[119,97,116,99,104,32]⟩:ByteArray) ++ l.tower ++ ⟨#[32,98,121,32]⟩ ++ l.person
 else if l.kind=2 then (⟨#[114,101,115,116,32]⟩:ByteArray) ++ l.person
 else if l.kind=3 then (⟨#[99,97,110,99,101,108,32]⟩:ByteArray) ++ l.tower
 else (⟨#[115,119,97,112,32]⟩:ByteArray) ++ l.person ++ spT ++ l.other
def qQ (l:Lin):ByteArray:=hdT l ++ dayT l
theorem app_nil (x:ByteArray):x ++ (⟨#[]⟩:ByteArray)=x:=by apply ByteArray.ext;simp
theorem nil_app (x:ByteArray):(⟨#[]⟩:ByteArray) ++ x=x:=by apply ByteArray.ext;simp
theorem Zi (x y z:ByteArray):x ++ y ++ z=x ++ (y ++ z):=by apply ByteArray.ext;simp
theorem sepT_size (i:Nat):(sepT i).size≤8:=by unfold sepT;split <;> decide
theorem exT_size {xs:List Int} (h:∀d ∈ xs,0≤d∧d≤1000):∀i,(exT xs i).size≤29 * i
 | 0=>Nat.le_refl _
 | i + 1=>by
  have h1:=exT_size h i
  have h2:=sepT_size i
  have h3:(dec (xs.getD i 0)).size≤21:=by
   rcases Nat.lt_or_ge i xs.length with hi | hi
   ·rw[List.getD_eq_getElem?_getD,List.getElem?_eq_getElem hi]
    have:=h _ (List.getElem_mem hi)
    exact Zd this.1 (by simp only[Option.getD_some];omega)
   ·rw[List.getD_eq_getElem?_getD,List.getElem?_eq_none hi]
    exact Zd (by decide) (by decide)
  simp only[exT,ByteArray.size_append]
  omega
def PrOk (l:Lin):Prop:=(l.kind=1∨l.kind=2∨l.kind=3∨l.kind=4)∧l.tower.size≤1000000∧l.person.size≤1000000∧l.other.size≤1000000∧(0≤l.fr∧l.fr≤1000)∧(0≤l.to∧l.to≤1000)∧(0≤l.ev∧l.ev≤1000)∧l.exc.length≤1000∧∀d ∈ l.exc,0≤d∧d≤1000
theorem base_size {l:Lin} (h:PrOk l):(hdT l ++ frT l ++ Js l).size≤3001000:=by
 obtain⟨_,t1,t2,t3,⟨f0,f1⟩,⟨o0,o1⟩,⟨e0,e1⟩,_⟩:=h
 have a1:=Zd f0 (by omega)
 have a2:=Zd o0 (by omega)
 have a3:=Zd e0 (by omega)
 have e1:(⟨#[119,97,116,99,104,32]⟩:ByteArray).size=6:=rfl
 have e2:(⟨#[32,98,121,32]⟩:ByteArray).size=4:=rfl
 have e3:(⟨#[114,101,115,116,32]⟩:ByteArray).size=5:=rfl
 have e4:(⟨#[99,97,110,99,101,108,32]⟩:ByteArray).size=7:=rfl
 have e5:(⟨#[115,119,97,112,32]⟩:ByteArray).size=5:=rfl
 have e6:(⟨#[32,111,110,32]⟩:ByteArray).size=4:=rfl
 have e7:(⟨#[32,102,114,111,109,32]⟩:ByteArray).size=6:=rfl
 have e8:(⟨#[32,116,111,32]⟩:ByteArray).size=4:=rfl
 have e9:(⟨#[32,101,118,101,114,121,32]⟩:ByteArray).size=7:=rfl
 have e10:spT.size=1:=rfl
 have e11:(⟨#[]⟩:ByteArray).size=0:=rfl
 have h1:(hdT l).size≤3000100:=by unfold hdT;(repeat' split) <;> simp only[ByteArray.size_append] <;> omega
 have h2:(frT l).size≤100:=by unfold frT;split <;> simp only[ByteArray.size_append] <;> omega
 have h3:(Js l).size≤100:=by unfold Js;split <;> (try simp only[ByteArray.size_append]) <;> omega
 simp only[ByteArray.size_append]
 omega
end Du
namespace Go.Proofs
open Go.Shelf
def Tryz.laysitoa_ren:Go.Shelf.Ren:=⟨fun | 171=>68 | 243=>134 | 246=>186 | 283=>212 | 284=>213 | 285=>214 | 286=>215 | 129=>227 | 317=>253 | 318=>254 | 319=>255 | 320=>256 | 337=>282 | 338=>283 | n=>n,fun | 3=>3 | 9=>9 | 2=>2 | 4=>4 | 171=>258 | 0=>0 | 53=>259 | 37=>129 | 5=>5 | 173=>262 | 212=>295 | 51=>274 | 20=>20 | 213=>296 | 46=>248 | 232=>337 | 233=>338 | n=>n,fun | 17=>0 | 18=>6 | 19=>7 | n=>n⟩
theorem Tryz.laysitoa:Go.Proofs.LaysM.n171 Tryz.prog Tryz.laysitoa_ren:={
 mixed:=by kernel_rfl
 f129:=Tryz.func227.trans (congrArg some (by kernel_rfl))
 f171:=Tryz.func68.trans (congrArg some (by kernel_rfl))
 f243:=Tryz.func134.trans (congrArg some (by kernel_rfl))
 f246:=Tryz.func186.trans (congrArg some (by kernel_rfl))
 f283:=Tryz.func212.trans (congrArg some (by kernel_rfl))
 f284:=Tryz.func213.trans (congrArg some (by kernel_rfl))
 f285:=Tryz.func214.trans (congrArg some (by kernel_rfl))
 f286:=Tryz.func215.trans (congrArg some (by kernel_rfl))
 f317:=Tryz.func253.trans (congrArg some (by kernel_rfl))
 f318:=Tryz.func254.trans (congrArg some (by kernel_rfl))
 f319:=Tryz.func255.trans (congrArg some (by kernel_rfl))
 f320:=Tryz.func256.trans (congrArg some (by kernel_rfl))
 f337:=Tryz.func282.trans (congrArg some (by kernel_rfl))
 f338:=Tryz.func283.trans (congrArg some (by kernel_rfl))
 t0:=Tryz.underlying0
 a0:=Tryz.isAgg0
 z0:=Tryz.sizeOf0
 v0:=Tryz.zeroValue0
 t2:=Tryz.underlying2
 a2:=Tryz.isAgg2
 z2:=Tryz.sizeOf2
 v2:=Tryz.zeroValue2
 t3:=Tryz.underlying3
 a3:=Tryz.isAgg3
 z3:=Tryz.sizeOf3
 v3:=Tryz.zeroValue3
 t4:=Tryz.underlying4
 a4:=Tryz.isAgg4
 z4:=Tryz.sizeOf4
 v4:=Tryz.zeroValue4
 t5:=Tryz.underlying5
 a5:=Tryz.isAgg5
 z5:=Tryz.sizeOf5
 v5:=Tryz.zeroValue5
 t9:=Tryz.underlying9
 a9:=Tryz.isAgg9
 z9:=Tryz.sizeOf9
 v9:=Tryz.zeroValue9
 t20:=Tryz.underlying20
 a20:=Tryz.isAgg20
 z20:=Tryz.sizeOf20
 v20:=Tryz.zeroValue20
 t37:=Tryz.underlying129
 a37:=Tryz.isAgg129
 z37:=Tryz.sizeOf129
 v37:=Tryz.zeroValue129
 t46:=Tryz.underlying248
 a46:=Tryz.isAgg248
 z46:=Tryz.sizeOf248
 v46:=Tryz.zeroValue248
 t51:=Tryz.underlying274
 a51:=Tryz.isAgg274
 z51:=Tryz.sizeOf274
 v51:=Tryz.zeroValue274
 t53:=Tryz.underlying259
 a53:=Tryz.isAgg259
 z53:=Tryz.sizeOf259
 v53:=Tryz.zeroValue259
 t171:=Tryz.underlying258
 a171:=Tryz.isAgg258
 z171:=Tryz.sizeOf258
 v171:=Tryz.zeroValue258
 t173:=Tryz.underlying262
 a173:=Tryz.isAgg262
 z173:=Tryz.sizeOf262
 v173:=Tryz.zeroValue262
 t212:=Tryz.underlying295
 a212:=Tryz.isAgg295
 z212:=Tryz.sizeOf295
 v212:=Tryz.zeroValue295
 t213:=Tryz.underlying296
 a213:=Tryz.isAgg296
 z213:=Tryz.sizeOf296
 t232:=Tryz.underlying337
 a232:=Tryz.isAgg337
 z232:=Tryz.sizeOf337
 v232:=Tryz.zeroValue337
 t233:=Tryz.underlying338
 a233:=Tryz.isAgg338
 z233:=Tryz.sizeOf338
 v233:=Tryz.zeroValue338
 g17:=by kernel_rfl
 g18:=by kernel_rfl
 g19:=by kernel_rfl
 i0:=by kernel_rfl
 i2:=by kernel_rfl
 i3:=by kernel_rfl
 i4:=by kernel_rfl
 i5:=by kernel_rfl
 i9:=by kernel_rfl
 i20:=by kernel_rfl
 i37:=by kernel_rfl
 i46:=by kernel_rfl
 i51:=by kernel_rfl
 i53:=by kernel_rfl
 i171:=by kernel_rfl
 i173:=by kernel_rfl
 i212:=by kernel_rfl
 i232:=by kernel_rfl
 i233:=by kernel_rfl
 m17:=by kernel_rfl
 m18:=by kernel_rfl
 m19:=by kernel_rfl}
end Go.Proofs
namespace Cw
/-! the numbers of a condition -/
mutual
def ask (j:Int):Cnd→List Int
 | .mk k f _ n _ _ _ ks=>(if k=1∧f=j then [n,min (n + 1) 10000] else []) ++ askL j ks
def askL (j:Int):List Cnd→List Int
 | []=>[]
 | c :: r=>ask j c ++ askL j r
end
def cptF:Int→List Int→List Int
 | _,[]=>[]
 | p,x :: r=>if x=p then cptF p r else x :: cptF x r
def cpt:List Int→List Int
 | []=>[]
 | x :: r=>x :: cptF x r
def sortI (l:List Int):List Int:=l.mergeSort fun x y=>decide (x≤y)
def numsP (j:Int) (cs:List Cnd):List Int:=cpt (sortI (askL j cs ++ [0]))
/-! choices in order -/
def tup:List (List Int)→List (List Int)
 | []=>[[]]
 | l :: r=>l.flatMap fun x=>(tup r).map (x :: ·)
def rest:List (List Int)→List Nat→List (List Int)
 | l :: r,i :: is=>(rest r is).map (l.getD i 0 :: ·) ++ (l.drop (i + 1)).flatMap fun x=>(tup r).map (x :: ·)
 | _,_=>[[]]
def candsP (cs:List Cnd):List (List Int):=[numsP 0 cs,numsP 1 cs,numsP 2 cs,numsP 3 cs,numsP 4 cs]
def cells5 (L:List (List Int)):Nat:=(L.map List.length).foldl (·* ·) 1
def few (cs:List Cnd):Bool:=decide (cells5 (candsP cs)≤20000)
end Cw
namespace Go.AM
open Go.RowKit Go.Proofs Go.Sort Go.Shelf
variable [Vars] {w0 : World} {G : Gh} {h : zI} {w : World}
theorem Inv.ahead (I:Inv w0 G h w) (n:Nat):Inv w0 G h (Sort.ahead w n):=by
 refine⟨⟨⟨I.below.os,I.below.tape,I.below.output,I.below.size,I.below.block⟩,fun e=>Nat.le_trans (I.below.drawn e) (Nat.le_add_right _ _)⟩,I.imm,fun n o e=>?_,I.disj,I.sep,I.oth.keep rfl rfl rfl fun _ _ e _=>e⟩
 exact (I.obj n o e).keep (VLe.refl G) (Nat.le_refl _) (fun _ _ _ _=>⟨rfl,rfl⟩) (fun _ _ _=>rfl) (fun _ _ _ hp=>hp)
theorem Inv.grow (I:Inv w0 G h w) (os:Array Obj):Inv w0 G h (Sort.grow w os):=by
 refine⟨⟨⟨I.below.os,I.below.tape,I.below.output,by rw[size_grow];exact Nat.le_trans I.below.size (Nat.le_add_right _ _),fun k hk=>?_⟩,I.below.drawn⟩,fun a v e=>?_,fun n o e=>?_,I.disj,I.sep,I.oth.keep rfl rfl rfl fun k o e _=>?_⟩
 ·rw[heap_grow_old w os (Nat.lt_of_lt_of_le hk I.below.size)];exact I.below.block k hk
 ·rw[cell?_grow w os a (I.imm_lt e)];exact I.imm a v e
 ·have ok:=I.obj n o e
  refine ok.keep (VLe.refl G) (by rw[size_grow];exact Nat.le_add_right _ _) (fun r hr a ha=>?_) (fun r hr _=>heap_grow_old w os (ok.lt hr)) (fun r p hr hp=>?_)
  ·have:a.block < w.heap.size:=by rw[ha.1];exact ok.lt hr
   exact⟨cell?_grow w os a this,frozen?_grow w os a this⟩
  ·rw[Zr (heap_grow_old w os (ok.lt hr))];exact hp
 ·rw[heap_grow_old w os (Array.getElem?_eq_some_iff.1 e).1];exact e
end Go.AM
namespace Go.AM
open Go.Proofs Cw Du
set_option maxRecDepth 10000
set_option maxHeartbeats 4000000
theorem gPow:Tryz.prog.globalNamed "internal/strconv.uint64pow10" = some 0:=by kernel_rfl
theorem pow_laid {w0 w:World} {G:Gh} {h:zI} (I:Inv w0 G h w):Lib.TabIs Tryz.prog w "internal/strconv.uint64pow10" .u64 Lib.pow10Tab:=by
 have e:(Vars.tab:List (Nat × List Value))[0]? = some (0,Lib.pow10Tab.map fun z=>Value.int .u64 z):=by kernel_rfl
 obtain⟨e,z,ht⟩:=I.tabs.1 _ (List.mem_of_getElem? e)
 unfold Lib.TabIs World.var?
 rw[gPow]
 simp only[Option.bind_some]
 rw[ht]
theorem Jg {n:Int} (h0 : -9223372036854775808≤n) (h1:n≤9223372036854775807):zK Tryz.prog 68 [iv .i64 n] (sv (dec n)):=fun h nn=>⟨(by kernel_rfl:JZ Tryz.prog 68=true),fun w0 G w vs I hf hr=>by
 simp only[RvL] at hr
 obtain⟨v,vr,rfl,hv,rfl⟩:=hr
 rw[Rv_iv] at hv;subst hv
 have hc:Calls Tryz.prog 68 #[.int .i64 n] w _:=Any.strconv_Itoa Tryz.laysitoa n h0 h1 w (pow_laid I)
 refine hc.mono fun e w' ⟨he,k,os,hw⟩=>?_
 have I2:Inv w0 G h w':=by rw[hw];exact (I.ahead k).grow os
 exact⟨G,_,sv (dec n),h,nn,he,⟨Ext.refl _ _,rfl⟩,I2,hf,Nat.le_refl _,Rv_sv.2 rfl,rfl,rfl,rfl⟩⟩
end Go.AM
