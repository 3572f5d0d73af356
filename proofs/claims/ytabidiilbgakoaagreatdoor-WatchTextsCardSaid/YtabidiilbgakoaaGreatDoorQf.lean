/- A source, by the program's parser. Conditions: as each theorem says. -/
import Derived.Test.YtabidiilbgakoaaGreatDoorQe
namespace Go.AM
open Go.Proofs Cw Du
set_option maxRecDepth 10000
set_option maxHeartbeats 4000000
@[go_sem] theorem mapTysF:jm Tryz.prog 191=some (9,190):=by kernel_rfl
@[go_sem] theorem keyOkT (a:ByteArray):qz Tryz.prog 9 (.c (.string a))=some (.string a):=by
 have h:(match Tryz.prog.underlying 9 with | some .string=>true | _=>false)=true:=by kernel_rfl
 unfold qz
 split at h
 ·rename_i hu;rw[hu]
 ·cases h
@[go_sem] theorem zerF:zd Tryz.prog 190=some (.c .nilFunc):=by kernel_rfl
theorem beqB1 (a b:ByteArray):(a == b)=true↔a=b:=by
 have:(a == b)=(a.data == b.data):=by
  simp only[BEq.beq,ByteArray.beq]
 rw[this,beq_iff_eq]
 exact⟨fun h=>ByteArray.ext h,fun h=>by rw[h]⟩
theorem beqD (a b:ByteArray):(a == b)=(a.data.toList == b.data.toList):=by
 rw[Bool.eq_iff_iff,beqB1,beq_iff_eq]
 exact⟨fun h=>by rw[h],fun h=>by apply ByteArray.ext;exact Array.ext' h⟩
theorem isM_data {T:List Tk} {q:Nat} {w:ByteArray} {b:Bool} (h:isM T q w=b):((Zm T q).data.toList == w.data.toList)=b:=by
 rw[←h,isM,ByteArray.toList_eq,ByteArray.toList_eq]
theorem isM_text {T:List Tk} {q:Nat} {w:ByteArray} (h:isM T q w=true):Zm T q=w:=(Qk _ _).1 h
theorem qL {o:Oper} {s:List (Nat × AV)} {h:zI} {n:Nat} {KP:zI→Nat→Prop} {f:Operand} {args:List Operand} {g:FuncId} {fi ca:List AV} (hg:o.guard=none) (ho:Zo o.op=some (f,args)) (hf:ev s f=.func (.func g) fi ca) {L:List AV} (hL:fi ++ args.map (ev s) ++ ca=L) (hk:PCall Tryz.prog zW g L h n KP):ZW Tryz.prog zW o s h n KP:=
 ⟨hg,.inl ⟨f,args,g,fi,ca,ho,hf,by rw[hL];exact hk⟩⟩
theorem scal_acV {s m:Nat} {L:List AV}:AV.scalar (acV s m L)=true:=by unfold acV;split <;> rfl
section
variable {T : List Tk} {nl fu : Bool} {z : Nat} {H : zI} {o p n : Nat}
theorem orderY (S:PSt T nl fu z H o p) (hon:o < n) {q r:Nat} {x:Ordr} (h:ZG T q=.ok (x,r)) (hq:q≤T.length) (H1:zI) (m:Nat) (h1:H1 o=some (atO T nl fu z q)) (h2:n≤m):ATurn Tryz.prog 113 [.ptr o 0] H1 m (zp x) (H1.upd o (some (atO T nl fu z r))):=porder_ok (S.on h1 hq) (by omega) h
theorem orderN (S:PSt T nl fu z H o p) (hon:o < n) {q k:Nat} (h:ZG T q=.error k) (hq:q≤T.length) (H1:zI) (m:Nat) (h1:H1 o=some (atO T nl fu z q)) (h2:n≤m):PCall Tryz.prog zW 113 [.ptr o 0] H1 m (fun h' _=>PErr T nl fu z o k H1 m h'):=porder_bad (S.on h1 hq) (by omega) h
theorem watchY (S:PSt T nl fu z H o p) (hon:o < n) {q r:Nat} {x:Lin} (h:Zt T (q + 1)=.ok (x,r)) (hq:q < T.length) (H1:zI) (m:Nat) (h1:H1 o=some (.cells [.fslc nl fu z (T.map tkP),iv .i64 ((q:Int) + 1)])) (h2:n≤m):ATurn Tryz.prog 108 [.ptr o 0] H1 m (zX x) (H1.upd o (some (atO T nl fu z r))):=pwatch_ok (S.on (by rw[h1,jb]) hq) (by omega) h
theorem watchN (S:PSt T nl fu z H o p) (hon:o < n) {q k:Nat} (h:Zt T (q + 1)=.error k) (hq:q < T.length) (H1:zI) (m:Nat) (h1:H1 o=some (.cells [.fslc nl fu z (T.map tkP),iv .i64 ((q:Int) + 1)])) (h2:n≤m):PCall Tryz.prog zW 108 [.ptr o 0] H1 m (fun h' _=>PErr T nl fu z o k H1 m h'):=pwatch_bad (S.on (by rw[h1,jb]) hq) (by omega) h
theorem restY (S:PSt T nl fu z H o p) (hon:o < n) {q r:Nat} {x:Lin} (h:JL T (q + 1)=.ok (x,r)) (hq:q < T.length) (H1:zI) (m:Nat) (h1:H1 o=some (.cells [.fslc nl fu z (T.map tkP),iv .i64 ((q:Int) + 1)])) (h2:n≤m):ATurn Tryz.prog 109 [.ptr o 0] H1 m (zX x) (H1.upd o (some (atO T nl fu z r))):=prest_ok (S.on (by rw[h1,jb]) hq) (by omega) h
theorem restN (S:PSt T nl fu z H o p) (hon:o < n) {q k:Nat} (h:JL T (q + 1)=.error k) (hq:q < T.length) (H1:zI) (m:Nat) (h1:H1 o=some (.cells [.fslc nl fu z (T.map tkP),iv .i64 ((q:Int) + 1)])) (h2:n≤m):PCall Tryz.prog zW 109 [.ptr o 0] H1 m (fun h' _=>PErr T nl fu z o k H1 m h'):=prest_bad (S.on (by rw[h1,jb]) hq) (by omega) h
theorem cancelY (S:PSt T nl fu z H o p) (hon:o < n) {q r:Nat} {x:Lin} (h:Zp T (q + 1)=.ok (x,r)) (hq:q < T.length) (H1:zI) (m:Nat) (h1:H1 o=some (.cells [.fslc nl fu z (T.map tkP),iv .i64 ((q:Int) + 1)])) (h2:n≤m):ATurn Tryz.prog 110 [.ptr o 0] H1 m (zX x) (H1.upd o (some (atO T nl fu z r))):=pcancel_ok (S.on (by rw[h1,jb]) hq) (by omega) h
theorem cancelN (S:PSt T nl fu z H o p) (hon:o < n) {q k:Nat} (h:Zp T (q + 1)=.error k) (hq:q < T.length) (H1:zI) (m:Nat) (h1:H1 o=some (.cells [.fslc nl fu z (T.map tkP),iv .i64 ((q:Int) + 1)])) (h2:n≤m):PCall Tryz.prog zW 110 [.ptr o 0] H1 m (fun h' _=>PErr T nl fu z o k H1 m h'):=pcancel_bad (S.on (by rw[h1,jb]) hq) (by omega) h
theorem swapY (S:PSt T nl fu z H o p) (hon:o < n) {q r:Nat} {x:Lin} (h:jt T (q + 1)=.ok (x,r)) (hq:q < T.length) (H1:zI) (m:Nat) (h1:H1 o=some (.cells [.fslc nl fu z (T.map tkP),iv .i64 ((q:Int) + 1)])) (h2:n≤m):ATurn Tryz.prog 111 [.ptr o 0] H1 m (zX x) (H1.upd o (some (atO T nl fu z r))):=pswap_ok (S.on (by rw[h1,jb]) hq) (by omega) h
theorem swapN (S:PSt T nl fu z H o p) (hon:o < n) {q k:Nat} (h:jt T (q + 1)=.error k) (hq:q < T.length) (H1:zI) (m:Nat) (h1:H1 o=some (.cells [.fslc nl fu z (T.map tkP),iv .i64 ((q:Int) + 1)])) (h2:n≤m):PCall Tryz.prog zW 111 [.ptr o 0] H1 m (fun h' _=>PErr T nl fu z o k H1 m h'):=pswap_bad (S.on (by rw[h1,jb]) hq) (by omega) h
end
theorem daysM_pos {T:List Tk} {p q:Nat} {x:(Int × Int × Int) × List Int} (h:ZZ T p=.ok (x,q)):q≤T.length∧0 < q:=by
 unfold ZZ at h
 split at h
 ·cases h
 ·split at h
  ·cases h
  ·split at h
   ·rename_i h1
    cases h
    have:=jF (by decide) h1
    omega
   ·cases h
theorem daysL_pos {T:List Tk} {p q:Nat} {kd:Int} {tw pe ot:ByteArray} {x:Lin} (h:jM T p kd tw pe ot=.ok (x,q)):q≤T.length:=by
 unfold jM at h
 split at h
 ·rename_i h1;cases h;exact (daysM_pos h1).1
 ·cases h
def jA (T:List Tk) (f p:Nat) (ls:List Lin) (os:List Ordr):PR (List Lin × List Ordr):=match Qa T f p ls os with
 | .ok x=>.ok (x,T.length)
 | .error k=>.error k
theorem fromM_pos {T:List Tk} {p q:Nat} {x:Int × Int × Int} (h:jn T p=.ok (x,q)):p < q:=by
 unfold jn toM qI at h
 split at h
 ·split at h
  ·rename_i h1;cases h;have:=Zf h1;omega
  ·cases h
 ·split at h
  ·split at h
   ·rename_i h1
    have:=Zf h1
    split at h
    ·split at h
     ·rename_i h2
      have:=Zf h2
      split at h
      ·split at h
       ·rename_i h3;have:=Zf h3;cases h;omega
       ·cases h
      ·cases h;omega
     ·cases h
    ·cases h
   ·cases h
  ·cases h
theorem exM_pos {T:List Tk}:∀(f p q:Nat) (a b:List Int),exM T f p a=.ok (b,q)→p≤q
 | 0,p,q,a,b,h=>by cases h;exact Nat.le_refl _
 | f + 1,p,q,a,b,h=>by
  rw[exM] at h
  split at h
  ·split at h
   ·rename_i h1
    have:=Zf h1
    have:=exM_pos f _ _ _ _ h
    omega
   ·cases h
  ·cases h;exact Nat.le_refl _
theorem excM_pos {T:List Tk} {p q:Nat} {x:List Int} (h:QB T p=.ok (x,q)):p≤q:=by
 unfold QB at h
 split at h
 ·split at h
  ·rename_i h1
   have:=Zf h1
   have:=exM_pos _ _ _ _ _ h
   omega
  ·cases h
 ·cases h;exact Nat.le_refl _
theorem daysM_lt {T:List Tk} {p q:Nat} {x:(Int × Int × Int) × List Int} (h:ZZ T p=.ok (x,q)):p < q:=by
 unfold ZZ at h
 split at h
 ·cases h
 ·rename_i h1
  split at h
  ·cases h
  ·rename_i h2
   split at h
   ·cases h
    have:=fromM_pos h1
    have:=excM_pos h2
    omega
   ·cases h
theorem daysL_lt {T:List Tk} {p q:Nat} {kd:Int} {tw pe ot:ByteArray} {x:Lin} (h:jM T p kd tw pe ot=.ok (x,q)):p < q∧q≤T.length:=by
 refine⟨?_,daysL_pos h⟩
 unfold jM at h
 split at h
 ·rename_i h1;cases h;exact daysM_lt h1
 ·cases h
theorem ql {T:List Tk} {p q:Nat} {x:ByteArray} (h:Zu T p=.ok (x,q)):q=p + 1:=by obtain⟨_,_,_,_,_,e⟩:=jv h;exact e
theorem orderM_pos {T:List Tk} {p q:Nat} {x:Ordr} (h:ZG T p=.ok (x,q)):p < q∧q≤T.length:=by
 unfold ZG at h
 split at h
 ·cases h
 ·rename_i h1
  have:=ql h1
  split at h
  ·cases h
  ·rename_i q2 h2
   split at h
   ·rename_i h3
    have l3:=jF (by decide) h3
    split at h
    ·cases h
    ·rename_i c q3 h4
     have p4:=Z2 T _ .or _ _ _ (by omega) h4
     simp only[ZY] at p4
     split at h
     ·rename_i h5
      have:=jF (by decide) h5
      cases h
      have:p + 1≤q2:=by
       split at h2
       ·have:=Zf h2;omega
       ·cases h2;omega
      omega
     ·cases h
   ·cases h
theorem qP {T:List Tk} {p q:Nat} {x:Lin} (h:ja T p=.ok (x,q)):p < q∧q≤T.length:=by
 unfold ja Zt JL Zp jt at h
 split at h
 ·split at h
  ·rename_i h1
   have:=ql h1
   split at h
   ·split at h
    ·rename_i h2
     have:=ql h2
     have:=daysL_lt h
     omega
    ·cases h
   ·cases h
  ·cases h
 ·split at h
  ·split at h
   ·rename_i h1
    have:=ql h1
    have:=daysL_lt h
    omega
   ·cases h
  ·split at h
   ·split at h
    ·rename_i h1
     have:=ql h1
     have:=daysL_lt h
     omega
    ·cases h
   ·split at h
    ·split at h
     ·rename_i h1
      have:=ql h1
      split at h
      ·rename_i h2
       have:=ql h2
       have:=daysL_lt h
       omega
      ·cases h
     ·cases h
    ·cases h
theorem source_code {T:List Tk} {nl fu:Bool} {z:Nat} {H:zI} {o n:Nat} (S:PSt T nl fu z H o 0) (hon:o < n) {c:Code} (hc:Tryz.f55.body=some c) (hb:HB H n) :
  ze Tryz.prog n c (EndQ Tryz.f55 T nl fu z H o n (jA T (T.length + 1) 0 [] []) QL) {nt:=Tryz.f55.ntmps,s:=zu 0 [.ptr o 0],h:=H,n}:=by
 have s1:=S.at_
 have bb:=beqD
 cases hc
 repeat' (first|(refine zF fun K hK=>?_)|(refine zA fun K hK=>?_;simp (disch:=omega) [go_sem, *,Tryz.ntmps55])|(apply zC.out hK;clear hK K;try with_reducible dsimp only[zG])|(refine zJ ?_))
 refine z8 (fun s'=>∃(ls:List Lin) (os:List Ordr) (q g m1 m2 n':Nat) (H1:zI),jA T (T.length + 1) 0 [] []=jA T g q ls os∧T.length - q < g∧q≤T.length∧ls.length + os.length≤q∧n + 3≤n'∧n + 3≤m1∧m1 < n'∧n + 3≤m2∧m2 < n'∧m1≠m2∧H1 (n + 1)=some (.cells [acV 8 m1 (ls.map zX),acV 7 m2 (os.map zp)])∧H1 m1=acO (ls.map zX)∧H1 m2=acO (os.map zp)∧H1 n=some (.cells [.fslc true true 0 [],.fslc true true 0 []])∧H1 (n + 2)=some (.map 4 [0,1,2,3] [(.string Jp,.func (.func 108) [.ptr o 0] []),(.string wRest,.func (.func 109) [.ptr o 0] []),(.string Jc,.func (.func 110) [.ptr o 0] []),(.string wSwap,.func (.func 111) [.ptr o 0] [])])∧H1 o=some (atO T nl fu z q)∧(∀x,x < n→x≠o→H1 x=H x)∧s'=⟨62,[(4,.map (n + 2)),(3,.ptr (n + 1) 0),(2,.ptr n 0),(0,.ptr o 0)],H1,n'⟩) (fun s2=>T.length - (match s2.h o with | some (.cells [_,.c (.int _ v)])=>v.toNat | _=>0)) ?_ ?_
 ·refine zS (s':=[(4,.map (n + 2)),(3,.ptr (n + 1) 0),(2,.ptr n 0),(0,.ptr o 0)]) (by simp[go_sem]) (Sub.refl _) ⟨[],[],0,T.length + 1,n + 3,n + 4,_,_,rfl,by omega,by omega,by simp,?_,by omega,?_,by omega,?_,by omega,?_,?_,?_,?_,?_,?_,?_,rfl⟩
  ·(try simp only);omega
  ·(try simp only);omega
  ·(try simp only);omega
  ·simp (disch:=omega) [zB,zD,acV]
  ·simp (disch:=omega) [zB,acO];exact hb.none (by omega)
  ·simp (disch:=omega) [zB,acO];exact hb.none (by omega)
  ·simp (disch:=omega) [zB,zD]
  ·simp (disch:=omega) [zD]
  ·simp (disch:=omega) [zB,s1]
  ·intro x hx hne;simp (disch:=omega) [zB]
 ·rintro s2 ⟨ls,os,q,g,m1,m2,n',H1,hR0,hg,gq,hlen,hn',a1,a2,a3,a4,a5,b1,b2,b3,b4,b5,b6,b7,rfl⟩
  clear s1
  have lT:=S.len
  have hTl:(T.map tkP).length=T.length:=List.length_map _
  replace b7:zC _:=b7
  replace hR0:zC _:=hR0
  obtain⟨g,rfl⟩:∃g',g=g' + 1:=⟨g - 1,by omega⟩
  by_cases hlt:q < T.length
  ·have eS:Qa T (g + 1) q ls os=if isM T q Jx then (match ZG T (q + 1) with | .ok (x,r)=>Qa T g r ls (os ++ [x])|.error k=>.error k) else (match ja T q with | .ok (l,r)=>Qa T g r (ls ++ [l]) os | .error k=>.error k):=by rw[Qa,if_neg (by omega)];rfl
   cases h1:isM T q Jx with
   | true=>
    have c1:=tisY S hon h1 gq
    replace c1:zC _:=c1
    cases h2:ZG T (q + 1) with
    | error k=>
     have hR:jA T (T.length + 1) 0 [] []=.error k:=by rw[hR0.out,jA,eS,h1,if_pos rfl,h2]
     have bad:=orderN S hon h2 hlt
     replace bad:zC _:=bad
     replace eS:zC _:=eS
     replace h1:zC _:=h1
     replace h2:zC _:=h2
     repeat' (first|(refine JY (id:=5) (v:=zW) 3 [3,4,5,6,7] (fun h' n'=>PErr T nl fu z o k H n h') mixed (by kernel_rfl) (by kernel_rfl) rfl (fun s _ hk=>EndQ.panic hR hk) ?_)|(refine zF fun K hK=>?_)|(refine zA fun K hK=>?_;simp (disch:=omega) [go_sem, *,])|(refine zm mixed (by kernel_rfl) fun K hK=>?_;simp (disch:=omega) [go_sem, *,])|(refine Z4 (by simp[go_sem]) (by simp (disch:=omega) [go_sem, *,zO,];first | exact rfl | exact⟨rfl,rfl,rfl⟩ | exact (c1.out _ _ (by simp (disch:=omega) [zB,zD, *];fail_if_success focus skip) (by omega)).gcall ⟨rfl,rfl,rfl⟩) ?_;try simp only[zU])|(refine ZH ?_)|(apply zC.out hK;clear hK K;try with_reducible dsimp only[zG])|(apply zC.out ht;clear ht hf Kt Kf)|(with_reducible refine ATurn.gcall (c1.out _ _ (by simp (disch:=omega) [*];fail_if_success focus skip) (by omega)) ?_;try simp (disch:=omega) [go_sem, *,])|(refine zJ ?_)|(refine zL ?_;simp only[zG])|(refine zH fun Kt Kf ht hf=>?_;simp (disch:=omega) [go_sem, *,];try (refine⟨fun hc=>?_,fun hc=>?_⟩ <;> try (exfalso;omega))))
     dsimp only
     repeat' (first
      | exact aQP_e|(refine aQP_v (by decide) (by simp[go_sem]) (by simp (disch:=omega) [go_sem, *,zB];first | exact rfl | exact⟨rfl,rfl,rfl⟩) ?_;try simp only[zU])|(refine aQP_b (by decide) (by decide) ?_;try simp only[zU,ZB])|(refine aQP_p rfl ?_ ?_))
     exact zj (L:=[.ptr o 0]) rfl rfl rfl rfl ((bad.out _ _ (by simp (disch:=omega) [zD, *];fail_if_success focus skip) (by omega)).mono fun _ _ hk=>hk.back (by omega) (fun x hx hne=>by simp (disch:=omega) [zB,b7.out x hx hne]))
    | ok y=>
     obtain⟨x,r⟩:=y
     have hr:=orderM_pos h2
     have hR1:jA T (T.length + 1) 0 [] []=jA T g r ls (os ++ [x]):=by rw[hR0.out,jA,eS,h1,if_pos rfl,h2];rfl
     have c2:=orderY S hon h2 hlt
     have ka:=fun nm=>apOr2 (nm:=nm) (m:=m2) (V:=os) (x:=x) (h:=(H1.upd o (some (atO T nl fu z (q + 1)))).upd o (some (atO T nl fu z r))) (b:=false) (c:=false) (by rw[zB _ _ _ _ (by omega),zB _ _ _ _ (by omega)];exact b3) (by omega)
     obtain⟨xn,xr,⟨ck,cf,co,cn,cnl,cfu,cs,cks⟩⟩:=x
     simp only[zp] at c2
     have ka2:∀nm,Z6 Tryz.prog nm 24 (acV 7 m2 (os.map zp)) (.fslc false false 7 [.agg [sv xn,iv .i64 xr,iv .i64 ck,iv .i64 cf,iv .i64 co,iv .i64 cn,.fslc cnl cfu cs (ZE cks)]]) ((H1.upd o (some (atO T nl fu z (q + 1)))).upd o (some (atO T nl fu z r)))=some (.slc nm 0 (os.length + 1) 7,((((H1.upd o (some (atO T nl fu z (q + 1)))).upd o (some (atO T nl fu z r))).upd m2 none).upd nm (some (.cells (flat ((os ++ [(⟨xn,xr,.mk ck cf co cn cnl cfu cs cks⟩:Ordr)]).map zp)))))):=ka
     clear ka
     generalize hW:(os ++ [(⟨xn,xr,.mk ck cf co cn cnl cfu cs cks⟩:Ordr)])=W at *
     have hWl:W.length=os.length + 1:=by rw[←hW];simp
     replace hW:zC _:=hW
     replace c2:zC _:=c2
     replace eS:zC _:=eS
     replace h1:zC _:=h1
     replace h2:zC _:=h2
     replace hR1:zC _:=hR1
     repeat' (first|(refine zF fun K hK=>?_))
     refine zm mixed (by kernel_rfl) fun K hK=>?_
     simp (disch:=omega) [go_sem, *]
     repeat' (first|(refine zF fun K hK=>?_)|(refine zA fun K hK=>?_;simp (disch:=omega) [go_sem, *])|(refine Z4 (by simp[go_sem]) (by simp (disch:=omega) [go_sem, *,zO];first | exact rfl | exact⟨rfl,rfl,rfl⟩ | exact (c1.out _ _ (by simp (disch:=omega) [zB,zD, *];fail_if_success focus skip) (by omega)).gcall ⟨rfl,rfl,rfl⟩) ?_;try simp only[zU])|(refine ZH ?_)|(apply zC.out hK;clear hK K;try with_reducible dsimp only[zG])|(apply zC.out ht;clear ht hf Kt Kf)|(with_reducible refine ATurn.gcall (c1.out _ _ (by simp (disch:=omega) [*];fail_if_success focus skip) (by omega)) ?_;try simp (disch:=omega) [go_sem, *])|(refine zJ ?_)|(refine zL ?_;simp only[zG])|(refine zH fun Kt Kf ht hf=>?_;simp (disch:=omega) [go_sem, *];try (refine⟨fun hc=>?_,fun hc=>?_⟩ <;> try (exfalso;omega))))
     refine ZU [3,4,5,7] (fun h'=>h' (n + 1)=some (.cells [acV 8 m1 (ls.map zX),acV 7 m2 (os.map zp)])) mixed (by kernel_rfl) (by simp (disch:=omega) [go_sem,zB,b1]) fun K hK=>?_
     simp (disch:=omega) [go_sem, *]
     repeat' (first|(refine aC_c (by simp[go_sem]) (by decide) (fun h' hh=>by (try dsimp only at hh);(try simp (disch:=omega) [go_sem, *]);first | exact rfl | exact⟨rfl,rfl,rfl⟩ | exact (c2.out _ _ (by simp (disch:=omega) [zB,zD, *];fail_if_success focus skip) (by omega)).gcall ⟨rfl,rfl,rfl⟩) ?_;try simp only[zU])|(refine aC_x (by simp[go_sem]) (by decide) (by (try simp (disch:=omega) [go_sem, *,zB]);first | exact rfl | exact⟨rfl,rfl⟩ | exact⟨rfl,rfl,rfl⟩ | exact (c2.out _ _ (by simp (disch:=omega) [zD, *];fail_if_success focus skip) (by omega)).gcall ⟨rfl,rfl,rfl⟩) (by first | exact .inl rfl|(right;simp (disch:=omega) [go_sem,zB,b1])) ?_;try simp only[zU,ZB])|(refine j3 ?_;apply zC.out hK;clear hK K;try with_reducible dsimp only[zG]))
     repeat' (first|(apply zC.out hK;clear hK K;try with_reducible dsimp only[zG])|(refine zk ?_;simp only[zG,zN,if_true,if_false,Nat.reduceEqDiff]))
     refine zl (s':=[(4,.map (n + 2)),(3,.ptr (n + 1) 0),(2,.ptr n 0),(0,.ptr o 0)]) (by simp[go_sem]) (Sub.refl _) ⟨ls,W,r,g,m1,n' + 10 + 2 + 5,_,_,hR1.out,by omega,hr.2,by omega,?_,a1,?_,by omega,?_,by omega,?_,?_,?_,?_,?_,?_,?_,rfl⟩ ?_
     ·(try simp only);omega
     ·(try simp only);omega
     ·exact Nat.add_lt_add_left (by decide) _
     ·have e:=j0 (s:=7) (m:=n' + 10 + 2 + 5) (L:=W.map zp) (by rw[←hW.out];simp)
      rw[zD,e,List.length_map,hWl]
     ·simp (disch:=omega) [zB,b2]
     ·simp (disch:=omega) [zB,zD];rw[acO,if_neg (by rw[←hW.out];simp)]
     ·simp (disch:=omega) [zB,b4]
     ·simp (disch:=omega) [zB,b5]
     ·simp (disch:=omega) [zB,zD]
     ·intro x hx hne;rw[←b7.out x hx hne];simp (disch:=omega) [zB]
     ·simp (disch:=omega) [zB,zD,b6];omega
   | false=>
    have c1:=tisN S hon h1 gq
    replace c1:zC _:=c1
    have ct:=textY S hon gq
    cases k0:isM T q Jp with
    | true=>
     have ht:=isM_text k0
     rw[ht] at ct
     replace ct:zC _:=ct
     clear ht
     have hL:ja T q=Zt T (q + 1):=by simp only[ja,k0,if_true]
     cases h2:Zt T (q + 1) with
     | error k=>
      have hR:jA T (T.length + 1) 0 [] []=.error k:=by rw[hR0.out,jA,eS,h1,hL,h2];rfl
      have bad:=watchN S hon h2 hlt
      replace bad:zC _:=bad
      clear hL
      replace eS:zC _:=eS
      replace h1:zC _:=h1
      replace h2:zC _:=h2
      replace k0:zC _:=k0
      repeat' (first|(refine zF fun K hK=>?_))
      refine zm mixed (by kernel_rfl) fun K hK=>?_
      simp (disch:=omega) [go_sem, *]
      repeat' (first|(refine JY (id:=10) (v:=zW) 3 [3,4,5,6,7] (fun h' n'=>PErr T nl fu z o k H n h') mixed (by kernel_rfl) (by kernel_rfl) rfl (fun s _ hk=>EndQ.panic hR hk) ?_)|(refine zF fun K hK=>?_)|(refine zA fun K hK=>?_;simp (disch:=omega) [go_sem, *,zM,])|(refine Z4 (by simp[go_sem]) (by simp (disch:=omega) [go_sem, *,zO,];first | exact rfl | exact⟨rfl,rfl,rfl⟩ | exact (c1.out _ _ (by simp (disch:=omega) [zB,zD, *];fail_if_success focus skip) (by omega)).gcall ⟨rfl,rfl,rfl⟩ | exact (ct.out _ _ (by simp (disch:=omega) [zB,zD, *];fail_if_success focus skip) (by omega)).gcall ⟨rfl,rfl,rfl⟩) ?_;try simp only[zU])|(refine ZH ?_)|(apply zC.out hK;clear hK K;try with_reducible dsimp only[zG])|(apply zC.out ht;clear ht hf Kt Kf)|(apply zC.out hf;clear ht hf Kt Kf)|(with_reducible refine APureAt.gcall (c1.out _ _ (by simp (disch:=omega) [*];fail_if_success focus skip) (by omega)) ?_;try simp (disch:=omega) [go_sem, *,])|(with_reducible refine APureAt.gcall (ct.out _ _ (by simp (disch:=omega) [*];fail_if_success focus skip) (by omega)) ?_;try simp (disch:=omega) [go_sem, *,])|(refine zJ ?_)|(refine zL ?_;simp only[zG])|(refine zH fun Kt Kf ht hf=>?_;simp (disch:=omega) [go_sem, *,];try (refine⟨fun hc=>?_,fun hc=>?_⟩ <;> try (exfalso;omega))))
      dsimp only
      repeat' (first
       | exact aQP_e|(refine aQP_v (by decide) (by simp[go_sem]) (by simp (disch:=omega) [go_sem, *,zB];first | exact rfl | exact⟨rfl,rfl,rfl⟩) ?_;try simp only[zU])|(refine aQP_b (by decide) (by decide) ?_;try simp only[zU,ZB])|(refine aQP_p rfl ?_ ?_))
      exact qL (L:=[.ptr o 0]) rfl rfl rfl rfl ((bad.out _ _ (by simp (disch:=omega) [zD, *];fail_if_success focus skip) (by omega)).mono fun _ _ hk=>hk.back (by omega) (fun x hx hne=>by simp (disch:=omega) [zB,b7.out x hx hne]))
     | ok y=>
      obtain⟨x,r⟩:=y
      have hr:=qP (hL.trans h2)
      have hR1:jA T (T.length + 1) 0 [] []=jA T g r (ls ++ [x]) os:=by rw[hR0.out,jA,eS,h1,hL,h2];rfl
      have c2:=watchY S hon h2 hlt
      have ka:=fun nm=>apLn2 (nm:=nm) (m:=m1) (V:=ls) (x:=x) (h:=(H1.upd o (some (.cells [.fslc nl fu z (T.map tkP),iv .i64 ((q:Int) + 1)]))).upd o (some (atO T nl fu z r))) (b:=false) (c:=false) (by rw[zB _ _ _ _ (by omega),zB _ _ _ _ (by omega)];exact b2) (by omega)
      have hxe:zX x=.agg [iv .i64 x.kind,sv x.tower,sv x.person,sv x.other,iv .i64 x.fr,iv .i64 x.to,iv .i64 x.ev,.fslc x.nl x.fu x.s (x.exc.map (iv .i64))]:=rfl
      rw[hxe] at c2 ka
      clear hxe
      generalize hW:ls ++ [x]=W at *
      have hWl:W.length=ls.length + 1:=by rw[←hW];simp
      clear hL
      replace hW:zC _:=hW
      replace c2:zC _:=c2
      replace hR1:zC _:=hR1
      replace eS:zC _:=eS
      replace h1:zC _:=h1
      replace h2:zC _:=h2
      replace k0:zC _:=k0
      repeat' (first|(refine zF fun K hK=>?_))
      refine zm mixed (by kernel_rfl) fun K hK=>?_
      simp (disch:=omega) [go_sem, *]
      repeat' (first|(refine zF fun K hK=>?_)|(refine zA fun K hK=>?_;simp (disch:=omega) [go_sem, *,zM])|(refine Z4 (by simp[go_sem]) (by simp (disch:=omega) [go_sem, *,zO];first | exact rfl | exact⟨rfl,rfl,rfl⟩ | exact (c1.out _ _ (by simp (disch:=omega) [zB,zD, *];fail_if_success focus skip) (by omega)).gcall ⟨rfl,rfl,rfl⟩ | exact (ct.out _ _ (by simp (disch:=omega) [zB,zD, *];fail_if_success focus skip) (by omega)).gcall ⟨rfl,rfl,rfl⟩) ?_;try simp only[zU])|(refine ZH ?_)|(apply zC.out hK;clear hK K;try with_reducible dsimp only[zG])|(apply zC.out ht;clear ht hf Kt Kf)|(apply zC.out hf;clear ht hf Kt Kf)|(with_reducible refine APureAt.gcall (c1.out _ _ (by simp (disch:=omega) [*];fail_if_success focus skip) (by omega)) ?_;try simp (disch:=omega) [go_sem, *])|(with_reducible refine APureAt.gcall (ct.out _ _ (by simp (disch:=omega) [*];fail_if_success focus skip) (by omega)) ?_;try simp (disch:=omega) [go_sem, *])|(refine zJ ?_)|(refine zL ?_;simp only[zG])|(refine zH fun Kt Kf ht hf=>?_;simp (disch:=omega) [go_sem, *];try (refine⟨fun hc=>?_,fun hc=>?_⟩ <;> try (exfalso;omega))))
      refine ZU [3,4,5,7] (fun h'=>h' (n + 1)=some (.cells [acV 8 m1 (ls.map zX),acV 7 m2 (os.map zp)])) mixed (by kernel_rfl) (by simp (disch:=omega) [go_sem,zB,b1]) fun K hK=>?_
      simp (disch:=omega) [go_sem, *]
      repeat' (first|(refine aC_c (by simp[go_sem]) (by decide) (fun h' hh=>by (try dsimp only at hh);(try simp (disch:=omega) [go_sem, *]);first | exact rfl | exact⟨rfl,rfl,rfl⟩ | exact (c2.out _ _ (by simp (disch:=omega) [zB,zD, *];fail_if_success focus skip) (by omega)).gcall ⟨rfl,rfl,rfl⟩) ?_;try simp only[zU])|(refine aC_x (by simp[go_sem]) (by decide) (by (try simp (disch:=omega) [go_sem, *,zB]);first | exact rfl | exact⟨rfl,rfl⟩ | exact⟨rfl,rfl,rfl⟩ | exact (c2.out _ _ (by simp (disch:=omega) [zD, *];fail_if_success focus skip) (by omega)).gcall ⟨rfl,rfl,rfl⟩) (by first | exact .inl rfl|(right;simp (disch:=omega) [go_sem,zB,b1])) ?_;try simp only[zU,ZB])|(refine j3 ?_;apply zC.out hK;clear hK K;try with_reducible dsimp only[zG]))
      repeat' (first|(refine zF fun K hK=>?_)|(refine zA fun K hK=>?_;simp (disch:=omega) [go_sem, *,zM,zB,ZJ,zV,ZK,zO,zT,zP,zg,Tryz.ntmps55])|(refine Z4 (by simp[go_sem]) (by simp (disch:=omega) [go_sem, *];first | exact rfl | exact⟨rfl,rfl,rfl⟩) ?_;try simp only[zU,ZB])|(refine Z4 (by simp[go_sem]) (by (try simp (disch:=omega) [go_sem, *]);first | exact rfl | exact⟨rfl,rfl,rfl⟩) ?_;try simp only[zU,ZB])|(refine ZH ?_)|(apply zC.out hK;clear hK K;try with_reducible dsimp only[zG])|(apply zC.out ht;clear ht hf Kt Kf)|(apply zC.out hf;clear ht hf Kt Kf)|(clear hK K;apply zC.out hK;clear hK K;try with_reducible dsimp only[zG])|(clear hK K;clear hK K;apply zC.out hK;clear hK K;try with_reducible dsimp only[zG])|(refine zJ ?_)|(refine zL ?_;simp only[zG,zN])|(refine zk ?_;simp only[zG,zN,if_true,if_false,Nat.reduceEqDiff])|(with_reducible show nextK _ _ _ _ _ _ _;simp (disch:=omega) [go_sem, *,zM,zB,ZJ,zV,ZK,zO,zT,zP,zg,Tryz.ntmps55])|(refine JT (fun hc=>?_) (fun hc=>?_) <;> (try simp only[Bool.not_eq_true',Bool.not_eq_false',Bool.not_eq_eq_eq_not,Bool.not_true,Bool.not_false,decide_eq_true_eq,decide_eq_false_iff_not,Int.not_lt,Int.not_le] at hc) <;> (try (exfalso;omega)) <;> (try simp (disch:=omega) [go_sem, *,zM,zB,ZJ,zV,ZK,zO,zT,zP,zg,Tryz.ntmps55]))|(refine zH fun Kt Kf ht hf=>?_;simp (disch:=omega) [go_sem, *,zM,zB,ZJ,zV,ZK,zO,zT,zP,zg,Tryz.ntmps55];try (refine⟨fun hc=>?_,fun hc=>?_⟩ <;> try (exfalso;omega))))
      refine zl (s':=[(4,.map (n + 2)),(3,.ptr (n + 1) 0),(2,.ptr n 0),(0,.ptr o 0)]) (by simp[go_sem]) (Sub.refl _) ⟨W,os,r,g,n' + 10 + 2 + 9 + 2 + 8 + 5,m2,_,_,hR1.out,by omega,hr.2,by omega,?_,?_,?_,a3,?_,?_,?_,?_,?_,?_,?_,?_,?_,rfl⟩ ?_
      ·(try simp only);omega
      ·omega
      ·exact Nat.add_lt_add_left (by decide) _
      ·(try simp only);omega
      ·omega
      ·have e:=j0 (s:=8) (m:=n' + 10 + 2 + 9 + 2 + 8 + 5) (L:=W.map zX) (by rw[←hW.out];simp)
       rw[zD,e,List.length_map,hWl]
      ·simp (disch:=omega) [zB,zD];rw[acO,if_neg (by rw[←hW.out];simp)]
      ·simp (disch:=omega) [zB,b3]
      ·simp (disch:=omega) [zB,b4]
      ·simp (disch:=omega) [zB,b5]
      ·simp (disch:=omega) [zB,zD]
      ·intro x hx hne;rw[←b7.out x hx hne];simp (disch:=omega) [zB]
      ·simp (disch:=omega) [zB,zD,b6];omega
    | false=>
     cases k1:isM T q wRest with
     | true=>
      have ht:=isM_text k1
      rw[ht] at ct
      replace ct:zC _:=ct
      clear ht
      have hL:ja T q=JL T (q + 1):=by simp only[ja,k0,k1,if_true,if_false,Bool.false_eq_true]
      cases h2:JL T (q + 1) with
      | error k=>
       have hR:jA T (T.length + 1) 0 [] []=.error k:=by rw[hR0.out,jA,eS,h1,hL,h2];rfl
       have bad:=restN S hon h2 hlt
       replace bad:zC _:=bad
       clear hL
       replace eS:zC _:=eS
       replace h1:zC _:=h1
       replace h2:zC _:=h2
       replace k0:zC _:=k0
       replace k1:zC _:=k1
       repeat' (first|(refine zF fun K hK=>?_))
       refine zm mixed (by kernel_rfl) fun K hK=>?_
       simp (disch:=omega) [go_sem, *]
       repeat' (first|(refine JY (id:=10) (v:=zW) 3 [3,4,5,6,7] (fun h' n'=>PErr T nl fu z o k H n h') mixed (by kernel_rfl) (by kernel_rfl) rfl (fun s _ hk=>EndQ.panic hR hk) ?_)|(refine zF fun K hK=>?_)|(refine zA fun K hK=>?_;simp (disch:=omega) [go_sem, *,zM,])|(refine Z4 (by simp[go_sem]) (by simp (disch:=omega) [go_sem, *,zO,];first | exact rfl | exact⟨rfl,rfl,rfl⟩ | exact (c1.out _ _ (by simp (disch:=omega) [zB,zD, *];fail_if_success focus skip) (by omega)).gcall ⟨rfl,rfl,rfl⟩ | exact (ct.out _ _ (by simp (disch:=omega) [zB,zD, *];fail_if_success focus skip) (by omega)).gcall ⟨rfl,rfl,rfl⟩) ?_;try simp only[zU])|(refine ZH ?_)|(apply zC.out hK;clear hK K;try with_reducible dsimp only[zG])|(apply zC.out ht;clear ht hf Kt Kf)|(apply zC.out hf;clear ht hf Kt Kf)|(with_reducible refine APureAt.gcall (c1.out _ _ (by simp (disch:=omega) [*];fail_if_success focus skip) (by omega)) ?_;try simp (disch:=omega) [go_sem, *,])|(with_reducible refine APureAt.gcall (ct.out _ _ (by simp (disch:=omega) [*];fail_if_success focus skip) (by omega)) ?_;try simp (disch:=omega) [go_sem, *,])|(refine zJ ?_)|(refine zL ?_;simp only[zG])|(refine zH fun Kt Kf ht hf=>?_;simp (disch:=omega) [go_sem, *,];try (refine⟨fun hc=>?_,fun hc=>?_⟩ <;> try (exfalso;omega))))
       dsimp only
       repeat' (first
        | exact aQP_e|(refine aQP_v (by decide) (by simp[go_sem]) (by simp (disch:=omega) [go_sem, *,zB];first | exact rfl | exact⟨rfl,rfl,rfl⟩) ?_;try simp only[zU])|(refine aQP_b (by decide) (by decide) ?_;try simp only[zU,ZB])|(refine aQP_p rfl ?_ ?_))
       exact qL (L:=[.ptr o 0]) rfl rfl rfl rfl ((bad.out _ _ (by simp (disch:=omega) [zD, *];fail_if_success focus skip) (by omega)).mono fun _ _ hk=>hk.back (by omega) (fun x hx hne=>by simp (disch:=omega) [zB,b7.out x hx hne]))
      | ok y=>
       obtain⟨x,r⟩:=y
       have hr:=qP (hL.trans h2)
       have hR1:jA T (T.length + 1) 0 [] []=jA T g r (ls ++ [x]) os:=by rw[hR0.out,jA,eS,h1,hL,h2];rfl
       have c2:=restY S hon h2 hlt
       have ka:=fun nm=>apLn2 (nm:=nm) (m:=m1) (V:=ls) (x:=x) (h:=(H1.upd o (some (.cells [.fslc nl fu z (T.map tkP),iv .i64 ((q:Int) + 1)]))).upd o (some (atO T nl fu z r))) (b:=false) (c:=false) (by rw[zB _ _ _ _ (by omega),zB _ _ _ _ (by omega)];exact b2) (by omega)
       have hxe:zX x=.agg [iv .i64 x.kind,sv x.tower,sv x.person,sv x.other,iv .i64 x.fr,iv .i64 x.to,iv .i64 x.ev,.fslc x.nl x.fu x.s (x.exc.map (iv .i64))]:=rfl
       rw[hxe] at c2 ka
       clear hxe
       generalize hW:ls ++ [x]=W at *
       have hWl:W.length=ls.length + 1:=by rw[←hW];simp
       clear hL
       replace hW:zC _:=hW
       replace c2:zC _:=c2
       replace hR1:zC _:=hR1
       replace eS:zC _:=eS
       replace h1:zC _:=h1
       replace h2:zC _:=h2
       replace k0:zC _:=k0
       replace k1:zC _:=k1
       repeat' (first|(refine zF fun K hK=>?_))
       refine zm mixed (by kernel_rfl) fun K hK=>?_
       simp (disch:=omega) [go_sem, *]
       repeat' (first|(refine zF fun K hK=>?_)|(refine zA fun K hK=>?_;simp (disch:=omega) [go_sem, *,zM])|(refine Z4 (by simp[go_sem]) (by simp (disch:=omega) [go_sem, *,zO];first | exact rfl | exact⟨rfl,rfl,rfl⟩ | exact (c1.out _ _ (by simp (disch:=omega) [zB,zD, *];fail_if_success focus skip) (by omega)).gcall ⟨rfl,rfl,rfl⟩ | exact (ct.out _ _ (by simp (disch:=omega) [zB,zD, *];fail_if_success focus skip) (by omega)).gcall ⟨rfl,rfl,rfl⟩) ?_;try simp only[zU])|(refine ZH ?_)|(apply zC.out hK;clear hK K;try with_reducible dsimp only[zG])|(apply zC.out ht;clear ht hf Kt Kf)|(apply zC.out hf;clear ht hf Kt Kf)|(with_reducible refine APureAt.gcall (c1.out _ _ (by simp (disch:=omega) [*];fail_if_success focus skip) (by omega)) ?_;try simp (disch:=omega) [go_sem, *])|(with_reducible refine APureAt.gcall (ct.out _ _ (by simp (disch:=omega) [*];fail_if_success focus skip) (by omega)) ?_;try simp (disch:=omega) [go_sem, *])|(refine zJ ?_)|(refine zL ?_;simp only[zG])|(refine zH fun Kt Kf ht hf=>?_;simp (disch:=omega) [go_sem, *];try (refine⟨fun hc=>?_,fun hc=>?_⟩ <;> try (exfalso;omega))))
       refine ZU [3,4,5,7] (fun h'=>h' (n + 1)=some (.cells [acV 8 m1 (ls.map zX),acV 7 m2 (os.map zp)])) mixed (by kernel_rfl) (by simp (disch:=omega) [go_sem,zB,b1]) fun K hK=>?_
       simp (disch:=omega) [go_sem, *]
       repeat' (first|(refine aC_c (by simp[go_sem]) (by decide) (fun h' hh=>by (try dsimp only at hh);(try simp (disch:=omega) [go_sem, *]);first | exact rfl | exact⟨rfl,rfl,rfl⟩ | exact (c2.out _ _ (by simp (disch:=omega) [zB,zD, *];fail_if_success focus skip) (by omega)).gcall ⟨rfl,rfl,rfl⟩) ?_;try simp only[zU])|(refine aC_x (by simp[go_sem]) (by decide) (by (try simp (disch:=omega) [go_sem, *,zB]);first | exact rfl | exact⟨rfl,rfl⟩ | exact⟨rfl,rfl,rfl⟩ | exact (c2.out _ _ (by simp (disch:=omega) [zD, *];fail_if_success focus skip) (by omega)).gcall ⟨rfl,rfl,rfl⟩) (by first | exact .inl rfl|(right;simp (disch:=omega) [go_sem,zB,b1])) ?_;try simp only[zU,ZB])|(refine j3 ?_;apply zC.out hK;clear hK K;try with_reducible dsimp only[zG]))
       repeat' (first|(refine zF fun K hK=>?_)|(refine zA fun K hK=>?_;simp (disch:=omega) [go_sem, *,zM,zB,ZJ,zV,ZK,zO,zT,zP,zg,Tryz.ntmps55])|(refine Z4 (by simp[go_sem]) (by simp (disch:=omega) [go_sem, *];first | exact rfl | exact⟨rfl,rfl,rfl⟩) ?_;try simp only[zU,ZB])|(refine Z4 (by simp[go_sem]) (by (try simp (disch:=omega) [go_sem, *]);first | exact rfl | exact⟨rfl,rfl,rfl⟩) ?_;try simp only[zU,ZB])|(refine ZH ?_)|(apply zC.out hK;clear hK K;try with_reducible dsimp only[zG])|(apply zC.out ht;clear ht hf Kt Kf)|(apply zC.out hf;clear ht hf Kt Kf)|(clear hK K;apply zC.out hK;clear hK K;try with_reducible dsimp only[zG])|(clear hK K;clear hK K;apply zC.out hK;clear hK K;try with_reducible dsimp only[zG])|(refine zJ ?_)|(refine zL ?_;simp only[zG,zN])|(refine zk ?_;simp only[zG,zN,if_true,if_false,Nat.reduceEqDiff])|(with_reducible show nextK _ _ _ _ _ _ _;simp (disch:=omega) [go_sem, *,zM,zB,ZJ,zV,ZK,zO,zT,zP,zg,Tryz.ntmps55])|(refine JT (fun hc=>?_) (fun hc=>?_) <;> (try simp only[Bool.not_eq_true',Bool.not_eq_false',Bool.not_eq_eq_eq_not,Bool.not_true,Bool.not_false,decide_eq_true_eq,decide_eq_false_iff_not,Int.not_lt,Int.not_le] at hc) <;> (try (exfalso;omega)) <;> (try simp (disch:=omega) [go_sem, *,zM,zB,ZJ,zV,ZK,zO,zT,zP,zg,Tryz.ntmps55]))|(refine zH fun Kt Kf ht hf=>?_;simp (disch:=omega) [go_sem, *,zM,zB,ZJ,zV,ZK,zO,zT,zP,zg,Tryz.ntmps55];try (refine⟨fun hc=>?_,fun hc=>?_⟩ <;> try (exfalso;omega))))
       refine zl (s':=[(4,.map (n + 2)),(3,.ptr (n + 1) 0),(2,.ptr n 0),(0,.ptr o 0)]) (by simp[go_sem]) (Sub.refl _) ⟨W,os,r,g,n' + 10 + 2 + 9 + 2 + 8 + 5,m2,_,_,hR1.out,by omega,hr.2,by omega,?_,?_,?_,a3,?_,?_,?_,?_,?_,?_,?_,?_,?_,rfl⟩ ?_
       ·(try simp only);omega
       ·omega
       ·exact Nat.add_lt_add_left (by decide) _
       ·(try simp only);omega
       ·omega
       ·have e:=j0 (s:=8) (m:=n' + 10 + 2 + 9 + 2 + 8 + 5) (L:=W.map zX) (by rw[←hW.out];simp)
        rw[zD,e,List.length_map,hWl]
       ·simp (disch:=omega) [zB,zD];rw[acO,if_neg (by rw[←hW.out];simp)]
       ·simp (disch:=omega) [zB,b3]
       ·simp (disch:=omega) [zB,b4]
       ·simp (disch:=omega) [zB,b5]
       ·simp (disch:=omega) [zB,zD]
       ·intro x hx hne;rw[←b7.out x hx hne];simp (disch:=omega) [zB]
       ·simp (disch:=omega) [zB,zD,b6];omega
     | false=>
      cases k2:isM T q Jc with
      | true=>
       have ht:=isM_text k2
       rw[ht] at ct
       replace ct:zC _:=ct
       clear ht
       have hL:ja T q=Zp T (q + 1):=by simp only[ja,k0,k1,k2,if_true,if_false,Bool.false_eq_true]
       cases h2:Zp T (q + 1) with
       | error k=>
        have hR:jA T (T.length + 1) 0 [] []=.error k:=by rw[hR0.out,jA,eS,h1,hL,h2];rfl
        have bad:=cancelN S hon h2 hlt
        replace bad:zC _:=bad
        clear hL
        replace eS:zC _:=eS
        replace h1:zC _:=h1
        replace h2:zC _:=h2
        replace k0:zC _:=k0
        replace k1:zC _:=k1
        replace k2:zC _:=k2
        repeat' (first|(refine zF fun K hK=>?_))
        refine zm mixed (by kernel_rfl) fun K hK=>?_
        simp (disch:=omega) [go_sem, *]
        repeat' (first|(refine JY (id:=10) (v:=zW) 3 [3,4,5,6,7] (fun h' n'=>PErr T nl fu z o k H n h') mixed (by kernel_rfl) (by kernel_rfl) rfl (fun s _ hk=>EndQ.panic hR hk) ?_)|(refine zF fun K hK=>?_)|(refine zA fun K hK=>?_;simp (disch:=omega) [go_sem, *,zM,])|(refine Z4 (by simp[go_sem]) (by simp (disch:=omega) [go_sem, *,zO,];first | exact rfl | exact⟨rfl,rfl,rfl⟩ | exact (c1.out _ _ (by simp (disch:=omega) [zB,zD, *];fail_if_success focus skip) (by omega)).gcall ⟨rfl,rfl,rfl⟩ | exact (ct.out _ _ (by simp (disch:=omega) [zB,zD, *];fail_if_success focus skip) (by omega)).gcall ⟨rfl,rfl,rfl⟩) ?_;try simp only[zU])|(refine ZH ?_)|(apply zC.out hK;clear hK K;try with_reducible dsimp only[zG])|(apply zC.out ht;clear ht hf Kt Kf)|(apply zC.out hf;clear ht hf Kt Kf)|(with_reducible refine APureAt.gcall (c1.out _ _ (by simp (disch:=omega) [*];fail_if_success focus skip) (by omega)) ?_;try simp (disch:=omega) [go_sem, *,])|(with_reducible refine APureAt.gcall (ct.out _ _ (by simp (disch:=omega) [*];fail_if_success focus skip) (by omega)) ?_;try simp (disch:=omega) [go_sem, *,])|(refine zJ ?_)|(refine zL ?_;simp only[zG])|(refine zH fun Kt Kf ht hf=>?_;simp (disch:=omega) [go_sem, *,];try (refine⟨fun hc=>?_,fun hc=>?_⟩ <;> try (exfalso;omega))))
        dsimp only
        repeat' (first
         | exact aQP_e|(refine aQP_v (by decide) (by simp[go_sem]) (by simp (disch:=omega) [go_sem, *,zB];first | exact rfl | exact⟨rfl,rfl,rfl⟩) ?_;try simp only[zU])|(refine aQP_b (by decide) (by decide) ?_;try simp only[zU,ZB])|(refine aQP_p rfl ?_ ?_))
        exact qL (L:=[.ptr o 0]) rfl rfl rfl rfl ((bad.out _ _ (by simp (disch:=omega) [zD, *];fail_if_success focus skip) (by omega)).mono fun _ _ hk=>hk.back (by omega) (fun x hx hne=>by simp (disch:=omega) [zB,b7.out x hx hne]))
       | ok y=>
        obtain⟨x,r⟩:=y
        have hr:=qP (hL.trans h2)
        have hR1:jA T (T.length + 1) 0 [] []=jA T g r (ls ++ [x]) os:=by rw[hR0.out,jA,eS,h1,hL,h2];rfl
        have c2:=cancelY S hon h2 hlt
        have ka:=fun nm=>apLn2 (nm:=nm) (m:=m1) (V:=ls) (x:=x) (h:=(H1.upd o (some (.cells [.fslc nl fu z (T.map tkP),iv .i64 ((q:Int) + 1)]))).upd o (some (atO T nl fu z r))) (b:=false) (c:=false) (by rw[zB _ _ _ _ (by omega),zB _ _ _ _ (by omega)];exact b2) (by omega)
        have hxe:zX x=.agg [iv .i64 x.kind,sv x.tower,sv x.person,sv x.other,iv .i64 x.fr,iv .i64 x.to,iv .i64 x.ev,.fslc x.nl x.fu x.s (x.exc.map (iv .i64))]:=rfl
        rw[hxe] at c2 ka
        clear hxe
        generalize hW:ls ++ [x]=W at *
        have hWl:W.length=ls.length + 1:=by rw[←hW];simp
        clear hL
        replace hW:zC _:=hW
        replace c2:zC _:=c2
        replace hR1:zC _:=hR1
        replace eS:zC _:=eS
        replace h1:zC _:=h1
        replace h2:zC _:=h2
        replace k0:zC _:=k0
        replace k1:zC _:=k1
        replace k2:zC _:=k2
        repeat' (first|(refine zF fun K hK=>?_))
        refine zm mixed (by kernel_rfl) fun K hK=>?_
        simp (disch:=omega) [go_sem, *]
        repeat' (first|(refine zF fun K hK=>?_)|(refine zA fun K hK=>?_;simp (disch:=omega) [go_sem, *,zM])|(refine Z4 (by simp[go_sem]) (by simp (disch:=omega) [go_sem, *,zO];first | exact rfl | exact⟨rfl,rfl,rfl⟩ | exact (c1.out _ _ (by simp (disch:=omega) [zB,zD, *];fail_if_success focus skip) (by omega)).gcall ⟨rfl,rfl,rfl⟩ | exact (ct.out _ _ (by simp (disch:=omega) [zB,zD, *];fail_if_success focus skip) (by omega)).gcall ⟨rfl,rfl,rfl⟩) ?_;try simp only[zU])|(refine ZH ?_)|(apply zC.out hK;clear hK K;try with_reducible dsimp only[zG])|(apply zC.out ht;clear ht hf Kt Kf)|(apply zC.out hf;clear ht hf Kt Kf)|(with_reducible refine APureAt.gcall (c1.out _ _ (by simp (disch:=omega) [*];fail_if_success focus skip) (by omega)) ?_;try simp (disch:=omega) [go_sem, *])|(with_reducible refine APureAt.gcall (ct.out _ _ (by simp (disch:=omega) [*];fail_if_success focus skip) (by omega)) ?_;try simp (disch:=omega) [go_sem, *])|(refine zJ ?_)|(refine zL ?_;simp only[zG])|(refine zH fun Kt Kf ht hf=>?_;simp (disch:=omega) [go_sem, *];try (refine⟨fun hc=>?_,fun hc=>?_⟩ <;> try (exfalso;omega))))
        refine ZU [3,4,5,7] (fun h'=>h' (n + 1)=some (.cells [acV 8 m1 (ls.map zX),acV 7 m2 (os.map zp)])) mixed (by kernel_rfl) (by simp (disch:=omega) [go_sem,zB,b1]) fun K hK=>?_
        simp (disch:=omega) [go_sem, *]
        repeat' (first|(refine aC_c (by simp[go_sem]) (by decide) (fun h' hh=>by (try dsimp only at hh);(try simp (disch:=omega) [go_sem, *]);first | exact rfl | exact⟨rfl,rfl,rfl⟩ | exact (c2.out _ _ (by simp (disch:=omega) [zB,zD, *];fail_if_success focus skip) (by omega)).gcall ⟨rfl,rfl,rfl⟩) ?_;try simp only[zU])|(refine aC_x (by simp[go_sem]) (by decide) (by (try simp (disch:=omega) [go_sem, *,zB]);first | exact rfl | exact⟨rfl,rfl⟩ | exact⟨rfl,rfl,rfl⟩ | exact (c2.out _ _ (by simp (disch:=omega) [zD, *];fail_if_success focus skip) (by omega)).gcall ⟨rfl,rfl,rfl⟩) (by first | exact .inl rfl|(right;simp (disch:=omega) [go_sem,zB,b1])) ?_;try simp only[zU,ZB])|(refine j3 ?_;apply zC.out hK;clear hK K;try with_reducible dsimp only[zG]))
        repeat' (first|(refine zF fun K hK=>?_)|(refine zA fun K hK=>?_;simp (disch:=omega) [go_sem, *,zM,zB,ZJ,zV,ZK,zO,zT,zP,zg,Tryz.ntmps55])|(refine Z4 (by simp[go_sem]) (by simp (disch:=omega) [go_sem, *];first | exact rfl | exact⟨rfl,rfl,rfl⟩) ?_;try simp only[zU,ZB])|(refine Z4 (by simp[go_sem]) (by (try simp (disch:=omega) [go_sem, *]);first | exact rfl | exact⟨rfl,rfl,rfl⟩) ?_;try simp only[zU,ZB])|(refine ZH ?_)|(apply zC.out hK;clear hK K;try with_reducible dsimp only[zG])|(apply zC.out ht;clear ht hf Kt Kf)|(apply zC.out hf;clear ht hf Kt Kf)|(clear hK K;apply zC.out hK;clear hK K;try with_reducible dsimp only[zG])|(clear hK K;clear hK K;apply zC.out hK;clear hK K;try with_reducible dsimp only[zG])|(refine zJ ?_)|(refine zL ?_;simp only[zG,zN])|(refine zk ?_;simp only[zG,zN,if_true,if_false,Nat.reduceEqDiff])|(with_reducible show nextK _ _ _ _ _ _ _;simp (disch:=omega) [go_sem, *,zM,zB,ZJ,zV,ZK,zO,zT,zP,zg,Tryz.ntmps55])|(refine JT (fun hc=>?_) (fun hc=>?_) <;> (try simp only[Bool.not_eq_true',Bool.not_eq_false',Bool.not_eq_eq_eq_not,Bool.not_true,Bool.not_false,decide_eq_true_eq,decide_eq_false_iff_not,Int.not_lt,Int.not_le] at hc) <;> (try (exfalso;omega)) <;> (try simp (disch:=omega) [go_sem, *,zM,zB,ZJ,zV,ZK,zO,zT,zP,zg,Tryz.ntmps55]))|(refine zH fun Kt Kf ht hf=>?_;simp (disch:=omega) [go_sem, *,zM,zB,ZJ,zV,ZK,zO,zT,zP,zg,Tryz.ntmps55];try (refine⟨fun hc=>?_,fun hc=>?_⟩ <;> try (exfalso;omega))))
        refine zl (s':=[(4,.map (n + 2)),(3,.ptr (n + 1) 0),(2,.ptr n 0),(0,.ptr o 0)]) (by simp[go_sem]) (Sub.refl _) ⟨W,os,r,g,n' + 10 + 2 + 9 + 2 + 8 + 5,m2,_,_,hR1.out,by omega,hr.2,by omega,?_,?_,?_,a3,?_,?_,?_,?_,?_,?_,?_,?_,?_,rfl⟩ ?_
        ·(try simp only);omega
        ·omega
        ·exact Nat.add_lt_add_left (by decide) _
        ·(try simp only);omega
        ·omega
        ·have e:=j0 (s:=8) (m:=n' + 10 + 2 + 9 + 2 + 8 + 5) (L:=W.map zX) (by rw[←hW.out];simp)
         rw[zD,e,List.length_map,hWl]
        ·simp (disch:=omega) [zB,zD];rw[acO,if_neg (by rw[←hW.out];simp)]
        ·simp (disch:=omega) [zB,b3]
        ·simp (disch:=omega) [zB,b4]
        ·simp (disch:=omega) [zB,b5]
        ·simp (disch:=omega) [zB,zD]
        ·intro x hx hne;rw[←b7.out x hx hne];simp (disch:=omega) [zB]
        ·simp (disch:=omega) [zB,zD,b6];omega
      | false=>
       cases k3:isM T q wSwap with
       | true=>
        have ht:=isM_text k3
        rw[ht] at ct
        replace ct:zC _:=ct
        clear ht
        have hL:ja T q=jt T (q + 1):=by simp only[ja,k0,k1,k2,k3,if_true,if_false,Bool.false_eq_true]
        cases h2:jt T (q + 1) with
        | error k=>
         have hR:jA T (T.length + 1) 0 [] []=.error k:=by rw[hR0.out,jA,eS,h1,hL,h2];rfl
         have bad:=swapN S hon h2 hlt
         replace bad:zC _:=bad
         clear hL
         replace eS:zC _:=eS
         replace h1:zC _:=h1
         replace h2:zC _:=h2
         replace k0:zC _:=k0
         replace k1:zC _:=k1
         replace k2:zC _:=k2
         replace k3:zC _:=k3
         repeat' (first|(refine zF fun K hK=>?_))
         refine zm mixed (by kernel_rfl) fun K hK=>?_
         simp (disch:=omega) [go_sem, *]
         repeat' (first|(refine JY (id:=10) (v:=zW) 3 [3,4,5,6,7] (fun h' n'=>PErr T nl fu z o k H n h') mixed (by kernel_rfl) (by kernel_rfl) rfl (fun s _ hk=>EndQ.panic hR hk) ?_)|(refine zF fun K hK=>?_)|(refine zA fun K hK=>?_;simp (disch:=omega) [go_sem, *,zM,])|(refine Z4 (by simp[go_sem]) (by simp (disch:=omega) [go_sem, *,zO,];first | exact rfl | exact⟨rfl,rfl,rfl⟩ | exact (c1.out _ _ (by simp (disch:=omega) [zB,zD, *];fail_if_success focus skip) (by omega)).gcall ⟨rfl,rfl,rfl⟩ | exact (ct.out _ _ (by simp (disch:=omega) [zB,zD, *];fail_if_success focus skip) (by omega)).gcall ⟨rfl,rfl,rfl⟩) ?_;try simp only[zU])|(refine ZH ?_)|(apply zC.out hK;clear hK K;try with_reducible dsimp only[zG])|(apply zC.out ht;clear ht hf Kt Kf)|(apply zC.out hf;clear ht hf Kt Kf)|(with_reducible refine APureAt.gcall (c1.out _ _ (by simp (disch:=omega) [*];fail_if_success focus skip) (by omega)) ?_;try simp (disch:=omega) [go_sem, *,])|(with_reducible refine APureAt.gcall (ct.out _ _ (by simp (disch:=omega) [*];fail_if_success focus skip) (by omega)) ?_;try simp (disch:=omega) [go_sem, *,])|(refine zJ ?_)|(refine zL ?_;simp only[zG])|(refine zH fun Kt Kf ht hf=>?_;simp (disch:=omega) [go_sem, *,];try (refine⟨fun hc=>?_,fun hc=>?_⟩ <;> try (exfalso;omega))))
         dsimp only
         repeat' (first
          | exact aQP_e|(refine aQP_v (by decide) (by simp[go_sem]) (by simp (disch:=omega) [go_sem, *,zB];first | exact rfl | exact⟨rfl,rfl,rfl⟩) ?_;try simp only[zU])|(refine aQP_b (by decide) (by decide) ?_;try simp only[zU,ZB])|(refine aQP_p rfl ?_ ?_))
         exact qL (L:=[.ptr o 0]) rfl rfl rfl rfl ((bad.out _ _ (by simp (disch:=omega) [zD, *];fail_if_success focus skip) (by omega)).mono fun _ _ hk=>hk.back (by omega) (fun x hx hne=>by simp (disch:=omega) [zB,b7.out x hx hne]))
        | ok y=>
         obtain⟨x,r⟩:=y
         have hr:=qP (hL.trans h2)
         have hR1:jA T (T.length + 1) 0 [] []=jA T g r (ls ++ [x]) os:=by rw[hR0.out,jA,eS,h1,hL,h2];rfl
         have c2:=swapY S hon h2 hlt
         have ka:=fun nm=>apLn2 (nm:=nm) (m:=m1) (V:=ls) (x:=x) (h:=(H1.upd o (some (.cells [.fslc nl fu z (T.map tkP),iv .i64 ((q:Int) + 1)]))).upd o (some (atO T nl fu z r))) (b:=false) (c:=false) (by rw[zB _ _ _ _ (by omega),zB _ _ _ _ (by omega)];exact b2) (by omega)
         have hxe:zX x=.agg [iv .i64 x.kind,sv x.tower,sv x.person,sv x.other,iv .i64 x.fr,iv .i64 x.to,iv .i64 x.ev,.fslc x.nl x.fu x.s (x.exc.map (iv .i64))]:=rfl
         rw[hxe] at c2 ka
         clear hxe
         generalize hW:ls ++ [x]=W at *
         have hWl:W.length=ls.length + 1:=by rw[←hW];simp
         clear hL
         replace hW:zC _:=hW
         replace c2:zC _:=c2
         replace hR1:zC _:=hR1
         replace eS:zC _:=eS
         replace h1:zC _:=h1
         replace h2:zC _:=h2
         replace k0:zC _:=k0
         replace k1:zC _:=k1
         replace k2:zC _:=k2
         replace k3:zC _:=k3
         repeat' (first|(refine zF fun K hK=>?_))
         refine zm mixed (by kernel_rfl) fun K hK=>?_
         simp (disch:=omega) [go_sem, *]
         repeat' (first|(refine zF fun K hK=>?_)|(refine zA fun K hK=>?_;simp (disch:=omega) [go_sem, *,zM])|(refine Z4 (by simp[go_sem]) (by simp (disch:=omega) [go_sem, *,zO];first | exact rfl | exact⟨rfl,rfl,rfl⟩ | exact (c1.out _ _ (by simp (disch:=omega) [zB,zD, *];fail_if_success focus skip) (by omega)).gcall ⟨rfl,rfl,rfl⟩ | exact (ct.out _ _ (by simp (disch:=omega) [zB,zD, *];fail_if_success focus skip) (by omega)).gcall ⟨rfl,rfl,rfl⟩) ?_;try simp only[zU])|(refine ZH ?_)|(apply zC.out hK;clear hK K;try with_reducible dsimp only[zG])|(apply zC.out ht;clear ht hf Kt Kf)|(apply zC.out hf;clear ht hf Kt Kf)|(with_reducible refine APureAt.gcall (c1.out _ _ (by simp (disch:=omega) [*];fail_if_success focus skip) (by omega)) ?_;try simp (disch:=omega) [go_sem, *])|(with_reducible refine APureAt.gcall (ct.out _ _ (by simp (disch:=omega) [*];fail_if_success focus skip) (by omega)) ?_;try simp (disch:=omega) [go_sem, *])|(refine zJ ?_)|(refine zL ?_;simp only[zG])|(refine zH fun Kt Kf ht hf=>?_;simp (disch:=omega) [go_sem, *];try (refine⟨fun hc=>?_,fun hc=>?_⟩ <;> try (exfalso;omega))))
         refine ZU [3,4,5,7] (fun h'=>h' (n + 1)=some (.cells [acV 8 m1 (ls.map zX),acV 7 m2 (os.map zp)])) mixed (by kernel_rfl) (by simp (disch:=omega) [go_sem,zB,b1]) fun K hK=>?_
         simp (disch:=omega) [go_sem, *]
         repeat' (first|(refine aC_c (by simp[go_sem]) (by decide) (fun h' hh=>by (try dsimp only at hh);(try simp (disch:=omega) [go_sem, *]);first | exact rfl | exact⟨rfl,rfl,rfl⟩ | exact (c2.out _ _ (by simp (disch:=omega) [zB,zD, *];fail_if_success focus skip) (by omega)).gcall ⟨rfl,rfl,rfl⟩) ?_;try simp only[zU])|(refine aC_x (by simp[go_sem]) (by decide) (by (try simp (disch:=omega) [go_sem, *,zB]);first | exact rfl | exact⟨rfl,rfl⟩ | exact⟨rfl,rfl,rfl⟩ | exact (c2.out _ _ (by simp (disch:=omega) [zD, *];fail_if_success focus skip) (by omega)).gcall ⟨rfl,rfl,rfl⟩) (by first | exact .inl rfl|(right;simp (disch:=omega) [go_sem,zB,b1])) ?_;try simp only[zU,ZB])|(refine j3 ?_;apply zC.out hK;clear hK K;try with_reducible dsimp only[zG]))
         repeat' (first|(refine zF fun K hK=>?_)|(refine zA fun K hK=>?_;simp (disch:=omega) [go_sem, *,zM,zB,ZJ,zV,ZK,zO,zT,zP,zg,Tryz.ntmps55])|(refine Z4 (by simp[go_sem]) (by simp (disch:=omega) [go_sem, *];first | exact rfl | exact⟨rfl,rfl,rfl⟩) ?_;try simp only[zU,ZB])|(refine Z4 (by simp[go_sem]) (by (try simp (disch:=omega) [go_sem, *]);first | exact rfl | exact⟨rfl,rfl,rfl⟩) ?_;try simp only[zU,ZB])|(refine ZH ?_)|(apply zC.out hK;clear hK K;try with_reducible dsimp only[zG])|(apply zC.out ht;clear ht hf Kt Kf)|(apply zC.out hf;clear ht hf Kt Kf)|(clear hK K;apply zC.out hK;clear hK K;try with_reducible dsimp only[zG])|(clear hK K;clear hK K;apply zC.out hK;clear hK K;try with_reducible dsimp only[zG])|(refine zJ ?_)|(refine zL ?_;simp only[zG,zN])|(refine zk ?_;simp only[zG,zN,if_true,if_false,Nat.reduceEqDiff])|(with_reducible show nextK _ _ _ _ _ _ _;simp (disch:=omega) [go_sem, *,zM,zB,ZJ,zV,ZK,zO,zT,zP,zg,Tryz.ntmps55])|(refine JT (fun hc=>?_) (fun hc=>?_) <;> (try simp only[Bool.not_eq_true',Bool.not_eq_false',Bool.not_eq_eq_eq_not,Bool.not_true,Bool.not_false,decide_eq_true_eq,decide_eq_false_iff_not,Int.not_lt,Int.not_le] at hc) <;> (try (exfalso;omega)) <;> (try simp (disch:=omega) [go_sem, *,zM,zB,ZJ,zV,ZK,zO,zT,zP,zg,Tryz.ntmps55]))|(refine zH fun Kt Kf ht hf=>?_;simp (disch:=omega) [go_sem, *,zM,zB,ZJ,zV,ZK,zO,zT,zP,zg,Tryz.ntmps55];try (refine⟨fun hc=>?_,fun hc=>?_⟩ <;> try (exfalso;omega))))
         refine zl (s':=[(4,.map (n + 2)),(3,.ptr (n + 1) 0),(2,.ptr n 0),(0,.ptr o 0)]) (by simp[go_sem]) (Sub.refl _) ⟨W,os,r,g,n' + 10 + 2 + 9 + 2 + 8 + 5,m2,_,_,hR1.out,by omega,hr.2,by omega,?_,?_,?_,a3,?_,?_,?_,?_,?_,?_,?_,?_,?_,rfl⟩ ?_
         ·(try simp only);omega
         ·omega
         ·exact Nat.add_lt_add_left (by decide) _
         ·(try simp only);omega
         ·omega
         ·have e:=j0 (s:=8) (m:=n' + 10 + 2 + 9 + 2 + 8 + 5) (L:=W.map zX) (by rw[←hW.out];simp)
          rw[zD,e,List.length_map,hWl]
         ·simp (disch:=omega) [zB,zD];rw[acO,if_neg (by rw[←hW.out];simp)]
         ·simp (disch:=omega) [zB,b3]
         ·simp (disch:=omega) [zB,b4]
         ·simp (disch:=omega) [zB,b5]
         ·simp (disch:=omega) [zB,zD]
         ·intro x hx hne;rw[←b7.out x hx hne];simp (disch:=omega) [zB]
         ·simp (disch:=omega) [zB,zD,b6];omega
       | false=>
        have hL:ja T q=.error q:=by simp only[ja,k0,k1,k2,k3,Bool.false_eq_true,if_false]
        have hR:jA T (T.length + 1) 0 [] []=.error q:=by rw[hR0.out,jA,eS,h1,hL];rfl
        have f0:=isM_data k0
        have f1:=isM_data k1
        have f2:=isM_data k2
        have f3:=isM_data k3
        generalize Zm T q=X at *
        have hmk:=hmkF
        replace ct:zC _:=ct
        replace eS:zC _:=eS
        replace h1:zC _:=h1
        replace k0:zC _:=k0
        replace k1:zC _:=k1
        replace k2:zC _:=k2
        replace k3:zC _:=k3
        repeat' (first|(refine zF fun K hK=>?_))
        refine zm mixed (by kernel_rfl) fun K hK=>?_
        simp (disch:=omega) [go_sem, *]
        repeat' (first|((with_reducible show ZW _ _ _ _ _ _ _);(try dsimp only);exact j7 rfl rfl rfl ⟨by simp (disch:=omega) [*],fun x hx hne=>by simp (disch:=omega) [b7.out x hx hne]⟩)|(refine zh (id:=8) (v:=zW) 2 (fun h' n'=>PErr T nl fu z o q H n h') rfl (fun s _ hk=>EndQ.panic hR hk) fun K hK=>?_;simp (disch:=omega) [go_sem, *])|(refine zF fun K hK=>?_)|(refine zA fun K hK=>?_;simp (disch:=omega) [go_sem, *,])|(refine Z4 (by simp[go_sem]) (by simp (disch:=omega) [go_sem, *,zO,];first | exact rfl | exact⟨rfl,rfl,rfl⟩ | exact (c1.out _ _ (by simp (disch:=omega) [zB,zD, *];fail_if_success focus skip) (by omega)).gcall ⟨rfl,rfl,rfl⟩ | exact (ct.out _ _ (by simp (disch:=omega) [zB,zD, *];fail_if_success focus skip) (by omega)).gcall ⟨rfl,rfl,rfl⟩) ?_;try simp only[zU])|(refine ZH ?_)|(apply zC.out hK;clear hK K;try with_reducible dsimp only[zG])|(apply zC.out ht;clear ht hf Kt Kf)|(apply zC.out hf;clear ht hf Kt Kf)|(with_reducible refine APureAt.gcall (c1.out _ _ (by simp (disch:=omega) [*];fail_if_success focus skip) (by omega)) ?_;try simp (disch:=omega) [go_sem, *,])|(with_reducible refine APureAt.gcall (ct.out _ _ (by simp (disch:=omega) [*];fail_if_success focus skip) (by omega)) ?_;try simp (disch:=omega) [go_sem, *,])|(refine zJ ?_)|(refine zL ?_;simp only[zG])|(refine zH fun Kt Kf ht hf=>?_;simp (disch:=omega) [go_sem, *,];try (refine⟨fun hc=>?_,fun hc=>?_⟩ <;> try (exfalso;omega))))
  ·have hR:jA T (T.length + 1) 0 [] []=.ok ((ls,os),T.length):=by rw[hR0.out,jA,Qa,if_pos (by omega)]
   have hq:q=T.length:=by omega
   subst hq
   have x1:AV.scalar (acV 8 m1 (ls.map zX))=true:=scal_acV
   have x2:AV.scalar (acV 7 m2 (os.map zp))=true:=scal_acV
   simp only[AV.scalar] at x1 x2
   repeat' (first|(refine zF fun K hK=>?_))
   refine zm mixed (by kernel_rfl) fun K hK=>?_
   simp (disch:=omega) [go_sem, *]
   repeat' (first|(refine zF fun K hK=>?_)|(refine zA fun K hK=>?_;simp (disch:=omega) [go_sem, *])|(refine Z4 (by simp[go_sem]) (by simp (disch:=omega) [go_sem, *];first | exact rfl | exact⟨rfl,rfl,rfl⟩) ?_;try simp only[zU])|(refine ZH ?_)|(apply zC.out hK;clear hK K;try with_reducible dsimp only[zG])|(apply zC.out hf;clear ht hf Kt Kf)|(clear hK K;apply zC.out hK;clear hK K;try with_reducible dsimp only[zG])|(refine zk ?_;simp only[zG,zN,if_true])|(refine zH fun Kt Kf ht hf=>?_;simp (disch:=omega) [go_sem, *];try (refine⟨fun hc=>?_,fun hc=>?_⟩ <;> try (exfalso;omega))))
   refine zb ?_
   try dsimp only[zG,zN]
   refine EndQ.ret hR (by simp) (by simp (disch:=omega) [go_sem,zD] <;> rfl) ?_
   dsimp only[zr,put]
   refine ret_rows (by simp (disch:=omega) [zB,b2]) (by simp (disch:=omega) [zB,b3]) a5 fun h' hh=>?_
   refine zY ⟨?_,below_encWs _ (ls,os),rfl⟩
   intro x hx
   rw[hh x (by omega) (by omega)]
   by_cases hxo:x=o
   ·subst hxo;simp (disch:=omega) [zB,zD,b6]
   ·rw[zB _ _ _ _ hxo];simp (disch:=omega) [zB,b7.out x hx hxo]
theorem psource_ok {T:List Tk} {nl fu:Bool} {z:Nat} {H:zI} {o n:Nat} (S:PSt T nl fu z H o 0) (hon:o < n) {x:List Lin × List Ordr} {q:Nat} (hR:jA T (T.length + 1) 0 [] []=.ok (x,q)):ATurn Tryz.prog 55 [.ptr o 0] H n (QL x) (H.upd o (some (atO T nl fu z q))):=
 ZX hR hon Tryz.func55 rfl (by kernel_rfl) (by simp[Tryz.ntmps55]) fun hB=>source_code S hon rfl hB
theorem psource_bad {T:List Tk} {nl fu:Bool} {z:Nat} {H:zI} {o n:Nat} (S:PSt T nl fu z H o 0) (hon:o < n) {k:Nat} (hR:jA T (T.length + 1) 0 [] []=.error k):PCall Tryz.prog zW 55 [.ptr o 0] H n (fun h' _=>PErr T nl fu z o k H n h'):=
 ZN (V:=QL) hR Tryz.func55 rfl (by kernel_rfl) (by simp[Tryz.ntmps55]) fun hB=>source_code S hon rfl hB
end Go.AM
