/- Conditions, by the program's parser. Conditions: as each theorem says. -/
import Derived.Test.YtabidiilbgakoaaGreatDoorQc
import Derived.Test.YtabidiilbgakoaaGreatDoorPb
namespace Go.AM
open Go.Proofs Cw Du
set_option maxRecDepth 10000
set_option maxHeartbeats 4000000
theorem textY {T:List Tk} {nl fu:Bool} {z:Nat} {H:zI} {o p n:Nat} (S:PSt T nl fu z H o p) (hon:o < n) {q:Nat} (hq:q≤T.length) (H1:zI) (m:Nat) (h1:H1 o=some (atO T nl fu z q)) (h2:n≤m):APureAt Tryz.prog 114 [.ptr o 0] H1 m (sv (Zm T q)):=text_spec (S.on h1 hq) (by omega)
theorem fact_idx (w:ByteArray):zK Tryz.prog 154 [.fslc false false 1 factA,sv w] (iv .i64 (jV w J5 0)):=index139 false false J5 w (by decide)
theorem op_idx2 (w:ByteArray):zK Tryz.prog 154 [.fslc false false 1 opA,sv w] (iv .i64 (jV w opsL 0)):=index139 false false opsL w (by decide)
theorem jb {T:List Tk} {nl fu:Bool} {z p:Nat}:AObj.cells [.fslc nl fu z (T.map tkP),iv .i64 ((p:Int) + 1)]=atO T nl fu z (p + 1):=by rw[atO];push_cast;rfl
theorem atO_two {T:List Tk} {nl fu:Bool} {z p:Nat}:AObj.cells [.fslc nl fu z (T.map tkP),iv .i64 ((p:Int) + 1 + 1)]=atO T nl fu z (p + 2):=by rw[atO];push_cast;rfl
theorem leaf_code {T:List Tk} {nl fu:Bool} {z:Nat} {H:zI} {o p n:Nat} (S:PSt T nl fu z H o p) (hon:o < n) {c:Code} (hc:Tryz.f209.body=some c) :
  ze Tryz.prog n c (EndQ Tryz.f209 T nl fu z H o n (jz T p) zn) {nt:=Tryz.f209.ntmps,s:=zu 0 [.ptr o 0],h:=H,n}:=by
 have s1:=S.at_
 have sle:=S.le
 have t0:=textY S hon S.le
 have hl:=S.len
 have kf:=fact_idx (Zm T p)
 have ko:=op_idx2 (Zm T (p + 1))
 have fs:=facts_spec
 have os:=ops_spec
 have hmk:=hmkF
 have hR0:jz T p=if jV (Zm T p) J5 0 < 0 then .error p else if jV (Zm T (p + 1)) opsL 0 < 1 then .error (p + 1) else match jc T (p + 2) with
  | .ok (n,q)=>.ok (cIs (jV (Zm T p) J5 0) (jV (Zm T (p + 1)) opsL 0) n,q)
  | .error k=>.error k:=rfl
 have hlt:¬jV (Zm T p) J5 0 < 0→p < T.length:=by
  intro h
  refine Nat.lt_of_not_le fun hge=>h ?_
  rw[Qs hge]
  simp[jV,J5,ByteArray.toList_eq]
 have hlt2:¬jV (Zm T (p + 1)) opsL 0 < 1→p + 1 < T.length:=by
  intro h
  refine Nat.lt_of_not_le fun hge=>h ?_
  rw[Qs hge]
  simp[jV,opsL,ByteArray.toList_eq]
 generalize jV (Zm T p) J5 0=F at *
 generalize jV (Zm T (p + 1)) opsL 0=O at *
 cases hc
 replace t0:zC _:=t0
 by_cases c1:F < 0
 ·have hR:jz T p=.error p:=by rw[hR0,if_pos c1]
  clear hlt hlt2
  replace hR0:zC _:=hR0
  repeat' (first|((with_reducible show ZW _ _ _ _ _ _ _);(try dsimp only);exact j7 rfl rfl rfl ⟨by simp (disch:=omega) [zB, *],fun x hx hne=>by simp (disch:=omega) [zB]⟩)|(refine zh (id:=3) (v:=zW) 2 (fun h' n'=>PErr T nl fu z o p H n h') rfl (fun s _ hk=>EndQ.panic hR hk) fun K hK=>?_;simp (disch:=omega) [go_sem, *])|(refine zF fun K hK=>?_)|(refine zA fun K hK=>?_;simp (disch:=omega) [go_sem, *,Tryz.ntmps209])|(apply zC.out hK;clear hK K;try with_reducible dsimp only[zG])|(apply zC.out ht;clear ht hf Kt Kf)|(with_reducible refine zK.gcall (fs) ?_;try simp (disch:=omega) [go_sem, *,])|(with_reducible refine APureAt.gcall (t0.out _ _ (by simp (disch:=omega) [zB, *];fail_if_success focus skip) (by omega)) ?_;try simp (disch:=omega) [go_sem, *,])|(with_reducible refine zK.gcall (kf) ?_;try simp (disch:=omega) [go_sem, *,])|(refine zH fun Kt Kf ht hf=>?_;simp (disch:=omega) [go_sem, *,];try (refine⟨fun hc=>?_,fun hc=>?_⟩ <;> try (exfalso;omega))))
 ·have lp:=hlt c1
  have t1:∀(H1:zI) (m:Nat),H1 o=some (.cells [.fslc nl fu z (T.map tkP),iv .i64 ((p:Int) + 1)])→n≤m→APureAt Tryz.prog 114 [.ptr o 0] H1 m (sv (Zm T (p + 1))):=fun H1 m h=>textY S hon (q:=p + 1) lp H1 m (by rw[h,jb])
  replace t1:zC _:=t1
  clear hlt
  by_cases c2:O < 1
  ·have hR:jz T p=.error (p + 1):=by rw[hR0,if_neg c1,if_pos c2]
   clear hlt2
   replace hR0:zC _:=hR0
   repeat' (first|((with_reducible show ZW _ _ _ _ _ _ _);(try dsimp only);exact j7 rfl rfl rfl ⟨by simp (disch:=omega) [zB,zD, *,jb],fun x hx hne=>by simp (disch:=omega) [zB]⟩)|(refine zh (id:=7) (v:=zW) 2 (fun h' n'=>PErr T nl fu z o (p + 1) H n h') rfl (fun s _ hk=>EndQ.panic hR hk) fun K hK=>?_;simp (disch:=omega) [go_sem, *])|(refine zF fun K hK=>?_)|(refine zA fun K hK=>?_;simp (disch:=omega) [go_sem, *,zM,zB,Tryz.ntmps209])|(apply zC.out hK;clear hK K;try with_reducible dsimp only[zG])|(apply zC.out ht;clear ht hf Kt Kf)|(apply zC.out hf;clear ht hf Kt Kf)|(with_reducible refine zK.gcall (fs) ?_;try simp (disch:=omega) [go_sem, *,])|(with_reducible refine zK.gcall (os) ?_;try simp (disch:=omega) [go_sem, *,])|(with_reducible refine APureAt.gcall (t0.out _ _ (by simp (disch:=omega) [zB,zD, *];fail_if_success focus skip) (by omega)) ?_;try simp (disch:=omega) [go_sem, *,])|(with_reducible refine APureAt.gcall (t1.out _ _ (by simp (disch:=omega) [zD, *];fail_if_success focus skip) (by omega)) ?_;try simp (disch:=omega) [go_sem, *,])|(with_reducible refine zK.gcall (kf) ?_;try simp (disch:=omega) [go_sem, *,])|(with_reducible refine zK.gcall (ko) ?_;try simp (disch:=omega) [go_sem, *,zB,])|(refine zL ?_;simp only[zG])|(refine zH fun Kt Kf ht hf=>?_;simp (disch:=omega) [go_sem, *,];try (refine⟨fun hc=>?_,fun hc=>?_⟩ <;> try (exfalso;omega))))
  ·have lp2:=hlt2 c2
   clear hlt2
   cases h3:jc T (p + 2) with
   | error k=>
    obtain rfl:=JO h3
    have hR:jz T p=.error (p + 2):=by rw[hR0,if_neg c1,if_neg c2,h3]
    have bad:∀(H1:zI) (m:Nat),H1 o=some (.cells [.fslc nl fu z (T.map tkP),iv .i64 ((p:Int) + 1 + 1)])→n≤m→PCall Tryz.prog zW 180 [.ptr o 0] H1 m (fun h' _=>PErr T nl fu z o (p + 2) H1 m h'):=fun H1 m h=>numN S hon h3 (by omega) H1 m (by rw[h,atO_two])
    replace bad:zC _:=bad
    replace hR0:zC _:=hR0
    replace h3:zC _:=h3
    repeat' (first|((with_reducible show ZW _ _ _ _ _ _ _);(try dsimp only);exact zj (L:=[.ptr o 0]) rfl rfl rfl rfl ((bad.out _ _ (by simp (disch:=omega) [zD, *];fail_if_success focus skip) (by omega)).mono fun _ _ hk=>hk.back (by omega) (fun x hx hne=>by simp (disch:=omega) [zB])))|(refine zh (id:=9) (v:=zW) 1 (fun h' n'=>PErr T nl fu z o (p + 2) H n h') rfl (fun s _ hk=>EndQ.panic hR hk) fun K hK=>?_;simp (disch:=omega) [go_sem, *])|(refine zF fun K hK=>?_)|(refine zA fun K hK=>?_;simp (disch:=omega) [go_sem, *,zM,zB,Tryz.ntmps209])|(apply zC.out hK;clear hK K;try with_reducible dsimp only[zG])|(apply zC.out hf;clear ht hf Kt Kf)|(with_reducible refine zK.gcall (fs) ?_;try simp (disch:=omega) [go_sem, *,])|(with_reducible refine zK.gcall (os) ?_;try simp (disch:=omega) [go_sem, *,])|(with_reducible refine APureAt.gcall (t0.out _ _ (by simp (disch:=omega) [zB,zD, *];fail_if_success focus skip) (by omega)) ?_;try simp (disch:=omega) [go_sem, *,])|(with_reducible refine APureAt.gcall (t1.out _ _ (by simp (disch:=omega) [zD, *];fail_if_success focus skip) (by omega)) ?_;try simp (disch:=omega) [go_sem, *,])|(with_reducible refine zK.gcall (kf) ?_;try simp (disch:=omega) [go_sem, *,])|(with_reducible refine zK.gcall (ko) ?_;try simp (disch:=omega) [go_sem, *,zB,])|(refine zL ?_;simp only[zG])|(refine zH fun Kt Kf ht hf=>?_;simp (disch:=omega) [go_sem, *,];try (refine⟨fun hc=>?_,fun hc=>?_⟩ <;> try (exfalso;omega))))
   | ok y=>
    obtain⟨d,q⟩:=y
    have hR:jz T p=.ok (cIs F O d,q):=by rw[hR0,if_neg c1,if_neg c2,h3]
    have nc:∀(H1:zI) (m:Nat),H1 o=some (.cells [.fslc nl fu z (T.map tkP),iv .i64 ((p:Int) + 1 + 1)])→n≤m→ATurn Tryz.prog 180 [.ptr o 0] H1 m (iv .i64 d) (H1.upd o (some (atO T nl fu z q))):=fun H1 m h=>numY S hon h3 H1 m (by rw[h,atO_two])
    replace nc:zC _:=nc
    replace hR0:zC _:=hR0
    replace h3:zC _:=h3
    repeat' (first|(refine zF fun K hK=>?_)|(refine zA fun K hK=>?_;simp (disch:=omega) [go_sem, *,zM,zB,Tryz.ntmps209])|(apply zC.out hK;clear hK K;try with_reducible dsimp only[zG])|(apply zC.out hf;clear ht hf Kt Kf)|(with_reducible refine zK.gcall (fs) ?_;try simp (disch:=omega) [go_sem, *])|(with_reducible refine zK.gcall (os) ?_;try simp (disch:=omega) [go_sem, *])|(with_reducible refine APureAt.gcall (t0.out _ _ (by simp (disch:=omega) [zB,zD, *];fail_if_success focus skip) (by omega)) ?_;try simp (disch:=omega) [go_sem, *])|(with_reducible refine APureAt.gcall (t1.out _ _ (by simp (disch:=omega) [zD, *];fail_if_success focus skip) (by omega)) ?_;try simp (disch:=omega) [go_sem, *])|(with_reducible refine zK.gcall (kf) ?_;try simp (disch:=omega) [go_sem, *])|(with_reducible refine zK.gcall (ko) ?_;try simp (disch:=omega) [go_sem, *,zB])|(with_reducible refine ATurn.gcall (nc.out _ _ (by simp (disch:=omega) [zD, *];fail_if_success focus skip) (by omega)) ?_;try simp (disch:=omega) [go_sem, *,zB])|(refine zL ?_;simp only[zG])|(refine zH fun Kt Kf ht hf=>?_;simp (disch:=omega) [go_sem, *];try (refine⟨fun hc=>?_,fun hc=>?_⟩ <;> try (exfalso;omega))))
    refine zb ?_
    try dsimp only[zG,zN]
    refine EndQ.ret hR (by simp) (by simp (disch:=omega) [go_sem,zD] <;> rfl) ?_
    dsimp only[zr,put]
    refine zY ⟨?_,?_,?_⟩
    ·intro x hx
     by_cases hxo:x=o
     ·subst hxo;simp (disch:=omega) [zB,zD]
     ·rw[zB _ _ _ _ hxo];simp (disch:=omega) [zB]
    ·simp[below,belowL]
    ·simp[zn,ZE]
theorem pleaf_ok {T:List Tk} {nl fu:Bool} {z:Nat} {H:zI} {o p n:Nat} (S:PSt T nl fu z H o p) (hon:o < n) {x:Cnd} {q:Nat} (hR:jz T p=.ok (x,q)):ATurn Tryz.prog 209 [.ptr o 0] H n (zn x) (H.upd o (some (atO T nl fu z q))):=
 ZX hR hon Tryz.func209 rfl (by kernel_rfl) (by simp[Tryz.ntmps209]) fun hB=>leaf_code S hon rfl
theorem pleaf_bad {T:List Tk} {nl fu:Bool} {z:Nat} {H:zI} {o p n:Nat} (S:PSt T nl fu z H o p) (hon:o < n) {k:Nat} (hR:jz T p=.error k):PCall Tryz.prog zW 209 [.ptr o 0] H n (fun h' _=>PErr T nl fu z o k H n h'):=
 ZN (V:=zn) hR Tryz.func209 rfl (by kernel_rfl) (by simp[Tryz.ntmps209]) fun hB=>leaf_code S hon rfl
end Go.AM
namespace Go.AM
open Go.Proofs Cw Du
set_option maxRecDepth 10000
set_option maxHeartbeats 4000000
def CondC (T:List Tk) (nl fu:Bool) (z o:Nat) (f:Nat) (md:Md) (g:FuncId):Prop:=
 ∀(H:zI) (p n:Nat),PSt T nl fu z H o p→o < n→bdM T p md≤f→
  (∀c q,prM T f md p=.ok (c,q)→ATurn Tryz.prog g [.ptr o 0] H n (zn c) (H.upd o (some (atO T nl fu z q))))∧
  ∀k,prM T f md p=.error k→PCall Tryz.prog zW g [.ptr o 0] H n (fun h' _=>PErr T nl fu z o k H n h')
section
variable {T : List Tk} {nl fu : Bool} {z : Nat} {H : zI} {o p n : Nat}
theorem condY {f:Nat} {md:Md} {g:FuncId} (C:CondC T nl fu z o f md g) (S:PSt T nl fu z H o p) (hon:o < n) {q r:Nat} {c:Cnd} (h:prM T f md q=.ok (c,r)) (hq:q≤T.length) (hb:bdM T q md≤f) (H1:zI) (m:Nat) (h1:H1 o=some (atO T nl fu z q)) (h2:n≤m):ATurn Tryz.prog g [.ptr o 0] H1 m (zn c) (H1.upd o (some (atO T nl fu z r))):=(C H1 q m (S.on h1 hq) (by omega) hb).1 c r h
theorem condN {f:Nat} {md:Md} {g:FuncId} (C:CondC T nl fu z o f md g) (S:PSt T nl fu z H o p) (hon:o < n) {q k:Nat} (h:prM T f md q=.error k) (hq:q≤T.length) (hb:bdM T q md≤f) (H1:zI) (m:Nat) (h1:H1 o=some (atO T nl fu z q)) (h2:n≤m):PCall Tryz.prog zW g [.ptr o 0] H1 m (fun h' _=>PErr T nl fu z o k H1 m h'):=(C H1 q m (S.on h1 hq) (by omega) hb).2 k h
theorem leafY (S:PSt T nl fu z H o p) (hon:o < n) {q r:Nat} {x:Cnd} (h:jz T q=.ok (x,r)) (hq:q≤T.length) (H1:zI) (m:Nat) (h1:H1 o=some (atO T nl fu z q)) (h2:n≤m):ATurn Tryz.prog 209 [.ptr o 0] H1 m (zn x) (H1.upd o (some (atO T nl fu z r))):=pleaf_ok (S.on h1 hq) (by omega) h
theorem leafN (S:PSt T nl fu z H o p) (hon:o < n) {q k:Nat} (h:jz T q=.error k) (hq:q≤T.length) (H1:zI) (m:Nat) (h1:H1 o=some (atO T nl fu z q)) (h2:n≤m):PCall Tryz.prog zW 209 [.ptr o 0] H1 m (fun h' _=>PErr T nl fu z o k H1 m h'):=pleaf_bad (S.on h1 hq) (by omega) h
end
mutual
theorem qj (n:Nat):∀c:Cnd,below n (zn c)
 | .mk k f o m nl fu s ks=>by simp only[zn,below,belowL,and_true];exact⟨trivial,trivial,trivial,trivial,Zb n ks⟩
theorem Zb (n:Nat):∀l:List Cnd,belowL n (ZE l)
 | []=>by simp[ZE,belowL]
 | c :: r=>by simp only[ZE,belowL];exact⟨qj n c,Zb n r⟩
end
theorem not_code {T:List Tk} {nl fu:Bool} {z:Nat} {H:zI} {o p n f:Nat} (S:PSt T nl fu z H o p) (hon:o < n) (C1:CondC T nl fu z o f .nt 183) (C3:CondC T nl fu z o f .or 60) (hf:bdM T p .nt≤f + 1) {c:Code} (hc:Tryz.f183.body=some c) :
  ze Tryz.prog n c (EndQ Tryz.f183 T nl fu z H o n (prM T (f + 1) .nt p) zn) {nt:=Tryz.f183.ntmps,s:=zu 0 [.ptr o 0],h:=H,n}:=by
 have s1:=S.at_
 have sle:=S.le
 simp only[bdM] at hf
 cases hc
 cases h1:isM T p wNot with
 | true=>
  have l1:=jF (by decide) h1
  have c1:=tisY S hon h1 sle
  replace c1:zC _:=c1
  cases h2:prM T f .nt (p + 1) with
  | error k=>
   have hR:prM T (f + 1) .nt p=.error k:=by simp only[qH,h1,h2,if_true]
   have bad:=condN C1 S hon h2 (by omega) (by simp only[bdM];omega)
   replace bad:zC _:=bad
   replace C1:zC _:=C1
   replace C3:zC _:=C3
   replace h1:zC _:=h1
   replace h2:zC _:=h2
   repeat' (first|((with_reducible show ZW _ _ _ _ _ _ _);(try dsimp only);exact zj (L:=[.ptr o 0]) rfl rfl rfl rfl ((bad.out _ _ (by simp (disch:=omega) [zD, *];fail_if_success focus skip) (by omega)).mono fun _ _ hk=>hk.back (by omega) (fun x hx hne=>by simp (disch:=omega) [zB])))|(refine zh (id:=2) (v:=zW) 1 (fun h' n'=>PErr T nl fu z o k H n h') rfl (fun s _ hk=>EndQ.panic hR hk) fun K hK=>?_;simp (disch:=omega) [go_sem, *])|(refine zF fun K hK=>?_)|(refine zA fun K hK=>?_;simp (disch:=omega) [go_sem, *,Tryz.ntmps183])|(apply zC.out hK;clear hK K;try with_reducible dsimp only[zG])|(apply zC.out ht;clear ht hf Kt Kf)|(with_reducible refine ATurn.gcall (c1.out _ _ (by simp (disch:=omega) [zB, *];fail_if_success focus skip) (by omega)) ?_;try simp (disch:=omega) [go_sem, *,])|(refine zH fun Kt Kf ht hf=>?_;simp (disch:=omega) [go_sem, *,];try (refine⟨fun hc=>?_,fun hc=>?_⟩ <;> try (exfalso;omega))))
  | ok x=>
   obtain⟨c,q⟩:=x
   have hR:prM T (f + 1) .nt p=.ok (cNot c,q):=by simp only[qH,h1,h2,if_true]
   have c2:=condY C1 S hon h2 (by omega) (by simp only[bdM];omega)
   obtain⟨ck,cf,co,cn,cnl,cfu,cs,cks⟩:=c
   simp only[zn] at c2
   replace c2:zC _:=c2
   replace C1:zC _:=C1
   replace C3:zC _:=C3
   replace h1:zC _:=h1
   replace h2:zC _:=h2
   repeat' (first|(refine zF fun K hK=>?_)|(refine zA fun K hK=>?_;simp (disch:=omega) [go_sem, *,Tryz.ntmps183])|(apply zC.out hK;clear hK K;try with_reducible dsimp only[zG])|(apply zC.out ht;clear ht hf Kt Kf)|(with_reducible refine ATurn.gcall (c1.out _ _ (by simp (disch:=omega) [zB, *];fail_if_success focus skip) (by omega)) ?_;try simp (disch:=omega) [go_sem, *])|(with_reducible refine ATurn.gcall (c2.out _ _ (by simp (disch:=omega) [zD, *];fail_if_success focus skip) (by omega)) ?_;try simp (disch:=omega) [go_sem, *,zB])|(refine zH fun Kt Kf ht hf=>?_;simp (disch:=omega) [go_sem, *];try (refine⟨fun hc=>?_,fun hc=>?_⟩ <;> try (exfalso;omega))))
   refine zb ?_
   try dsimp only[zG,zN]
   refine EndQ.ret hR (by simp) (by simp (disch:=omega) [go_sem,zD] <;> rfl) ?_
   dsimp only[zr,put]
   refine zY ⟨?_,?_,?_⟩
   ·intro x hx
    by_cases hxo:x=o
    ·subst hxo;simp (disch:=omega) [zB,zD]
    ·rw[zB _ _ _ _ hxo];simp (disch:=omega) [zB]
   ·first | exact qj _ _ | simp[below,belowL,Zb]
   ·first | rfl | simp[zn,ZE]
 | false=>
  have c1:=tisN S hon h1 sle
  replace c1:zC _:=c1
  cases h2:isM T p wOpen with
  | true=>
   have l1:=jF (by decide) h2
   have c2:=tisY S hon h2 sle
   replace c2:zC _:=c2
   cases h3:prM T f .or (p + 1) with
   | error k=>
    have hR:prM T (f + 1) .nt p=.error k:=by simp only[qH,h1,h2,h3,if_true,Bool.false_eq_true,if_false]
    have bad:=condN C3 S hon h3 (by omega) (by simp only[bdM];omega)
    replace bad:zC _:=bad
    replace C1:zC _:=C1
    replace C3:zC _:=C3
    replace h1:zC _:=h1
    replace h2:zC _:=h2
    replace h3:zC _:=h3
    repeat' (first|((with_reducible show ZW _ _ _ _ _ _ _);(try dsimp only);exact zj (L:=[.ptr o 0]) rfl rfl rfl rfl ((bad.out _ _ (by simp (disch:=omega) [zD, *];fail_if_success focus skip) (by omega)).mono fun _ _ hk=>hk.back (by omega) (fun x hx hne=>by simp (disch:=omega) [zB])))|(refine zh (id:=4) (v:=zW) 1 (fun h' n'=>PErr T nl fu z o k H n h') rfl (fun s _ hk=>EndQ.panic hR hk) fun K hK=>?_;simp (disch:=omega) [go_sem, *])|(refine zF fun K hK=>?_)|(refine zA fun K hK=>?_;simp (disch:=omega) [go_sem, *,Tryz.ntmps183])|(apply zC.out hK;clear hK K;try with_reducible dsimp only[zG])|(apply zC.out ht;clear ht hf Kt Kf)|(apply zC.out hf;clear ht hf Kt Kf)|(with_reducible refine APureAt.gcall (c1.out _ _ (by simp (disch:=omega) [zB, *];fail_if_success focus skip) (by omega)) ?_;try simp (disch:=omega) [go_sem, *,])|(with_reducible refine ATurn.gcall (c2.out _ _ (by simp (disch:=omega) [zB, *];fail_if_success focus skip) (by omega)) ?_;try simp (disch:=omega) [go_sem, *,])|(refine zL ?_;simp only[zG])|(refine zH fun Kt Kf ht hf=>?_;simp (disch:=omega) [go_sem, *,];try (refine⟨fun hc=>?_,fun hc=>?_⟩ <;> try (exfalso;omega))))
   | ok x=>
    obtain⟨c,q⟩:=x
    obtain⟨q1,q2⟩:=Z2 T f .or (p + 1) q c (by omega) h3
    have c3:=condY C3 S hon h3 (by omega) (by simp only[bdM];omega)
    obtain⟨ck,cf,co,cn,cnl,cfu,cs,cks⟩:=c
    simp only[zn] at c3
    replace c3:zC _:=c3
    cases h4:isM T q qE with
    | false=>
     have hR:prM T (f + 1) .nt p=.error q:=by simp only[qH,h1,h2,h3,h4,if_true,Bool.false_eq_true,if_false]
     have bad:=mustN S hon h4 q2
     replace bad:zC _:=bad
     replace C1:zC _:=C1
     replace C3:zC _:=C3
     replace h1:zC _:=h1
     replace h2:zC _:=h2
     replace h3:zC _:=h3
     replace h4:zC _:=h4
     repeat' (first|((with_reducible show ZW _ _ _ _ _ _ _);(try dsimp only);exact zj (L:=[.ptr o 0,sv qE]) rfl rfl rfl rfl ((bad.out _ _ (by simp (disch:=omega) [zB,zD, *];fail_if_success focus skip) (by omega)).mono fun _ _ hk=>hk.back (by omega) (fun x hx hne=>by simp (disch:=omega) [zB])))|(refine zh (id:=5) (v:=zW) 1 (fun h' n'=>PErr T nl fu z o q H n h') rfl (fun s _ hk=>EndQ.panic hR hk) fun K hK=>?_;simp (disch:=omega) [go_sem, *])|(refine zF fun K hK=>?_)|(refine zA fun K hK=>?_;simp (disch:=omega) [go_sem, *,Tryz.ntmps183])|(apply zC.out hK;clear hK K;try with_reducible dsimp only[zG])|(apply zC.out ht;clear ht hf Kt Kf)|(apply zC.out hf;clear ht hf Kt Kf)|(with_reducible refine APureAt.gcall (c1.out _ _ (by simp (disch:=omega) [zB, *];fail_if_success focus skip) (by omega)) ?_;try simp (disch:=omega) [go_sem, *,])|(with_reducible refine ATurn.gcall (c2.out _ _ (by simp (disch:=omega) [zB, *];fail_if_success focus skip) (by omega)) ?_;try simp (disch:=omega) [go_sem, *,])|(with_reducible refine ATurn.gcall (c3.out _ _ (by simp (disch:=omega) [zD, *];fail_if_success focus skip) (by omega)) ?_;try simp (disch:=omega) [go_sem, *,])|(refine zL ?_;simp only[zG])|(refine zH fun Kt Kf ht hf=>?_;simp (disch:=omega) [go_sem, *,];try (refine⟨fun hc=>?_,fun hc=>?_⟩ <;> try (exfalso;omega))))
    | true=>
     have hR:prM T (f + 1) .nt p=.ok (.mk ck cf co cn cnl cfu cs cks,q + 1):=by simp only[qH,h1,h2,h3,h4,if_true,Bool.false_eq_true,if_false]
     have c4:=mustY S hon h4 q2
     replace c4:zC _:=c4
     replace C1:zC _:=C1
     replace C3:zC _:=C3
     replace h1:zC _:=h1
     replace h2:zC _:=h2
     replace h3:zC _:=h3
     replace h4:zC _:=h4
     repeat' (first|(refine zF fun K hK=>?_)|(refine zA fun K hK=>?_;simp (disch:=omega) [go_sem, *,zB,Tryz.ntmps183])|(apply zC.out hK;clear hK K;try with_reducible dsimp only[zG])|(apply zC.out ht;clear ht hf Kt Kf)|(apply zC.out hf;clear ht hf Kt Kf)|(with_reducible refine APureAt.gcall (c1.out _ _ (by simp (disch:=omega) [zB, *];fail_if_success focus skip) (by omega)) ?_;try simp (disch:=omega) [go_sem, *])|(with_reducible refine ATurn.gcall (c2.out _ _ (by simp (disch:=omega) [zB, *];fail_if_success focus skip) (by omega)) ?_;try simp (disch:=omega) [go_sem, *])|(with_reducible refine ATurn.gcall (c3.out _ _ (by simp (disch:=omega) [zD, *];fail_if_success focus skip) (by omega)) ?_;try simp (disch:=omega) [go_sem, *])|(with_reducible refine ATurn.gcall (c4.out _ _ (by simp (disch:=omega) [zB,zD, *];fail_if_success focus skip) (by omega)) ?_;try simp (disch:=omega) [go_sem, *])|(refine zL ?_;simp only[zG])|(refine zH fun Kt Kf ht hf=>?_;simp (disch:=omega) [go_sem, *];try (refine⟨fun hc=>?_,fun hc=>?_⟩ <;> try (exfalso;omega))))
     refine zb ?_
     try dsimp only[zG,zN]
     refine EndQ.ret hR (by simp) (by simp (disch:=omega) [go_sem,zD] <;> rfl) ?_
     dsimp only[zr,put]
     refine zY ⟨?_,?_,?_⟩
     ·intro x hx
      by_cases hxo:x=o
      ·subst hxo;simp (disch:=omega) [zB,zD]
      ·rw[zB _ _ _ _ hxo];simp (disch:=omega) [zB]
     ·first | exact qj _ _ | simp[below,belowL,Zb]
     ·first | rfl | simp[zn,ZE]
  | false=>
   have c2:=tisN S hon h2 sle
   replace c2:zC _:=c2
   cases h3:jz T p with
   | error k=>
    have hR:prM T (f + 1) .nt p=.error k:=by simp only[qH,h1,h2,h3,Bool.false_eq_true,if_false]
    have bad:=leafN S hon h3 sle
    replace bad:zC _:=bad
    replace C1:zC _:=C1
    replace C3:zC _:=C3
    replace h1:zC _:=h1
    replace h2:zC _:=h2
    replace h3:zC _:=h3
    repeat' (first|((with_reducible show ZW _ _ _ _ _ _ _);(try dsimp only);exact zj (L:=[.ptr o 0]) rfl rfl rfl rfl ((bad.out _ _ (by simp (disch:=omega) [zB, *];fail_if_success focus skip) (by omega)).mono fun _ _ hk=>hk.back (by omega) (fun x hx hne=>by simp (disch:=omega) [zB])))|(refine zh (id:=7) (v:=zW) 1 (fun h' n'=>PErr T nl fu z o k H n h') rfl (fun s _ hk=>EndQ.panic hR hk) fun K hK=>?_;simp (disch:=omega) [go_sem, *])|(refine zF fun K hK=>?_)|(refine zA fun K hK=>?_;simp (disch:=omega) [go_sem, *,Tryz.ntmps183])|(apply zC.out hK;clear hK K;try with_reducible dsimp only[zG])|(apply zC.out hf;clear ht hf Kt Kf)|(with_reducible refine APureAt.gcall (c1.out _ _ (by simp (disch:=omega) [zB, *];fail_if_success focus skip) (by omega)) ?_;try simp (disch:=omega) [go_sem, *,])|(with_reducible refine APureAt.gcall (c2.out _ _ (by simp (disch:=omega) [zB, *];fail_if_success focus skip) (by omega)) ?_;try simp (disch:=omega) [go_sem, *,])|(refine zL ?_;simp only[zG])|(refine zH fun Kt Kf ht hf=>?_;simp (disch:=omega) [go_sem, *,];try (refine⟨fun hc=>?_,fun hc=>?_⟩ <;> try (exfalso;omega))))
   | ok x=>
    obtain⟨c,q⟩:=x
    have hR:prM T (f + 1) .nt p=.ok (c,q):=by simp only[qH,h1,h2,h3,Bool.false_eq_true,if_false]
    have c3:=leafY S hon h3 sle
    obtain⟨ck,cf,co,cn,cnl,cfu,cs,cks⟩:=c
    simp only[zn] at c3
    replace c3:zC _:=c3
    replace C1:zC _:=C1
    replace C3:zC _:=C3
    replace h1:zC _:=h1
    replace h2:zC _:=h2
    replace h3:zC _:=h3
    repeat' (first|(refine zF fun K hK=>?_)|(refine zA fun K hK=>?_;simp (disch:=omega) [go_sem, *,Tryz.ntmps183])|(apply zC.out hK;clear hK K;try with_reducible dsimp only[zG])|(apply zC.out hf;clear ht hf Kt Kf)|(with_reducible refine APureAt.gcall (c1.out _ _ (by simp (disch:=omega) [zB, *];fail_if_success focus skip) (by omega)) ?_;try simp (disch:=omega) [go_sem, *])|(with_reducible refine APureAt.gcall (c2.out _ _ (by simp (disch:=omega) [zB, *];fail_if_success focus skip) (by omega)) ?_;try simp (disch:=omega) [go_sem, *])|(with_reducible refine ATurn.gcall (c3.out _ _ (by simp (disch:=omega) [zB, *];fail_if_success focus skip) (by omega)) ?_;try simp (disch:=omega) [go_sem, *,zB])|(refine zL ?_;simp only[zG])|(refine zH fun Kt Kf ht hf=>?_;simp (disch:=omega) [go_sem, *];try (refine⟨fun hc=>?_,fun hc=>?_⟩ <;> try (exfalso;omega))))
    refine zb ?_
    try dsimp only[zG,zN]
    refine EndQ.ret hR (by simp) (by simp (disch:=omega) [go_sem,zD] <;> rfl) ?_
    dsimp only[zr,put]
    refine zY ⟨?_,?_,?_⟩
    ·intro x hx
     by_cases hxo:x=o
     ·subst hxo;simp (disch:=omega) [zB,zD]
     ·rw[zB _ _ _ _ hxo];simp (disch:=omega) [zB]
    ·first | exact qj _ _ | simp[below,belowL,Zb]
    ·first | rfl | simp[zn,ZE]
theorem both_code {T:List Tk} {nl fu:Bool} {z:Nat} {H:zI} {o p n f:Nat} (S:PSt T nl fu z H o p) (hon:o < n) (C1:∀g,g≤f→CondC T nl fu z o g .nt 183) (hf:bdM T p .an≤f + 1) {c:Code} (hc:Tryz.f128.body=some c) :
  ze Tryz.prog n c (EndQ Tryz.f128 T nl fu z H o n (prM T (f + 1) .an p) zn) {nt:=Tryz.f128.ntmps,s:=zu 0 [.ptr o 0],h:=H,n}:=by
 have s1:=S.at_
 have sle:=S.le
 simp only[bdM] at hf
 cases hc
 cases h1:prM T f .nt p with
 | error k=>
  have hR:prM T (f + 1) .an p=.error k:=by simp only[prM_an,h1]
  have bad:=condN (C1 f (Nat.le_refl _)) S hon h1 (by omega) (by simp only[bdM];omega)
  replace bad:zC _:=bad
  replace C1:zC _:=C1
  replace h1:zC _:=h1
  repeat' (first|((with_reducible show ZW _ _ _ _ _ _ _);(try dsimp only);exact zj (L:=[.ptr o 0]) rfl rfl rfl rfl ((bad.out _ _ (by simp (disch:=omega) [zB, *];fail_if_success focus skip) (by omega)).mono fun _ _ hk=>hk.back (by omega) (fun x hx hne=>by simp (disch:=omega) [zB])))|(refine zh (id:=1) (v:=zW) 1 (fun h' n'=>PErr T nl fu z o k H n h') rfl (fun s _ hk=>EndQ.panic hR hk) fun K hK=>?_;simp (disch:=omega) [go_sem, *])|(refine zF fun K hK=>?_)|(refine zA fun K hK=>?_;simp (disch:=omega) [go_sem, *,Tryz.ntmps128])|(apply zC.out hK;clear hK K;try with_reducible dsimp only[zG]))
 | ok x=>
  obtain⟨c,q⟩:=x
  obtain⟨_,q2⟩:=Z2 T f .nt p q c sle h1
  have q3:=(Z2 T f .nt p q c sle h1).1
  simp only[ZY] at q3
  have hR0:prM T (f + 1) .an p=prM T f (.anL c) q:=by simp only[prM_an,h1]
  have c1:=condY (C1 f (Nat.le_refl _)) S hon h1 (by omega) (by simp only[bdM];omega)
  obtain⟨ck,cf,co,cn,cnl,cfu,cs,cks⟩:=c
  simp only[zn] at c1
  replace c1:zC _:=c1
  replace C1:zC _:=C1
  replace h1:zC _:=h1
  replace hR0:zC _:=hR0
  repeat' (first|(refine zF fun K hK=>?_)|(refine zA fun K hK=>?_;simp (disch:=omega) [go_sem, *,Tryz.ntmps128])|(apply zC.out hK;clear hK K;try with_reducible dsimp only[zG])|(with_reducible refine ATurn.gcall (c1.out _ _ (by simp (disch:=omega) [zB, *];fail_if_success focus skip) (by omega)) ?_;try simp (disch:=omega) [go_sem, *])|(refine zJ ?_))
  refine z8 (fun s'=>∃(ck cf co cn:Int) (cnl cfu:Bool) (cs:Nat) (cks:List Cnd) (q g n':Nat) (H1:zI),prM T (f + 1) .an p=prM T g (.anL (.mk ck cf co cn cnl cfu cs cks)) q∧(g≤f∧4 * (T.length - q) + 1≤g)∧q≤T.length∧n + 4≤n'∧H1 (n + 1 + 2)=some (.cells [iv .i64 ck,iv .i64 cf,iv .i64 co,iv .i64 cn,.fslc cnl cfu cs (ZE cks)])∧H1 n=some (.cells [iv .i64 0,iv .i64 0,iv .i64 0,iv .i64 0,.fslc true true 0 []])∧H1 o=some (atO T nl fu z q)∧(∀x,x < n→x≠o→H1 x=H x)∧s'=⟨14,[(3,.ptr (n + 1 + 2) 0),(2,.ptr n 0),(0,.ptr o 0)],H1,n'⟩) (fun s2=>T.length - (match s2.h o with | some (.cells [_,.c (.int _ v)])=>v.toNat | _=>0)) ?_ ?_
  ·refine zS (s':=[(3,.ptr (n + 1 + 2) 0),(2,.ptr n 0),(0,.ptr o 0)]) (by simp[go_sem]) (Sub.refl _) ⟨ck,cf,co,cn,cnl,cfu,cs,cks,q,f,_,_,hR0.out,⟨Nat.le_refl _,by omega⟩,q2,?_,?_,?_,?_,?_,rfl⟩
   ·(try simp only);omega
   ·simp (disch:=omega) [zD]
   ·simp (disch:=omega) [zB,zD]
   ·simp (disch:=omega) [zB,zD]
   ·intro x hx hne;simp (disch:=omega) [zB]
  ·replace hR0:zC _:=trivial
   clear hR0 c1 h1 q2 q3
   rintro s2 ⟨ck,cf,co,cn,cnl,cfu,cs,cks,q,g,n',H1,hR0,⟨hg,hb⟩,q2,hn',b1,b0,b2,b3,rfl⟩
   clear s1
   have lT:=S.len
   replace b3:zC _:=b3
   replace hR0:zC _:=hR0
   obtain⟨g,rfl⟩:∃g',g=g' + 1:=⟨g - 1,by omega⟩
   cases h2:isM T q Q1 with
   | false=>
    have hR:prM T (f + 1) .an p=.ok (.mk ck cf co cn cnl cfu cs cks,q):=by rw[hR0.out,Qm,h2];rfl
    have c2:=tisN S hon h2 q2
    replace c2:zC _:=c2
    replace h2:zC _:=h2
    repeat' (first|(refine zF fun K hK=>?_)|(refine zA fun K hK=>?_;simp (disch:=omega) [go_sem, *])|(apply zC.out hK;clear hK K;try with_reducible dsimp only[zG])|(apply zC.out hf;clear ht hf Kt Kf)|(clear hK K;apply zC.out hK;clear hK K;try with_reducible dsimp only[zG])|(with_reducible refine APureAt.gcall (c2.out _ _ (by simp (disch:=omega) [*];fail_if_success focus skip) (by omega)) ?_;try simp (disch:=omega) [go_sem, *])|(refine zk ?_;simp only[zG,zN,if_true])|(refine zH fun Kt Kf ht hf=>?_;simp (disch:=omega) [go_sem, *];try (refine⟨fun hc=>?_,fun hc=>?_⟩ <;> try (exfalso;omega))))
    refine zb ?_
    try dsimp only[zG,zN]
    refine EndQ.ret hR (by simp) (by simp (disch:=omega) [go_sem,zD] <;> rfl) ?_
    dsimp only[zr,put]
    refine zY ⟨?_,?_,?_⟩
    ·intro x hx
     by_cases hxo:x=o
     ·subst hxo;simp (disch:=omega) [zB,zD, *]
     ·rw[zB _ _ _ _ hxo];simp (disch:=omega) [zB,b3.out x hx hxo]
    ·simp[below,belowL,Zb]
    ·first | rfl | simp[zn,ZE]
   | true=>
    have l2:=jF (by decide) h2
    have c2:=tisY S hon h2 q2
    replace c2:zC _:=c2
    cases h3:prM T g .nt (q + 1) with
    | error k=>
     have hR:prM T (f + 1) .an p=.error k:=by simp only[hR0.out,Qm,h2,h3,if_true]
     have bad:=condN (C1.out g (by omega)) S hon h3 (by omega) (by simp only[bdM];omega)
     replace bad:zC _:=bad
     replace h2:zC _:=h2
     replace h3:zC _:=h3
     repeat' (first|(refine JY (id:=3) (v:=zW) 2 [2,3,4,5] (fun h' n'=>PErr T nl fu z o k H n h') mixed (by kernel_rfl) (by kernel_rfl) rfl (fun s _ hk=>EndQ.panic hR hk) ?_)|(refine zF fun K hK=>?_)|(refine zA fun K hK=>?_;simp (disch:=omega) [go_sem, *,])|(apply zC.out hK;clear hK K;try with_reducible dsimp only[zG])|(apply zC.out ht;clear ht hf Kt Kf)|(with_reducible refine ATurn.gcall (c2.out _ _ (by simp (disch:=omega) [*];fail_if_success focus skip) (by omega)) ?_;try simp (disch:=omega) [go_sem, *,])|(refine zJ ?_)|(refine zL ?_;simp only[zG])|(refine zH fun Kt Kf ht hf=>?_;simp (disch:=omega) [go_sem, *,];try (refine⟨fun hc=>?_,fun hc=>?_⟩ <;> try (exfalso;omega))))
     dsimp only
     repeat' (first
      | exact aQP_e|(refine aQP_v (by decide) (by simp[go_sem]) (by simp (disch:=omega) [go_sem, *,zB];first | exact rfl | exact⟨rfl,rfl,rfl⟩) ?_;try simp only[zU])|(refine aQP_b (by decide) (by decide) ?_;try simp only[zU,ZB])|(refine aQP_p rfl ?_ ?_))
     exact zj (L:=[.ptr o 0]) rfl rfl rfl rfl ((bad.out _ _ (by simp (disch:=omega) [zD, *];fail_if_success focus skip) (by omega)).mono fun _ _ hk=>hk.back (by omega) (fun x hx hne=>by simp (disch:=omega) [zB,b3.out x hx hne]))
    | ok y=>
     obtain⟨d,r⟩:=y
     have p1:=Z2 T g .nt (q + 1) r d (by omega) h3
     simp only[ZY] at p1
     have p2:q < r∧r≤T.length:=by omega
     clear p1
     have hR1:prM T (f + 1) .an p=prM T g (.anL (cAnd (.mk ck cf co cn cnl cfu cs cks) d)) r:=by simp only[hR0.out,Qm,h2,h3,if_true]
     have c3:=condY (C1.out g (by omega)) S hon h3 (by omega) (by simp only[bdM];omega)
     obtain⟨dk,df,do_,dn,dnl,dfu,ds,dks⟩:=d
     simp only[zn] at c3
     replace c3:zC _:=c3
     replace h2:zC _:=h2
     replace h3:zC _:=h3
     replace hR1:zC _:=hR1
     repeat' (first|(refine zF fun K hK=>?_)|(refine zA fun K hK=>?_;simp (disch:=omega) [go_sem, *])|(apply zC.out hK;clear hK K;try with_reducible dsimp only[zG])|(apply zC.out ht;clear ht hf Kt Kf)|(with_reducible refine ATurn.gcall (c2.out _ _ (by simp (disch:=omega) [*];fail_if_success focus skip) (by omega)) ?_;try simp (disch:=omega) [go_sem, *])|(refine zJ ?_)|(refine zL ?_;simp only[zG])|(refine zH fun Kt Kf ht hf=>?_;simp (disch:=omega) [go_sem, *];try (refine⟨fun hc=>?_,fun hc=>?_⟩ <;> try (exfalso;omega))))
     refine ZU [2,3,5] (fun h'=>h' (n + 1 + 2)=some (.cells [iv .i64 ck,iv .i64 cf,iv .i64 co,iv .i64 cn,.fslc cnl cfu cs (ZE cks)])) mixed (by kernel_rfl) (by simp (disch:=omega) [go_sem,zB,b1]) fun K hK=>?_
     simp (disch:=omega) [go_sem, *]
     repeat' (first|(refine aC_c (by simp[go_sem]) (by decide) (fun h' hh=>by (try dsimp only at hh);(try simp (disch:=omega) [go_sem, *]);first | exact rfl | exact⟨rfl,rfl,rfl⟩ | exact (c3.out _ _ (by simp (disch:=omega) [zB,zD, *];fail_if_success focus skip) (by omega)).gcall ⟨rfl,rfl,rfl⟩) ?_;try simp only[zU])|(refine aC_x (by simp[go_sem]) (by decide) (by (try simp (disch:=omega) [go_sem, *,zB]);first | exact rfl | exact⟨rfl,rfl⟩ | exact⟨rfl,rfl,rfl⟩ | exact (c3.out _ _ (by simp (disch:=omega) [zD, *];fail_if_success focus skip) (by omega)).gcall ⟨rfl,rfl,rfl⟩) (by first | exact .inl rfl|(right;simp (disch:=omega) [go_sem,zB,b1])) ?_;try simp only[zU,ZB])|(refine j3 ?_;apply zC.out hK;clear hK K;try with_reducible dsimp only[zG]))
     dsimp only[zN,zG]
     refine zl (s':=[(3,.ptr (n + 1 + 2) 0),(2,.ptr n 0),(0,.ptr o 0)]) (by simp[go_sem]) (Sub.refl _) ⟨_,_,_,_,_,_,_,_,r,g,_,_,hR1.out,⟨by omega,by omega⟩,p2.2,?_,?_,?_,?_,?_,rfl⟩ ?_
     ·(try simp only);omega
     ·simp (disch:=omega) [zD,ZE,zn]
     ·simp (disch:=omega) [zB,b0]
     ·simp (disch:=omega) [zB,zD]
     ·intro x hx hne;rw[←b3.out x hx hne];simp (disch:=omega) [zB]
     ·simp (disch:=omega) [zB,zD,b2];omega
theorem either_code {T:List Tk} {nl fu:Bool} {z:Nat} {H:zI} {o p n f:Nat} (S:PSt T nl fu z H o p) (hon:o < n) (C1:∀g,g≤f→CondC T nl fu z o g .an 128) (hf:bdM T p .or≤f + 1) {c:Code} (hc:Tryz.f60.body=some c) :
  ze Tryz.prog n c (EndQ Tryz.f60 T nl fu z H o n (prM T (f + 1) .or p) zn) {nt:=Tryz.f60.ntmps,s:=zu 0 [.ptr o 0],h:=H,n}:=by
 have s1:=S.at_
 have sle:=S.le
 simp only[bdM] at hf
 cases hc
 cases h1:prM T f .an p with
 | error k=>
  have hR:prM T (f + 1) .or p=.error k:=by simp only[prM_or,h1]
  have bad:=condN (C1 f (Nat.le_refl _)) S hon h1 (by omega) (by simp only[bdM];omega)
  replace bad:zC _:=bad
  replace C1:zC _:=C1
  replace h1:zC _:=h1
  repeat' (first|((with_reducible show ZW _ _ _ _ _ _ _);(try dsimp only);exact zj (L:=[.ptr o 0]) rfl rfl rfl rfl ((bad.out _ _ (by simp (disch:=omega) [zB, *];fail_if_success focus skip) (by omega)).mono fun _ _ hk=>hk.back (by omega) (fun x hx hne=>by simp (disch:=omega) [zB])))|(refine zh (id:=1) (v:=zW) 1 (fun h' n'=>PErr T nl fu z o k H n h') rfl (fun s _ hk=>EndQ.panic hR hk) fun K hK=>?_;simp (disch:=omega) [go_sem, *])|(refine zF fun K hK=>?_)|(refine zA fun K hK=>?_;simp (disch:=omega) [go_sem, *,Tryz.ntmps60])|(apply zC.out hK;clear hK K;try with_reducible dsimp only[zG]))
 | ok x=>
  obtain⟨c,q⟩:=x
  obtain⟨_,q2⟩:=Z2 T f .an p q c sle h1
  have q3:=(Z2 T f .an p q c sle h1).1
  simp only[ZY] at q3
  have hR0:prM T (f + 1) .or p=prM T f (.orL c) q:=by simp only[prM_or,h1]
  have c1:=condY (C1 f (Nat.le_refl _)) S hon h1 (by omega) (by simp only[bdM];omega)
  obtain⟨ck,cf,co,cn,cnl,cfu,cs,cks⟩:=c
  simp only[zn] at c1
  replace c1:zC _:=c1
  replace C1:zC _:=C1
  replace h1:zC _:=h1
  replace hR0:zC _:=hR0
  repeat' (first|(refine zF fun K hK=>?_)|(refine zA fun K hK=>?_;simp (disch:=omega) [go_sem, *,Tryz.ntmps60])|(apply zC.out hK;clear hK K;try with_reducible dsimp only[zG])|(with_reducible refine ATurn.gcall (c1.out _ _ (by simp (disch:=omega) [zB, *];fail_if_success focus skip) (by omega)) ?_;try simp (disch:=omega) [go_sem, *])|(refine zJ ?_))
  refine z8 (fun s'=>∃(ck cf co cn:Int) (cnl cfu:Bool) (cs:Nat) (cks:List Cnd) (q g n':Nat) (H1:zI),prM T (f + 1) .or p=prM T g (.orL (.mk ck cf co cn cnl cfu cs cks)) q∧(g≤f∧4 * (T.length - q) + 1≤g)∧q≤T.length∧n + 4≤n'∧H1 (n + 1 + 2)=some (.cells [iv .i64 ck,iv .i64 cf,iv .i64 co,iv .i64 cn,.fslc cnl cfu cs (ZE cks)])∧H1 n=some (.cells [iv .i64 0,iv .i64 0,iv .i64 0,iv .i64 0,.fslc true true 0 []])∧H1 o=some (atO T nl fu z q)∧(∀x,x < n→x≠o→H1 x=H x)∧s'=⟨14,[(3,.ptr (n + 1 + 2) 0),(2,.ptr n 0),(0,.ptr o 0)],H1,n'⟩) (fun s2=>T.length - (match s2.h o with | some (.cells [_,.c (.int _ v)])=>v.toNat | _=>0)) ?_ ?_
  ·refine zS (s':=[(3,.ptr (n + 1 + 2) 0),(2,.ptr n 0),(0,.ptr o 0)]) (by simp[go_sem]) (Sub.refl _) ⟨ck,cf,co,cn,cnl,cfu,cs,cks,q,f,_,_,hR0.out,⟨Nat.le_refl _,by omega⟩,q2,?_,?_,?_,?_,?_,rfl⟩
   ·(try simp only);omega
   ·simp (disch:=omega) [zD]
   ·simp (disch:=omega) [zB,zD]
   ·simp (disch:=omega) [zB,zD]
   ·intro x hx hne;simp (disch:=omega) [zB]
  ·replace hR0:zC _:=trivial
   clear hR0 c1 h1 q2 q3
   rintro s2 ⟨ck,cf,co,cn,cnl,cfu,cs,cks,q,g,n',H1,hR0,⟨hg,hb⟩,q2,hn',b1,b0,b2,b3,rfl⟩
   clear s1
   have lT:=S.len
   replace b3:zC _:=b3
   replace hR0:zC _:=hR0
   obtain⟨g,rfl⟩:∃g',g=g' + 1:=⟨g - 1,by omega⟩
   cases h2:isM T q wOr with
   | false=>
    have hR:prM T (f + 1) .or p=.ok (.mk ck cf co cn cnl cfu cs cks,q):=by rw[hR0.out,Ql,h2];rfl
    have c2:=tisN S hon h2 q2
    replace c2:zC _:=c2
    replace h2:zC _:=h2
    repeat' (first|(refine zF fun K hK=>?_)|(refine zA fun K hK=>?_;simp (disch:=omega) [go_sem, *])|(apply zC.out hK;clear hK K;try with_reducible dsimp only[zG])|(apply zC.out hf;clear ht hf Kt Kf)|(clear hK K;apply zC.out hK;clear hK K;try with_reducible dsimp only[zG])|(with_reducible refine APureAt.gcall (c2.out _ _ (by simp (disch:=omega) [*];fail_if_success focus skip) (by omega)) ?_;try simp (disch:=omega) [go_sem, *])|(refine zk ?_;simp only[zG,zN,if_true])|(refine zH fun Kt Kf ht hf=>?_;simp (disch:=omega) [go_sem, *];try (refine⟨fun hc=>?_,fun hc=>?_⟩ <;> try (exfalso;omega))))
    refine zb ?_
    try dsimp only[zG,zN]
    refine EndQ.ret hR (by simp) (by simp (disch:=omega) [go_sem,zD] <;> rfl) ?_
    dsimp only[zr,put]
    refine zY ⟨?_,?_,?_⟩
    ·intro x hx
     by_cases hxo:x=o
     ·subst hxo;simp (disch:=omega) [zB,zD, *]
     ·rw[zB _ _ _ _ hxo];simp (disch:=omega) [zB,b3.out x hx hxo]
    ·simp[below,belowL,Zb]
    ·first | rfl | simp[zn,ZE]
   | true=>
    have l2:=jF (by decide) h2
    have c2:=tisY S hon h2 q2
    replace c2:zC _:=c2
    cases h3:prM T g .an (q + 1) with
    | error k=>
     have hR:prM T (f + 1) .or p=.error k:=by simp only[hR0.out,Ql,h2,h3,if_true]
     have bad:=condN (C1.out g (by omega)) S hon h3 (by omega) (by simp only[bdM];omega)
     replace bad:zC _:=bad
     replace h2:zC _:=h2
     replace h3:zC _:=h3
     repeat' (first|(refine JY (id:=3) (v:=zW) 2 [2,3,4,5] (fun h' n'=>PErr T nl fu z o k H n h') mixed (by kernel_rfl) (by kernel_rfl) rfl (fun s _ hk=>EndQ.panic hR hk) ?_)|(refine zF fun K hK=>?_)|(refine zA fun K hK=>?_;simp (disch:=omega) [go_sem, *,])|(apply zC.out hK;clear hK K;try with_reducible dsimp only[zG])|(apply zC.out ht;clear ht hf Kt Kf)|(with_reducible refine ATurn.gcall (c2.out _ _ (by simp (disch:=omega) [*];fail_if_success focus skip) (by omega)) ?_;try simp (disch:=omega) [go_sem, *,])|(refine zJ ?_)|(refine zL ?_;simp only[zG])|(refine zH fun Kt Kf ht hf=>?_;simp (disch:=omega) [go_sem, *,];try (refine⟨fun hc=>?_,fun hc=>?_⟩ <;> try (exfalso;omega))))
     dsimp only
     repeat' (first
      | exact aQP_e|(refine aQP_v (by decide) (by simp[go_sem]) (by simp (disch:=omega) [go_sem, *,zB];first | exact rfl | exact⟨rfl,rfl,rfl⟩) ?_;try simp only[zU])|(refine aQP_b (by decide) (by decide) ?_;try simp only[zU,ZB])|(refine aQP_p rfl ?_ ?_))
     exact zj (L:=[.ptr o 0]) rfl rfl rfl rfl ((bad.out _ _ (by simp (disch:=omega) [zD, *];fail_if_success focus skip) (by omega)).mono fun _ _ hk=>hk.back (by omega) (fun x hx hne=>by simp (disch:=omega) [zB,b3.out x hx hne]))
    | ok y=>
     obtain⟨d,r⟩:=y
     have p1:=Z2 T g .an (q + 1) r d (by omega) h3
     simp only[ZY] at p1
     have p2:q < r∧r≤T.length:=by omega
     clear p1
     have hR1:prM T (f + 1) .or p=prM T g (.orL (cOr (.mk ck cf co cn cnl cfu cs cks) d)) r:=by simp only[hR0.out,Ql,h2,h3,if_true]
     have c3:=condY (C1.out g (by omega)) S hon h3 (by omega) (by simp only[bdM];omega)
     obtain⟨dk,df,do_,dn,dnl,dfu,ds,dks⟩:=d
     simp only[zn] at c3
     replace c3:zC _:=c3
     replace h2:zC _:=h2
     replace h3:zC _:=h3
     replace hR1:zC _:=hR1
     repeat' (first|(refine zF fun K hK=>?_)|(refine zA fun K hK=>?_;simp (disch:=omega) [go_sem, *])|(apply zC.out hK;clear hK K;try with_reducible dsimp only[zG])|(apply zC.out ht;clear ht hf Kt Kf)|(with_reducible refine ATurn.gcall (c2.out _ _ (by simp (disch:=omega) [*];fail_if_success focus skip) (by omega)) ?_;try simp (disch:=omega) [go_sem, *])|(refine zJ ?_)|(refine zL ?_;simp only[zG])|(refine zH fun Kt Kf ht hf=>?_;simp (disch:=omega) [go_sem, *];try (refine⟨fun hc=>?_,fun hc=>?_⟩ <;> try (exfalso;omega))))
     refine ZU [2,3,5] (fun h'=>h' (n + 1 + 2)=some (.cells [iv .i64 ck,iv .i64 cf,iv .i64 co,iv .i64 cn,.fslc cnl cfu cs (ZE cks)])) mixed (by kernel_rfl) (by simp (disch:=omega) [go_sem,zB,b1]) fun K hK=>?_
     simp (disch:=omega) [go_sem, *]
     repeat' (first|(refine aC_c (by simp[go_sem]) (by decide) (fun h' hh=>by (try dsimp only at hh);(try simp (disch:=omega) [go_sem, *]);first | exact rfl | exact⟨rfl,rfl,rfl⟩ | exact (c3.out _ _ (by simp (disch:=omega) [zB,zD, *];fail_if_success focus skip) (by omega)).gcall ⟨rfl,rfl,rfl⟩) ?_;try simp only[zU])|(refine aC_x (by simp[go_sem]) (by decide) (by (try simp (disch:=omega) [go_sem, *,zB]);first | exact rfl | exact⟨rfl,rfl⟩ | exact⟨rfl,rfl,rfl⟩ | exact (c3.out _ _ (by simp (disch:=omega) [zD, *];fail_if_success focus skip) (by omega)).gcall ⟨rfl,rfl,rfl⟩) (by first | exact .inl rfl|(right;simp (disch:=omega) [go_sem,zB,b1])) ?_;try simp only[zU,ZB])|(refine j3 ?_;apply zC.out hK;clear hK K;try with_reducible dsimp only[zG]))
     dsimp only[zN,zG]
     refine zl (s':=[(3,.ptr (n + 1 + 2) 0),(2,.ptr n 0),(0,.ptr o 0)]) (by simp[go_sem]) (Sub.refl _) ⟨_,_,_,_,_,_,_,_,r,g,_,_,hR1.out,⟨by omega,by omega⟩,p2.2,?_,?_,?_,?_,?_,rfl⟩ ?_
     ·(try simp only);omega
     ·simp (disch:=omega) [zD,ZE,zn]
     ·simp (disch:=omega) [zB,b0]
     ·simp (disch:=omega) [zB,zD]
     ·intro x hx hne;rw[←b3.out x hx hne];simp (disch:=omega) [zB]
     ·simp (disch:=omega) [zB,zD,b2];omega
theorem cond_all (T:List Tk) (nl fu:Bool) (z o:Nat):∀f,CondC T nl fu z o f .nt 183∧CondC T nl fu z o f .an 128∧CondC T nl fu z o f .or 60:=by
 intro f
 induction f using Nat.strongRecOn with
 | ind f ih=>
  cases f with
  | zero=>refine⟨fun H p n S hon hb=>?_,fun H p n S hon hb=>?_,fun H p n S hon hb=>?_⟩ <;> (simp only[bdM] at hb;omega)
  | succ f=>
   refine⟨fun H p n S hon hb=>⟨fun c q hR=>?_,fun k hR=>?_⟩,fun H p n S hon hb=>⟨fun c q hR=>?_,fun k hR=>?_⟩,fun H p n S hon hb=>⟨fun c q hR=>?_,fun k hR=>?_⟩⟩
   ·exact ZX hR hon Tryz.func183 rfl (by kernel_rfl) (by simp[Tryz.ntmps183]) fun hB=>not_code S hon (ih f (by omega)).1 (ih f (by omega)).2.2 hb rfl
   ·exact ZN (V:=zn) hR Tryz.func183 rfl (by kernel_rfl) (by simp[Tryz.ntmps183]) fun hB=>not_code S hon (ih f (by omega)).1 (ih f (by omega)).2.2 hb rfl
   ·exact ZX hR hon Tryz.func128 rfl (by kernel_rfl) (by simp[Tryz.ntmps128]) fun hB=>both_code S hon (fun g hg=>(ih g (by omega)).1) hb rfl
   ·exact ZN (V:=zn) hR Tryz.func128 rfl (by kernel_rfl) (by simp[Tryz.ntmps128]) fun hB=>both_code S hon (fun g hg=>(ih g (by omega)).1) hb rfl
   ·exact ZX hR hon Tryz.func60 rfl (by kernel_rfl) (by simp[Tryz.ntmps60]) fun hB=>either_code S hon (fun g hg=>(ih g (by omega)).2.1) hb rfl
   ·exact ZN (V:=zn) hR Tryz.func60 rfl (by kernel_rfl) (by simp[Tryz.ntmps60]) fun hB=>either_code S hon (fun g hg=>(ih g (by omega)).2.1) hb rfl
section
variable {T : List Tk} {nl fu : Bool} {z : Nat} {H : zI} {o p n : Nat}
theorem eitherY (S:PSt T nl fu z H o p) (hon:o < n) {q r:Nat} {c:Cnd} (h:condM T q=.ok (c,r)) (hq:q≤T.length) (H1:zI) (m:Nat) (h1:H1 o=some (atO T nl fu z q)) (h2:n≤m):ATurn Tryz.prog 60 [.ptr o 0] H1 m (zn c) (H1.upd o (some (atO T nl fu z r))):=((cond_all T nl fu z o _).2.2 H1 q m (S.on h1 hq) (by omega) (by simp only[bdM];omega)).1 c r h
theorem eitherN (S:PSt T nl fu z H o p) (hon:o < n) {q k:Nat} (h:condM T q=.error k) (hq:q≤T.length) (H1:zI) (m:Nat) (h1:H1 o=some (atO T nl fu z q)) (h2:n≤m):PCall Tryz.prog zW 60 [.ptr o 0] H1 m (fun h' _=>PErr T nl fu z o k H1 m h'):=((cond_all T nl fu z o _).2.2 H1 q m (S.on h1 hq) (by omega) (by simp only[bdM];omega)).2 k h
end
end Go.AM
