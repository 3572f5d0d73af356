/- The lines of a watch, by the program's parser. Conditions: as each theorem says. -/
import Derived.Test.YtabidiilbgakoaaGreatDoorQb
namespace Go.AM
open Go.Proofs Cw Du
set_option maxRecDepth 10000
set_option maxHeartbeats 4000000
section
variable {T : List Tk} {nl fu : Bool} {z : Nat} {H : zI} {o p n : Nat}
theorem nameY (S:PSt T nl fu z H o p) (hon:o < n) {q r:Nat} {x:ByteArray} (h:Zu T q=.ok (x,r)) (H1:zI) (m:Nat) (h1:H1 o=some (atO T nl fu z q)) (h2:n≤m):ATurn Tryz.prog 177 [.ptr o 0] H1 m (sv x) (H1.upd o (some (atO T nl fu z r))):=name_ok (S.on h1 (by obtain⟨_,a,_⟩:=jv h;omega)) (by omega) h
theorem nameN (S:PSt T nl fu z H o p) (hon:o < n) {q k:Nat} (h:Zu T q=.error k) (hq:q≤T.length) (H1:zI) (m:Nat) (h1:H1 o=some (atO T nl fu z q)) (h2:n≤m):PCall Tryz.prog zW 177 [.ptr o 0] H1 m (fun h' _=>PErr T nl fu z o q H1 m h'):=name_bad (S.on h1 hq) (by omega) h
theorem numY (S:PSt T nl fu z H o p) (hon:o < n) {q r:Nat} {x:Int} (h:jc T q=.ok (x,r)) (H1:zI) (m:Nat) (h1:H1 o=some (atO T nl fu z q)) (h2:n≤m):ATurn Tryz.prog 180 [.ptr o 0] H1 m (iv .i64 x) (H1.upd o (some (atO T nl fu z r))):=number_ok (S.on h1 (by obtain⟨_,a⟩:=Zf h;omega)) (by omega) h
theorem numN (S:PSt T nl fu z H o p) (hon:o < n) {q k:Nat} (h:jc T q=.error k) (hq:q≤T.length) (H1:zI) (m:Nat) (h1:H1 o=some (atO T nl fu z q)) (h2:n≤m):PCall Tryz.prog zW 180 [.ptr o 0] H1 m (fun h' _=>PErr T nl fu z o q H1 m h'):=number_bad (S.on h1 hq) (by omega) h
theorem tisY (S:PSt T nl fu z H o p) (hon:o < n) {q:Nat} {w:ByteArray} (h:isM T q w=true) (hq:q≤T.length) (H1:zI) (m:Nat) (h1:H1 o=some (atO T nl fu z q)) (h2:n≤m):ATurn Tryz.prog 112 [.ptr o 0,sv w] H1 m (bv true) (H1.upd o (some (atO T nl fu z (q + 1)))):=is_yes (S.on h1 hq) (by omega) h
theorem tisN (S:PSt T nl fu z H o p) (hon:o < n) {q:Nat} {w:ByteArray} (h:isM T q w=false) (hq:q≤T.length) (H1:zI) (m:Nat) (h1:H1 o=some (atO T nl fu z q)) (h2:n≤m):APureAt Tryz.prog 112 [.ptr o 0,sv w] H1 m (bv false):=is_no (S.on h1 hq) (by omega) h
theorem mustY (S:PSt T nl fu z H o p) (hon:o < n) {q:Nat} {w:ByteArray} (h:isM T q w=true) (hq:q≤T.length) (H1:zI) (m:Nat) (h1:H1 o=some (atO T nl fu z q)) (h2:n≤m):ATurn Tryz.prog 178 [.ptr o 0,sv w] H1 m (.tup []) (H1.upd o (some (atO T nl fu z (q + 1)))):=must_ok (S.on h1 hq) (by omega) h
theorem mustN (S:PSt T nl fu z H o p) (hon:o < n) {q:Nat} {w:ByteArray} (h:isM T q w=false) (hq:q≤T.length) (H1:zI) (m:Nat) (h1:H1 o=some (atO T nl fu z q)) (h2:n≤m):PCall Tryz.prog zW 178 [.ptr o 0,sv w] H1 m (fun h' _=>PErr T nl fu z o q H1 m h'):=must_bad (S.on h1 hq) (by omega) h
theorem daysY (S:PSt T nl fu z H o p) (hon:o < n) {q r:Nat} {x:(Int × Int × Int) × List Int} (h:ZZ T q=.ok (x,r)) (hq:q≤T.length) {kd:Int} {tw pe ot:ByteArray} {v:AV} (hv:lnV kd tw pe ot x=v) (H1:zI) (m:Nat) (h1:H1 o=some (atO T nl fu z q)) (h2:n≤m) :
  ATurn Tryz.prog 179 [.ptr o 0,.agg [iv .i64 kd,sv tw,sv pe,sv ot,iv .i64 0,iv .i64 0,iv .i64 0,.fslc true true 0 []]] H1 m v (H1.upd o (some (atO T nl fu z r))):=by subst hv;exact days_ok (S.on h1 hq) (by omega) h
theorem daysN (S:PSt T nl fu z H o p) (hon:o < n) {q k:Nat} (h:ZZ T q=.error k) (hq:q≤T.length) {kd:Int} {tw pe ot:ByteArray} (H1:zI) (m:Nat) (h1:H1 o=some (atO T nl fu z q)) (h2:n≤m) :
  PCall Tryz.prog zW 179 [.ptr o 0,.agg [iv .i64 kd,sv tw,sv pe,sv ot,iv .i64 0,iv .i64 0,iv .i64 0,.fslc true true 0 []]] H1 m (fun h' _=>PErr T nl fu z o k H1 m h'):=days_bad (S.on h1 hq) (by omega) h
end
theorem mkLn_gen (kd:Int) (tw pe ot:ByteArray) (x:(Int × Int × Int) × List Int):∃nl fu s L,lnV kd tw pe ot x=.agg [iv .i64 kd,sv tw,sv pe,sv ot,iv .i64 x.1.1,iv .i64 x.1.2.1,iv .i64 x.1.2.2,.fslc nl fu s L]∧zX (mkLn kd tw pe ot x)=.agg [iv .i64 kd,sv tw,sv pe,sv ot,iv .i64 x.1.1,iv .i64 x.1.2.1,iv .i64 x.1.2.2,.fslc nl fu s L]∧∀m,belowL m L:=by
 unfold lnV mkLn
 by_cases h:x.2=[]
 ·rw[if_pos h,if_pos h];exact⟨_,_,_,_,rfl,rfl,fun m=>by simp[belowL]⟩
 ·rw[if_neg h,if_neg h];exact⟨_,_,_,_,rfl,rfl,fun m=>below_int m _⟩
theorem rest_code {T:List Tk} {nl fu:Bool} {z:Nat} {H:zI} {o p n:Nat} (S:PSt T nl fu z H o p) (hon:o < n) {c:Code} (hc:Tryz.f109.body=some c) :
  ze Tryz.prog n c (EndQ Tryz.f109 T nl fu z H o n (JL T p) zX) {nt:=Tryz.f109.ntmps,s:=zu 0 [.ptr o 0],h:=H,n}:=by
 have s1:=S.at_
 have sle:=S.le
 cases hc
 cases h1:Zu T (p) with
 | error k=>
  obtain rfl:=(j9 h1).symm
  have hR:JL T p=.error (p):=by simp only[JL,h1]
  have bad:=nameN S hon h1 (by omega)
  replace bad:zC _:=bad
  replace h1:zC _:=h1
  repeat' (first|((with_reducible show ZW _ _ _ _ _ _ _);(try dsimp only);exact zj (L:=[.ptr o 0]) rfl rfl rfl rfl ((bad.out _ _ (by simp (disch:=omega) [zB, *];fail_if_success focus skip) (by omega)).mono fun _ _ hk=>hk.back (by omega) (fun x hx hne=>by simp (disch:=omega) [zB])))|(refine zh (id:=1) (v:=zW) 2 (fun h' n'=>PErr T nl fu z o (p) H n h') rfl (fun s _ hk=>EndQ.panic hR hk) fun K hK=>?_;simp (disch:=omega) [go_sem, *])|(refine zF fun K hK=>?_)|(refine zA fun K hK=>?_;simp (disch:=omega) [go_sem, *,Tryz.ntmps109])|(apply zC.out hK;clear hK K;try with_reducible dsimp only[zG]))
 | ok x=>
  obtain⟨a,q0⟩:=x
  obtain⟨_,l0,_,_,_,e0⟩:=jv h1
  have g0:q0≤T.length:=by omega
  clear e0
  have c0:=nameY S hon h1
  replace c0:zC _:=c0
  cases h2:ZZ T (q0) with
  | error k=>
   have hR:JL T p=.error k:=by simp only[JL,jM,h1,h2]
   have bad:=daysN S hon h2 (by omega) (kd:=2) (tw:=.empty) (pe:=a) (ot:=.empty)
   replace bad:zC _:=bad
   replace h1:zC _:=h1
   replace h2:zC _:=h2
   repeat' (first|((with_reducible show ZW _ _ _ _ _ _ _);(try dsimp only);exact zj (L:=[.ptr o 0,_]) rfl rfl rfl rfl ((bad.out _ _ (by simp (disch:=omega) [zD, *];fail_if_success focus skip) (by omega)).mono fun _ _ hk=>hk.back (by omega) (fun x hx hne=>by simp (disch:=omega) [zB])))|(refine zh (id:=1) (v:=zW) 4 (fun h' n'=>PErr T nl fu z o k H n h') rfl (fun s _ hk=>EndQ.panic hR hk) fun K hK=>?_;simp (disch:=omega) [go_sem, *])|(refine zF fun K hK=>?_)|(refine zA fun K hK=>?_;simp (disch:=omega) [go_sem, *,Tryz.ntmps109])|(apply zC.out hK;clear hK K;try with_reducible dsimp only[zG])|(with_reducible refine ATurn.gcall (c0.out _ _ (by simp (disch:=omega) [zB, *];fail_if_success focus skip) (by omega)) ?_;try simp (disch:=omega) [go_sem, *,]))
  | ok x=>
   obtain⟨x,r⟩:=x
   have hR:JL T p=.ok (mkLn 2 .empty a .empty x,r):=by simp only[JL,jM,h1,h2]
   obtain⟨nl2,fu2,z2,L2,eL,eM,eB⟩:=mkLn_gen 2 .empty a .empty x
   have c1:=daysY S hon h2 (by omega) eL
   replace c1:zC _:=c1
   replace eL:zC _:=eL
   replace eM:zC _:=eM
   replace eB:zC _:=eB
   replace h1:zC _:=h1
   replace h2:zC _:=h2
   repeat' (first|(refine zF fun K hK=>?_)|(refine zA fun K hK=>?_;simp (disch:=omega) [go_sem, *,Tryz.ntmps109])|(apply zC.out hK;clear hK K;try with_reducible dsimp only[zG])|(with_reducible refine ATurn.gcall (c0.out _ _ (by simp (disch:=omega) [zB, *];fail_if_success focus skip) (by omega)) ?_;try simp (disch:=omega) [go_sem, *])|(with_reducible refine ATurn.gcall (c1.out _ _ (by simp (disch:=omega) [zD, *];fail_if_success focus skip) (by omega)) ?_;try simp (disch:=omega) [go_sem, *,zB]))
   refine zb ?_
   try dsimp only[zG,zN]
   refine EndQ.ret hR (by simp) (by simp (disch:=omega) [go_sem,zD] <;> rfl) ?_
   dsimp only[zr,put]
   refine zY ⟨?_,?_,?_⟩
   ·intro x hx
    by_cases hxo:x=o
    ·subst hxo;simp (disch:=omega) [zB,zD]
    ·rw[zB _ _ _ _ hxo];simp (disch:=omega) [zB]
   ·simp[below,belowL,eB.out]
   ·exact eM.out.symm
theorem prest_ok {T:List Tk} {nl fu:Bool} {z:Nat} {H:zI} {o p n:Nat} (S:PSt T nl fu z H o p) (hon:o < n) {x:Lin} {q:Nat} (hR:JL T p=.ok (x,q)):ATurn Tryz.prog 109 [.ptr o 0] H n (zX x) (H.upd o (some (atO T nl fu z q))):=
 ZX hR hon Tryz.func109 rfl (by kernel_rfl) (by simp[Tryz.ntmps109]) fun hB=>rest_code S hon rfl
theorem prest_bad {T:List Tk} {nl fu:Bool} {z:Nat} {H:zI} {o p n:Nat} (S:PSt T nl fu z H o p) (hon:o < n) {k:Nat} (hR:JL T p=.error k):PCall Tryz.prog zW 109 [.ptr o 0] H n (fun h' _=>PErr T nl fu z o k H n h'):=
 ZN (V:=zX) hR Tryz.func109 rfl (by kernel_rfl) (by simp[Tryz.ntmps109]) fun hB=>rest_code S hon rfl
theorem cancel_code {T:List Tk} {nl fu:Bool} {z:Nat} {H:zI} {o p n:Nat} (S:PSt T nl fu z H o p) (hon:o < n) {c:Code} (hc:Tryz.f110.body=some c) :
  ze Tryz.prog n c (EndQ Tryz.f110 T nl fu z H o n (Zp T p) zX) {nt:=Tryz.f110.ntmps,s:=zu 0 [.ptr o 0],h:=H,n}:=by
 have s1:=S.at_
 have sle:=S.le
 cases hc
 cases h1:Zu T (p) with
 | error k=>
  obtain rfl:=(j9 h1).symm
  have hR:Zp T p=.error (p):=by simp only[Zp,h1]
  have bad:=nameN S hon h1 (by omega)
  replace bad:zC _:=bad
  replace h1:zC _:=h1
  repeat' (first|((with_reducible show ZW _ _ _ _ _ _ _);(try dsimp only);exact zj (L:=[.ptr o 0]) rfl rfl rfl rfl ((bad.out _ _ (by simp (disch:=omega) [zB, *];fail_if_success focus skip) (by omega)).mono fun _ _ hk=>hk.back (by omega) (fun x hx hne=>by simp (disch:=omega) [zB])))|(refine zh (id:=1) (v:=zW) 2 (fun h' n'=>PErr T nl fu z o (p) H n h') rfl (fun s _ hk=>EndQ.panic hR hk) fun K hK=>?_;simp (disch:=omega) [go_sem, *])|(refine zF fun K hK=>?_)|(refine zA fun K hK=>?_;simp (disch:=omega) [go_sem, *,Tryz.ntmps110])|(apply zC.out hK;clear hK K;try with_reducible dsimp only[zG]))
 | ok x=>
  obtain⟨a,q0⟩:=x
  obtain⟨_,l0,_,_,_,e0⟩:=jv h1
  have g0:q0≤T.length:=by omega
  clear e0
  have c0:=nameY S hon h1
  replace c0:zC _:=c0
  cases h2:ZZ T (q0) with
  | error k=>
   have hR:Zp T p=.error k:=by simp only[Zp,jM,h1,h2]
   have bad:=daysN S hon h2 (by omega) (kd:=3) (tw:=a) (pe:=.empty) (ot:=.empty)
   replace bad:zC _:=bad
   replace h1:zC _:=h1
   replace h2:zC _:=h2
   repeat' (first|((with_reducible show ZW _ _ _ _ _ _ _);(try dsimp only);exact zj (L:=[.ptr o 0,_]) rfl rfl rfl rfl ((bad.out _ _ (by simp (disch:=omega) [zD, *];fail_if_success focus skip) (by omega)).mono fun _ _ hk=>hk.back (by omega) (fun x hx hne=>by simp (disch:=omega) [zB])))|(refine zh (id:=1) (v:=zW) 4 (fun h' n'=>PErr T nl fu z o k H n h') rfl (fun s _ hk=>EndQ.panic hR hk) fun K hK=>?_;simp (disch:=omega) [go_sem, *])|(refine zF fun K hK=>?_)|(refine zA fun K hK=>?_;simp (disch:=omega) [go_sem, *,Tryz.ntmps110])|(apply zC.out hK;clear hK K;try with_reducible dsimp only[zG])|(with_reducible refine ATurn.gcall (c0.out _ _ (by simp (disch:=omega) [zB, *];fail_if_success focus skip) (by omega)) ?_;try simp (disch:=omega) [go_sem, *,]))
  | ok x=>
   obtain⟨x,r⟩:=x
   have hR:Zp T p=.ok (mkLn 3 a .empty .empty x,r):=by simp only[Zp,jM,h1,h2]
   obtain⟨nl2,fu2,z2,L2,eL,eM,eB⟩:=mkLn_gen 3 a .empty .empty x
   have c1:=daysY S hon h2 (by omega) eL
   replace c1:zC _:=c1
   replace eL:zC _:=eL
   replace eM:zC _:=eM
   replace eB:zC _:=eB
   replace h1:zC _:=h1
   replace h2:zC _:=h2
   repeat' (first|(refine zF fun K hK=>?_)|(refine zA fun K hK=>?_;simp (disch:=omega) [go_sem, *,Tryz.ntmps110])|(apply zC.out hK;clear hK K;try with_reducible dsimp only[zG])|(with_reducible refine ATurn.gcall (c0.out _ _ (by simp (disch:=omega) [zB, *];fail_if_success focus skip) (by omega)) ?_;try simp (disch:=omega) [go_sem, *])|(with_reducible refine ATurn.gcall (c1.out _ _ (by simp (disch:=omega) [zD, *];fail_if_success focus skip) (by omega)) ?_;try simp (disch:=omega) [go_sem, *,zB]))
   refine zb ?_
   try dsimp only[zG,zN]
   refine EndQ.ret hR (by simp) (by simp (disch:=omega) [go_sem,zD] <;> rfl) ?_
   dsimp only[zr,put]
   refine zY ⟨?_,?_,?_⟩
   ·intro x hx
    by_cases hxo:x=o
    ·subst hxo;simp (disch:=omega) [zB,zD]
    ·rw[zB _ _ _ _ hxo];simp (disch:=omega) [zB]
   ·simp[below,belowL,eB.out]
   ·exact eM.out.symm
theorem pcancel_ok {T:List Tk} {nl fu:Bool} {z:Nat} {H:zI} {o p n:Nat} (S:PSt T nl fu z H o p) (hon:o < n) {x:Lin} {q:Nat} (hR:Zp T p=.ok (x,q)):ATurn Tryz.prog 110 [.ptr o 0] H n (zX x) (H.upd o (some (atO T nl fu z q))):=
 ZX hR hon Tryz.func110 rfl (by kernel_rfl) (by simp[Tryz.ntmps110]) fun hB=>cancel_code S hon rfl
theorem pcancel_bad {T:List Tk} {nl fu:Bool} {z:Nat} {H:zI} {o p n:Nat} (S:PSt T nl fu z H o p) (hon:o < n) {k:Nat} (hR:Zp T p=.error k):PCall Tryz.prog zW 110 [.ptr o 0] H n (fun h' _=>PErr T nl fu z o k H n h'):=
 ZN (V:=zX) hR Tryz.func110 rfl (by kernel_rfl) (by simp[Tryz.ntmps110]) fun hB=>cancel_code S hon rfl
theorem swap_code {T:List Tk} {nl fu:Bool} {z:Nat} {H:zI} {o p n:Nat} (S:PSt T nl fu z H o p) (hon:o < n) {c:Code} (hc:Tryz.f111.body=some c) :
  ze Tryz.prog n c (EndQ Tryz.f111 T nl fu z H o n (jt T p) zX) {nt:=Tryz.f111.ntmps,s:=zu 0 [.ptr o 0],h:=H,n}:=by
 have s1:=S.at_
 have sle:=S.le
 cases hc
 cases h1:Zu T (p) with
 | error k=>
  obtain rfl:=(j9 h1).symm
  have hR:jt T p=.error (p):=by simp only[jt,h1]
  have bad:=nameN S hon h1 (by omega)
  replace bad:zC _:=bad
  replace h1:zC _:=h1
  repeat' (first|((with_reducible show ZW _ _ _ _ _ _ _);(try dsimp only);exact zj (L:=[.ptr o 0]) rfl rfl rfl rfl ((bad.out _ _ (by simp (disch:=omega) [zB, *];fail_if_success focus skip) (by omega)).mono fun _ _ hk=>hk.back (by omega) (fun x hx hne=>by simp (disch:=omega) [zB])))|(refine zh (id:=1) (v:=zW) 1 (fun h' n'=>PErr T nl fu z o (p) H n h') rfl (fun s _ hk=>EndQ.panic hR hk) fun K hK=>?_;simp (disch:=omega) [go_sem, *])|(refine zF fun K hK=>?_)|(refine zA fun K hK=>?_;simp (disch:=omega) [go_sem, *,Tryz.ntmps111])|(apply zC.out hK;clear hK K;try with_reducible dsimp only[zG]))
 | ok x=>
  obtain⟨a,q0⟩:=x
  obtain⟨_,l0,_,_,_,e0⟩:=jv h1
  have g0:q0≤T.length:=by omega
  clear e0
  have c0:=nameY S hon h1
  replace c0:zC _:=c0
  cases h2:Zu T (q0) with
  | error k=>
   obtain rfl:=(j9 h2).symm
   have hR:jt T p=.error (q0):=by simp only[jt,h1,h2]
   have bad:=nameN S hon h2 (by omega)
   replace bad:zC _:=bad
   replace h1:zC _:=h1
   replace h2:zC _:=h2
   repeat' (first|((with_reducible show ZW _ _ _ _ _ _ _);(try dsimp only);exact zj (L:=[.ptr o 0]) rfl rfl rfl rfl ((bad.out _ _ (by simp (disch:=omega) [zB,zD, *];fail_if_success focus skip) (by omega)).mono fun _ _ hk=>hk.back (by omega) (fun x hx hne=>by simp (disch:=omega) [zB])))|(refine zh (id:=2) (v:=zW) 1 (fun h' n'=>PErr T nl fu z o (q0) H n h') rfl (fun s _ hk=>EndQ.panic hR hk) fun K hK=>?_;simp (disch:=omega) [go_sem, *])|(refine zF fun K hK=>?_)|(refine zA fun K hK=>?_;simp (disch:=omega) [go_sem, *,Tryz.ntmps111])|(apply zC.out hK;clear hK K;try with_reducible dsimp only[zG])|(with_reducible refine ATurn.gcall (c0.out _ _ (by simp (disch:=omega) [zB, *];fail_if_success focus skip) (by omega)) ?_;try simp (disch:=omega) [go_sem, *,]))
  | ok x=>
   obtain⟨b,q1⟩:=x
   obtain⟨_,l1,_,_,_,e1⟩:=jv h2
   have g1:q1≤T.length:=by omega
   clear e1
   have c1:=nameY S hon h2
   replace c1:zC _:=c1
   cases h3:ZZ T (q1) with
   | error k=>
    have hR:jt T p=.error k:=by simp only[jt,jM,h1,h2,h3]
    have bad:=daysN S hon h3 (by omega) (kd:=4) (tw:=.empty) (pe:=a) (ot:=b)
    replace bad:zC _:=bad
    replace h1:zC _:=h1
    replace h2:zC _:=h2
    replace h3:zC _:=h3
    repeat' (first|((with_reducible show ZW _ _ _ _ _ _ _);(try dsimp only);exact zj (L:=[.ptr o 0,_]) rfl rfl rfl rfl ((bad.out _ _ (by simp (disch:=omega) [zB,zD, *];fail_if_success focus skip) (by omega)).mono fun _ _ hk=>hk.back (by omega) (fun x hx hne=>by simp (disch:=omega) [zB])))|(refine zh (id:=3) (v:=zW) 2 (fun h' n'=>PErr T nl fu z o k H n h') rfl (fun s _ hk=>EndQ.panic hR hk) fun K hK=>?_;simp (disch:=omega) [go_sem, *])|(refine zF fun K hK=>?_)|(refine zA fun K hK=>?_;simp (disch:=omega) [go_sem, *,Tryz.ntmps111])|(apply zC.out hK;clear hK K;try with_reducible dsimp only[zG])|(with_reducible refine ATurn.gcall (c0.out _ _ (by simp (disch:=omega) [zB,zD, *];fail_if_success focus skip) (by omega)) ?_;try simp (disch:=omega) [go_sem, *,])|(with_reducible refine ATurn.gcall (c1.out _ _ (by simp (disch:=omega) [zB,zD, *];fail_if_success focus skip) (by omega)) ?_;try simp (disch:=omega) [go_sem, *,zB,]))
   | ok x=>
    obtain⟨x,r⟩:=x
    have hR:jt T p=.ok (mkLn 4 .empty a b x,r):=by simp only[jt,jM,h1,h2,h3]
    obtain⟨nl2,fu2,z2,L2,eL,eM,eB⟩:=mkLn_gen 4 .empty a b x
    have c2:=daysY S hon h3 (by omega) eL
    replace c2:zC _:=c2
    replace eL:zC _:=eL
    replace eM:zC _:=eM
    replace eB:zC _:=eB
    replace h1:zC _:=h1
    replace h2:zC _:=h2
    replace h3:zC _:=h3
    repeat' (first|(refine zF fun K hK=>?_)|(refine zA fun K hK=>?_;simp (disch:=omega) [go_sem, *,Tryz.ntmps111])|(apply zC.out hK;clear hK K;try with_reducible dsimp only[zG])|(with_reducible refine ATurn.gcall (c0.out _ _ (by simp (disch:=omega) [zB,zD, *];fail_if_success focus skip) (by omega)) ?_;try simp (disch:=omega) [go_sem, *])|(with_reducible refine ATurn.gcall (c1.out _ _ (by simp (disch:=omega) [zB,zD, *];fail_if_success focus skip) (by omega)) ?_;try simp (disch:=omega) [go_sem, *,zB])|(with_reducible refine ATurn.gcall (c2.out _ _ (by simp (disch:=omega) [zB,zD, *];fail_if_success focus skip) (by omega)) ?_;try simp (disch:=omega) [go_sem, *,zB]))
    refine zb ?_
    try dsimp only[zG,zN]
    refine EndQ.ret hR (by simp) (by simp (disch:=omega) [go_sem,zD] <;> rfl) ?_
    dsimp only[zr,put]
    refine zY ⟨?_,?_,?_⟩
    ·intro x hx
     by_cases hxo:x=o
     ·subst hxo;simp (disch:=omega) [zB,zD]
     ·rw[zB _ _ _ _ hxo];simp (disch:=omega) [zB]
    ·simp[below,belowL,eB.out]
    ·exact eM.out.symm
theorem pswap_ok {T:List Tk} {nl fu:Bool} {z:Nat} {H:zI} {o p n:Nat} (S:PSt T nl fu z H o p) (hon:o < n) {x:Lin} {q:Nat} (hR:jt T p=.ok (x,q)):ATurn Tryz.prog 111 [.ptr o 0] H n (zX x) (H.upd o (some (atO T nl fu z q))):=
 ZX hR hon Tryz.func111 rfl (by kernel_rfl) (by simp[Tryz.ntmps111]) fun hB=>swap_code S hon rfl
theorem pswap_bad {T:List Tk} {nl fu:Bool} {z:Nat} {H:zI} {o p n:Nat} (S:PSt T nl fu z H o p) (hon:o < n) {k:Nat} (hR:jt T p=.error k):PCall Tryz.prog zW 111 [.ptr o 0] H n (fun h' _=>PErr T nl fu z o k H n h'):=
 ZN (V:=zX) hR Tryz.func111 rfl (by kernel_rfl) (by simp[Tryz.ntmps111]) fun hB=>swap_code S hon rfl
theorem watch_code {T:List Tk} {nl fu:Bool} {z:Nat} {H:zI} {o p n:Nat} (S:PSt T nl fu z H o p) (hon:o < n) {c:Code} (hc:Tryz.f108.body=some c) :
  ze Tryz.prog n c (EndQ Tryz.f108 T nl fu z H o n (Zt T p) zX) {nt:=Tryz.f108.ntmps,s:=zu 0 [.ptr o 0],h:=H,n}:=by
 have s1:=S.at_
 have sle:=S.le
 cases hc
 cases h1:Zu T (p) with
 | error k=>
  obtain rfl:=(j9 h1).symm
  have hR:Zt T p=.error (p):=by simp only[Zt,h1]
  have bad:=nameN S hon h1 (by omega)
  replace bad:zC _:=bad
  replace h1:zC _:=h1
  repeat' (first|((with_reducible show ZW _ _ _ _ _ _ _);(try dsimp only);exact zj (L:=[.ptr o 0]) rfl rfl rfl rfl ((bad.out _ _ (by simp (disch:=omega) [zB, *];fail_if_success focus skip) (by omega)).mono fun _ _ hk=>hk.back (by omega) (fun x hx hne=>by simp (disch:=omega) [zB])))|(refine zh (id:=1) (v:=zW) 1 (fun h' n'=>PErr T nl fu z o (p) H n h') rfl (fun s _ hk=>EndQ.panic hR hk) fun K hK=>?_;simp (disch:=omega) [go_sem, *])|(refine zF fun K hK=>?_)|(refine zA fun K hK=>?_;simp (disch:=omega) [go_sem, *,Tryz.ntmps108])|(apply zC.out hK;clear hK K;try with_reducible dsimp only[zG]))
 | ok x=>
  obtain⟨a,q0⟩:=x
  obtain⟨_,l0,_,_,_,e0⟩:=jv h1
  have g0:q0≤T.length:=by omega
  clear e0
  have c0:=nameY S hon h1
  replace c0:zC _:=c0
  cases h2:isM T (q0) wBy with
  | false=>
   have hR:Zt T p=.error (q0):=by simp only[Zt,jM,h1,h2,if_false,Bool.false_eq_true]
   have bad:=mustN S hon h2 (by omega)
   replace bad:zC _:=bad
   replace h1:zC _:=h1
   replace h2:zC _:=h2
   repeat' (first|((with_reducible show ZW _ _ _ _ _ _ _);(try dsimp only);exact zj (L:=[.ptr o 0,sv wBy]) rfl rfl rfl rfl ((bad.out _ _ (by simp (disch:=omega) [zB,zD, *];fail_if_success focus skip) (by omega)).mono fun _ _ hk=>hk.back (by omega) (fun x hx hne=>by simp (disch:=omega) [zB])))|(refine zh (id:=2) (v:=zW) 1 (fun h' n'=>PErr T nl fu z o (q0) H n h') rfl (fun s _ hk=>EndQ.panic hR hk) fun K hK=>?_;simp (disch:=omega) [go_sem, *])|(refine zF fun K hK=>?_)|(refine zA fun K hK=>?_;simp (disch:=omega) [go_sem, *,Tryz.ntmps108])|(apply zC.out hK;clear hK K;try with_reducible dsimp only[zG])|(with_reducible refine ATurn.gcall (c0.out _ _ (by simp (disch:=omega) [zB, *];fail_if_success focus skip) (by omega)) ?_;try simp (disch:=omega) [go_sem, *,]))
  | true=>
   have l1:=jF (by decide) h2
   have c1:=mustY S hon h2 (by omega)
   replace c1:zC _:=c1
   cases h3:Zu T (q0 + 1) with
   | error k=>
    obtain rfl:=(j9 h3).symm
    have hR:Zt T p=.error (q0 + 1):=by simp only[Zt,h1,h2,h3,if_true]
    have bad:=nameN S hon h3 (by omega)
    replace bad:zC _:=bad
    replace h1:zC _:=h1
    replace h2:zC _:=h2
    replace h3:zC _:=h3
    repeat' (first|((with_reducible show ZW _ _ _ _ _ _ _);(try dsimp only);exact zj (L:=[.ptr o 0]) rfl rfl rfl rfl ((bad.out _ _ (by simp (disch:=omega) [zD, *];fail_if_success focus skip) (by omega)).mono fun _ _ hk=>hk.back (by omega) (fun x hx hne=>by simp (disch:=omega) [zB])))|(refine zh (id:=3) (v:=zW) 1 (fun h' n'=>PErr T nl fu z o (q0 + 1) H n h') rfl (fun s _ hk=>EndQ.panic hR hk) fun K hK=>?_;simp (disch:=omega) [go_sem, *])|(refine zF fun K hK=>?_)|(refine zA fun K hK=>?_;simp (disch:=omega) [go_sem, *,Tryz.ntmps108])|(apply zC.out hK;clear hK K;try with_reducible dsimp only[zG])|(with_reducible refine ATurn.gcall (c0.out _ _ (by simp (disch:=omega) [zB, *];fail_if_success focus skip) (by omega)) ?_;try simp (disch:=omega) [go_sem, *,])|(with_reducible refine ATurn.gcall (c1.out _ _ (by simp (disch:=omega) [zB,zD, *];fail_if_success focus skip) (by omega)) ?_;try simp (disch:=omega) [go_sem, *,]))
   | ok x=>
    obtain⟨b,q2⟩:=x
    obtain⟨_,l2,_,_,_,e2⟩:=jv h3
    have g2:q2≤T.length:=by omega
    clear e2
    have c2:=nameY S hon h3
    replace c2:zC _:=c2
    cases h4:ZZ T (q2) with
    | error k=>
     have hR:Zt T p=.error k:=by simp only[Zt,jM,h1,h2,h3,h4,if_true]
     have bad:=daysN S hon h4 (by omega) (kd:=1) (tw:=a) (pe:=b) (ot:=.empty)
     replace bad:zC _:=bad
     replace h1:zC _:=h1
     replace h2:zC _:=h2
     replace h3:zC _:=h3
     replace h4:zC _:=h4
     repeat' (first|((with_reducible show ZW _ _ _ _ _ _ _);(try dsimp only);exact zj (L:=[.ptr o 0,_]) rfl rfl rfl rfl ((bad.out _ _ (by simp (disch:=omega) [zB,zD, *];fail_if_success focus skip) (by omega)).mono fun _ _ hk=>hk.back (by omega) (fun x hx hne=>by simp (disch:=omega) [zB])))|(refine zh (id:=4) (v:=zW) 2 (fun h' n'=>PErr T nl fu z o k H n h') rfl (fun s _ hk=>EndQ.panic hR hk) fun K hK=>?_;simp (disch:=omega) [go_sem, *])|(refine zF fun K hK=>?_)|(refine zA fun K hK=>?_;simp (disch:=omega) [go_sem, *,Tryz.ntmps108])|(apply zC.out hK;clear hK K;try with_reducible dsimp only[zG])|(with_reducible refine ATurn.gcall (c0.out _ _ (by simp (disch:=omega) [zB,zD, *];fail_if_success focus skip) (by omega)) ?_;try simp (disch:=omega) [go_sem, *,])|(with_reducible refine ATurn.gcall (c1.out _ _ (by simp (disch:=omega) [zB,zD, *];fail_if_success focus skip) (by omega)) ?_;try simp (disch:=omega) [go_sem, *,])|(with_reducible refine ATurn.gcall (c2.out _ _ (by simp (disch:=omega) [zD, *];fail_if_success focus skip) (by omega)) ?_;try simp (disch:=omega) [go_sem, *,zB,]))
    | ok x=>
     obtain⟨x,r⟩:=x
     have hR:Zt T p=.ok (mkLn 1 a b .empty x,r):=by simp only[Zt,jM,h1,h2,h3,h4,if_true]
     obtain⟨nl2,fu2,z2,L2,eL,eM,eB⟩:=mkLn_gen 1 a b .empty x
     have c3:=daysY S hon h4 (by omega) eL
     replace c3:zC _:=c3
     replace eL:zC _:=eL
     replace eM:zC _:=eM
     replace eB:zC _:=eB
     replace h1:zC _:=h1
     replace h2:zC _:=h2
     replace h3:zC _:=h3
     replace h4:zC _:=h4
     repeat' (first|(refine zF fun K hK=>?_)|(refine zA fun K hK=>?_;simp (disch:=omega) [go_sem, *,Tryz.ntmps108])|(apply zC.out hK;clear hK K;try with_reducible dsimp only[zG])|(with_reducible refine ATurn.gcall (c0.out _ _ (by simp (disch:=omega) [zB,zD, *];fail_if_success focus skip) (by omega)) ?_;try simp (disch:=omega) [go_sem, *])|(with_reducible refine ATurn.gcall (c1.out _ _ (by simp (disch:=omega) [zB,zD, *];fail_if_success focus skip) (by omega)) ?_;try simp (disch:=omega) [go_sem, *])|(with_reducible refine ATurn.gcall (c2.out _ _ (by simp (disch:=omega) [zD, *];fail_if_success focus skip) (by omega)) ?_;try simp (disch:=omega) [go_sem, *,zB])|(with_reducible refine ATurn.gcall (c3.out _ _ (by simp (disch:=omega) [zB,zD, *];fail_if_success focus skip) (by omega)) ?_;try simp (disch:=omega) [go_sem, *,zB]))
     refine zb ?_
     try dsimp only[zG,zN]
     refine EndQ.ret hR (by simp) (by simp (disch:=omega) [go_sem,zD] <;> rfl) ?_
     dsimp only[zr,put]
     refine zY ⟨?_,?_,?_⟩
     ·intro x hx
      by_cases hxo:x=o
      ·subst hxo;simp (disch:=omega) [zB,zD]
      ·rw[zB _ _ _ _ hxo];simp (disch:=omega) [zB]
     ·simp[below,belowL,eB.out]
     ·exact eM.out.symm
theorem pwatch_ok {T:List Tk} {nl fu:Bool} {z:Nat} {H:zI} {o p n:Nat} (S:PSt T nl fu z H o p) (hon:o < n) {x:Lin} {q:Nat} (hR:Zt T p=.ok (x,q)):ATurn Tryz.prog 108 [.ptr o 0] H n (zX x) (H.upd o (some (atO T nl fu z q))):=
 ZX hR hon Tryz.func108 rfl (by kernel_rfl) (by simp[Tryz.ntmps108]) fun hB=>watch_code S hon rfl
theorem pwatch_bad {T:List Tk} {nl fu:Bool} {z:Nat} {H:zI} {o p n:Nat} (S:PSt T nl fu z H o p) (hon:o < n) {k:Nat} (hR:Zt T p=.error k):PCall Tryz.prog zW 108 [.ptr o 0] H n (fun h' _=>PErr T nl fu z o k H n h'):=
 ZN (V:=zX) hR Tryz.func108 rfl (by kernel_rfl) (by simp[Tryz.ntmps108]) fun hB=>watch_code S hon rfl
end Go.AM
