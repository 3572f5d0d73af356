/- Orders, by the program's parser; rows of lines and of orders. Conditions: as each theorem says. -/
import Derived.Test.YtabidiilbgakoaaGreatDoorQd
namespace Go.AM
open Go.Proofs Cw Du
set_option maxRecDepth 10000
set_option maxHeartbeats 4000000
theorem order_code {T:List Tk} {nl fu:Bool} {z:Nat} {H:zI} {o p n:Nat} (S:PSt T nl fu z H o p) (hon:o < n) {c:Code} (hc:Tryz.f113.body=some c) :
  ze Tryz.prog n c (EndQ Tryz.f113 T nl fu z H o n (ZG T p) zp) {nt:=Tryz.f113.ntmps,s:=zu 0 [.ptr o 0],h:=H,n}:=by
 have s1:=S.at_
 have sle:=S.le
 cases hc
 cases h1:Zu T p with
 | error k=>
  obtain rfl:=(j9 h1).symm
  have hR:ZG T p=.error p:=by simp only[ZG,h1]
  have bad:=nameN S hon h1 sle
  replace bad:zC _:=bad
  replace h1:zC _:=h1
  repeat' (first|((with_reducible show ZW _ _ _ _ _ _ _);(try dsimp only);exact zj (L:=[.ptr o 0]) rfl rfl rfl rfl ((bad.out _ _ (by simp (disch:=omega) [zB, *];fail_if_success focus skip) (by omega)).mono fun _ _ hk=>hk.back (by omega) (fun x hx hne=>by simp (disch:=omega) [zB])))|(refine zh (id:=1) (v:=zW) 1 (fun h' n'=>PErr T nl fu z o p H n h') rfl (fun s _ hk=>EndQ.panic hR hk) fun K hK=>?_;simp (disch:=omega) [go_sem, *])|(refine zF fun K hK=>?_)|(refine zA fun K hK=>?_;simp (disch:=omega) [go_sem, *,Tryz.ntmps113])|(apply zC.out hK;clear hK K;try with_reducible dsimp only[zG]))
 | ok x=>
  obtain⟨a,q⟩:=x
  obtain⟨_,l1,_,_,_,e1⟩:=jv h1
  have g1:q≤T.length:=by omega
  clear e1
  have c1:=nameY S hon h1
  replace c1:zC _:=c1
  cases h2:isM T q Q6 with
  | true=>
   have l2:=jF (by decide) h2
   have c2:=tisY S hon h2 g1
   replace c2:zC _:=c2
   cases h3:jc T (q + 1) with
   | error k=>
    obtain rfl:=JO h3
    have hR:ZG T p=.error (q + 1):=by simp only[ZG,h1,h2,h3,if_true]
    have bad:=numN S hon h3 (by omega)
    replace bad:zC _:=bad
    replace h1:zC _:=h1
    replace h2:zC _:=h2
    replace h3:zC _:=h3
    repeat' (first|((with_reducible show ZW _ _ _ _ _ _ _);(try dsimp only);exact zj (L:=[.ptr o 0]) rfl rfl rfl rfl ((bad.out _ _ (by simp (disch:=omega) [zD, *];fail_if_success focus skip) (by omega)).mono fun _ _ hk=>hk.back (by omega) (fun x hx hne=>by simp (disch:=omega) [zB])))|(refine zh (id:=3) (v:=zW) 1 (fun h' n'=>PErr T nl fu z o (q + 1) H n h') rfl (fun s _ hk=>EndQ.panic hR hk) fun K hK=>?_;simp (disch:=omega) [go_sem, *])|(refine zF fun K hK=>?_)|(refine zA fun K hK=>?_;simp (disch:=omega) [go_sem, *,Tryz.ntmps113])|(apply zC.out hK;clear hK K;try with_reducible dsimp only[zG])|(apply zC.out ht;clear ht hf Kt Kf)|(with_reducible refine ATurn.gcall (c1.out _ _ (by simp (disch:=omega) [zB, *];fail_if_success focus skip) (by omega)) ?_;try simp (disch:=omega) [go_sem, *,])|(with_reducible refine ATurn.gcall (c2.out _ _ (by simp (disch:=omega) [zB,zD, *];fail_if_success focus skip) (by omega)) ?_;try simp (disch:=omega) [go_sem, *,])|(refine zH fun Kt Kf ht hf=>?_;simp (disch:=omega) [go_sem, *,];try (refine⟨fun hc=>?_,fun hc=>?_⟩ <;> try (exfalso;omega))))
   | ok y=>
    obtain⟨r,q2⟩:=y
    obtain⟨e3,l3⟩:=Zf h3
    have g3:q2≤T.length:=by omega
    clear e3
    have c3:=numY S hon h3
    replace c3:zC _:=c3
    cases h4:isM T q2 wIf with
    | false=>
     have hR:ZG T p=.error q2:=by simp only[ZG,h1,h2,h3,h4,if_true,if_false,Bool.false_eq_true]
     have bad:=mustN S hon h4 g3
     replace bad:zC _:=bad
     replace h1:zC _:=h1
     replace h2:zC _:=h2
     replace h3:zC _:=h3
     replace h4:zC _:=h4
     repeat' (first|((with_reducible show ZW _ _ _ _ _ _ _);(try dsimp only);exact zj (L:=[.ptr o 0,sv wIf]) rfl rfl rfl rfl ((bad.out _ _ (by simp (disch:=omega) [zB,zD, *];fail_if_success focus skip) (by omega)).mono fun _ _ hk=>hk.back (by omega) (fun x hx hne=>by simp (disch:=omega) [zB])))|(refine zh (id:=4) (v:=zW) 1 (fun h' n'=>PErr T nl fu z o q2 H n h') rfl (fun s _ hk=>EndQ.panic hR hk) fun K hK=>?_;simp (disch:=omega) [go_sem, *])|(refine zF fun K hK=>?_)|(refine zA fun K hK=>?_;simp (disch:=omega) [go_sem, *,Tryz.ntmps113])|(apply zC.out hK;clear hK K;try with_reducible dsimp only[zG])|(apply zC.out ht;clear ht hf Kt Kf)|(with_reducible refine ATurn.gcall (c1.out _ _ (by simp (disch:=omega) [zB, *];fail_if_success focus skip) (by omega)) ?_;try simp (disch:=omega) [go_sem, *,])|(with_reducible refine ATurn.gcall (c2.out _ _ (by simp (disch:=omega) [zB,zD, *];fail_if_success focus skip) (by omega)) ?_;try simp (disch:=omega) [go_sem, *,])|(with_reducible refine ATurn.gcall (c3.out _ _ (by simp (disch:=omega) [zD, *];fail_if_success focus skip) (by omega)) ?_;try simp (disch:=omega) [go_sem, *,zB,])|(refine zH fun Kt Kf ht hf=>?_;simp (disch:=omega) [go_sem, *,];try (refine⟨fun hc=>?_,fun hc=>?_⟩ <;> try (exfalso;omega))))
    | true=>
     have l4:=jF (by decide) h4
     have c4:=mustY S hon h4 g3
     replace c4:zC _:=c4
     cases h5:condM T (q2 + 1) with
     | error k=>
      have hR:ZG T p=.error k:=by simp only[ZG,h1,h2,h3,h4,h5,if_true]
      have bad:=eitherN S hon h5 (by omega)
      replace bad:zC _:=bad
      replace h1:zC _:=h1
      replace h2:zC _:=h2
      replace h3:zC _:=h3
      replace h4:zC _:=h4
      replace h5:zC _:=h5
      repeat' (first|((with_reducible show ZW _ _ _ _ _ _ _);(try dsimp only);exact zj (L:=[.ptr o 0]) rfl rfl rfl rfl ((bad.out _ _ (by simp (disch:=omega) [zD, *];fail_if_success focus skip) (by omega)).mono fun _ _ hk=>hk.back (by omega) (fun x hx hne=>by simp (disch:=omega) [zB])))|(refine zh (id:=5) (v:=zW) 1 (fun h' n'=>PErr T nl fu z o k H n h') rfl (fun s _ hk=>EndQ.panic hR hk) fun K hK=>?_;simp (disch:=omega) [go_sem, *])|(refine zF fun K hK=>?_)|(refine zA fun K hK=>?_;simp (disch:=omega) [go_sem, *,Tryz.ntmps113])|(apply zC.out hK;clear hK K;try with_reducible dsimp only[zG])|(apply zC.out ht;clear ht hf Kt Kf)|(with_reducible refine ATurn.gcall (c1.out _ _ (by simp (disch:=omega) [zB, *];fail_if_success focus skip) (by omega)) ?_;try simp (disch:=omega) [go_sem, *,])|(with_reducible refine ATurn.gcall (c2.out _ _ (by simp (disch:=omega) [zB,zD, *];fail_if_success focus skip) (by omega)) ?_;try simp (disch:=omega) [go_sem, *,])|(with_reducible refine ATurn.gcall (c3.out _ _ (by simp (disch:=omega) [zD, *];fail_if_success focus skip) (by omega)) ?_;try simp (disch:=omega) [go_sem, *,zB,])|(with_reducible refine ATurn.gcall (c4.out _ _ (by simp (disch:=omega) [zB,zD, *];fail_if_success focus skip) (by omega)) ?_;try simp (disch:=omega) [go_sem, *,])|(refine zH fun Kt Kf ht hf=>?_;simp (disch:=omega) [go_sem, *,];try (refine⟨fun hc=>?_,fun hc=>?_⟩ <;> try (exfalso;omega))))
     | ok y=>
      obtain⟨c,q3⟩:=y
      have p5:=(Z2 T _ .or _ q3 c (by omega) h5).2
      have c5:=eitherY S hon h5 (by omega)
      obtain⟨ck,cf,co,cn,cnl,cfu,cs,cks⟩:=c
      simp only[zn] at c5
      replace c5:zC _:=c5
      cases h6:isM T q3 Zv with
      | false=>
       have hR:ZG T p=.error q3:=by simp only[ZG,h1,h2,h3,h4,h5,h6,if_true,if_false,Bool.false_eq_true]
       have bad:=mustN S hon h6 p5
       replace bad:zC _:=bad
       replace h1:zC _:=h1
       replace h2:zC _:=h2
       replace h3:zC _:=h3
       replace h4:zC _:=h4
       replace h5:zC _:=h5
       replace h6:zC _:=h6
       repeat' (first|((with_reducible show ZW _ _ _ _ _ _ _);(try dsimp only);exact zj (L:=[.ptr o 0,sv Zv]) rfl rfl rfl rfl ((bad.out _ _ (by simp (disch:=omega) [zB,zD, *];fail_if_success focus skip) (by omega)).mono fun _ _ hk=>hk.back (by omega) (fun x hx hne=>by simp (disch:=omega) [zB])))|(refine zh (id:=6) (v:=zW) 1 (fun h' n'=>PErr T nl fu z o q3 H n h') rfl (fun s _ hk=>EndQ.panic hR hk) fun K hK=>?_;simp (disch:=omega) [go_sem, *])|(refine zF fun K hK=>?_)|(refine zA fun K hK=>?_;simp (disch:=omega) [go_sem, *,Tryz.ntmps113])|(apply zC.out hK;clear hK K;try with_reducible dsimp only[zG])|(apply zC.out ht;clear ht hf Kt Kf)|(with_reducible refine ATurn.gcall (c1.out _ _ (by simp (disch:=omega) [zB, *];fail_if_success focus skip) (by omega)) ?_;try simp (disch:=omega) [go_sem, *,])|(with_reducible refine ATurn.gcall (c2.out _ _ (by simp (disch:=omega) [zB,zD, *];fail_if_success focus skip) (by omega)) ?_;try simp (disch:=omega) [go_sem, *,])|(with_reducible refine ATurn.gcall (c3.out _ _ (by simp (disch:=omega) [zD, *];fail_if_success focus skip) (by omega)) ?_;try simp (disch:=omega) [go_sem, *,zB,])|(with_reducible refine ATurn.gcall (c4.out _ _ (by simp (disch:=omega) [zB,zD, *];fail_if_success focus skip) (by omega)) ?_;try simp (disch:=omega) [go_sem, *,])|(with_reducible refine ATurn.gcall (c5.out _ _ (by simp (disch:=omega) [zD, *];fail_if_success focus skip) (by omega)) ?_;try simp (disch:=omega) [go_sem, *,zB,])|(refine zH fun Kt Kf ht hf=>?_;simp (disch:=omega) [go_sem, *,];try (refine⟨fun hc=>?_,fun hc=>?_⟩ <;> try (exfalso;omega))))
      | true=>
       have hR:ZG T p=.ok (⟨a,r,.mk ck cf co cn cnl cfu cs cks⟩,q3 + 1):=by simp only[ZG,h1,h2,h3,h4,h5,h6,if_true]
       have c6:=mustY S hon h6 p5
       replace c6:zC _:=c6
       replace h1:zC _:=h1
       replace h2:zC _:=h2
       replace h3:zC _:=h3
       replace h4:zC _:=h4
       replace h5:zC _:=h5
       replace h6:zC _:=h6
       repeat' (first|(refine zF fun K hK=>?_)|(refine zA fun K hK=>?_;simp (disch:=omega) [go_sem, *,zB,Tryz.ntmps113])|(apply zC.out hK;clear hK K;try with_reducible dsimp only[zG])|(apply zC.out ht;clear ht hf Kt Kf)|(with_reducible refine ATurn.gcall (c1.out _ _ (by simp (disch:=omega) [zB, *];fail_if_success focus skip) (by omega)) ?_;try simp (disch:=omega) [go_sem, *])|(with_reducible refine ATurn.gcall (c2.out _ _ (by simp (disch:=omega) [zB,zD, *];fail_if_success focus skip) (by omega)) ?_;try simp (disch:=omega) [go_sem, *])|(with_reducible refine ATurn.gcall (c3.out _ _ (by simp (disch:=omega) [zD, *];fail_if_success focus skip) (by omega)) ?_;try simp (disch:=omega) [go_sem, *,zB])|(with_reducible refine ATurn.gcall (c4.out _ _ (by simp (disch:=omega) [zB,zD, *];fail_if_success focus skip) (by omega)) ?_;try simp (disch:=omega) [go_sem, *])|(with_reducible refine ATurn.gcall (c5.out _ _ (by simp (disch:=omega) [zD, *];fail_if_success focus skip) (by omega)) ?_;try simp (disch:=omega) [go_sem, *,zB])|(with_reducible refine ATurn.gcall (c6.out _ _ (by simp (disch:=omega) [zB,zD, *];fail_if_success focus skip) (by omega)) ?_;try simp (disch:=omega) [go_sem, *])|(refine zH fun Kt Kf ht hf=>?_;simp (disch:=omega) [go_sem, *];try (refine⟨fun hc=>?_,fun hc=>?_⟩ <;> try (exfalso;omega))))
       refine zb ?_
       try dsimp only[zG,zN]
       refine EndQ.ret hR (by simp) (by simp (disch:=omega) [go_sem,zD] <;> rfl) ?_
       dsimp only[zr,put]
       refine zY ⟨?_,?_,?_⟩
       ·intro x hx
        by_cases hxo:x=o
        ·subst hxo;simp (disch:=omega) [zB,zD]
        ·rw[zB _ _ _ _ hxo];simp (disch:=omega) [zB]
       ·simp[below,belowL,Zb]
       ·first | rfl | simp[zp]
  | false=>
   have c2:=tisN S hon h2 g1
   replace c2:zC _:=c2
   cases h4:isM T q wIf with
   | false=>
    have hR:ZG T p=.error q:=by simp only[ZG,h1,h2,h4,if_false,Bool.false_eq_true]
    have bad:=mustN S hon h4 g1
    replace bad:zC _:=bad
    replace h1:zC _:=h1
    replace h2:zC _:=h2
    replace h4:zC _:=h4
    repeat' (first|((with_reducible show ZW _ _ _ _ _ _ _);(try dsimp only);exact zj (L:=[.ptr o 0,sv wIf]) rfl rfl rfl rfl ((bad.out _ _ (by simp (disch:=omega) [zB,zD, *];fail_if_success focus skip) (by omega)).mono fun _ _ hk=>hk.back (by omega) (fun x hx hne=>by simp (disch:=omega) [zB])))|(refine zh (id:=4) (v:=zW) 1 (fun h' n'=>PErr T nl fu z o q H n h') rfl (fun s _ hk=>EndQ.panic hR hk) fun K hK=>?_;simp (disch:=omega) [go_sem, *])|(refine zF fun K hK=>?_)|(refine zA fun K hK=>?_;simp (disch:=omega) [go_sem, *,Tryz.ntmps113])|(apply zC.out hK;clear hK K;try with_reducible dsimp only[zG])|(apply zC.out hf;clear ht hf Kt Kf)|(with_reducible refine ATurn.gcall (c1.out _ _ (by simp (disch:=omega) [zB, *];fail_if_success focus skip) (by omega)) ?_;try simp (disch:=omega) [go_sem, *,])|(with_reducible refine APureAt.gcall (c2.out _ _ (by simp (disch:=omega) [zB,zD, *];fail_if_success focus skip) (by omega)) ?_;try simp (disch:=omega) [go_sem, *,])|(refine zL ?_;simp only[zG])|(refine zH fun Kt Kf ht hf=>?_;simp (disch:=omega) [go_sem, *,];try (refine⟨fun hc=>?_,fun hc=>?_⟩ <;> try (exfalso;omega))))
   | true=>
    have l4:=jF (by decide) h4
    have c4:=mustY S hon h4 g1
    replace c4:zC _:=c4
    cases h5:condM T (q + 1) with
    | error k=>
     have hR:ZG T p=.error k:=by simp only[ZG,h1,h2,h4,h5,if_true,if_false,Bool.false_eq_true]
     have bad:=eitherN S hon h5 (by omega)
     replace bad:zC _:=bad
     replace h1:zC _:=h1
     replace h2:zC _:=h2
     replace h4:zC _:=h4
     replace h5:zC _:=h5
     repeat' (first|((with_reducible show ZW _ _ _ _ _ _ _);(try dsimp only);exact zj (L:=[.ptr o 0]) rfl rfl rfl rfl ((bad.out _ _ (by simp (disch:=omega) [zD, *];fail_if_success focus skip) (by omega)).mono fun _ _ hk=>hk.back (by omega) (fun x hx hne=>by simp (disch:=omega) [zB])))|(refine zh (id:=5) (v:=zW) 1 (fun h' n'=>PErr T nl fu z o k H n h') rfl (fun s _ hk=>EndQ.panic hR hk) fun K hK=>?_;simp (disch:=omega) [go_sem, *])|(refine zF fun K hK=>?_)|(refine zA fun K hK=>?_;simp (disch:=omega) [go_sem, *,Tryz.ntmps113])|(apply zC.out hK;clear hK K;try with_reducible dsimp only[zG])|(apply zC.out hf;clear ht hf Kt Kf)|(with_reducible refine ATurn.gcall (c1.out _ _ (by simp (disch:=omega) [zB, *];fail_if_success focus skip) (by omega)) ?_;try simp (disch:=omega) [go_sem, *,])|(with_reducible refine APureAt.gcall (c2.out _ _ (by simp (disch:=omega) [zB,zD, *];fail_if_success focus skip) (by omega)) ?_;try simp (disch:=omega) [go_sem, *,])|(with_reducible refine ATurn.gcall (c4.out _ _ (by simp (disch:=omega) [zB,zD, *];fail_if_success focus skip) (by omega)) ?_;try simp (disch:=omega) [go_sem, *,])|(refine zL ?_;simp only[zG])|(refine zH fun Kt Kf ht hf=>?_;simp (disch:=omega) [go_sem, *,];try (refine⟨fun hc=>?_,fun hc=>?_⟩ <;> try (exfalso;omega))))
    | ok y=>
     obtain⟨c,q3⟩:=y
     have p5:=(Z2 T _ .or _ q3 c (by omega) h5).2
     have c5:=eitherY S hon h5 (by omega)
     obtain⟨ck,cf,co,cn,cnl,cfu,cs,cks⟩:=c
     simp only[zn] at c5
     replace c5:zC _:=c5
     cases h6:isM T q3 Zv with
     | false=>
      have hR:ZG T p=.error q3:=by simp only[ZG,h1,h2,h4,h5,h6,if_true,if_false,Bool.false_eq_true]
      have bad:=mustN S hon h6 p5
      replace bad:zC _:=bad
      replace h1:zC _:=h1
      replace h2:zC _:=h2
      replace h4:zC _:=h4
      replace h5:zC _:=h5
      replace h6:zC _:=h6
      repeat' (first|((with_reducible show ZW _ _ _ _ _ _ _);(try dsimp only);exact zj (L:=[.ptr o 0,sv Zv]) rfl rfl rfl rfl ((bad.out _ _ (by simp (disch:=omega) [zB,zD, *];fail_if_success focus skip) (by omega)).mono fun _ _ hk=>hk.back (by omega) (fun x hx hne=>by simp (disch:=omega) [zB])))|(refine zh (id:=6) (v:=zW) 1 (fun h' n'=>PErr T nl fu z o q3 H n h') rfl (fun s _ hk=>EndQ.panic hR hk) fun K hK=>?_;simp (disch:=omega) [go_sem, *])|(refine zF fun K hK=>?_)|(refine zA fun K hK=>?_;simp (disch:=omega) [go_sem, *,Tryz.ntmps113])|(apply zC.out hK;clear hK K;try with_reducible dsimp only[zG])|(apply zC.out hf;clear ht hf Kt Kf)|(with_reducible refine ATurn.gcall (c1.out _ _ (by simp (disch:=omega) [zB, *];fail_if_success focus skip) (by omega)) ?_;try simp (disch:=omega) [go_sem, *,])|(with_reducible refine APureAt.gcall (c2.out _ _ (by simp (disch:=omega) [zB,zD, *];fail_if_success focus skip) (by omega)) ?_;try simp (disch:=omega) [go_sem, *,])|(with_reducible refine ATurn.gcall (c4.out _ _ (by simp (disch:=omega) [zB,zD, *];fail_if_success focus skip) (by omega)) ?_;try simp (disch:=omega) [go_sem, *,])|(with_reducible refine ATurn.gcall (c5.out _ _ (by simp (disch:=omega) [zD, *];fail_if_success focus skip) (by omega)) ?_;try simp (disch:=omega) [go_sem, *,zB,])|(refine zL ?_;simp only[zG])|(refine zH fun Kt Kf ht hf=>?_;simp (disch:=omega) [go_sem, *,];try (refine⟨fun hc=>?_,fun hc=>?_⟩ <;> try (exfalso;omega))))
     | true=>
      have hR:ZG T p=.ok (⟨a,0,.mk ck cf co cn cnl cfu cs cks⟩,q3 + 1):=by simp only[ZG,h1,h2,h4,h5,h6,if_true,if_false,Bool.false_eq_true]
      have c6:=mustY S hon h6 p5
      replace c6:zC _:=c6
      replace h1:zC _:=h1
      replace h2:zC _:=h2
      replace h4:zC _:=h4
      replace h5:zC _:=h5
      replace h6:zC _:=h6
      repeat' (first|(refine zF fun K hK=>?_)|(refine zA fun K hK=>?_;simp (disch:=omega) [go_sem, *,zB,Tryz.ntmps113])|(apply zC.out hK;clear hK K;try with_reducible dsimp only[zG])|(apply zC.out hf;clear ht hf Kt Kf)|(with_reducible refine ATurn.gcall (c1.out _ _ (by simp (disch:=omega) [zB, *];fail_if_success focus skip) (by omega)) ?_;try simp (disch:=omega) [go_sem, *])|(with_reducible refine APureAt.gcall (c2.out _ _ (by simp (disch:=omega) [zB,zD, *];fail_if_success focus skip) (by omega)) ?_;try simp (disch:=omega) [go_sem, *])|(with_reducible refine ATurn.gcall (c4.out _ _ (by simp (disch:=omega) [zB,zD, *];fail_if_success focus skip) (by omega)) ?_;try simp (disch:=omega) [go_sem, *])|(with_reducible refine ATurn.gcall (c5.out _ _ (by simp (disch:=omega) [zD, *];fail_if_success focus skip) (by omega)) ?_;try simp (disch:=omega) [go_sem, *,zB])|(with_reducible refine ATurn.gcall (c6.out _ _ (by simp (disch:=omega) [zB,zD, *];fail_if_success focus skip) (by omega)) ?_;try simp (disch:=omega) [go_sem, *])|(refine zL ?_;simp only[zG])|(refine zH fun Kt Kf ht hf=>?_;simp (disch:=omega) [go_sem, *];try (refine⟨fun hc=>?_,fun hc=>?_⟩ <;> try (exfalso;omega))))
      refine zb ?_
      try dsimp only[zG,zN]
      refine EndQ.ret hR (by simp) (by simp (disch:=omega) [go_sem,zD] <;> rfl) ?_
      dsimp only[zr,put]
      refine zY ⟨?_,?_,?_⟩
      ·intro x hx
       by_cases hxo:x=o
       ·subst hxo;simp (disch:=omega) [zB,zD]
       ·rw[zB _ _ _ _ hxo];simp (disch:=omega) [zB]
      ·simp[below,belowL,Zb]
      ·first | rfl | simp[zp]
theorem porder_ok {T:List Tk} {nl fu:Bool} {z:Nat} {H:zI} {o p n:Nat} (S:PSt T nl fu z H o p) (hon:o < n) {x:Ordr} {q:Nat} (hR:ZG T p=.ok (x,q)):ATurn Tryz.prog 113 [.ptr o 0] H n (zp x) (H.upd o (some (atO T nl fu z q))):=
 ZX hR hon Tryz.func113 rfl (by kernel_rfl) (by simp[Tryz.ntmps113]) fun hB=>order_code S hon rfl
theorem porder_bad {T:List Tk} {nl fu:Bool} {z:Nat} {H:zI} {o p n:Nat} (S:PSt T nl fu z H o p) (hon:o < n) {k:Nat} (hR:ZG T p=.error k):PCall Tryz.prog zW 113 [.ptr o 0] H n (fun h' _=>PErr T nl fu z o k H n h'):=
 ZN (V:=zp) hR Tryz.func113 rfl (by kernel_rfl) (by simp[Tryz.ntmps113]) fun hB=>order_code S hon rfl
end Go.AM
namespace Go.AM
open Go.Proofs Cw Du
set_option maxRecDepth 10000
set_option maxHeartbeats 4000000
theorem encLn_len (y:Lin):(cellsOf (zX y)).length=8:=rfl
theorem encO_len (y:Ordr):(cellsOf (zp y)).length=7:=by obtain⟨a,b,⟨k,f,o,n,nl,fu,s,ks⟩⟩:=y;rfl
theorem apLn1 {nm m:Nat} {V:List Lin} {x:Lin} {h:zI} {b c:Bool} (hm:h m=acO (V.map zX)) (hl:V.length≤1000000) :
  Z6 Tryz.prog nm 23 (acV 8 m (V.map zX)) (.fslc b c 8 [zX x]) h=some (acV 8 nm ((V ++ [x]).map zX),(h.upd m none).upd nm (acO ((V ++ [x]).map zX))):=by
 have:=ap_ac (P:=Tryz.prog) (T:=23) (e:=72) (s:=8) (by_:=104) (z:=.agg [iv .i64 0,sv ByteArray.empty,sv ByteArray.empty,sv ByteArray.empty,iv .i64 0,iv .i64 0,iv .i64 0,.fslc true true 0 []]) (by kernel_rfl) (by kernel_rfl) (by kernel_rfl) (by kernel_rfl) (by simp[cellsOf,AV.scalar]) (nm:=nm) (m:=m) (L:=V.map zX) (X:=[zX x]) (nl:=b) (full:=c) hm (fun y hy=>by obtain⟨o,_,rfl⟩:=List.mem_map.1 hy;exact encLn_len o) (by simp) (by simp;omega)
 rw[List.map_append];exact this
theorem apOr1 {nm m:Nat} {V:List Ordr} {x:Ordr} {h:zI} {b c:Bool} (hm:h m=acO (V.map zp)) (hl:V.length≤1000000) :
  Z6 Tryz.prog nm 24 (acV 7 m (V.map zp)) (.fslc b c 7 [zp x]) h=some (acV 7 nm ((V ++ [x]).map zp),(h.upd m none).upd nm (acO ((V ++ [x]).map zp))):=by
 have:=ap_ac (P:=Tryz.prog) (T:=24) (e:=74) (s:=7) (by_:=80) (z:=.agg [sv ByteArray.empty,iv .i64 0,iv .i64 0,iv .i64 0,iv .i64 0,iv .i64 0,.fslc true true 0 []]) (by kernel_rfl) (by kernel_rfl) (by kernel_rfl) (by kernel_rfl) (by simp[cellsOf,AV.scalar]) (nm:=nm) (m:=m) (L:=V.map zp) (X:=[zp x]) (nl:=b) (full:=c) hm (fun y hy=>by obtain⟨o,_,rfl⟩:=List.mem_map.1 hy;exact encO_len o) (by simp) (by simp;omega)
 rw[List.map_append];exact this
theorem apLn2 {nm m:Nat} {V:List Lin} {x:Lin} {h:zI} {b c:Bool} (hm:h m=acO (V.map zX)) (hl:V.length≤1000000) :
  Z6 Tryz.prog nm 23 (acV 8 m (V.map zX)) (.fslc b c 8 [zX x]) h=some (.slc nm 0 (V.length + 1) 8,(h.upd m none).upd nm (some (.cells (flat ((V ++ [x]).map zX))))):=by
 have hne:(V ++ [x]).map zX≠[]:=by simp
 rw[apLn1 hm hl,j0 hne,acO,if_neg hne];simp
theorem apOr2 {nm m:Nat} {V:List Ordr} {x:Ordr} {h:zI} {b c:Bool} (hm:h m=acO (V.map zp)) (hl:V.length≤1000000) :
  Z6 Tryz.prog nm 24 (acV 7 m (V.map zp)) (.fslc b c 7 [zp x]) h=some (.slc nm 0 (V.length + 1) 7,(h.upd m none).upd nm (some (.cells (flat ((V ++ [x]).map zp))))):=by
 have hne:(V ++ [x]).map zp≠[]:=by simp
 rw[apOr1 hm hl,j0 hne,acO,if_neg hne];simp
theorem elems_row {s:Nat}:∀L:List AV,(∀x ∈ L,∃cs,x=.agg cs∧cs.length=s)→JX true s L.length (flat L)=L
 | [],_=>rfl
 | x :: r,h=>by
  obtain⟨cs,rfl,hc⟩:=h x (by simp)
  have ih:=elems_row r fun y hy=>h y (by simp[hy])
  have e:flat (.agg cs :: r)=cs ++ flat r:=by simp[flat,cellsOf]
  rw[e]
  simp only[JX,List.length_cons,chunk,List.map_cons] at ih ⊢
  rw[←hc,List.take_left,List.drop_left,hc,ih];rfl
def j8 (s:Nat) (L:List AV):AV:=if L=[] then .fslc true true 0 [] else .fslc false false s L
theorem qq (n s:Nat) (L:List AV) (h:belowL n L):below n (j8 s L):=by
 unfold j8;split
 ·simp[below,belowL]
 ·simpa [below] using h
theorem fz_row {m s:Nat} {L:List AV} (hL:∀x ∈ L,∃cs,x=.agg cs∧cs.length=s) (hne:L≠[]):fzD m (flat L) true (acV s m L)=j8 s L:=by
 have hfl:(flat L).length=L.length * s:=flat_len (s:=s) (L:=L) (fun y hy=>by obtain⟨cs,rfl,e⟩:=hL y hy;exact e)
 rw[j0 hne,j8,if_neg hne]
 simp only[fzD,Nat.zero_add,List.drop_zero]
 rw[if_pos ⟨trivial,by omega,by simp⟩,elems_row L hL]
theorem fz_other {m m2 s:Nat} {L:List AV} {c:List AV} (hne:L≠[]→m2≠m):fzD m c true (acV s m2 L)=acV s m2 L:=by
 unfold acV
 split
 ·rfl
 ·rename_i h
  simp only[fzD]
  rw[if_neg (fun e=>hne h e.1)]
theorem fz_rowV {m s:Nat} {L:List AV} {c:List AV}:fzD m c true (j8 s L)=j8 s L:=by
 unfold j8;split <;> rfl
theorem ret_rows {fl:Nat} {K:AV→zI→Nat→Prop} {m1 m2:Nat} {V:List Lin} {W:List Ordr} {h:zI} {n:Nat} (h1:h m1=acO (V.map zX)) (h2:h m2=acO (W.map zp)) (hne:m1≠m2)
  (hk:∀h',(∀x,x≠m1→x≠m2→h' x=h x)→Zg fl K (.agg [j8 8 (V.map zX),j8 7 (W.map zp)]) h' n):Zg fl K (.agg [acV 8 m1 (V.map zX),acV 7 m2 (W.map zp)]) h n:=by
 have hV:∀x ∈ V.map zX,∃cs,x=.agg cs∧cs.length=8:=fun y hy=>by obtain⟨o,_,rfl⟩:=List.mem_map.1 hy;exact⟨_,rfl,rfl⟩
 have hW:∀x ∈ W.map zp,∃cs,x=.agg cs∧cs.length=7:=fun y hy=>by obtain⟨⟨a,b,⟨k,f,o,n,nl,fu,s,ks⟩⟩,_,rfl⟩:=List.mem_map.1 hy;exact⟨_,rfl,rfl⟩
 have step2:∀h',h' m2=acO (W.map zp)→(∀x,x≠m1→h' x=h x)→Zg fl K (.agg [j8 8 (V.map zX),acV 7 m2 (W.map zp)]) h' n:=by
  intro h' e1 e2
  by_cases hw:W.map zp=[]
  ·have:acV 7 m2 (W.map zp)=j8 7 (W.map zp):=by rw[hw];rfl
   rw[this]
   exact hk h' fun x a _=>e2 x a
  ·have e3:h' m2=some (.cells (flat (W.map zp))):=by rw[e1,acO,if_neg hw]
   refine ret_fzD true e3 ?_
   have:fzD m2 (flat (W.map zp)) true (.agg [j8 8 (V.map zX),acV 7 m2 (W.map zp)])=.agg [j8 8 (V.map zX),j8 7 (W.map zp)]:=by
    simp only[fzD,QM,fz_rowV,fz_row hW hw]
   rw[this]
   exact hk _ fun x a b=>by rw[zB _ _ _ _ b];exact e2 x a
 by_cases hv:V.map zX=[]
 ·have:acV 8 m1 (V.map zX)=j8 8 (V.map zX):=by rw[hv];rfl
  rw[this]
  exact step2 h h2 fun _ _=>rfl
 ·have e3:h m1=some (.cells (flat (V.map zX))):=by rw[h1,acO,if_neg hv]
  refine ret_fzD true e3 ?_
  have:fzD m1 (flat (V.map zX)) true (.agg [acV 8 m1 (V.map zX),acV 7 m2 (W.map zp)])=.agg [j8 8 (V.map zX),acV 7 m2 (W.map zp)]:=by
   simp only[fzD,QM,fz_row hV hv,fz_other (m:=m1) (m2:=m2) (fun _=>Ne.symm hne)]
  rw[this]
  exact step2 _ (by rw[zB _ _ _ _ (Ne.symm hne)];exact h2) fun x a=>zB _ _ _ _ a
theorem QO (n:Nat) (V:List Lin):belowL n (V.map zX):=by
 rw[qt];intro y hy;obtain⟨o,_,rfl⟩:=List.mem_map.1 hy
 simp only[zX,below,belowL,iv,and_true]
 exact⟨trivial,trivial,trivial,trivial,trivial,trivial,trivial,below_int n _⟩
theorem below_ords (n:Nat) (V:List Ordr):belowL n (V.map zp):=by
 rw[qt];intro y hy;obtain⟨⟨a,b,⟨k,f,o,m,nl,fu,s,ks⟩⟩,_,rfl⟩:=List.mem_map.1 hy
 simp only[zp,below,belowL,iv,and_true]
 exact⟨trivial,trivial,trivial,trivial,trivial,trivial,Zb n ks⟩
def QL (x:List Lin × List Ordr):AV:=.agg [j8 8 (x.1.map zX),j8 7 (x.2.map zp)]
theorem below_encWs (n:Nat) (x:List Lin × List Ordr):below n (QL x):=by
 simp only[QL,below,belowL,and_true]
 exact⟨qq n 8 _ (QO n _),qq n 7 _ (below_ords n _)⟩
end Go.AM
