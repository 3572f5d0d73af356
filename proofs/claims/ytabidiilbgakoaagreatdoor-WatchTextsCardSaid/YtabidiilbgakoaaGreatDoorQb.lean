/- The days of a line, by the program's parser. Conditions: as each theorem says. -/
import Derived.Test.YtabidiilbgakoaaGreatDoorQa
namespace Go.AM
open Go.Proofs Cw Du
set_option maxRecDepth 10000
set_option maxHeartbeats 4000000
def lnV (kd:Int) (tw pe ot:ByteArray) (x:(Int × Int × Int) × List Int):AV:=.agg [iv .i64 kd,sv tw,sv pe,sv ot,iv .i64 x.1.1,iv .i64 x.1.2.1,iv .i64 x.1.2.2,if x.2=[] then .fslc true true 0 [] else .fslc false false 1 (x.2.map (iv .i64))]
theorem days_code {T:List Tk} {nl fu:Bool} {z:Nat} {H:zI} {o p n:Nat} (S:PSt T nl fu z H o p) (hon:o < n) {kd:Int} {tw pe ot:ByteArray} (_hB:HB H n) {c:Code} (hc:Tryz.f179.body=some c) :
  ze Tryz.prog n c (EndQ Tryz.f179 T nl fu z H o n (ZZ T p) (lnV kd tw pe ot)) {nt:=Tryz.f179.ntmps,s:=zu 0 [.ptr o 0,.agg [iv .i64 kd,sv tw,sv pe,sv ot,iv .i64 0,iv .i64 0,iv .i64 0,.fslc true true 0 []]],h:=H,n}:=by
 have iY:∀(H1:zI) (m q:Nat) (w:ByteArray),isM T q w=true→H1 o=some (atO T nl fu z q)→q≤T.length→n≤m→ATurn Tryz.prog 112 [.ptr o 0,sv w] H1 m (bv true) (H1.upd o (some (atO T nl fu z (q + 1)))):=fun H1 m q w h1 h2 h3 h4=>is_yes (S.on h2 h3) (by omega) h1
 have iN:∀(H1:zI) (m q:Nat) (w:ByteArray),isM T q w=false→H1 o=some (atO T nl fu z q)→q≤T.length→n≤m→APureAt Tryz.prog 112 [.ptr o 0,sv w] H1 m (bv false):=fun H1 m q w h1 h2 h3 h4=>is_no (S.on h2 h3) (by omega) h1
 have nY:∀(H1:zI) (m q r:Nat) (x:Int),jc T q=.ok (x,r)→H1 o=some (atO T nl fu z q)→q≤T.length→n≤m→ATurn Tryz.prog 180 [.ptr o 0] H1 m (iv .i64 x) (H1.upd o (some (atO T nl fu z r))):=fun H1 m q r x h1 h2 h3 h4=>number_ok (S.on h2 h3) (by omega) h1
 have nN:∀(H1:zI) (m q k:Nat),jc T q=.error k→H1 o=some (atO T nl fu z q)→q≤T.length→n≤m→PCall Tryz.prog zW 180 [.ptr o 0] H1 m (fun h' n'=>PErr T nl fu z o q H1 m h'):=fun H1 m q k h1 h2 h3 h4=>number_bad (S.on h2 h3) (by omega) h1
 have mY:∀(H1:zI) (m q:Nat) (w:ByteArray),isM T q w=true→H1 o=some (atO T nl fu z q)→q≤T.length→n≤m→ATurn Tryz.prog 178 [.ptr o 0,sv w] H1 m (.tup []) (H1.upd o (some (atO T nl fu z (q + 1)))):=fun H1 m q w h1 h2 h3 h4=>must_ok (S.on h2 h3) (by omega) h1
 have mN:∀(H1:zI) (m q:Nat) (w:ByteArray),isM T q w=false→H1 o=some (atO T nl fu z q)→q≤T.length→n≤m→PCall Tryz.prog zW 178 [.ptr o 0,sv w] H1 m (fun h' n'=>PErr T nl fu z o q H1 m h'):=fun H1 m q w h1 h2 h3 h4=>must_bad (S.on h2 h3) (by omega) h1
 have s1:=S.at_
 have sle:=S.le
 have hlt:∀q w,0 < w.size→isM T q w=true→q < T.length:=fun q w h1 h2=>jF h1 h2
 cases hc
 replace iY:zC _:=iY
 replace mY:zC _:=mY
 replace mN:zC _:=mN
 replace iN:zC _:=iN
 replace nY:zC _:=nY
 replace nN:zC _:=nN
 replace hlt:zC _:=hlt
 iterate 9 (first|(refine zF fun K hK=>?_)|(refine zA fun K hK=>?_;simp (disch:=omega) [go_sem, *,zB,Tryz.ntmps179])|(apply zC.out hK;clear hK K;try with_reducible dsimp only[zG]))
 refine J2 (fun s'=>∃(f t e:Int) (q n':Nat) (H1:zI),jn T p=.ok ((f,t,e),q)∧q≤T.length∧n + 2≤n'∧H1 n=some (.cells [iv .i64 kd,sv tw,sv pe,sv ot,iv .i64 f,iv .i64 t,iv .i64 e,.fslc true true 0 []])∧H1 (n + 1)=some (.cells [iv .i64 0,sv ByteArray.empty,sv ByteArray.empty,sv ByteArray.empty,iv .i64 0,iv .i64 0,iv .i64 0,.fslc true true 0 []])∧H1 o=some (atO T nl fu z q)∧(∀x,x < n→x≠o→H1 x=H x)∧s'=⟨50,[(4,.ptr (n + 1) 0),(3,.ptr n 0),(0,.ptr o 0)],H1,n'⟩) ?_ ?_
 ·rintro s' ⟨f,t,e,q,n',H1,hF,gq,hn',b1,b2,b3,b4,rfl⟩
  refine hK.out _ ?_
  clear hK K
  clear s1
  have hbad:∀k,QB T q=.error k→ZZ T p=.error k:=fun k h=>by simp only[ZZ,hF,h]
  replace b4:zC _:=b4
  refine zF fun K hK=>?_
  refine J2 (fun s'=>∃(a:List Int) (r m n2:Nat) (H2:zI),QB T q=.ok (a,r)∧r≤T.length∧n + 2≤n2∧H2 n=some (.cells [iv .i64 kd,sv tw,sv pe,sv ot,iv .i64 f,iv .i64 t,iv .i64 e,acV 1 m (a.map (iv .i64))])∧(a≠[]→n + 2≤m∧H2 m=some (.cells (a.map (iv .i64))))∧H2 (n + 1)=some (.cells [iv .i64 0,sv ByteArray.empty,sv ByteArray.empty,sv ByteArray.empty,iv .i64 0,iv .i64 0,iv .i64 0,.fslc true true 0 []])∧H2 o=some (atO T nl fu z r)∧(∀x,x < n→x≠o→H2 x=H x)∧s'=⟨50,[(4,.ptr (n + 1) 0),(3,.ptr n 0),(0,.ptr o 0)],H2,n2⟩) ?_ ?_
  ·rintro s' ⟨a,r,m,n2,H2,hE,hr,hn2,c1,cm,c2,c3,c4,rfl⟩
   refine hK.out _ ?_
   clear hK K b1 b2 b3 b4
   replace c4:zC _:=c4
   replace cm:zC _:=cm
   cases h5:isM T r Zv with
   | false=>
    have hR:ZZ T p=.error r:=by simp only[ZZ,hF,hE,Bool.false_eq_true,if_false,h5]
    replace h5:zC _:=h5
    repeat' (first|((with_reducible show ZW _ _ _ _ _ _ _);(try dsimp only);exact zj (L:=[.ptr o 0,sv Zv]) rfl rfl rfl rfl ((mN.out _ _ r Zv h5.out (by simp (disch:=omega) [*];fail_if_success focus skip) (by omega) (by omega)).mono fun _ _ hk=>hk.back (by omega) (fun x hx hne=>by simp (disch:=omega) [c4.out x hx hne])))|(refine zh (id:=15) (v:=zW) 1 (fun h' n'=>PErr T nl fu z o r H n h') rfl (fun s _ hk=>EndQ.panic hR hk) fun K hK=>?_;simp (disch:=omega) [go_sem, *])|(refine zF fun K hK=>?_)|(apply zC.out hK;clear hK K;try with_reducible dsimp only[zG]))
   | true=>
    have hR:ZZ T p=.ok (((f,t,e),a),r + 1):=by simp only[ZZ,hF,hE,if_true,h5]
    replace h5:zC _:=h5
    by_cases ha:a=[]
    ·subst ha
     replace c1:H2 n=some (.cells [iv .i64 kd,sv tw,sv pe,sv ot,iv .i64 f,iv .i64 t,iv .i64 e,.fslc true true 0 []]):=c1
     repeat' (first|(refine zF fun K hK=>?_)|(refine zA fun K hK=>?_;simp (disch:=omega) [go_sem, *,zB])|(apply zC.out hK;clear hK K;try with_reducible dsimp only[zG])|(with_reducible refine ATurn.gcall (mY.out _ _ r Zv h5.out (by simp (disch:=omega) [*];fail_if_success focus skip) (by omega) (by omega)) ?_;try simp (disch:=omega) [go_sem, *]))
     refine zb ?_
     try dsimp only[zG,zN]
     refine EndQ.ret hR (by simp) (by simp (disch:=omega) [go_sem,zD] <;> rfl) ?_
     dsimp only[zr,put]
     refine zY ⟨?_,?_,?_⟩
     ·intro x hx
      by_cases hxo:x=o
      ·subst hxo;simp (disch:=omega) [zB,zD]
      ·rw[zB _ _ _ _ hxo,←c4.out x hx hxo];simp (disch:=omega) [zB]
     ·simp[below,belowL]
     ·simp[lnV]
    ·rw[j0 (by simpa using ha),List.length_map] at c1
     replace cm:=cm.out ha
     repeat' (first|(refine zF fun K hK=>?_)|(refine zA fun K hK=>?_;simp (disch:=omega) [go_sem, *,zB])|(apply zC.out hK;clear hK K;try with_reducible dsimp only[zG])|(with_reducible refine ATurn.gcall (mY.out _ _ r Zv h5.out (by simp (disch:=omega) [*];fail_if_success focus skip) (by omega) (by omega)) ?_;try simp (disch:=omega) [go_sem, *]))
     refine zb ?_
     try dsimp only[zG,zN]
     refine EndQ.ret hR (by simp) (by simp (disch:=omega) [go_sem,zD] <;> rfl) ?_
     have ek:=fzT_int m a
     simp only[fzT] at ek
     dsimp only[zr,put]
     refine ret_freeze (m:=m) (c:=a.map (iv .i64)) false (by simp (disch:=omega) [zB,cm]) ?_
     have e2:fzT m (a.map (iv .i64)) false (.agg [iv .i64 kd,sv tw,sv pe,sv ot,iv .i64 f,iv .i64 t,iv .i64 e,.slc m 0 a.length 1])=lnV kd tw pe ot ((f,t,e),a):=by
      simp only[fzT,List.map_cons,List.map_nil,ek,lnV,ha,if_false]
      rfl
     rw[e2]
     refine zY ⟨?_,?_,rfl⟩
     ·intro x hx
      by_cases hxo:x=o
      ·subst hxo;simp (disch:=omega) [zB,zD]
      ·rw[zB _ _ _ _ hxo,←c4.out x hx hxo];simp (disch:=omega) [zB]
     ·simp[lnV,ha,below,belowL,iv,below_int]
  ·skip
   cases h1:isM T q Z1 with
   | false=>
    have hX:QB T q=.ok ([],q):=by simp only[QB,Bool.false_eq_true,if_false,h1]
    replace h1:zC _:=h1
    repeat' (first|(refine zF fun K hK=>?_)|(refine zA fun K hK=>?_;simp (disch:=omega) [go_sem, *])|(apply zC.out hK;clear hK K;try with_reducible dsimp only[zG])|(apply zC.out hf;clear ht hf Kt Kf)|(with_reducible refine APureAt.gcall (iN.out _ _ q Z1 h1.out (by simp (disch:=omega) [*];fail_if_success focus skip) (by omega) (by omega)) ?_;try simp (disch:=omega) [go_sem, *])|(refine zL ?_;simp only[zG])|(refine zH fun Kt Kf ht hf=>?_;simp (disch:=omega) [go_sem, *];try (refine⟨fun hc=>?_,fun hc=>?_⟩ <;> try (exfalso;omega))))
    refine zS (s':=[(4,.ptr (n + 1) 0),(3,.ptr n 0),(0,.ptr o 0)]) (by simp[go_sem]) (Sub.refl _) ⟨[],q,0,_,_,hX,gq,?_,b1,fun h=>absurd rfl h,b2,b3,b4.out,rfl⟩
    (try simp only);omega
   | true=>
    have l1:=hlt.out q Z1 (by decide) h1
    cases h2:jc T (q + 1) with
    | error k=>
     obtain rfl:=JO h2
     have hR:ZZ T p=.error (q + 1):=hbad _ (by simp only[QB,if_true,h1,h2])
     replace h1:zC _:=h1
     replace h2:zC _:=h2
     repeat' (first|(refine JY (id:=12) (v:=zW) 3 [3,4,5,6,7] (fun h' n'=>PErr T nl fu z o (q + 1) H n h') mixed (by kernel_rfl) (by kernel_rfl) rfl (fun s _ hk=>EndQ.panic hR hk) ?_)|(refine zF fun K hK=>?_)|(refine zA fun K hK=>?_;simp (disch:=omega) [go_sem, *,])|(apply zC.out hK;clear hK K;try with_reducible dsimp only[zG])|(apply zC.out ht;clear ht hf Kt Kf)|(with_reducible refine ATurn.gcall (iY.out _ _ q Z1 h1.out (by simp (disch:=omega) [*];fail_if_success focus skip) (by omega) (by omega)) ?_;try simp (disch:=omega) [go_sem, *,])|(refine zH fun Kt Kf ht hf=>?_;simp (disch:=omega) [go_sem, *,];try (refine⟨fun hc=>?_,fun hc=>?_⟩ <;> try (exfalso;omega))))
     dsimp only
     repeat' (first
      | exact aQP_e|(refine aQP_v (by decide) (by simp[go_sem]) (by simp (disch:=omega) [go_sem, *,zB];first | exact rfl | exact⟨rfl,rfl,rfl⟩) ?_;try simp only[zU])|(refine aQP_b (by decide) (by decide) ?_;try simp only[zU,ZB])|(refine aQP_p rfl ?_ ?_))
     exact zj (L:=[.ptr o 0]) rfl rfl rfl rfl ((nN.out _ _ (q + 1) _ h2.out (by simp (disch:=omega) [zD, *];fail_if_success focus skip) (by omega) (by omega)).mono fun _ _ hk=>hk.back (by omega) (fun x hx hne=>by simp (disch:=omega) [zB,b4.out x hx hne]))
    | ok x=>
     obtain⟨d,r⟩:=x
     obtain⟨eh2,lh2⟩:=Zf h2
     have gh2:r≤T.length:=by omega
     have fh2:1≤r:=by omega
     clear eh2
     have hX:QB T q=exM T (T.length - r) r [d]:=by simp only[QB,if_true,h1,h2]
     replace h1:zC _:=h1
     replace h2:zC _:=h2
     have na:∀(H1:zI) (m:Nat),H1 o=some (atO T nl fu z (q + 1))→n≤m→ATurn Tryz.prog 180 [.ptr o 0] H1 m (iv .i64 d) (H1.upd o (some (atO T nl fu z r))):=fun H1 m e1 e2=>nY.out H1 m (q + 1) r d h2.out e1 (by omega) e2
     replace na:zC _:=na
     have ka:=fun nm nl2 fu2 h=>ap_first (nm:=nm) (nl:=nl2) (full:=fu2) (d:=d) (h:=h)
     repeat' (first|(refine zF fun K hK=>?_)|(refine zA fun K hK=>?_;simp (disch:=omega) [go_sem, *])|(apply zC.out hK;clear hK K;try with_reducible dsimp only[zG])|(apply zC.out ht;clear ht hf Kt Kf)|(with_reducible refine ATurn.gcall (iY.out _ _ q Z1 h1.out (by simp (disch:=omega) [*];fail_if_success focus skip) (by omega) (by omega)) ?_;try simp (disch:=omega) [go_sem, *])|(refine zH fun Kt Kf ht hf=>?_;simp (disch:=omega) [go_sem, *];try (refine⟨fun hc=>?_,fun hc=>?_⟩ <;> try (exfalso;omega))))
     refine ZU [3,4,5,7] (fun h'=>h' n=some (.cells [iv .i64 kd,sv tw,sv pe,sv ot,iv .i64 f,iv .i64 t,iv .i64 e,.fslc true true 0 []])) mixed (by kernel_rfl) (by simp (disch:=omega) [go_sem,zB,b1]) fun K hK=>?_
     simp (disch:=omega) [go_sem, *]
     repeat' (first|(refine aC_c (by simp[go_sem]) (by decide) (fun h' hh=>by (try dsimp only at hh);(try simp (disch:=omega) [go_sem, *]);first | exact rfl | exact⟨rfl,rfl,rfl⟩ | exact (na.out _ _ (by simp (disch:=omega) [zB,zD, *];fail_if_success focus skip) (by omega)).gcall ⟨rfl,rfl,rfl⟩) ?_;try simp only[zU])|(refine aC_x (by simp[go_sem]) (by decide) (by (try simp (disch:=omega) [go_sem, *,zB]);first | exact rfl | exact⟨rfl,rfl⟩ | exact⟨rfl,rfl,rfl⟩ | exact (na.out _ _ (by simp (disch:=omega) [zD, *];fail_if_success focus skip) (by omega)).gcall ⟨rfl,rfl,rfl⟩) (by first | exact .inl rfl|(right;simp (disch:=omega) [go_sem,zB,b1])) ?_;try simp only[zU,ZB])|(refine j3 ?_;apply zC.out hK;clear hK K;try with_reducible dsimp only[zG]))
     iterate 2 (first|(apply zC.out hK;clear hK K;try with_reducible dsimp only[zG])|(refine zJ ?_))
     refine z8 (fun s'=>∃(a:List Int) (r m n2 g:Nat) (H2:zI),(T.length - r≤g∧QB T q=exM T g r a)∧a≠[]∧a.length≤r∧r≤T.length∧n + 2≤m∧m < n2∧H2 n=some (.cells [iv .i64 kd,sv tw,sv pe,sv ot,iv .i64 f,iv .i64 t,iv .i64 e,.slc m 0 a.length 1])∧H2 m=some (.cells (a.map (iv .i64)))∧H2 (n + 1)=some (.cells [iv .i64 0,sv ByteArray.empty,sv ByteArray.empty,sv ByteArray.empty,iv .i64 0,iv .i64 0,iv .i64 0,.fslc true true 0 []])∧H2 o=some (atO T nl fu z r)∧(∀x,x < n→x≠o→H2 x=H x)∧s'=⟨50,[(4,.ptr (n + 1) 0),(3,.ptr n 0),(0,.ptr o 0)],H2,n2⟩) (fun s2=>T.length - (match s2.h o with | some (.cells [_,.c (.int _ v)])=>v.toNat | _=>0)) ?_ ?_
     ·refine zS (s':=[(4,.ptr (n + 1) 0),(3,.ptr n 0),(0,.ptr o 0)]) (by simp[go_sem]) (Sub.refl _) ⟨[d],r,n' + 2 + 5,_,_,_,⟨Nat.le_refl _,hX⟩,by simp,?_,gh2,?_,?_,?_,?_,?_,?_,?_,rfl⟩
      ·simp;omega
      ·omega
      ·simp
      ·simp (disch:=omega) [zD]
      ·simp (disch:=omega) [zB,zD]
      ·simp (disch:=omega) [zB,b2]
      ·simp (disch:=omega) [zB,zD]
      ·intro x hx hne;rw[←b4.out x hx hne];simp (disch:=omega) [zB]
     ·rintro s2 ⟨a,r,m,n2,g,H2,⟨ig,iX⟩,ia,il,ir,im,im2,c1,cm,c2,c3,c4,rfl⟩
      clear b1 b2 b3 hX fh2
      clear b4
      have lT:=S.len
      replace c4:zC _:=c4
      replace iX:zC _:=iX
      cases h3:isM T r JD with
      | false=>
       have hE:QB T q=.ok (a,r):=by rw[iX.out];cases g <;> simp[exM,h3]
       replace h3:zC _:=h3
       repeat' (first|(refine zF fun K hK=>?_)|(refine zA fun K hK=>?_;simp (disch:=omega) [go_sem, *])|(apply zC.out hK;clear hK K;try with_reducible dsimp only[zG])|(apply zC.out hf;clear ht hf Kt Kf)|(with_reducible refine APureAt.gcall (iN.out _ _ r JD h3.out (by simp (disch:=omega) [*];fail_if_success focus skip) (by omega) (by omega)) ?_;try simp (disch:=omega) [go_sem, *])|(refine zk ?_;simp only[zG,zN,if_true])|(refine zH fun Kt Kf ht hf=>?_;simp (disch:=omega) [go_sem, *];try (refine⟨fun hc=>?_,fun hc=>?_⟩ <;> try (exfalso;omega))))
       refine zS (s':=[(4,.ptr (n + 1) 0),(3,.ptr n 0),(0,.ptr o 0)]) (by simp[go_sem]) (Sub.refl _) ⟨a,r,m,_,_,hE,ir,?_,?_,fun _=>⟨im,cm⟩,c2,c3,c4.out,rfl⟩
       ·(try simp only);omega
       ·rw[j0 (by simpa using ia),List.length_map];exact c1
      | true=>
       have l3:=hlt.out r JD (by decide) h3
       obtain⟨g,rfl⟩:∃g',g=g' + 1:=⟨g - 1,by omega⟩
       cases h4:jc T (r + 1) with
       | error k=>
        obtain rfl:=JO h4
        have hR:ZZ T p=.error (r + 1):=hbad _ (by rw[iX.out];simp only[exM,if_true,h3,h4])
        replace h3:zC _:=h3
        replace h4:zC _:=h4
        repeat' (first|(refine JY (id:=14) (v:=zW) 3 [3,4,5,6,7] (fun h' n'=>PErr T nl fu z o (r + 1) H n h') mixed (by kernel_rfl) (by kernel_rfl) rfl (fun s _ hk=>EndQ.panic hR hk) ?_)|(refine zF fun K hK=>?_)|(refine zA fun K hK=>?_;simp (disch:=omega) [go_sem, *,])|(apply zC.out hK;clear hK K;try with_reducible dsimp only[zG])|(apply zC.out ht;clear ht hf Kt Kf)|(with_reducible refine ATurn.gcall (iY.out _ _ r JD h3.out (by simp (disch:=omega) [*];fail_if_success focus skip) (by omega) (by omega)) ?_;try simp (disch:=omega) [go_sem, *,])|(refine zJ ?_)|(refine zL ?_;simp only[zG])|(refine zH fun Kt Kf ht hf=>?_;simp (disch:=omega) [go_sem, *,];try (refine⟨fun hc=>?_,fun hc=>?_⟩ <;> try (exfalso;omega))))
        dsimp only
        repeat' (first
         | exact aQP_e|(refine aQP_v (by decide) (by simp[go_sem]) (by simp (disch:=omega) [go_sem, *,zB];first | exact rfl | exact⟨rfl,rfl,rfl⟩) ?_;try simp only[zU])|(refine aQP_b (by decide) (by decide) ?_;try simp only[zU,ZB])|(refine aQP_p rfl ?_ ?_))
        exact zj (L:=[.ptr o 0]) rfl rfl rfl rfl ((nN.out _ _ (r + 1) _ h4.out (by simp (disch:=omega) [zD, *];fail_if_success focus skip) (by omega) (by omega)).mono fun _ _ hk=>hk.back (by omega) (fun x hx hne=>by simp (disch:=omega) [zB,c4.out x hx hne]))
       | ok x=>
        obtain⟨d2,r2⟩:=x
        obtain⟨eh4,lh4⟩:=Zf h4
        have hE:QB T q=exM T g r2 (a ++ [d2]):=by rw[iX.out];simp only[exM,if_true,h3,h4]
        replace h3:zC _:=h3
        replace h4:zC _:=h4
        have hr2:r2≤T.length∧T.length - r2≤g∧a.length + 1≤r2∧r < r2:=by omega
        clear eh4
        obtain⟨hr2,hg2,hl2,hrr⟩:=hr2
        have na2:∀(H1:zI) (m:Nat),H1 o=some (atO T nl fu z (r + 1))→n≤m→ATurn Tryz.prog 180 [.ptr o 0] H1 m (iv .i64 d2) (H1.upd o (some (atO T nl fu z r2))):=fun H1 m e1 e2=>nY.out H1 m (r + 1) r2 d2 h4.out e1 (by omega) e2
        replace na2:zC _:=na2
        have ka:=fun nm nl2 fu2=>ap_next (nm:=nm) (nl:=nl2) (full:=fu2) (m:=m) (c:=a.map (iv .i64)) (len:=a.length) (d:=d2) (h:=(H2.upd o (some (atO T nl fu z (r + 1)))).upd o (some (atO T nl fu z r2))) (by simp (disch:=omega) [zB,cm]) (by simp) (by omega)
        repeat' (first|(refine zF fun K hK=>?_)|(refine zA fun K hK=>?_;simp (disch:=omega) [go_sem, *])|(apply zC.out hK;clear hK K;try with_reducible dsimp only[zG])|(apply zC.out ht;clear ht hf Kt Kf)|(with_reducible refine ATurn.gcall (iY.out _ _ r JD h3.out (by simp (disch:=omega) [*];fail_if_success focus skip) (by omega) (by omega)) ?_;try simp (disch:=omega) [go_sem, *])|(refine zJ ?_)|(refine zL ?_;simp only[zG])|(refine zH fun Kt Kf ht hf=>?_;simp (disch:=omega) [go_sem, *];try (refine⟨fun hc=>?_,fun hc=>?_⟩ <;> try (exfalso;omega))))
        refine ZU [3,4,5,7] (fun h'=>h' n=some (.cells [iv .i64 kd,sv tw,sv pe,sv ot,iv .i64 f,iv .i64 t,iv .i64 e,.slc m 0 a.length 1])) mixed (by kernel_rfl) (by simp (disch:=omega) [go_sem,zB,c1]) fun K hK=>?_
        simp (disch:=omega) [go_sem, *]
        repeat' (first|(refine aC_c (by simp[go_sem]) (by decide) (fun h' hh=>by (try dsimp only at hh);(try simp (disch:=omega) [go_sem, *]);first | exact rfl | exact⟨rfl,rfl,rfl⟩ | exact (na2.out _ _ (by simp (disch:=omega) [zB,zD, *];fail_if_success focus skip) (by omega)).gcall ⟨rfl,rfl,rfl⟩) ?_;try simp only[zU])|(refine aC_x (by simp[go_sem]) (by decide) (by (try simp (disch:=omega) [go_sem, *,zB]);first | exact rfl | exact⟨rfl,rfl⟩ | exact⟨rfl,rfl,rfl⟩ | exact (na2.out _ _ (by simp (disch:=omega) [zD, *];fail_if_success focus skip) (by omega)).gcall ⟨rfl,rfl,rfl⟩) (by first | exact .inl rfl|(right;simp (disch:=omega) [go_sem,zB,c1])) ?_;try simp only[zU,ZB])|(refine j3 ?_;apply zC.out hK;clear hK K;try with_reducible dsimp only[zG]))
        dsimp only[zN,zG]
        refine zl (s':=[(4,.ptr (n + 1) 0),(3,.ptr n 0),(0,.ptr o 0)]) (by simp[go_sem]) (Sub.refl _) ⟨a ++ [d2],r2,n2 + 2 + 5,_,g,_,⟨hg2,hE⟩,by simp,?_,hr2,?_,?_,?_,?_,?_,?_,?_,rfl⟩ ?_
        ·simp;omega
        ·omega
        ·simp
        ·simp (disch:=omega) [zD]
        ·simp (disch:=omega) [zB,zD]
        ·simp (disch:=omega) [zB,c2]
        ·simp (disch:=omega) [zB,zD]
        ·intro x hx hne;rw[←c4.out x hx hne];simp (disch:=omega) [zB]
        ·simp (disch:=omega) [zB,zD,c3];omega
 ·have hbad:∀k,jn T p=.error k→ZZ T p=.error k:=fun k h=>by simp only[ZZ,h]
  cases h1:isM T (p) wOn with
  | true=>
   have lh1:=hlt.out (p) wOn (by decide) h1
   cases h2:jc T (p + 1) with
   | error k=>
    obtain rfl:=JO h2
    have hR:ZZ T p=.error (p + 1):=hbad _ (by simp only[jn,if_true,h1,h2])
    replace h1:zC _:=h1
    replace h2:zC _:=h2
    repeat' (first|((with_reducible show ZW _ _ _ _ _ _ _);(try dsimp only);exact zj (L:=[.ptr o 0]) rfl rfl rfl rfl ((nN.out _ _ (p + 1) _ h2.out (by simp (disch:=omega) [zD, *];fail_if_success focus skip) (by omega) (by omega)).mono fun _ _ hk=>hk.back (by omega) (fun x hx hne=>by simp (disch:=omega) [zB])))|(refine zh (id:=3) (v:=zW) 1 (fun h' n'=>PErr T nl fu z o (p + 1) H n h') rfl (fun s _ hk=>EndQ.panic hR hk) fun K hK=>?_;simp (disch:=omega) [go_sem, *])|(refine zF fun K hK=>?_)|(refine zA fun K hK=>?_;simp (disch:=omega) [go_sem, *,])|(apply zC.out hK;clear hK K;try with_reducible dsimp only[zG])|(apply zC.out ht;clear ht hf Kt Kf)|(with_reducible refine ATurn.gcall (iY.out _ _ (p) wOn h1.out (by simp (disch:=omega) [zB, *];fail_if_success focus skip) (by omega) (by omega)) ?_;try simp (disch:=omega) [go_sem, *,])|(refine zH fun Kt Kf ht hf=>?_;simp (disch:=omega) [go_sem, *,];try (refine⟨fun hc=>?_,fun hc=>?_⟩ <;> try (exfalso;omega))))
   | ok x=>
    obtain⟨f,q⟩:=x
    obtain⟨eh2,lh2⟩:=Zf h2
    have gh2:q≤T.length:=by omega
    clear eh2
    have hF:jn T p=.ok ((f,f,1),q):=by simp only[jn,if_true,h1,h2]
    replace h1:zC _:=h1
    replace h2:zC _:=h2
    repeat' (first|(refine zF fun K hK=>?_)|(refine zA fun K hK=>?_;simp (disch:=omega) [go_sem, *,])|(apply zC.out hK;clear hK K;try with_reducible dsimp only[zG])|(apply zC.out ht;clear ht hf Kt Kf)|(with_reducible refine ATurn.gcall (iY.out _ _ (p) wOn h1.out (by simp (disch:=omega) [zB, *];fail_if_success focus skip) (by omega) (by omega)) ?_;try simp (disch:=omega) [go_sem, *,])|(with_reducible refine ATurn.gcall (nY.out _ _ (p + 1) _ _ h2.out (by simp (disch:=omega) [zD, *];fail_if_success focus skip) (by omega) (by omega)) ?_;try simp (disch:=omega) [go_sem, *,zB,])|(refine zH fun Kt Kf ht hf=>?_;simp (disch:=omega) [go_sem, *,];try (refine⟨fun hc=>?_,fun hc=>?_⟩ <;> try (exfalso;omega))))
    refine zS (s':=[(4,.ptr (n + 1) 0),(3,.ptr n 0),(0,.ptr o 0)]) (by simp[go_sem]) (Sub.refl _) ⟨f,f,1,q,_,_,hF,?_,?_,?_,?_,?_,?_,rfl⟩
    ·omega
    ·(try simp only);omega
    ·simp (disch:=omega) [zD, *]
    ·simp (disch:=omega) [zB,zD, *]
    ·simp (disch:=omega) [zB,zD, *]
    ·intro x hx hne;simp (disch:=omega) [zB]
  | false=>
   cases h2:isM T (p) JN with
   | true=>
    have lh2:=hlt.out (p) JN (by decide) h2
    cases h3:jc T (p + 1) with
    | error k=>
     obtain rfl:=JO h3
     have hR:ZZ T p=.error (p + 1):=hbad _ (by simp only[jn,if_true,if_false,Bool.false_eq_true,h1,h2,h3])
     replace h1:zC _:=h1
     replace h2:zC _:=h2
     replace h3:zC _:=h3
     repeat' (first|((with_reducible show ZW _ _ _ _ _ _ _);(try dsimp only);exact zj (L:=[.ptr o 0]) rfl rfl rfl rfl ((nN.out _ _ (p + 1) _ h3.out (by simp (disch:=omega) [zD, *];fail_if_success focus skip) (by omega) (by omega)).mono fun _ _ hk=>hk.back (by omega) (fun x hx hne=>by simp (disch:=omega) [zB])))|(refine zh (id:=6) (v:=zW) 1 (fun h' n'=>PErr T nl fu z o (p + 1) H n h') rfl (fun s _ hk=>EndQ.panic hR hk) fun K hK=>?_;simp (disch:=omega) [go_sem, *])|(refine zF fun K hK=>?_)|(refine zA fun K hK=>?_;simp (disch:=omega) [go_sem, *,])|(apply zC.out hK;clear hK K;try with_reducible dsimp only[zG])|(apply zC.out hf;clear ht hf Kt Kf)|(with_reducible refine APureAt.gcall (iN.out _ _ (p) wOn h1.out (by simp (disch:=omega) [zB, *];fail_if_success focus skip) (by omega) (by omega)) ?_;try simp (disch:=omega) [go_sem, *,])|(with_reducible refine ATurn.gcall (mY.out _ _ (p) JN h2.out (by simp (disch:=omega) [zB, *];fail_if_success focus skip) (by omega) (by omega)) ?_;try simp (disch:=omega) [go_sem, *,])|(refine zH fun Kt Kf ht hf=>?_;simp (disch:=omega) [go_sem, *,];try (refine⟨fun hc=>?_,fun hc=>?_⟩ <;> try (exfalso;omega))))
    | ok x=>
     obtain⟨f,q⟩:=x
     obtain⟨eh3,lh3⟩:=Zf h3
     have gh3:q≤T.length:=by omega
     clear eh3
     cases h4:isM T (q) wTo with
     | true=>
      have lh4:=hlt.out (q) wTo (by decide) h4
      cases h5:jc T (q + 1) with
      | error k=>
       obtain rfl:=JO h5
       have hR:ZZ T p=.error (q + 1):=hbad _ (by simp only[jn,toM,if_true,if_false,Bool.false_eq_true,h1,h2,h3,h4,h5])
       replace h1:zC _:=h1
       replace h2:zC _:=h2
       replace h3:zC _:=h3
       replace h4:zC _:=h4
       replace h5:zC _:=h5
       repeat' (first|((with_reducible show ZW _ _ _ _ _ _ _);(try dsimp only);exact zj (L:=[.ptr o 0]) rfl rfl rfl rfl ((nN.out _ _ (q + 1) _ h5.out (by simp (disch:=omega) [zD, *];fail_if_success focus skip) (by omega) (by omega)).mono fun _ _ hk=>hk.back (by omega) (fun x hx hne=>by simp (disch:=omega) [zB])))|(refine zh (id:=8) (v:=zW) 1 (fun h' n'=>PErr T nl fu z o (q + 1) H n h') rfl (fun s _ hk=>EndQ.panic hR hk) fun K hK=>?_;simp (disch:=omega) [go_sem, *])|(refine zF fun K hK=>?_)|(refine zA fun K hK=>?_;simp (disch:=omega) [go_sem, *,])|(apply zC.out hK;clear hK K;try with_reducible dsimp only[zG])|(apply zC.out hf;clear ht hf Kt Kf)|(with_reducible refine APureAt.gcall (iN.out _ _ (p) wOn h1.out (by simp (disch:=omega) [zB, *];fail_if_success focus skip) (by omega) (by omega)) ?_;try simp (disch:=omega) [go_sem, *,])|(with_reducible refine ATurn.gcall (mY.out _ _ (p) JN h2.out (by simp (disch:=omega) [zB, *];fail_if_success focus skip) (by omega) (by omega)) ?_;try simp (disch:=omega) [go_sem, *,])|(with_reducible refine ATurn.gcall (nY.out _ _ (p + 1) _ _ h3.out (by simp (disch:=omega) [zD, *];fail_if_success focus skip) (by omega) (by omega)) ?_;try simp (disch:=omega) [go_sem, *,zB,])|(with_reducible refine ATurn.gcall (mY.out _ _ (q) wTo h4.out (by simp (disch:=omega) [zB,zD, *];fail_if_success focus skip) (by omega) (by omega)) ?_;try simp (disch:=omega) [go_sem, *,])|(refine zH fun Kt Kf ht hf=>?_;simp (disch:=omega) [go_sem, *,];try (refine⟨fun hc=>?_,fun hc=>?_⟩ <;> try (exfalso;omega))))
      | ok x=>
       obtain⟨t,r⟩:=x
       obtain⟨eh5,lh5⟩:=Zf h5
       have gh5:r≤T.length:=by omega
       clear eh5
       cases h6:isM T (r) JE with
       | true=>
        have lh6:=hlt.out (r) JE (by decide) h6
        cases h7:jc T (r + 1) with
        | error k=>
         obtain rfl:=JO h7
         have hR:ZZ T p=.error (r + 1):=hbad _ (by simp only[jn,toM,qI,if_true,if_false,Bool.false_eq_true,h1,h2,h3,h4,h5,h6,h7])
         replace h1:zC _:=h1
         replace h2:zC _:=h2
         replace h3:zC _:=h3
         replace h4:zC _:=h4
         replace h5:zC _:=h5
         replace h6:zC _:=h6
         replace h7:zC _:=h7
         repeat' (first|((with_reducible show ZW _ _ _ _ _ _ _);(try dsimp only);exact zj (L:=[.ptr o 0]) rfl rfl rfl rfl ((nN.out _ _ (r + 1) _ h7.out (by simp (disch:=omega) [zD, *];fail_if_success focus skip) (by omega) (by omega)).mono fun _ _ hk=>hk.back (by omega) (fun x hx hne=>by simp (disch:=omega) [zB])))|(refine zh (id:=10) (v:=zW) 1 (fun h' n'=>PErr T nl fu z o (r + 1) H n h') rfl (fun s _ hk=>EndQ.panic hR hk) fun K hK=>?_;simp (disch:=omega) [go_sem, *])|(refine zF fun K hK=>?_)|(refine zA fun K hK=>?_;simp (disch:=omega) [go_sem, *,])|(apply zC.out hK;clear hK K;try with_reducible dsimp only[zG])|(apply zC.out ht;clear ht hf Kt Kf)|(apply zC.out hf;clear ht hf Kt Kf)|(with_reducible refine APureAt.gcall (iN.out _ _ (p) wOn h1.out (by simp (disch:=omega) [zB, *];fail_if_success focus skip) (by omega) (by omega)) ?_;try simp (disch:=omega) [go_sem, *,])|(with_reducible refine ATurn.gcall (mY.out _ _ (p) JN h2.out (by simp (disch:=omega) [zB, *];fail_if_success focus skip) (by omega) (by omega)) ?_;try simp (disch:=omega) [go_sem, *,])|(with_reducible refine ATurn.gcall (nY.out _ _ (p + 1) _ _ h3.out (by simp (disch:=omega) [zD, *];fail_if_success focus skip) (by omega) (by omega)) ?_;try simp (disch:=omega) [go_sem, *,zB,])|(with_reducible refine ATurn.gcall (mY.out _ _ (q) wTo h4.out (by simp (disch:=omega) [zB,zD, *];fail_if_success focus skip) (by omega) (by omega)) ?_;try simp (disch:=omega) [go_sem, *,])|(with_reducible refine ATurn.gcall (nY.out _ _ (q + 1) _ _ h5.out (by simp (disch:=omega) [zD, *];fail_if_success focus skip) (by omega) (by omega)) ?_;try simp (disch:=omega) [go_sem, *,zB,])|(with_reducible refine ATurn.gcall (iY.out _ _ (r) JE h6.out (by simp (disch:=omega) [zB,zD, *];fail_if_success focus skip) (by omega) (by omega)) ?_;try simp (disch:=omega) [go_sem, *,])|(refine zH fun Kt Kf ht hf=>?_;simp (disch:=omega) [go_sem, *,];try (refine⟨fun hc=>?_,fun hc=>?_⟩ <;> try (exfalso;omega))))
        | ok x=>
         obtain⟨e,u⟩:=x
         obtain⟨eh7,lh7⟩:=Zf h7
         have gh7:u≤T.length:=by omega
         clear eh7
         have hF:jn T p=.ok ((f,t,e),u):=by simp only[jn,toM,qI,if_true,if_false,Bool.false_eq_true,h1,h2,h3,h4,h5,h6,h7]
         replace h1:zC _:=h1
         replace h2:zC _:=h2
         replace h3:zC _:=h3
         replace h4:zC _:=h4
         replace h5:zC _:=h5
         replace h6:zC _:=h6
         replace h7:zC _:=h7
         repeat' (first|(refine zF fun K hK=>?_)|(refine zA fun K hK=>?_;simp (disch:=omega) [go_sem, *,])|(apply zC.out hK;clear hK K;try with_reducible dsimp only[zG])|(apply zC.out ht;clear ht hf Kt Kf)|(apply zC.out hf;clear ht hf Kt Kf)|(with_reducible refine APureAt.gcall (iN.out _ _ (p) wOn h1.out (by simp (disch:=omega) [zB, *];fail_if_success focus skip) (by omega) (by omega)) ?_;try simp (disch:=omega) [go_sem, *,])|(with_reducible refine ATurn.gcall (mY.out _ _ (p) JN h2.out (by simp (disch:=omega) [zB, *];fail_if_success focus skip) (by omega) (by omega)) ?_;try simp (disch:=omega) [go_sem, *,])|(with_reducible refine ATurn.gcall (nY.out _ _ (p + 1) _ _ h3.out (by simp (disch:=omega) [zD, *];fail_if_success focus skip) (by omega) (by omega)) ?_;try simp (disch:=omega) [go_sem, *,zB,])|(with_reducible refine ATurn.gcall (mY.out _ _ (q) wTo h4.out (by simp (disch:=omega) [zB,zD, *];fail_if_success focus skip) (by omega) (by omega)) ?_;try simp (disch:=omega) [go_sem, *,])|(with_reducible refine ATurn.gcall (nY.out _ _ (q + 1) _ _ h5.out (by simp (disch:=omega) [zD, *];fail_if_success focus skip) (by omega) (by omega)) ?_;try simp (disch:=omega) [go_sem, *,zB,])|(with_reducible refine ATurn.gcall (iY.out _ _ (r) JE h6.out (by simp (disch:=omega) [zB,zD, *];fail_if_success focus skip) (by omega) (by omega)) ?_;try simp (disch:=omega) [go_sem, *,])|(with_reducible refine ATurn.gcall (nY.out _ _ (r + 1) _ _ h7.out (by simp (disch:=omega) [zD, *];fail_if_success focus skip) (by omega) (by omega)) ?_;try simp (disch:=omega) [go_sem, *,zB,])|(refine zH fun Kt Kf ht hf=>?_;simp (disch:=omega) [go_sem, *,];try (refine⟨fun hc=>?_,fun hc=>?_⟩ <;> try (exfalso;omega))))
         refine zS (s':=[(4,.ptr (n + 1) 0),(3,.ptr n 0),(0,.ptr o 0)]) (by simp[go_sem]) (Sub.refl _) ⟨f,t,e,u,_,_,hF,?_,?_,?_,?_,?_,?_,rfl⟩
         ·omega
         ·(try simp only);omega
         ·simp (disch:=omega) [zD, *]
         ·simp (disch:=omega) [zB,zD, *]
         ·simp (disch:=omega) [zB,zD, *]
         ·intro x hx hne;simp (disch:=omega) [zB]
       | false=>
        have hF:jn T p=.ok ((f,t,1),r):=by simp only[jn,toM,qI,if_true,if_false,Bool.false_eq_true,h1,h2,h3,h4,h5,h6]
        replace h1:zC _:=h1
        replace h2:zC _:=h2
        replace h3:zC _:=h3
        replace h4:zC _:=h4
        replace h5:zC _:=h5
        replace h6:zC _:=h6
        repeat' (first|(refine zF fun K hK=>?_)|(refine zA fun K hK=>?_;simp (disch:=omega) [go_sem, *,])|(apply zC.out hK;clear hK K;try with_reducible dsimp only[zG])|(apply zC.out hf;clear ht hf Kt Kf)|(with_reducible refine APureAt.gcall (iN.out _ _ (p) wOn h1.out (by simp (disch:=omega) [zB, *];fail_if_success focus skip) (by omega) (by omega)) ?_;try simp (disch:=omega) [go_sem, *,])|(with_reducible refine ATurn.gcall (mY.out _ _ (p) JN h2.out (by simp (disch:=omega) [zB, *];fail_if_success focus skip) (by omega) (by omega)) ?_;try simp (disch:=omega) [go_sem, *,])|(with_reducible refine ATurn.gcall (nY.out _ _ (p + 1) _ _ h3.out (by simp (disch:=omega) [zD, *];fail_if_success focus skip) (by omega) (by omega)) ?_;try simp (disch:=omega) [go_sem, *,zB,])|(with_reducible refine ATurn.gcall (mY.out _ _ (q) wTo h4.out (by simp (disch:=omega) [zB,zD, *];fail_if_success focus skip) (by omega) (by omega)) ?_;try simp (disch:=omega) [go_sem, *,])|(with_reducible refine ATurn.gcall (nY.out _ _ (q + 1) _ _ h5.out (by simp (disch:=omega) [zD, *];fail_if_success focus skip) (by omega) (by omega)) ?_;try simp (disch:=omega) [go_sem, *,zB,])|(with_reducible refine APureAt.gcall (iN.out _ _ (r) JE h6.out (by simp (disch:=omega) [zB,zD, *];fail_if_success focus skip) (by omega) (by omega)) ?_;try simp (disch:=omega) [go_sem, *,])|(refine zL ?_;simp only[zG])|(refine zH fun Kt Kf ht hf=>?_;simp (disch:=omega) [go_sem, *,];try (refine⟨fun hc=>?_,fun hc=>?_⟩ <;> try (exfalso;omega))))
        refine zS (s':=[(4,.ptr (n + 1) 0),(3,.ptr n 0),(0,.ptr o 0)]) (by simp[go_sem]) (Sub.refl _) ⟨f,t,1,r,_,_,hF,?_,?_,?_,?_,?_,?_,rfl⟩
        ·omega
        ·(try simp only);omega
        ·simp (disch:=omega) [zD, *]
        ·simp (disch:=omega) [zB,zD, *]
        ·simp (disch:=omega) [zB,zD, *]
        ·intro x hx hne;simp (disch:=omega) [zB]
     | false=>
      have hR:ZZ T p=.error (q):=hbad _ (by simp only[jn,toM,qI,if_true,if_false,Bool.false_eq_true,h1,h2,h3,h4])
      replace h1:zC _:=h1
      replace h2:zC _:=h2
      replace h3:zC _:=h3
      replace h4:zC _:=h4
      repeat' (first|((with_reducible show ZW _ _ _ _ _ _ _);(try dsimp only);exact zj (L:=[.ptr o 0,sv wTo]) rfl rfl rfl rfl ((mN.out _ _ (q) wTo h4.out (by simp (disch:=omega) [zB,zD, *];fail_if_success focus skip) (by omega) (by omega)).mono fun _ _ hk=>hk.back (by omega) (fun x hx hne=>by simp (disch:=omega) [zB])))|(refine zh (id:=7) (v:=zW) 1 (fun h' n'=>PErr T nl fu z o (q) H n h') rfl (fun s _ hk=>EndQ.panic hR hk) fun K hK=>?_;simp (disch:=omega) [go_sem, *])|(refine zF fun K hK=>?_)|(refine zA fun K hK=>?_;simp (disch:=omega) [go_sem, *,])|(apply zC.out hK;clear hK K;try with_reducible dsimp only[zG])|(apply zC.out hf;clear ht hf Kt Kf)|(with_reducible refine APureAt.gcall (iN.out _ _ (p) wOn h1.out (by simp (disch:=omega) [zB, *];fail_if_success focus skip) (by omega) (by omega)) ?_;try simp (disch:=omega) [go_sem, *,])|(with_reducible refine ATurn.gcall (mY.out _ _ (p) JN h2.out (by simp (disch:=omega) [zB, *];fail_if_success focus skip) (by omega) (by omega)) ?_;try simp (disch:=omega) [go_sem, *,])|(with_reducible refine ATurn.gcall (nY.out _ _ (p + 1) _ _ h3.out (by simp (disch:=omega) [zD, *];fail_if_success focus skip) (by omega) (by omega)) ?_;try simp (disch:=omega) [go_sem, *,zB,])|(refine zH fun Kt Kf ht hf=>?_;simp (disch:=omega) [go_sem, *,];try (refine⟨fun hc=>?_,fun hc=>?_⟩ <;> try (exfalso;omega))))
   | false=>
    have hR:ZZ T p=.error (p):=hbad _ (by simp only[jn,toM,qI,if_false,Bool.false_eq_true,h1,h2])
    replace h1:zC _:=h1
    replace h2:zC _:=h2
    repeat' (first|((with_reducible show ZW _ _ _ _ _ _ _);(try dsimp only);exact zj (L:=[.ptr o 0,sv JN]) rfl rfl rfl rfl ((mN.out _ _ (p) JN h2.out (by simp (disch:=omega) [zB, *];fail_if_success focus skip) (by omega) (by omega)).mono fun _ _ hk=>hk.back (by omega) (fun x hx hne=>by simp (disch:=omega) [zB])))|(refine zh (id:=5) (v:=zW) 1 (fun h' n'=>PErr T nl fu z o (p) H n h') rfl (fun s _ hk=>EndQ.panic hR hk) fun K hK=>?_;simp (disch:=omega) [go_sem, *])|(refine zF fun K hK=>?_)|(refine zA fun K hK=>?_;simp (disch:=omega) [go_sem, *,])|(apply zC.out hK;clear hK K;try with_reducible dsimp only[zG])|(apply zC.out hf;clear ht hf Kt Kf)|(with_reducible refine APureAt.gcall (iN.out _ _ (p) wOn h1.out (by simp (disch:=omega) [zB, *];fail_if_success focus skip) (by omega) (by omega)) ?_;try simp (disch:=omega) [go_sem, *,])|(refine zH fun Kt Kf ht hf=>?_;simp (disch:=omega) [go_sem, *,];try (refine⟨fun hc=>?_,fun hc=>?_⟩ <;> try (exfalso;omega))))
theorem days_ok {T:List Tk} {nl fu:Bool} {z:Nat} {H:zI} {o p n:Nat} (S:PSt T nl fu z H o p) (hon:o < n) {kd:Int} {tw pe ot:ByteArray} {x:(Int × Int × Int) × List Int} {q:Nat} (hR:ZZ T p=.ok (x,q)) :
  ATurn Tryz.prog 179 [.ptr o 0,.agg [iv .i64 kd,sv tw,sv pe,sv ot,iv .i64 0,iv .i64 0,iv .i64 0,.fslc true true 0 []]] H n (lnV kd tw pe ot x) (H.upd o (some (atO T nl fu z q))):=
 ZX hR hon Tryz.func179 rfl (by kernel_rfl) (by simp[Tryz.ntmps179]) fun hB=>days_code S hon hB rfl
theorem days_bad {T:List Tk} {nl fu:Bool} {z:Nat} {H:zI} {o p n:Nat} (S:PSt T nl fu z H o p) (hon:o < n) {kd:Int} {tw pe ot:ByteArray} {k:Nat} (hR:ZZ T p=.error k) :
  PCall Tryz.prog zW 179 [.ptr o 0,.agg [iv .i64 kd,sv tw,sv pe,sv ot,iv .i64 0,iv .i64 0,iv .i64 0,.fslc true true 0 []]] H n (fun h' _=>PErr T nl fu z o k H n h'):=
 ZN (V:=lnV kd tw pe ot) hR Tryz.func179 rfl (by kernel_rfl) (by simp[Tryz.ntmps179]) fun hB=>days_code S hon hB rfl
end Go.AM
