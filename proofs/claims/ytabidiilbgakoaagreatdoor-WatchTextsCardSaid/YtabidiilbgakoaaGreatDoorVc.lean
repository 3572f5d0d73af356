/- SameWatch. Conditions: as each theorem says. -/
import Derived.Test.YtabidiilbgakoaaGreatDoorPd
namespace Go.AM
open Go.Proofs Cw Du
set_option maxRecDepth 10000
set_option maxHeartbeats 4000000
theorem sayCL_get {l m:List Cnd} (h:QD l=QD m) {i:Nat} {x y:Cnd} (hx:l[i]? = some x) (hy:m[i]? = some y):sayC x=sayC y:=by
 rw[qN,qN] at h
 have:=congrArg (fun z=>z[i]?) h
 simpa [List.getElem?_map,hx,hy] using this
theorem sayCL_len {l m:List Cnd} (h:QD l=QD m):l.length=m.length:=by
 rw[qN,qN] at h
 simpa using congrArg List.length h
theorem QR:∀(N:Nat) (c d:Cnd),tot c≤N→N≤1000→wf c→wf d→sayC c=sayC d→zK Tryz.prog 23 [zn c,zn d] (bv true)
 | 0,c,_,h,_,_,_,_=>by have:=Ja c;omega
 | N + 1,.mk k f o nn nl fu s ks,.mk k' f' o' nn' nl' fu' s' ks',hN,h1000,hw,hw',hs=>by
  intro h n
  simp only[tot] at hN
  rw[sayC,sayC] at hs
  injection hs with a1 a2 a3 a4 _ _ _ hks
  subst a1;subst a2;subst a3;subst a4
  obtain⟨hnl,hwk⟩:=hw
  obtain⟨hnl',hwk'⟩:=hw'
  have hlen:=sayCL_len hks
  have htl:=totL_len ks
  refine zQ.pure (zQ.entry (by kernel_rfl) fun hb _=>za Tryz.func23 rfl (by kernel_rfl) (by simp[Tryz.ntmps23]) ?_)
  simp only[zn]
  have hel:=Zy ks
  have hel':=Zy ks'
  have hge:∀i,i < ks.length→∃x y,ks[i]? = some x∧ks'[i]? = some y∧(ZE ks)[i]? = some (zn x)∧(ZE ks')[i]? = some (zn y):=fun i hi=>by
   refine⟨ks[i],ks'[i]'(by omega),List.getElem?_eq_getElem hi,List.getElem?_eq_getElem (by omega),?_,?_⟩
   ·rw[encL_get,List.getElem?_eq_getElem hi];rfl
   ·rw[encL_get,List.getElem?_eq_getElem (show i < ks'.length by omega)];rfl
  have hrec:∀i x y,ks[i]? = some x→ks'[i]? = some y→zK Tryz.prog 23 [zn x,zn y] (bv true):=fun i x y hx hy=>
   QR N x y (by have:=tot_memL (List.mem_of_getElem? hx);omega) (by omega) (wfL_get hwk hx) (wfL_get hwk' hy) (sayCL_get hks hx hy)
  have hne:0 < ks.length→(nl=false∧s=5)∧(nl'=false∧s'=5):=fun h0=>⟨hnl.resolve_left (fun e=>by subst e;simp at h0),hnl'.resolve_left (fun e=>by rw[e] at hlen;rw[hlen] at h0;simp at h0)⟩
  generalize ZE ks=EL at *
  generalize ZE ks'=EM at *
  rw[←hlen] at hel'
  clear hnl hwk hnl' hwk' hks
  replace hge:zC _:=hge
  replace hrec:zC _:=hrec
  replace hne:zC _:=hne
  replace hlen:zC _:=trivial
  repeat' (first|(refine zF fun K hK=>?_)|(refine zA fun K hK=>?_;simp (disch:=omega) [go_sem, *,zB,Tryz.ntmps23])|(apply zC.out hK;clear hK K;try with_reducible dsimp only[zG])|(apply zC.out hf;clear ht hf Kt Kf)|(refine zJ ?_)|(refine zL ?_;simp only[zG])|(refine zH fun Kt Kf ht hf=>?_;simp (disch:=omega) [go_sem, *];try (refine⟨fun hc=>?_,fun hc=>?_⟩ <;> try (exfalso;omega))))
  refine z8 (fun s2=>∃(i n':Nat) (H:zI),n≤n'∧i≤ks.length∧H n=some (.cells [iv .i64 k,iv .i64 f,iv .i64 o,iv .i64 nn,.fslc nl fu s EL])∧H (n + 1)=some (.cells [iv .i64 k,iv .i64 f,iv .i64 o,iv .i64 nn,.fslc nl' fu' s' EM])∧(∀x,x < n→H x=h x)∧s2=⟨62,[(2,.ptr n 0),(3,.ptr (n + 1) 0),(5,iv .i64 i)],H,n'⟩) (fun s2=>ks.length - (ZL s2 5).toNat) ?_ ?_
  ·exact zS (by simp[go_sem]) (Sub.refl _) ⟨0,_,_,by (try simp only);omega,by omega,by simp (disch:=omega) only[zB,zD],by simp (disch:=omega) only[zD],fun x hx=>by simp (disch:=omega) only[zB],rfl⟩
  ·rintro s2 ⟨i,n',H,hn',hi,g0,g1,g2,rfl⟩
   replace g2:zC _:=g2
   by_cases hlt:i < ks.length
   ·obtain⟨x,y,hx,hy,ex,ey⟩:=hge.out i hlt
    obtain⟨⟨rfl,rfl⟩,rfl,rfl⟩:=hne.out (by omega)
    have kx:=hrec.out i x y hx hy
    replace hx:zC _:=trivial
    replace hy:zC _:=trivial
    obtain⟨x1,x2,x3,x4,x5,x6,x7,x8⟩:=x
    obtain⟨y1,y2,y3,y4,y5,y6,y7,y8⟩:=y
    simp only[zn] at kx ex ey
    have hi1:i < EL.length:=by omega
    have hi2:i < EM.length:=by omega
    rw[List.getElem?_eq_getElem hi1] at ex
    rw[List.getElem?_eq_getElem hi2] at ey
    have ex:=Option.some.inj ex
    have ey:=Option.some.inj ey
    repeat' (first|(refine zF fun K hK=>?_)|(refine zA fun K hK=>?_;simp (disch:=omega) [go_sem, *,zM,zO])|(refine z6 mixed (by kernel_rfl) fun K hK=>?_;simp (disch:=omega) [go_sem, *,zP])|(apply zC.out hK;clear hK K;try with_reducible dsimp only[zG])|(apply zC.out ht;clear ht hf Kt Kf)|(apply zC.out hf;clear ht hf Kt Kf)|(with_reducible refine zK.gcall (kx) ?_;try simp (disch:=omega) [go_sem, *])|(refine zJ ?_)|(refine zL ?_;simp only[zG,zN])|(refine zH fun Kt Kf ht hf=>?_;simp (disch:=omega) [go_sem, *];try (refine⟨fun hc=>?_,fun hc=>?_⟩ <;> try (exfalso;omega))))
    exact zl (by simp (disch:=omega) [go_sem]) (Sub.refl _) ⟨i + 1,_,_,by (try simp only);omega,by omega,g0,g1,g2.out,rfl⟩ (by simp[ZL,go_sem];omega)
   ·skip
    repeat' (first|(refine zF fun K hK=>?_)|(refine zA fun K hK=>?_;simp (disch:=omega) [go_sem, *,zT])|(apply zC.out hK;clear hK K;try with_reducible dsimp only[zG])|(apply zC.out hf;clear ht hf Kt Kf)|(clear hK K;apply zC.out hK;clear hK K;try with_reducible dsimp only[zG])|(refine zk ?_;simp only[zG,zN,if_true])|(refine zH fun Kt Kf ht hf=>?_;simp (disch:=omega) [go_sem, *];try (refine⟨fun hc=>?_,fun hc=>?_⟩ <;> try (exfalso;omega))))
    refine zb ?_
    try dsimp only[zG,zN]
    refine⟨by simp,_,(by first | rfl|(simp (disch:=omega) [go_sem,zB] <;> rfl)),?_⟩
    exact zY ⟨fun x hx=>g2.out x hx,by simp[go_sem,below,zr],by rfl,by simp,by simp⟩
theorem rsameI_spec (nl fu:Bool) (s:Nat) (xs:List Int) (hnl:xs=[]∨nl=false∧s=1) (nm fm:Bool) (z:Nat) (hnm:xs=[]∨nm=false∧z=1) (hl:xs.length≤1000000):zK Tryz.prog 39 [.fslc nl fu s (xs.map (iv .i64)),.fslc nm fm z (xs.map (iv .i64))] (bv true):=by
 intro h n
 refine zQ.pure (zQ.entry (by kernel_rfl) fun hb _=>za Tryz.func39 rfl (by kernel_rfl) (by simp[Tryz.ntmps39]) ?_)
 replace hnl:zC _:=hnl
 replace hnm:zC _:=hnm
 repeat' (first|(refine zF fun K hK=>?_)|(refine zA fun K hK=>?_;simp (disch:=omega) [go_sem, *,Tryz.ntmps39])|(apply zC.out hK;clear hK K;try with_reducible dsimp only[zG])|(apply zC.out hf;clear ht hf Kt Kf)|(refine zJ ?_)|(refine zL ?_;simp only[zG])|(refine zH fun Kt Kf ht hf=>?_;simp (disch:=omega) [go_sem, *];try (refine⟨fun hc=>?_,fun hc=>?_⟩ <;> try (exfalso;omega))))
 refine z8 (fun s'=>∃(i n':Nat),n≤n'∧i≤xs.length∧s'=⟨26,[(0,.fslc nl fu s (xs.map (iv .i64))),(1,.fslc nm fm z (xs.map (iv .i64))),(5,iv .i64 i)],h,n'⟩)
  (fun s'=>xs.length - (ZL s' 5).toNat) ?_ ?_
 ·exact zS (by simp[go_sem]) (Sub.refl _) ⟨0,_,by omega,by omega,rfl⟩
 ·rintro s' ⟨i,n',hn',hi,rfl⟩
  by_cases hlt:i < xs.length
  ·have hne:xs≠[]:=fun e=>by rw[e] at hlt;simp at hlt
   obtain⟨rfl,rfl⟩:=hnl.out.resolve_left hne
   obtain⟨rfl,rfl⟩:=hnm.out.resolve_left hne
   clear hne
   repeat' (first|(refine zF fun K hK=>?_)|(refine zA fun K hK=>?_;simp (disch:=omega) [go_sem, *,zM,zO])|(refine z6 mixed (by kernel_rfl) fun K hK=>?_;simp (disch:=omega) [go_sem, *,zP])|(apply zC.out hK;clear hK K;try with_reducible dsimp only[zG])|(apply zC.out ht;clear ht hf Kt Kf)|(apply zC.out hf;clear ht hf Kt Kf)|(refine zJ ?_)|(refine zL ?_;simp only[zG,zN])|(refine zH fun Kt Kf ht hf=>?_;simp (disch:=omega) [go_sem, *];try (refine⟨fun hc=>?_,fun hc=>?_⟩ <;> try (exfalso;omega))))
   exact zl (by simp (disch:=omega) [go_sem]) (Sub.refl _) ⟨i + 1,_,by omega,by omega,rfl⟩ (by simp[ZL,go_sem];omega)
  ·skip
   repeat' (first|(refine zF fun K hK=>?_)|(refine zA fun K hK=>?_;simp (disch:=omega) [go_sem, *,zT])|(apply zC.out hK;clear hK K;try with_reducible dsimp only[zG])|(apply zC.out hf;clear ht hf Kt Kf)|(clear hK K;apply zC.out hK;clear hK K;try with_reducible dsimp only[zG])|(refine zk ?_;simp only[zG,zN,if_true])|(refine zH fun Kt Kf ht hf=>?_;simp (disch:=omega) [go_sem, *];try (refine⟨fun hc=>?_,fun hc=>?_⟩ <;> try (exfalso;omega))))
   exact zR
theorem sayL_eq {x y:Lin} (h:sayL x=sayL y):x.kind=y.kind∧x.tower=y.tower∧x.person=y.person∧x.other=y.other∧x.fr=y.fr∧x.to=y.to∧x.ev=y.ev∧x.exc=y.exc:=by
 simp only[sayL,Prod.mk.injEq,List.cons.injEq,and_true] at h
 obtain⟨⟨a,b,c,d⟩,⟨e,f,g⟩,i⟩:=h
 exact⟨a,(Qk _ _).1 (by unfold eqB;simp[e]),(Qk _ _).1 (by unfold eqB;simp[f]),(Qk _ _).1 (by unfold eqB;simp[g]),b,c,d,i⟩
theorem map_get {α β:Type} {f:α→β} {l m:List α} (h:l.map f=m.map f) {i:Nat} (hi:i < l.length):∃h2:i < m.length,f l[i]=f (m[i]'h2):=by
 have hl:l.length=m.length:=by simpa using congrArg List.length h
 refine⟨by omega,?_⟩
 have:=congrArg (fun z=>z[i]?) h
 simpa [List.getElem?_map,List.getElem?_eq_getElem hi,List.getElem?_eq_getElem (show i < m.length by omega)] using this
theorem rsameW_spec (nlV fuV:Bool) (sV:Nat) (V:List Lin) (nlA fuA:Bool) (sA:Nat) (A:List Ordr) (nlW fuW:Bool) (sW:Nat) (W:List Lin) (nlB fuB:Bool) (sB:Nat) (B:List Ordr)
  (h1:V=[]∨nlV=false∧sV=8) (h2:A=[]∨nlA=false∧sA=7) (h3:W=[]∨nlW=false∧sW=8) (h4:B=[]∨nlB=false∧sB=7)
  (hl:V.length≤1000000) (hm:A.length≤1000000) (hV:∀x ∈ V,QA x∧x.exc.length≤1000000) (hW:∀x ∈ W,QA x∧x.exc.length≤1000000) (hA:wfO A) (hB:wfO B) (ht:∀o ∈ A,tot o.cond≤1000) (e1:V.map sayL=W.map sayL) (e2:A.map sayO=B.map sayO) :
  zK Tryz.prog 22 [.agg [.fslc nlV fuV sV (V.map zX),.fslc nlA fuA sA (A.map zp)],.agg [.fslc nlW fuW sW (W.map zX),.fslc nlB fuB sB (B.map zp)]] (bv true):=by
 intro h n
 have lV:W.length=V.length:=by simpa using (congrArg List.length e1).symm
 have lA:B.length=A.length:=by simpa using (congrArg List.length e2).symm
 refine zQ.pure (zQ.entry (by kernel_rfl) fun hb _=>za Tryz.func22 rfl (by kernel_rfl) (by simp[Tryz.ntmps22]) ?_)
 have hgl:∀i,i < V.length→∃(x y:Lin) (p1:i < (V.map zX).length) (p2:i < (W.map zX).length),(V.map zX)[i]=zX x∧(W.map zX)[i]=zX y∧sayL x=sayL y∧(QA x∧x.exc.length≤1000000)∧(QA y∧y.exc.length≤1000000)∧(nlV=false∧sV=8)∧(nlW=false∧sW=8):=fun i hi=>by
  obtain⟨hi2,hs⟩:=map_get e1 hi
  refine⟨V[i],W[i],by rw[List.length_map];exact hi,by rw[List.length_map];exact hi2,by rw[List.getElem_map],by rw[List.getElem_map],hs,hV _ (List.getElem_mem hi),hW _ (List.getElem_mem hi2),h1.resolve_left (fun e=>by rw[e] at hi;simp at hi),h3.resolve_left (fun e=>by rw[e] at hi2;simp at hi2)⟩
 have hgo:∀i,i < A.length→∃(x y:Ordr) (p1:i < (A.map zp).length) (p2:i < (B.map zp).length),(A.map zp)[i]=zp x∧(B.map zp)[i]=zp y∧x.name=y.name∧x.rank=y.rank∧zK Tryz.prog 23 [zn x.cond,zn y.cond] (bv true)∧(nlA=false∧sA=7)∧(nlB=false∧sB=7):=fun i hi=>by
  obtain⟨hi2,hs⟩:=map_get e2 hi
  simp only[sayO,Prod.mk.injEq] at hs
  refine⟨A[i],B[i],by rw[List.length_map];exact hi,by rw[List.length_map];exact hi2,by rw[List.getElem_map],by rw[List.getElem_map],(Qk _ _).1 (by unfold eqB;simp[hs.1]),hs.2.1,QR 1000 _ _ (ht _ (List.getElem_mem hi)) (by omega) (hA _ (List.getElem_mem hi)) (hB _ (List.getElem_mem hi2)) hs.2.2,h2.resolve_left (fun e=>by rw[e] at hi;simp at hi),h4.resolve_left (fun e=>by rw[e] at hi2;simp at hi2)⟩
 have lVm:(V.map zX).length=V.length:=List.length_map _
 have lWm:(W.map zX).length=V.length:=by rw[List.length_map,lV]
 have lAm:(A.map zp).length=A.length:=List.length_map _
 have lBm:(B.map zp).length=A.length:=by rw[List.length_map,lA]
 generalize List.map zX V=VV at *
 generalize List.map zX W=WW at *
 generalize List.map zp A=AA at *
 generalize List.map zp B=BB at *
 replace hgl:zC _:=hgl
 replace hgo:zC _:=hgo
 clear h1 h2 h3 h4 hV hW hA hB ht e1 e2 lV lA
 repeat' (first|(refine zF fun K hK=>?_)|(refine zA fun K hK=>?_;simp (disch:=omega) [go_sem, *,zB,Tryz.ntmps22])|(apply zC.out hK;clear hK K;try with_reducible dsimp only[zG])|(apply zC.out hf;clear ht hf Kt Kf)|(refine zJ ?_)|(refine zL ?_;simp only[zG])|(refine zH fun Kt Kf ht hf=>?_;simp (disch:=omega) [go_sem, *];try (refine⟨fun hc=>?_,fun hc=>?_⟩ <;> try (exfalso;omega))))
 refine z8 (fun s2=>∃(i n':Nat) (H:zI),n + 2≤n'∧i≤V.length∧H n=some (.cells [.fslc nlV fuV sV VV,.fslc nlA fuA sA AA])∧H (n + 1)=some (.cells [.fslc nlW fuW sW WW,.fslc nlB fuB sB BB])∧(∀x,x < n→H x=h x)∧s2=⟨152,[(2,.ptr n 0),(3,.ptr (n + 1) 0),(5,iv .i64 i)],H,n'⟩) (fun s2=>V.length - (ZL s2 5).toNat) ?_ ?_
 ·exact zS (by simp[go_sem]) (Sub.refl _) ⟨0,_,_,by (try simp only);omega,by omega,by simp (disch:=omega) only[zB,zD],by simp (disch:=omega) only[zD],fun x hx=>by simp (disch:=omega) only[zB],rfl⟩
 ·rintro s2 ⟨i,n',H,hn',hi,g0,g1,g2,rfl⟩
  replace g2:zC _:=g2
  by_cases hlt:i < V.length
  ·obtain⟨x,y,p1,p2,ex,ey,hs,wx,wy,⟨rfl,rfl⟩,rfl,rfl⟩:=hgl.out i hlt
   obtain⟨q1,q2,q3,q4,q5,q6,q7,q8⟩:=sayL_eq hs
   obtain⟨x1,x2,x3,x4,x5,x6,x7,x8,x9,x10,x11⟩:=x
   obtain⟨y1,y2,y3,y4,y5,y6,y7,y8,y9,y10,y11⟩:=y
   simp only at q1 q2 q3 q4 q5 q6 q7 q8
   subst q1;subst q2;subst q3;subst q4;subst q5;subst q6;subst q7;subst q8
   have kx:=rsameI_spec x8 x9 x10 x11 wx.1 y8 y9 y10 wy.1 wx.2
   simp only[zX] at ex ey
   clear hs wx wy
   generalize List.map (iv .i64) x11=XX at *
   repeat' (first|(refine zF fun K hK=>?_)|(refine zA fun K hK=>?_;simp (disch:=omega) [go_sem, *,zM,zB,zO,zP])|(apply zC.out hK;clear hK K;try with_reducible dsimp only[zG])|(apply zC.out ht;clear ht hf Kt Kf)|(apply zC.out hf;clear ht hf Kt Kf)|(with_reducible refine zK.gcall (kx) ?_;try simp (disch:=omega) [go_sem, *])|(refine zJ ?_)|(refine zL ?_;simp only[zG,zN])|(refine zH fun Kt Kf ht hf=>?_;simp (disch:=omega) [go_sem, *];try (refine⟨fun hc=>?_,fun hc=>?_⟩ <;> try (exfalso;omega))))
   refine zl (by simp (disch:=omega) [go_sem]) (Sub.refl _) ⟨i + 1,_,_,by (try simp only);omega,by omega,?_,?_,fun x hx=>?_,rfl⟩ (by simp[ZL,go_sem];omega)
   ·simp (disch:=omega) only[zB];exact g0
   ·simp (disch:=omega) only[zB];exact g1
   ·simp (disch:=omega) only[zB];exact g2.out x hx
  ·skip
   repeat' (first|(refine zF fun K hK=>?_)|(refine zA fun K hK=>?_;simp (disch:=omega) [go_sem, *,zT])|(apply zC.out hK;clear hK K;try with_reducible dsimp only[zG])|(apply zC.out hf;clear ht hf Kt Kf)|(clear hK K;apply zC.out hK;clear hK K;try with_reducible dsimp only[zG])|(refine zJ ?_)|(refine zk ?_;simp only[zG,zN,if_true])|(refine zH fun Kt Kf ht hf=>?_;simp (disch:=omega) [go_sem, *];try (refine⟨fun hc=>?_,fun hc=>?_⟩ <;> try (exfalso;omega))))
   refine z8 (fun s2=>∃(i n3:Nat),n + 2≤n3∧i≤A.length∧s2=⟨152,[(2,.ptr n 0),(3,.ptr (n + 1) 0),(9,iv .i64 i)],H,n3⟩) (fun s2=>A.length - (ZL s2 9).toNat) ?_ ?_
   ·exact zS (by simp[go_sem]) (Sub.refl _) ⟨0,_,by (try simp only);omega,by omega,rfl⟩
   ·rintro s2 ⟨i,n3,hn3,hi,rfl⟩
    by_cases hlt:i < A.length
    ·obtain⟨x,y,p1,p2,ex,ey,q1,q2,kx,⟨rfl,rfl⟩,rfl,rfl⟩:=hgo.out i hlt
     obtain⟨x1,x2,c⟩:=x
     obtain⟨y1,y2,d⟩:=y
     obtain⟨c1,c2,c3,c4,c5,c6,c7,c8⟩:=c
     obtain⟨d1,d2,d3,d4,d5,d6,d7,d8⟩:=d
     simp only at q1 q2
     subst q1;subst q2
     simp only[zp,zn] at ex ey kx
     generalize ZE c8=EC at *
     generalize ZE d8=ED at *
     repeat' (first|(refine zF fun K hK=>?_)|(refine zA fun K hK=>?_;simp (disch:=omega) [go_sem, *,zM,zO])|(refine z6 mixed (by kernel_rfl) fun K hK=>?_;simp (disch:=omega) [go_sem, *,zP])|(apply zC.out hK;clear hK K;try with_reducible dsimp only[zG])|(apply zC.out ht;clear ht hf Kt Kf)|(apply zC.out hf;clear ht hf Kt Kf)|(with_reducible refine zK.gcall (kx) ?_;try simp (disch:=omega) [go_sem, *])|(refine zJ ?_)|(refine zL ?_;simp only[zG,zN])|(refine zH fun Kt Kf ht hf=>?_;simp (disch:=omega) [go_sem, *];try (refine⟨fun hc=>?_,fun hc=>?_⟩ <;> try (exfalso;omega))))
     exact zl (by simp (disch:=omega) [go_sem]) (Sub.refl _) ⟨i + 1,_,by (try simp only);omega,by omega,rfl⟩ (by simp[ZL,go_sem];omega)
    ·skip
     repeat' (first|(refine zF fun K hK=>?_)|(refine zA fun K hK=>?_;simp (disch:=omega) [go_sem, *,zT])|(apply zC.out hK;clear hK K;try with_reducible dsimp only[zG])|(apply zC.out hf;clear ht hf Kt Kf)|(clear hK K;apply zC.out hK;clear hK K;try with_reducible dsimp only[zG])|(refine zk ?_;simp only[zG,zN,if_true])|(refine zH fun Kt Kf ht hf=>?_;simp (disch:=omega) [go_sem, *];try (refine⟨fun hc=>?_,fun hc=>?_⟩ <;> try (exfalso;omega))))
     refine zb ?_
     try dsimp only[zG,zN]
     refine⟨by simp,_,(by first | rfl|(simp (disch:=omega) [go_sem,zB] <;> rfl)),?_⟩
     exact zY ⟨fun x hx=>g2.out x hx,by simp[go_sem,below,zr],by rfl,by simp,by simp⟩
end Go.AM
