/- Conditions: the program's size. Conditions: as each theorem says. -/
import Derived.Test.YtabidiilbgakoaaGreatDoorCb
namespace Go.AM
open Go.Proofs Cw
set_option maxRecDepth 10000
set_option maxHeartbeats 4000000
@[go_sem] theorem keyOk3 (k:IntKind) (a:Int):qz Tryz.prog 3 (.c (.int k a))=some (.int k a):=by
 have h:(match Tryz.prog.underlying 3 with | some (.int _)=>true | _=>false)=true:=by kernel_rfl
 unfold qz
 split at h
 ·rename_i x hu;rw[hu]
 ·cases h
attribute [go_sem] aMapPut qW Jk aLookup resF pairF
theorem wsize_spec:∀(N:Nat) (c:Cnd),tot c≤N→wf c→∀(h:zI) (n p:Nat) (v:Int),h p=some (.cells [iv .i64 v])→0≤v→v + tot c≤1000000→
  ATurn Tryz.prog 129 [zn c,.ptr p 0] h n (.tup [iv .i64 (if ok c then (dep c:Int) else 0),bv (ok c)]) (h.upd p (some (.cells [iv .i64 (v + vis c)])))
 | 0,c,hN,_=>by have:=Ja c;omega
 | N + 1,.mk k f o nn nl fu s ks,hN,hw=>by
  intro h n p v hp hv0 hv1
  have IH:=wsize_spec N
  have hvis:=vis_le (.mk k f o nn nl fu s ks)
  simp only[tot] at hN hv1 hvis
  have hwf:=hw.1
  have hwl:=hw.2
  clear hw
  refine zQ.entry (by kernel_rfl) fun hb' _=>?_
  have hpn:=(hb' p _ hp).1
  have hnp:p≠n:=by omega
  obtain⟨R,hR⟩:∃R:Int × Bool × Int,R=(if ok (.mk k f o nn nl fu s ks) then (dep (.mk k f o nn nl fu s ks):Int) else 0,ok (.mk k f o nn nl fu s ks),v + vis (.mk k f o nn nl fu s ks)):=⟨_,rfl⟩
  obtain⟨r1,r2,r3⟩:=R
  simp only[Prod.mk.injEq] at hR
  obtain⟨hr1,hr2,hr3⟩:=hR
  rw[←hr1,←hr2,←hr3]
  simp only[zn]
  refine zQ.keep (h.upd p (some (.cells [iv .i64 r3]))) (hb'.set hpn (by simp[QU,belowL,below])) (za Tryz.func129 rfl (by kernel_rfl) (by simp[Tryz.ntmps129]) ?_)
  have hp2:∀o,(h.upd n o) p=some (.cells [iv .i64 v]):=fun o=>by rw[zB _ _ _ _ hnp];exact hp
  replace IH:zC _:=IH
  replace hwf:zC _:=hwf
  replace hwl:zC _:=hwl
  by_cases h1:k=1
  ·subst h1
   by_cases hks:ks=[]
   ·subst hks
    simp only[ZE]
    by_cases hf:wi f 0 4=true
    ·by_cases ho:wi o 1 6=true
     ·by_cases hn:wi nn 0 10000=true
      ·skip
       have e1:ok (.mk 1 f o nn nl fu s [])=true:=by simp[ok,okL,zw,hf,ho,hn]
       have e2:(vis (.mk 1 f o nn nl fu s []):Int)=1:=by simp[vis,visL]
       rw[e1] at hr1 hr2
       rw[e2] at hr3
       have e3:(dep (.mk 1 f o nn nl fu s []):Int)=1:=by simp[dep,depL] <;> omega
       rw[e3] at hr1
       simp only[if_true] at hr1
       subst hr1 hr2 hr3
       clear e3
       clear e1 e2
       repeat' (first|(refine zF fun K hK=>?_)|(refine zA fun K hK=>?_;simp (disch:=omega) [go_sem, *,zM,zB,Tryz.ntmps129])|(apply zC.out hK;clear hK K;try with_reducible dsimp only[zG])|(apply zC.out hf;clear ht hf Kt Kf)|(with_reducible refine zK.gcall (jD _ _ _) ?_;try simp (disch:=omega) [go_sem, *,zB])|(refine zJ ?_)|(refine zL ?_;simp only[zG])|(refine zH fun Kt Kf ht hf=>?_;simp (disch:=omega) [go_sem, *];try (refine⟨fun hc=>?_,fun hc=>?_⟩ <;> try (exfalso;omega))))
       refine Z8 4 ?_
       unfold Zl
       repeat' (first|(refine zF fun K hK=>?_)|(refine zA fun K hK=>?_;simp (disch:=omega) [go_sem, *,zM])|(apply zC.out hK;clear hK K;try with_reducible dsimp only[zG])|(apply zC.out hf;clear ht hf Kt Kf)|(clear hK K;apply zC.out hK;clear hK K;try with_reducible dsimp only[zG])|(refine zk ?_;simp only[zG,zN,if_true])|(refine zH fun Kt Kf ht hf=>?_;simp (disch:=omega) [go_sem, *];try (refine⟨fun hc=>?_,fun hc=>?_⟩ <;> try (exfalso;omega))))
       refine zb ?_
       try dsimp only[zG,zN]
       refine⟨by simp,_,(by first | rfl|(simp (disch:=omega) [go_sem,zB] <;> rfl)),?_⟩
       refine zY ⟨fun j hj=>?_,by simp[go_sem,below,belowL],(by simp[go_sem] <;> omega),by simp,by simp⟩
       by_cases ejp:j=p
       ·rw[ejp];simp (disch:=omega) [zB,zD] <;> omega
       ·repeat rw[zB _ _ _ _ (by omega)]
      ·rw[Bool.not_eq_true] at hn
       have e1:ok (.mk 1 f o nn nl fu s [])=false:=by simp[ok,okL,zw,hf,ho,hn]
       have e2:(vis (.mk 1 f o nn nl fu s []):Int)=1:=by simp[vis,zw,hf,ho,hn]
       rw[e1] at hr1 hr2
       rw[e2] at hr3
       simp only[Bool.false_eq_true,if_false] at hr1
       subst hr1 hr2 hr3
       clear e1 e2
       repeat' (first|(refine zF fun K hK=>?_)|(refine zA fun K hK=>?_;simp (disch:=omega) [go_sem, *,zM,zB,Tryz.ntmps129])|(apply zC.out hK;clear hK K;try with_reducible dsimp only[zG])|(apply zC.out ht;clear ht hf Kt Kf)|(apply zC.out hf;clear ht hf Kt Kf)|(with_reducible refine zK.gcall (jD _ _ _) ?_;try simp (disch:=omega) [go_sem, *,zB])|(refine zL ?_;simp only[zG])|(refine zH fun Kt Kf ht hf=>?_;simp (disch:=omega) [go_sem, *];try (refine⟨fun hc=>?_,fun hc=>?_⟩ <;> try (exfalso;omega))))
       refine zb ?_
       try dsimp only[zG,zN]
       refine⟨by simp,_,(by first | rfl|(simp (disch:=omega) [go_sem,zB] <;> rfl)),?_⟩
       refine zY ⟨fun j hj=>?_,by simp[go_sem,below,belowL],(by simp[go_sem] <;> omega),by simp,by simp⟩
       by_cases ejp:j=p
       ·rw[ejp];simp (disch:=omega) [zB,zD] <;> omega
       ·repeat rw[zB _ _ _ _ (by omega)]
     ·rw[Bool.not_eq_true] at ho
      have e1:ok (.mk 1 f o nn nl fu s [])=false:=by simp[ok,okL,zw,hf,ho]
      have e2:(vis (.mk 1 f o nn nl fu s []):Int)=1:=by simp[vis,zw,hf,ho]
      rw[e1] at hr1 hr2
      rw[e2] at hr3
      simp only[Bool.false_eq_true,if_false] at hr1
      subst hr1 hr2 hr3
      clear e1 e2
      repeat' (first|(refine zF fun K hK=>?_)|(refine zA fun K hK=>?_;simp (disch:=omega) [go_sem, *,zM,zB,Tryz.ntmps129])|(apply zC.out hK;clear hK K;try with_reducible dsimp only[zG])|(apply zC.out ht;clear ht hf Kt Kf)|(apply zC.out hf;clear ht hf Kt Kf)|(with_reducible refine zK.gcall (jD _ _ _) ?_;try simp (disch:=omega) [go_sem, *,zB])|(refine zL ?_;simp only[zG])|(refine zH fun Kt Kf ht hf=>?_;simp (disch:=omega) [go_sem, *];try (refine⟨fun hc=>?_,fun hc=>?_⟩ <;> try (exfalso;omega))))
      refine zb ?_
      try dsimp only[zG,zN]
      refine⟨by simp,_,(by first | rfl|(simp (disch:=omega) [go_sem,zB] <;> rfl)),?_⟩
      refine zY ⟨fun j hj=>?_,by simp[go_sem,below,belowL],(by simp[go_sem] <;> omega),by simp,by simp⟩
      by_cases ejp:j=p
      ·rw[ejp];simp (disch:=omega) [zB,zD] <;> omega
      ·repeat rw[zB _ _ _ _ (by omega)]
    ·rw[Bool.not_eq_true] at hf
     have e1:ok (.mk 1 f o nn nl fu s [])=false:=by simp[ok,okL,zw,hf]
     have e2:(vis (.mk 1 f o nn nl fu s []):Int)=1:=by simp[vis,zw,hf]
     rw[e1] at hr1 hr2
     rw[e2] at hr3
     simp only[Bool.false_eq_true,if_false] at hr1
     subst hr1 hr2 hr3
     clear e1 e2
     repeat' (first|(refine zF fun K hK=>?_)|(refine zA fun K hK=>?_;simp (disch:=omega) [go_sem, *,zM,zB,Tryz.ntmps129])|(apply zC.out hK;clear hK K;try with_reducible dsimp only[zG])|(apply zC.out ht;clear ht hf Kt Kf)|(apply zC.out hf;clear ht hf Kt Kf)|(with_reducible refine zK.gcall (jD _ _ _) ?_;try simp (disch:=omega) [go_sem, *])|(refine zL ?_;simp only[zG])|(refine zH fun Kt Kf ht hf=>?_;simp (disch:=omega) [go_sem, *];try (refine⟨fun hc=>?_,fun hc=>?_⟩ <;> try (exfalso;omega))))
     refine zb ?_
     try dsimp only[zG,zN]
     refine⟨by simp,_,(by first | rfl|(simp (disch:=omega) [go_sem,zB] <;> rfl)),?_⟩
     refine zY ⟨fun j hj=>?_,by simp[go_sem,below,belowL],(by simp[go_sem] <;> omega),by simp,by simp⟩
     by_cases ejp:j=p
     ·rw[ejp];simp (disch:=omega) [zB,zD] <;> omega
     ·repeat rw[zB _ _ _ _ (by omega)]
   ·have hl:ks.length≠0:=fun e=>hks (List.length_eq_zero_iff.1 e)
    have hl1:(ks.length:Int)≠0:=by omega
    have e1:ok (.mk 1 f o nn nl fu s ks)=false:=by simp[ok,zw,hks]
    have e2:(vis (.mk 1 f o nn nl fu s ks):Int)=1:=by simp[vis,zw,hks]
    rw[e1] at hr1 hr2
    rw[e2] at hr3
    simp only[Bool.false_eq_true,if_false] at hr1
    subst hr1 hr2 hr3
    clear e1 e2
    have hll:=Zy ks
    clear hks
    repeat' (first|(refine zF fun K hK=>?_)|(refine zA fun K hK=>?_;simp (disch:=omega) [go_sem, *,zM,zB,Tryz.ntmps129])|(apply zC.out hK;clear hK K;try with_reducible dsimp only[zG])|(apply zC.out ht;clear ht hf Kt Kf)|(refine zH fun Kt Kf ht hf=>?_;simp (disch:=omega) [go_sem, *];try (refine⟨fun hc=>?_,fun hc=>?_⟩ <;> try (exfalso;omega))))
    refine zb ?_
    try dsimp only[zG,zN]
    refine⟨by simp,_,(by first | rfl|(simp (disch:=omega) [go_sem,zB] <;> rfl)),?_⟩
    refine zY ⟨fun j hj=>?_,by simp[go_sem,below,belowL],(by simp[go_sem] <;> omega),by simp,by simp⟩
    by_cases ejp:j=p
    ·rw[ejp];simp (disch:=omega) [zB,zD] <;> omega
    ·repeat rw[zB _ _ _ _ (by omega)]
  by_cases h2:k=2
  ·subst h2
   by_cases hl:ks.length=1
   ·obtain⟨a,rfl⟩:∃a,ks=[a]:=List.length_eq_one_iff.1 hl
    obtain⟨rfl,rfl⟩:=hwf.out.resolve_left (by simp)
    simp only[ZE]
    clear hl hwf
    by_cases hf:f=0
    ·subst hf
     by_cases ho:o=0
     ·subst ho
      by_cases hn:nn=0
      ·subst hn
       simp only[totL] at hv1 hvis
       have htaa:tot a≤N:=by simp only[totL] at hN;omega
       have hka:=fun h n v=>IH.out a htaa hwl.out.1 h n p v
       have hvaa:=vis_le a
       have hdaa:=dep_le a
       have e1:ok (.mk 2 0 0 0 false fu 5 [a])=ok a:=by simp[ok,okL,zw]
       have e2:(vis (.mk 2 0 0 0 false fu 5 [a]):Int)=1 + vis a:=by simp[vis,visL,zw]
       have e3:(dep (.mk 2 0 0 0 false fu 5 [a]):Int)=dep a + 1:=by simp[dep,depL]
       rw[e1] at hr1 hr2
       rw[e2] at hr3
       rw[e3] at hr1
       clear e1 e2 e3 hvis hwl hN IH
       generalize ok a=oka at *
       generalize dep a=da at *
       generalize vis a=va at *
       generalize tot a=ta at *
       obtain⟨ka,fa,oa,na,nla,fua,sa,ksa⟩:=a
       simp only[zn] at hka ⊢
       have hmx:(if (da:Int) > 0 then (da:Int) else 0)=da:=by split <;> omega
       cases oka
       ·simp only[Bool.false_eq_true,if_false] at hr1 hka
        subst hr1 hr2 hr3
        repeat' (first|(refine zF fun K hK=>?_)|(refine zA fun K hK=>?_;simp (disch:=omega) [go_sem, *,zM,zB,Tryz.ntmps129])|(apply zC.out hK;clear hK K;try with_reducible dsimp only[zG])|(apply zC.out hf;clear ht hf Kt Kf)|(refine zJ ?_)|(refine zL ?_;simp only[zG])|(refine zH fun Kt Kf ht hf=>?_;simp (disch:=omega) [go_sem, *];try (refine⟨fun hc=>?_,fun hc=>?_⟩ <;> try (exfalso;omega))))
        refine Z8 4 ?_
        unfold Zl
        repeat' (first|(refine zF fun K hK=>?_)|(refine zA fun K hK=>?_;simp (disch:=omega) [go_sem, *,zO])|(apply zC.out hK;clear hK K;try with_reducible dsimp only[zG])|(apply zC.out ht;clear ht hf Kt Kf)|(with_reducible refine ATurn.gcall (hka _ _ (v + 1) (by simp (disch:=omega) [zB,zD]) (by omega) (by omega)) ?_;try simp (disch:=omega) [go_sem, *])|(refine zJ ?_)|(refine zL ?_;simp only[zG])|(refine zH fun Kt Kf ht hf=>?_;simp (disch:=omega) [go_sem, *];try (refine⟨fun hc=>?_,fun hc=>?_⟩ <;> try (exfalso;omega))))
        refine zb ?_
        try dsimp only[zG,zN]
        refine⟨by simp,_,(by first | rfl|(simp (disch:=omega) [go_sem,zB] <;> rfl)),?_⟩
        refine zY ⟨fun j hj=>?_,by simp[go_sem,below,belowL],(by simp[go_sem] <;> omega),by simp,by simp⟩
        by_cases ejp:j=p
        ·rw[ejp];simp (disch:=omega) [zD] <;> omega
        ·repeat rw[zB _ _ _ _ (by omega)]
       ·simp only[if_true] at hr1 hka
        subst hr1 hr2 hr3
        repeat' (first|(refine zF fun K hK=>?_)|(refine zA fun K hK=>?_;simp (disch:=omega) [go_sem, *,zM,zB,Tryz.ntmps129])|(apply zC.out hK;clear hK K;try with_reducible dsimp only[zG])|(apply zC.out hf;clear ht hf Kt Kf)|(refine zJ ?_)|(refine zL ?_;simp only[zG])|(refine zH fun Kt Kf ht hf=>?_;simp (disch:=omega) [go_sem, *];try (refine⟨fun hc=>?_,fun hc=>?_⟩ <;> try (exfalso;omega))))
        refine Z8 4 ?_
        unfold Zl
        repeat' (first|(refine zF fun K hK=>?_)|(refine zA fun K hK=>?_;simp (disch:=omega) [go_sem, *,zM,zO])|(apply zC.out hK;clear hK K;try with_reducible dsimp only[zG])|(apply zC.out ht;clear ht hf Kt Kf)|(apply zC.out hf;clear ht hf Kt Kf)|(clear hK K;apply zC.out hK;clear hK K;try with_reducible dsimp only[zG])|(with_reducible refine ATurn.gcall (hka _ _ (v + 1) (by simp (disch:=omega) [zB,zD]) (by omega) (by omega)) ?_;try simp (disch:=omega) [go_sem, *])|(refine zJ ?_)|(refine zL ?_;simp only[zG])|(refine zk ?_;simp only[zG,zN,if_true])|(refine zH fun Kt Kf ht hf=>?_;simp (disch:=omega) [go_sem, *];try (refine⟨fun hc=>?_,fun hc=>?_⟩ <;> try (exfalso;omega))))
        refine zb ?_
        try dsimp only[zG,zN]
        refine⟨by simp,_,(by first | rfl|(simp (disch:=omega) [go_sem,zB] <;> rfl)),?_⟩
        refine zY ⟨fun j hj=>?_,by simp[go_sem,below,belowL],(by simp[go_sem] <;> omega),by simp,by simp⟩
        by_cases ejp:j=p
        ·rw[ejp];simp (disch:=omega) [zD] <;> omega
        ·repeat rw[zB _ _ _ _ (by omega)]
      ·skip
       have e1:ok (.mk 2 0 0 nn false fu 5 [a])=false:=by simp[ok,okL,zw,hn]
       have e2:(vis (.mk 2 0 0 nn false fu 5 [a]):Int)=1:=by simp[vis,zw,hn]
       rw[e1] at hr1 hr2
       rw[e2] at hr3
       simp only[Bool.false_eq_true,if_false] at hr1
       subst hr1 hr2 hr3
       clear e1 e2
       have hne:(nn == 0)=false:=by simpa using hn
       have hne2:(nn != 0)=true:=by simpa using hn
       have hne3:decide (nn=0)=false:=by simpa using hn
       repeat' (first|(refine zF fun K hK=>?_)|(refine zA fun K hK=>?_;simp (disch:=omega) [go_sem, *,zM,zB,Tryz.ntmps129])|(apply zC.out hK;clear hK K;try with_reducible dsimp only[zG])|(apply zC.out ht;clear ht hf Kt Kf)|(apply zC.out hf;clear ht hf Kt Kf)|(refine zL ?_;simp only[zG])|(refine zH fun Kt Kf ht hf=>?_;simp (disch:=omega) [go_sem, *];try (refine⟨fun hc=>?_,fun hc=>?_⟩ <;> try (exfalso;omega))))
       refine zb ?_
       try dsimp only[zG,zN]
       refine⟨by simp,_,(by first | rfl|(simp (disch:=omega) [go_sem,zB] <;> rfl)),?_⟩
       refine zY ⟨fun j hj=>?_,by simp[go_sem,below,belowL],(by simp[go_sem] <;> omega),by simp,by simp⟩
       by_cases ejp:j=p
       ·rw[ejp];simp (disch:=omega) [zB,zD] <;> omega
       ·repeat rw[zB _ _ _ _ (by omega)]
     ·skip
      have e1:ok (.mk 2 0 o nn false fu 5 [a])=false:=by simp[ok,okL,zw,ho]
      have e2:(vis (.mk 2 0 o nn false fu 5 [a]):Int)=1:=by simp[vis,zw,ho]
      rw[e1] at hr1 hr2
      rw[e2] at hr3
      simp only[Bool.false_eq_true,if_false] at hr1
      subst hr1 hr2 hr3
      clear e1 e2
      have hne:(o == 0)=false:=by simpa using ho
      have hne2:(o != 0)=true:=by simpa using ho
      have hne3:decide (o=0)=false:=by simpa using ho
      repeat' (first|(refine zF fun K hK=>?_)|(refine zA fun K hK=>?_;simp (disch:=omega) [go_sem, *,zM,zB,Tryz.ntmps129])|(apply zC.out hK;clear hK K;try with_reducible dsimp only[zG])|(apply zC.out ht;clear ht hf Kt Kf)|(apply zC.out hf;clear ht hf Kt Kf)|(refine zL ?_;simp only[zG])|(refine zH fun Kt Kf ht hf=>?_;simp (disch:=omega) [go_sem, *];try (refine⟨fun hc=>?_,fun hc=>?_⟩ <;> try (exfalso;omega))))
      refine zb ?_
      try dsimp only[zG,zN]
      refine⟨by simp,_,(by first | rfl|(simp (disch:=omega) [go_sem,zB] <;> rfl)),?_⟩
      refine zY ⟨fun j hj=>?_,by simp[go_sem,below,belowL],(by simp[go_sem] <;> omega),by simp,by simp⟩
      by_cases ejp:j=p
      ·rw[ejp];simp (disch:=omega) [zB,zD] <;> omega
      ·repeat rw[zB _ _ _ _ (by omega)]
    ·skip
     have e1:ok (.mk 2 f o nn false fu 5 [a])=false:=by simp[ok,okL,zw,hf]
     have e2:(vis (.mk 2 f o nn false fu 5 [a]):Int)=1:=by simp[vis,zw,hf]
     rw[e1] at hr1 hr2
     rw[e2] at hr3
     simp only[Bool.false_eq_true,if_false] at hr1
     subst hr1 hr2 hr3
     clear e1 e2
     have hne:(f == 0)=false:=by simpa using hf
     have hne2:(f != 0)=true:=by simpa using hf
     have hne3:decide (f=0)=false:=by simpa using hf
     repeat' (first|(refine zF fun K hK=>?_)|(refine zA fun K hK=>?_;simp (disch:=omega) [go_sem, *,zM,zB,Tryz.ntmps129])|(apply zC.out hK;clear hK K;try with_reducible dsimp only[zG])|(apply zC.out ht;clear ht hf Kt Kf)|(apply zC.out hf;clear ht hf Kt Kf)|(refine zL ?_;simp only[zG])|(refine zH fun Kt Kf ht hf=>?_;simp (disch:=omega) [go_sem, *];try (refine⟨fun hc=>?_,fun hc=>?_⟩ <;> try (exfalso;omega))))
     refine zb ?_
     try dsimp only[zG,zN]
     refine⟨by simp,_,(by first | rfl|(simp (disch:=omega) [go_sem,zB] <;> rfl)),?_⟩
     refine zY ⟨fun j hj=>?_,by simp[go_sem,below,belowL],(by simp[go_sem] <;> omega),by simp,by simp⟩
     by_cases ejp:j=p
     ·rw[ejp];simp (disch:=omega) [zB,zD] <;> omega
     ·repeat rw[zB _ _ _ _ (by omega)]
   ·have hl1:(ks.length:Int)≠1:=by omega
    have e1:ok (.mk 2 f o nn nl fu s ks)=false:=by simp[ok,zw,hl]
    have e2:(vis (.mk 2 f o nn nl fu s ks):Int)=1:=by simp[vis,zw,hl]
    rw[e1] at hr1 hr2
    rw[e2] at hr3
    simp only[Bool.false_eq_true,if_false] at hr1
    subst hr1 hr2 hr3
    clear e1 e2
    have hll:=Zy ks
    clear hl
    repeat' (first|(refine zF fun K hK=>?_)|(refine zA fun K hK=>?_;simp (disch:=omega) [go_sem, *,zM,zB,Tryz.ntmps129])|(apply zC.out hK;clear hK K;try with_reducible dsimp only[zG])|(apply zC.out ht;clear ht hf Kt Kf)|(refine zH fun Kt Kf ht hf=>?_;simp (disch:=omega) [go_sem, *];try (refine⟨fun hc=>?_,fun hc=>?_⟩ <;> try (exfalso;omega))))
    refine zb ?_
    try dsimp only[zG,zN]
    refine⟨by simp,_,(by first | rfl|(simp (disch:=omega) [go_sem,zB] <;> rfl)),?_⟩
    refine zY ⟨fun j hj=>?_,by simp[go_sem,below,belowL],(by simp[go_sem] <;> omega),by simp,by simp⟩
    by_cases ejp:j=p
    ·rw[ejp];simp (disch:=omega) [zB,zD] <;> omega
    ·repeat rw[zB _ _ _ _ (by omega)]
  by_cases h3:k=3
  ·subst h3
   by_cases hl:ks.length=2
   ·obtain⟨a,b,rfl⟩:∃a b,ks=[a,b]:=by match ks,hl with | [a,b],_=>exact⟨a,b,rfl⟩
    obtain⟨rfl,rfl⟩:=hwf.out.resolve_left (by simp)
    simp only[ZE]
    clear hl hwf
    by_cases hf:f=0
    ·subst hf
     by_cases ho:o=0
     ·subst ho
      by_cases hn:nn=0
      ·subst hn
       simp only[totL] at hv1 hvis
       have htaa:tot a≤N:=by simp only[totL] at hN;omega
       have hka:=fun h n v=>IH.out a htaa hwl.out.1 h n p v
       have hvaa:=vis_le a
       have hdaa:=dep_le a
       have htab:tot b≤N:=by simp only[totL] at hN;omega
       have hkb:=fun h n v=>IH.out b htab hwl.out.2.1 h n p v
       have hvab:=vis_le b
       have hdab:=dep_le b
       have e1:ok (.mk 3 0 0 0 false fu 5 [a,b])=(ok a && ok b):=by simp[ok,okL,zw]
       have e2:(vis (.mk 3 0 0 0 false fu 5 [a,b]):Int)=1 + (vis a + if ok a then (vis b:Int) else 0):=by simp[vis,visL,zw];split <;> simp
       have e3:(dep (.mk 3 0 0 0 false fu 5 [a,b]):Int)=(max (dep a) (dep b):Nat) + 1:=by simp[dep,depL]
       rw[e1] at hr1 hr2
       rw[e2] at hr3
       rw[e3] at hr1
       clear e1 e2 e3 hvis hwl hN IH
       generalize ok a=oka at *
       generalize dep a=da at *
       generalize vis a=va at *
       generalize tot a=ta at *
       obtain⟨ka,fa,oa,na,nla,fua,sa,ksa⟩:=a
       simp only[zn] at hka ⊢
       generalize ok b=okb at *
       generalize dep b=db at *
       generalize vis b=vb at *
       generalize tot b=tb at *
       obtain⟨kb,fb,ob,nb,nlb,fub,sb,ksb⟩:=b
       simp only[zn] at hkb ⊢
       have hmx:(if (da:Int) > 0 then (da:Int) else 0)=da:=by split <;> omega
       have hmx2:(if (db:Int) > da then (db:Int) else da)=(max da db:Nat):=by split <;> omega
       cases oka
       ·simp only[Bool.false_eq_true,if_false,Bool.false_and] at hr1 hr2 hr3 hka
        subst hr1 hr2 hr3
        repeat' (first|(refine zF fun K hK=>?_)|(refine zA fun K hK=>?_;simp (disch:=omega) [go_sem, *,zM,zB,Tryz.ntmps129])|(apply zC.out hK;clear hK K;try with_reducible dsimp only[zG])|(apply zC.out hf;clear ht hf Kt Kf)|(refine zJ ?_)|(refine zL ?_;simp only[zG])|(refine zH fun Kt Kf ht hf=>?_;simp (disch:=omega) [go_sem, *];try (refine⟨fun hc=>?_,fun hc=>?_⟩ <;> try (exfalso;omega))))
        refine Z8 4 ?_
        unfold Zl
        repeat' (first|(refine zF fun K hK=>?_)|(refine zA fun K hK=>?_;simp (disch:=omega) [go_sem, *,zO])|(apply zC.out hK;clear hK K;try with_reducible dsimp only[zG])|(apply zC.out ht;clear ht hf Kt Kf)|(with_reducible refine ATurn.gcall (hka _ _ (v + 1) (by simp (disch:=omega) [zB,zD]) (by omega) (by omega)) ?_;try simp (disch:=omega) [go_sem, *])|(refine zJ ?_)|(refine zL ?_;simp only[zG])|(refine zH fun Kt Kf ht hf=>?_;simp (disch:=omega) [go_sem, *];try (refine⟨fun hc=>?_,fun hc=>?_⟩ <;> try (exfalso;omega))))
        refine zb ?_
        try dsimp only[zG,zN]
        refine⟨by simp,_,(by first | rfl|(simp (disch:=omega) [go_sem,zB] <;> rfl)),?_⟩
        refine zY ⟨fun j hj=>?_,by simp[go_sem,below,belowL],(by simp[go_sem] <;> omega),by simp,by simp⟩
        by_cases ejp:j=p
        ·rw[ejp];simp (disch:=omega) [zD] <;> omega
        ·repeat rw[zB _ _ _ _ (by omega)]
       ·cases okb
        ·simp only[Bool.false_eq_true,if_false,if_true,Bool.true_and] at hr1 hr2 hr3 hka hkb
         subst hr1 hr2 hr3
         repeat' (first|(refine zF fun K hK=>?_)|(refine zA fun K hK=>?_;simp (disch:=omega) [go_sem, *,zM,zB,Tryz.ntmps129])|(apply zC.out hK;clear hK K;try with_reducible dsimp only[zG])|(apply zC.out hf;clear ht hf Kt Kf)|(refine zJ ?_)|(refine zL ?_;simp only[zG])|(refine zH fun Kt Kf ht hf=>?_;simp (disch:=omega) [go_sem, *];try (refine⟨fun hc=>?_,fun hc=>?_⟩ <;> try (exfalso;omega))))
         refine Z8 4 ?_
         unfold Zl
         repeat' (first|(refine zF fun K hK=>?_)|(refine zA fun K hK=>?_;simp (disch:=omega) [go_sem, *,zM,zO,zP])|(apply zC.out hK;clear hK K;try with_reducible dsimp only[zG])|(apply zC.out ht;clear ht hf Kt Kf)|(apply zC.out hf;clear ht hf Kt Kf)|(with_reducible refine ATurn.gcall (hka _ _ (v + 1) (by simp (disch:=omega) [zB,zD]) (by omega) (by omega)) ?_;try simp (disch:=omega) [go_sem, *])|(with_reducible refine ATurn.gcall (hkb _ _ (v + 1 + va) (by simp (disch:=omega) [zB,zD]) (by omega) (by omega)) ?_;try simp (disch:=omega) [go_sem, *])|(refine zJ ?_)|(refine zL ?_;simp only[zG])|(refine zH fun Kt Kf ht hf=>?_;simp (disch:=omega) [go_sem, *];try (refine⟨fun hc=>?_,fun hc=>?_⟩ <;> try (exfalso;omega))))
         refine zb ?_
         try dsimp only[zG,zN]
         refine⟨by simp,_,(by first | rfl|(simp (disch:=omega) [go_sem,zB] <;> rfl)),?_⟩
         refine zY ⟨fun j hj=>?_,by simp[go_sem,below,belowL],(by simp[go_sem] <;> omega),by simp,by simp⟩
         by_cases ejp:j=p
         ·rw[ejp];simp (disch:=omega) [zD] <;> omega
         ·repeat rw[zB _ _ _ _ (by omega)]
        ·simp only[if_true,Bool.true_and] at hr1 hr2 hr3 hka hkb
         subst hr1 hr2 hr3
         repeat' (first|(refine zF fun K hK=>?_)|(refine zA fun K hK=>?_;simp (disch:=omega) [go_sem, *,zM,zB,Tryz.ntmps129])|(apply zC.out hK;clear hK K;try with_reducible dsimp only[zG])|(apply zC.out hf;clear ht hf Kt Kf)|(refine zJ ?_)|(refine zL ?_;simp only[zG])|(refine zH fun Kt Kf ht hf=>?_;simp (disch:=omega) [go_sem, *];try (refine⟨fun hc=>?_,fun hc=>?_⟩ <;> try (exfalso;omega))))
         refine Z8 4 ?_
         unfold Zl
         repeat' (first|(refine zF fun K hK=>?_)|(refine zA fun K hK=>?_;simp (disch:=omega) [go_sem, *,zM,zO,zP])|(apply zC.out hK;clear hK K;try with_reducible dsimp only[zG])|(apply zC.out ht;clear ht hf Kt Kf)|(apply zC.out hf;clear ht hf Kt Kf)|(clear hK K;apply zC.out hK;clear hK K;try with_reducible dsimp only[zG])|(with_reducible refine ATurn.gcall (hka _ _ (v + 1) (by simp (disch:=omega) [zB,zD]) (by omega) (by omega)) ?_;try simp (disch:=omega) [go_sem, *])|(with_reducible refine ATurn.gcall (hkb _ _ (v + 1 + va) (by simp (disch:=omega) [zB,zD]) (by omega) (by omega)) ?_;try simp (disch:=omega) [go_sem, *])|(refine zJ ?_)|(refine zL ?_;simp only[zG])|(refine zk ?_;simp only[zG,zN,if_true])|(refine zH fun Kt Kf ht hf=>?_;simp (disch:=omega) [go_sem, *];try (refine⟨fun hc=>?_,fun hc=>?_⟩ <;> try (exfalso;omega))))
         refine zb ?_
         try dsimp only[zG,zN]
         refine⟨by simp,_,(by first | rfl|(simp (disch:=omega) [go_sem,zB] <;> rfl)),?_⟩
         refine zY ⟨fun j hj=>?_,by simp[go_sem,below,belowL],(by simp[go_sem] <;> omega),by simp,by simp⟩
         by_cases ejp:j=p
         ·rw[ejp];simp (disch:=omega) [zD] <;> omega
         ·repeat rw[zB _ _ _ _ (by omega)]
      ·skip
       have e1:ok (.mk 3 0 0 nn false fu 5 [a,b])=false:=by simp[ok,okL,zw,hn]
       have e2:(vis (.mk 3 0 0 nn false fu 5 [a,b]):Int)=1:=by simp[vis,zw,hn]
       rw[e1] at hr1 hr2
       rw[e2] at hr3
       simp only[Bool.false_eq_true,if_false] at hr1
       subst hr1 hr2 hr3
       clear e1 e2
       have hne:(nn == 0)=false:=by simpa using hn
       have hne2:(nn != 0)=true:=by simpa using hn
       have hne3:decide (nn=0)=false:=by simpa using hn
       repeat' (first|(refine zF fun K hK=>?_)|(refine zA fun K hK=>?_;simp (disch:=omega) [go_sem, *,zM,zB,Tryz.ntmps129])|(apply zC.out hK;clear hK K;try with_reducible dsimp only[zG])|(apply zC.out ht;clear ht hf Kt Kf)|(apply zC.out hf;clear ht hf Kt Kf)|(refine zL ?_;simp only[zG])|(refine zH fun Kt Kf ht hf=>?_;simp (disch:=omega) [go_sem, *];try (refine⟨fun hc=>?_,fun hc=>?_⟩ <;> try (exfalso;omega))))
       refine zb ?_
       try dsimp only[zG,zN]
       refine⟨by simp,_,(by first | rfl|(simp (disch:=omega) [go_sem,zB] <;> rfl)),?_⟩
       refine zY ⟨fun j hj=>?_,by simp[go_sem,below,belowL],(by simp[go_sem] <;> omega),by simp,by simp⟩
       by_cases ejp:j=p
       ·rw[ejp];simp (disch:=omega) [zB,zD] <;> omega
       ·repeat rw[zB _ _ _ _ (by omega)]
     ·skip
      have e1:ok (.mk 3 0 o nn false fu 5 [a,b])=false:=by simp[ok,okL,zw,ho]
      have e2:(vis (.mk 3 0 o nn false fu 5 [a,b]):Int)=1:=by simp[vis,zw,ho]
      rw[e1] at hr1 hr2
      rw[e2] at hr3
      simp only[Bool.false_eq_true,if_false] at hr1
      subst hr1 hr2 hr3
      clear e1 e2
      have hne:(o == 0)=false:=by simpa using ho
      have hne2:(o != 0)=true:=by simpa using ho
      have hne3:decide (o=0)=false:=by simpa using ho
      repeat' (first|(refine zF fun K hK=>?_)|(refine zA fun K hK=>?_;simp (disch:=omega) [go_sem, *,zM,zB,Tryz.ntmps129])|(apply zC.out hK;clear hK K;try with_reducible dsimp only[zG])|(apply zC.out ht;clear ht hf Kt Kf)|(apply zC.out hf;clear ht hf Kt Kf)|(refine zL ?_;simp only[zG])|(refine zH fun Kt Kf ht hf=>?_;simp (disch:=omega) [go_sem, *];try (refine⟨fun hc=>?_,fun hc=>?_⟩ <;> try (exfalso;omega))))
      refine zb ?_
      try dsimp only[zG,zN]
      refine⟨by simp,_,(by first | rfl|(simp (disch:=omega) [go_sem,zB] <;> rfl)),?_⟩
      refine zY ⟨fun j hj=>?_,by simp[go_sem,below,belowL],(by simp[go_sem] <;> omega),by simp,by simp⟩
      by_cases ejp:j=p
      ·rw[ejp];simp (disch:=omega) [zB,zD] <;> omega
      ·repeat rw[zB _ _ _ _ (by omega)]
    ·skip
     have e1:ok (.mk 3 f o nn false fu 5 [a,b])=false:=by simp[ok,okL,zw,hf]
     have e2:(vis (.mk 3 f o nn false fu 5 [a,b]):Int)=1:=by simp[vis,zw,hf]
     rw[e1] at hr1 hr2
     rw[e2] at hr3
     simp only[Bool.false_eq_true,if_false] at hr1
     subst hr1 hr2 hr3
     clear e1 e2
     have hne:(f == 0)=false:=by simpa using hf
     have hne2:(f != 0)=true:=by simpa using hf
     have hne3:decide (f=0)=false:=by simpa using hf
     repeat' (first|(refine zF fun K hK=>?_)|(refine zA fun K hK=>?_;simp (disch:=omega) [go_sem, *,zM,zB,Tryz.ntmps129])|(apply zC.out hK;clear hK K;try with_reducible dsimp only[zG])|(apply zC.out ht;clear ht hf Kt Kf)|(apply zC.out hf;clear ht hf Kt Kf)|(refine zL ?_;simp only[zG])|(refine zH fun Kt Kf ht hf=>?_;simp (disch:=omega) [go_sem, *];try (refine⟨fun hc=>?_,fun hc=>?_⟩ <;> try (exfalso;omega))))
     refine zb ?_
     try dsimp only[zG,zN]
     refine⟨by simp,_,(by first | rfl|(simp (disch:=omega) [go_sem,zB] <;> rfl)),?_⟩
     refine zY ⟨fun j hj=>?_,by simp[go_sem,below,belowL],(by simp[go_sem] <;> omega),by simp,by simp⟩
     by_cases ejp:j=p
     ·rw[ejp];simp (disch:=omega) [zB,zD] <;> omega
     ·repeat rw[zB _ _ _ _ (by omega)]
   ·have hl1:(ks.length:Int)≠2:=by omega
    have e1:ok (.mk 3 f o nn nl fu s ks)=false:=by simp[ok,zw,hl]
    have e2:(vis (.mk 3 f o nn nl fu s ks):Int)=1:=by simp[vis,zw,hl]
    rw[e1] at hr1 hr2
    rw[e2] at hr3
    simp only[Bool.false_eq_true,if_false] at hr1
    subst hr1 hr2 hr3
    clear e1 e2
    have hll:=Zy ks
    clear hl
    repeat' (first|(refine zF fun K hK=>?_)|(refine zA fun K hK=>?_;simp (disch:=omega) [go_sem, *,zM,zB,Tryz.ntmps129])|(apply zC.out hK;clear hK K;try with_reducible dsimp only[zG])|(apply zC.out ht;clear ht hf Kt Kf)|(refine zH fun Kt Kf ht hf=>?_;simp (disch:=omega) [go_sem, *];try (refine⟨fun hc=>?_,fun hc=>?_⟩ <;> try (exfalso;omega))))
    refine zb ?_
    try dsimp only[zG,zN]
    refine⟨by simp,_,(by first | rfl|(simp (disch:=omega) [go_sem,zB] <;> rfl)),?_⟩
    refine zY ⟨fun j hj=>?_,by simp[go_sem,below,belowL],(by simp[go_sem] <;> omega),by simp,by simp⟩
    by_cases ejp:j=p
    ·rw[ejp];simp (disch:=omega) [zB,zD] <;> omega
    ·repeat rw[zB _ _ _ _ (by omega)]
  by_cases h4:k=4
  ·subst h4
   by_cases hl:ks.length=2
   ·obtain⟨a,b,rfl⟩:∃a b,ks=[a,b]:=by match ks,hl with | [a,b],_=>exact⟨a,b,rfl⟩
    obtain⟨rfl,rfl⟩:=hwf.out.resolve_left (by simp)
    simp only[ZE]
    clear hl hwf
    by_cases hf:f=0
    ·subst hf
     by_cases ho:o=0
     ·subst ho
      by_cases hn:nn=0
      ·subst hn
       simp only[totL] at hv1 hvis
       have htaa:tot a≤N:=by simp only[totL] at hN;omega
       have hka:=fun h n v=>IH.out a htaa hwl.out.1 h n p v
       have hvaa:=vis_le a
       have hdaa:=dep_le a
       have htab:tot b≤N:=by simp only[totL] at hN;omega
       have hkb:=fun h n v=>IH.out b htab hwl.out.2.1 h n p v
       have hvab:=vis_le b
       have hdab:=dep_le b
       have e1:ok (.mk 4 0 0 0 false fu 5 [a,b])=(ok a && ok b):=by simp[ok,okL,zw]
       have e2:(vis (.mk 4 0 0 0 false fu 5 [a,b]):Int)=1 + (vis a + if ok a then (vis b:Int) else 0):=by simp[vis,visL,zw];split <;> simp
       have e3:(dep (.mk 4 0 0 0 false fu 5 [a,b]):Int)=(max (dep a) (dep b):Nat) + 1:=by simp[dep,depL]
       rw[e1] at hr1 hr2
       rw[e2] at hr3
       rw[e3] at hr1
       clear e1 e2 e3 hvis hwl hN IH
       generalize ok a=oka at *
       generalize dep a=da at *
       generalize vis a=va at *
       generalize tot a=ta at *
       obtain⟨ka,fa,oa,na,nla,fua,sa,ksa⟩:=a
       simp only[zn] at hka ⊢
       generalize ok b=okb at *
       generalize dep b=db at *
       generalize vis b=vb at *
       generalize tot b=tb at *
       obtain⟨kb,fb,ob,nb,nlb,fub,sb,ksb⟩:=b
       simp only[zn] at hkb ⊢
       have hmx:(if (da:Int) > 0 then (da:Int) else 0)=da:=by split <;> omega
       have hmx2:(if (db:Int) > da then (db:Int) else da)=(max da db:Nat):=by split <;> omega
       cases oka
       ·simp only[Bool.false_eq_true,if_false,Bool.false_and] at hr1 hr2 hr3 hka
        subst hr1 hr2 hr3
        repeat' (first|(refine zF fun K hK=>?_)|(refine zA fun K hK=>?_;simp (disch:=omega) [go_sem, *,zM,zB,Tryz.ntmps129])|(apply zC.out hK;clear hK K;try with_reducible dsimp only[zG])|(apply zC.out hf;clear ht hf Kt Kf)|(refine zJ ?_)|(refine zL ?_;simp only[zG])|(refine zH fun Kt Kf ht hf=>?_;simp (disch:=omega) [go_sem, *];try (refine⟨fun hc=>?_,fun hc=>?_⟩ <;> try (exfalso;omega))))
        refine Z8 4 ?_
        unfold Zl
        repeat' (first|(refine zF fun K hK=>?_)|(refine zA fun K hK=>?_;simp (disch:=omega) [go_sem, *,zO])|(apply zC.out hK;clear hK K;try with_reducible dsimp only[zG])|(apply zC.out ht;clear ht hf Kt Kf)|(with_reducible refine ATurn.gcall (hka _ _ (v + 1) (by simp (disch:=omega) [zB,zD]) (by omega) (by omega)) ?_;try simp (disch:=omega) [go_sem, *])|(refine zJ ?_)|(refine zL ?_;simp only[zG])|(refine zH fun Kt Kf ht hf=>?_;simp (disch:=omega) [go_sem, *];try (refine⟨fun hc=>?_,fun hc=>?_⟩ <;> try (exfalso;omega))))
        refine zb ?_
        try dsimp only[zG,zN]
        refine⟨by simp,_,(by first | rfl|(simp (disch:=omega) [go_sem,zB] <;> rfl)),?_⟩
        refine zY ⟨fun j hj=>?_,by simp[go_sem,below,belowL],(by simp[go_sem] <;> omega),by simp,by simp⟩
        by_cases ejp:j=p
        ·rw[ejp];simp (disch:=omega) [zD] <;> omega
        ·repeat rw[zB _ _ _ _ (by omega)]
       ·cases okb
        ·simp only[Bool.false_eq_true,if_false,if_true,Bool.true_and] at hr1 hr2 hr3 hka hkb
         subst hr1 hr2 hr3
         repeat' (first|(refine zF fun K hK=>?_)|(refine zA fun K hK=>?_;simp (disch:=omega) [go_sem, *,zM,zB,Tryz.ntmps129])|(apply zC.out hK;clear hK K;try with_reducible dsimp only[zG])|(apply zC.out hf;clear ht hf Kt Kf)|(refine zJ ?_)|(refine zL ?_;simp only[zG])|(refine zH fun Kt Kf ht hf=>?_;simp (disch:=omega) [go_sem, *];try (refine⟨fun hc=>?_,fun hc=>?_⟩ <;> try (exfalso;omega))))
         refine Z8 4 ?_
         unfold Zl
         repeat' (first|(refine zF fun K hK=>?_)|(refine zA fun K hK=>?_;simp (disch:=omega) [go_sem, *,zM,zO,zP])|(apply zC.out hK;clear hK K;try with_reducible dsimp only[zG])|(apply zC.out ht;clear ht hf Kt Kf)|(apply zC.out hf;clear ht hf Kt Kf)|(with_reducible refine ATurn.gcall (hka _ _ (v + 1) (by simp (disch:=omega) [zB,zD]) (by omega) (by omega)) ?_;try simp (disch:=omega) [go_sem, *])|(with_reducible refine ATurn.gcall (hkb _ _ (v + 1 + va) (by simp (disch:=omega) [zB,zD]) (by omega) (by omega)) ?_;try simp (disch:=omega) [go_sem, *])|(refine zJ ?_)|(refine zL ?_;simp only[zG])|(refine zH fun Kt Kf ht hf=>?_;simp (disch:=omega) [go_sem, *];try (refine⟨fun hc=>?_,fun hc=>?_⟩ <;> try (exfalso;omega))))
         refine zb ?_
         try dsimp only[zG,zN]
         refine⟨by simp,_,(by first | rfl|(simp (disch:=omega) [go_sem,zB] <;> rfl)),?_⟩
         refine zY ⟨fun j hj=>?_,by simp[go_sem,below,belowL],(by simp[go_sem] <;> omega),by simp,by simp⟩
         by_cases ejp:j=p
         ·rw[ejp];simp (disch:=omega) [zD] <;> omega
         ·repeat rw[zB _ _ _ _ (by omega)]
        ·simp only[if_true,Bool.true_and] at hr1 hr2 hr3 hka hkb
         subst hr1 hr2 hr3
         repeat' (first|(refine zF fun K hK=>?_)|(refine zA fun K hK=>?_;simp (disch:=omega) [go_sem, *,zM,zB,Tryz.ntmps129])|(apply zC.out hK;clear hK K;try with_reducible dsimp only[zG])|(apply zC.out hf;clear ht hf Kt Kf)|(refine zJ ?_)|(refine zL ?_;simp only[zG])|(refine zH fun Kt Kf ht hf=>?_;simp (disch:=omega) [go_sem, *];try (refine⟨fun hc=>?_,fun hc=>?_⟩ <;> try (exfalso;omega))))
         refine Z8 4 ?_
         unfold Zl
         repeat' (first|(refine zF fun K hK=>?_)|(refine zA fun K hK=>?_;simp (disch:=omega) [go_sem, *,zM,zO,zP])|(apply zC.out hK;clear hK K;try with_reducible dsimp only[zG])|(apply zC.out ht;clear ht hf Kt Kf)|(apply zC.out hf;clear ht hf Kt Kf)|(clear hK K;apply zC.out hK;clear hK K;try with_reducible dsimp only[zG])|(with_reducible refine ATurn.gcall (hka _ _ (v + 1) (by simp (disch:=omega) [zB,zD]) (by omega) (by omega)) ?_;try simp (disch:=omega) [go_sem, *])|(with_reducible refine ATurn.gcall (hkb _ _ (v + 1 + va) (by simp (disch:=omega) [zB,zD]) (by omega) (by omega)) ?_;try simp (disch:=omega) [go_sem, *])|(refine zJ ?_)|(refine zL ?_;simp only[zG])|(refine zk ?_;simp only[zG,zN,if_true])|(refine zH fun Kt Kf ht hf=>?_;simp (disch:=omega) [go_sem, *];try (refine⟨fun hc=>?_,fun hc=>?_⟩ <;> try (exfalso;omega))))
         refine zb ?_
         try dsimp only[zG,zN]
         refine⟨by simp,_,(by first | rfl|(simp (disch:=omega) [go_sem,zB] <;> rfl)),?_⟩
         refine zY ⟨fun j hj=>?_,by simp[go_sem,below,belowL],(by simp[go_sem] <;> omega),by simp,by simp⟩
         by_cases ejp:j=p
         ·rw[ejp];simp (disch:=omega) [zD] <;> omega
         ·repeat rw[zB _ _ _ _ (by omega)]
      ·skip
       have e1:ok (.mk 4 0 0 nn false fu 5 [a,b])=false:=by simp[ok,okL,zw,hn]
       have e2:(vis (.mk 4 0 0 nn false fu 5 [a,b]):Int)=1:=by simp[vis,zw,hn]
       rw[e1] at hr1 hr2
       rw[e2] at hr3
       simp only[Bool.false_eq_true,if_false] at hr1
       subst hr1 hr2 hr3
       clear e1 e2
       have hne:(nn == 0)=false:=by simpa using hn
       have hne2:(nn != 0)=true:=by simpa using hn
       have hne3:decide (nn=0)=false:=by simpa using hn
       repeat' (first|(refine zF fun K hK=>?_)|(refine zA fun K hK=>?_;simp (disch:=omega) [go_sem, *,zM,zB,Tryz.ntmps129])|(apply zC.out hK;clear hK K;try with_reducible dsimp only[zG])|(apply zC.out ht;clear ht hf Kt Kf)|(apply zC.out hf;clear ht hf Kt Kf)|(refine zL ?_;simp only[zG])|(refine zH fun Kt Kf ht hf=>?_;simp (disch:=omega) [go_sem, *];try (refine⟨fun hc=>?_,fun hc=>?_⟩ <;> try (exfalso;omega))))
       refine zb ?_
       try dsimp only[zG,zN]
       refine⟨by simp,_,(by first | rfl|(simp (disch:=omega) [go_sem,zB] <;> rfl)),?_⟩
       refine zY ⟨fun j hj=>?_,by simp[go_sem,below,belowL],(by simp[go_sem] <;> omega),by simp,by simp⟩
       by_cases ejp:j=p
       ·rw[ejp];simp (disch:=omega) [zB,zD] <;> omega
       ·repeat rw[zB _ _ _ _ (by omega)]
     ·skip
      have e1:ok (.mk 4 0 o nn false fu 5 [a,b])=false:=by simp[ok,okL,zw,ho]
      have e2:(vis (.mk 4 0 o nn false fu 5 [a,b]):Int)=1:=by simp[vis,zw,ho]
      rw[e1] at hr1 hr2
      rw[e2] at hr3
      simp only[Bool.false_eq_true,if_false] at hr1
      subst hr1 hr2 hr3
      clear e1 e2
      have hne:(o == 0)=false:=by simpa using ho
      have hne2:(o != 0)=true:=by simpa using ho
      have hne3:decide (o=0)=false:=by simpa using ho
      repeat' (first|(refine zF fun K hK=>?_)|(refine zA fun K hK=>?_;simp (disch:=omega) [go_sem, *,zM,zB,Tryz.ntmps129])|(apply zC.out hK;clear hK K;try with_reducible dsimp only[zG])|(apply zC.out ht;clear ht hf Kt Kf)|(apply zC.out hf;clear ht hf Kt Kf)|(refine zL ?_;simp only[zG])|(refine zH fun Kt Kf ht hf=>?_;simp (disch:=omega) [go_sem, *];try (refine⟨fun hc=>?_,fun hc=>?_⟩ <;> try (exfalso;omega))))
      refine zb ?_
      try dsimp only[zG,zN]
      refine⟨by simp,_,(by first | rfl|(simp (disch:=omega) [go_sem,zB] <;> rfl)),?_⟩
      refine zY ⟨fun j hj=>?_,by simp[go_sem,below,belowL],(by simp[go_sem] <;> omega),by simp,by simp⟩
      by_cases ejp:j=p
      ·rw[ejp];simp (disch:=omega) [zB,zD] <;> omega
      ·repeat rw[zB _ _ _ _ (by omega)]
    ·skip
     have e1:ok (.mk 4 f o nn false fu 5 [a,b])=false:=by simp[ok,okL,zw,hf]
     have e2:(vis (.mk 4 f o nn false fu 5 [a,b]):Int)=1:=by simp[vis,zw,hf]
     rw[e1] at hr1 hr2
     rw[e2] at hr3
     simp only[Bool.false_eq_true,if_false] at hr1
     subst hr1 hr2 hr3
     clear e1 e2
     have hne:(f == 0)=false:=by simpa using hf
     have hne2:(f != 0)=true:=by simpa using hf
     have hne3:decide (f=0)=false:=by simpa using hf
     repeat' (first|(refine zF fun K hK=>?_)|(refine zA fun K hK=>?_;simp (disch:=omega) [go_sem, *,zM,zB,Tryz.ntmps129])|(apply zC.out hK;clear hK K;try with_reducible dsimp only[zG])|(apply zC.out ht;clear ht hf Kt Kf)|(apply zC.out hf;clear ht hf Kt Kf)|(refine zL ?_;simp only[zG])|(refine zH fun Kt Kf ht hf=>?_;simp (disch:=omega) [go_sem, *];try (refine⟨fun hc=>?_,fun hc=>?_⟩ <;> try (exfalso;omega))))
     refine zb ?_
     try dsimp only[zG,zN]
     refine⟨by simp,_,(by first | rfl|(simp (disch:=omega) [go_sem,zB] <;> rfl)),?_⟩
     refine zY ⟨fun j hj=>?_,by simp[go_sem,below,belowL],(by simp[go_sem] <;> omega),by simp,by simp⟩
     by_cases ejp:j=p
     ·rw[ejp];simp (disch:=omega) [zB,zD] <;> omega
     ·repeat rw[zB _ _ _ _ (by omega)]
   ·have hl1:(ks.length:Int)≠2:=by omega
    have e1:ok (.mk 4 f o nn nl fu s ks)=false:=by simp[ok,zw,hl]
    have e2:(vis (.mk 4 f o nn nl fu s ks):Int)=1:=by simp[vis,zw,hl]
    rw[e1] at hr1 hr2
    rw[e2] at hr3
    simp only[Bool.false_eq_true,if_false] at hr1
    subst hr1 hr2 hr3
    clear e1 e2
    have hll:=Zy ks
    clear hl
    repeat' (first|(refine zF fun K hK=>?_)|(refine zA fun K hK=>?_;simp (disch:=omega) [go_sem, *,zM,zB,Tryz.ntmps129])|(apply zC.out hK;clear hK K;try with_reducible dsimp only[zG])|(apply zC.out ht;clear ht hf Kt Kf)|(refine zH fun Kt Kf ht hf=>?_;simp (disch:=omega) [go_sem, *];try (refine⟨fun hc=>?_,fun hc=>?_⟩ <;> try (exfalso;omega))))
    refine zb ?_
    try dsimp only[zG,zN]
    refine⟨by simp,_,(by first | rfl|(simp (disch:=omega) [go_sem,zB] <;> rfl)),?_⟩
    refine zY ⟨fun j hj=>?_,by simp[go_sem,below,belowL],(by simp[go_sem] <;> omega),by simp,by simp⟩
    by_cases ejp:j=p
    ·rw[ejp];simp (disch:=omega) [zB,zD] <;> omega
    ·repeat rw[zB _ _ _ _ (by omega)]
  have eb1:(k == 1)=false:=by simpa using h1
  have eb2:(k == 2)=false:=by simpa using h2
  have eb3:(k == 3)=false:=by simpa using h3
  have eb4:(k == 4)=false:=by simpa using h4
  have e1:ok (.mk k f o nn nl fu s ks)=false:=by simp[ok,zw,h1,h2,h3,h4]
  have e2:(vis (.mk k f o nn nl fu s ks):Int)=1:=by simp[vis,zw,h1,h2,h3,h4]
  rw[e1] at hr1 hr2
  rw[e2] at hr3
  simp only[Bool.false_eq_true,if_false] at hr1
  subst hr1 hr2 hr3
  clear e1 e2
  clear h1 h2 h3 h4
  repeat' (first|(refine zF fun K hK=>?_)|(refine zA fun K hK=>?_;simp (disch:=omega) [go_sem, *,zM,zB,Tryz.ntmps129])|(apply zC.out hK;clear hK K;try with_reducible dsimp only[zG])|(apply zC.out ht;clear ht hf Kt Kf)|(refine zH fun Kt Kf ht hf=>?_;simp (disch:=omega) [go_sem, *];try (refine⟨fun hc=>?_,fun hc=>?_⟩ <;> try (exfalso;omega))))
  refine zb ?_
  try dsimp only[zG,zN]
  refine⟨by simp,_,(by first | rfl|(simp (disch:=omega) [go_sem,zB] <;> rfl)),?_⟩
  refine zY ⟨fun j hj=>?_,by simp[go_sem,below,belowL],(by simp[go_sem] <;> omega),by simp,by simp⟩
  by_cases ejp:j=p
  ·rw[ejp];simp (disch:=omega) [zB,zD] <;> omega
  ·repeat rw[zB _ _ _ _ (by omega)]
end Go.AM
