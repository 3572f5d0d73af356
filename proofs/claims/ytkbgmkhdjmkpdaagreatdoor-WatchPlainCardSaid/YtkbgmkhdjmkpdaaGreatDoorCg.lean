/- Conditions: formed. Conditions: as each theorem says. -/
import Derived.Test.YtkbgmkhdjmkpdaaGreatDoorCf
namespace Go.AM
open Go.Proofs Cw
set_option maxRecDepth 10000
set_option maxHeartbeats 4000000
theorem formed_spec (c:Cnd) (hw:wf c) (hs:tot c≤900):zL Tryz.prog 84 [Zg c] (bv (Cw.formed c)):=by
 intro h n
 have hws:=fun h n p hp=>wsize_spec _ c (Nat.le_refl _) hw h n p 0 hp (by omega) (by omega)
 have hvis:=vis_ok c
 have hd1:=Q8 c
 refine zS.pure (zS.entry (by kernel_rfl) fun hb _=>zX Tryz.func84 rfl (by kernel_rfl) (by simp[Tryz.ntmps84]) ?_)
 by_cases hok:ok c=true
 ·have hv:=hvis hok
  have e1:Cw.formed c=(decide ((vis c:Int)≤60) && decide ((dep c:Int)≤12)):=by
   rw[Cw.formed,hok,hv,Bool.true_and];congr 1 <;> (apply decide_eq_decide.2;omega)
  rw[e1]
  simp only[hok,if_true] at hws
  clear e1 hv hvis hd1
  generalize (vis c:Int)=v at *
  generalize (dep c:Int)=d at *
  obtain⟨k,f,o,nn,nl,fu,s,ks⟩:=c
  simp only[Zg] at hws ⊢
  simp only[Int.zero_add] at hws
  clear hok
  by_cases h1:v≤60
  ·by_cases h2:d≤12
   ·skip
    repeat' (first|(refine zF fun K hK=>?_)|(refine zB fun K hK=>?_;simp (disch:=omega) [go_sem, *,zG,Tryz.ntmps84])|(apply zC.out hK;clear hK K;try with_reducible dsimp only[zD])|(with_reducible refine ATurn.gcall (hws _ _ _ (by simp (disch:=omega) [go_sem])) ?_;try simp (disch:=omega) [go_sem, *]))
    exact zR
   ·skip
    repeat' (first|(refine zF fun K hK=>?_)|(refine zB fun K hK=>?_;simp (disch:=omega) [go_sem, *,zG,Tryz.ntmps84])|(apply zC.out hK;clear hK K;try with_reducible dsimp only[zD])|(with_reducible refine ATurn.gcall (hws _ _ _ (by simp (disch:=omega) [go_sem])) ?_;try simp (disch:=omega) [go_sem, *]))
    exact zR
  ·skip
   repeat' (first|(refine zF fun K hK=>?_)|(refine zB fun K hK=>?_;simp (disch:=omega) [go_sem, *,zG,Tryz.ntmps84])|(apply zC.out hK;clear hK K;try with_reducible dsimp only[zD])|(with_reducible refine ATurn.gcall (hws _ _ _ (by simp (disch:=omega) [go_sem])) ?_;try simp (disch:=omega) [go_sem, *]))
   exact zR
 ·rw[Bool.not_eq_true] at hok
  have e1:Cw.formed c=false:=by simp[Cw.formed,hok]
  rw[e1]
  simp only[hok,Bool.false_eq_true,if_false] at hws
  clear e1 hvis hd1
  generalize (vis c:Int)=v at *
  obtain⟨k,f,o,nn,nl,fu,s,ks⟩:=c
  simp only[Zg] at hws ⊢
  simp only[Int.zero_add] at hws
  clear hok
  repeat' (first|(refine zF fun K hK=>?_)|(refine zB fun K hK=>?_;simp (disch:=omega) [go_sem, *,zG,Tryz.ntmps84])|(apply zC.out hK;clear hK K;try with_reducible dsimp only[zD])|(with_reducible refine ATurn.gcall (hws _ _ _ (by simp (disch:=omega) [go_sem])) ?_;try simp (disch:=omega) [go_sem, *]))
  exact zR
def shp (c:Cnd) (m:Int):Bool:=ok c && decide ((dep c:Int)≤m)
theorem shp0 (c:Cnd):shp c 0=false:=by
 have:¬((dep c:Int)≤0):=by cases c;simp only[dep];omega
 rw[shp,decide_eq_false this,Bool.and_false]
theorem shp1 {f o n:Int} {nl fu:Bool} {s:Nat} {ks:List Cnd} {m:Int} (hm:1≤m):shp (.mk 1 f o n nl fu s ks) m=(wi f 0 4 && wi o 1 6 && wi n 0 10000 && decide ((ks.length:Int)=0)):=by
 by_cases hk:ks=[]
 ·subst hk;simp[shp,ok,zj,okL,dep,depL];intros;omega
 ·have:¬ks.length=0:=fun e=>hk (List.length_eq_zero_iff.1 e)
  simp[shp,ok,zj,hk]
theorem shp2 {nl fu:Bool} {s:Nat} {a:Cnd} {m:Int}:shp (.mk 2 0 0 0 nl fu s [a]) m=shp a (m - 1):=by
 simp only[shp,ok,zj,okL,dep,depL]
 by_cases h:ok a=true
 ·simp[h];omega
 ·simp[h]
theorem shp34 {k:Int} (hk:k=3∨k=4) {nl fu:Bool} {s:Nat} {a b:Cnd} {m:Int}:shp (.mk k 0 0 0 nl fu s [a,b]) m=(shp a (m - 1) && shp b (m - 1)):=by
 have h1:¬k=1:=by omega
 have h2:¬k=2:=by omega
 simp only[shp,ok,zj,okL,dep,depL]
 by_cases h:ok a=true
 ·by_cases h':ok b=true
  ·rw[Bool.eq_iff_iff];simp[h,h',h1,h2];omega
  ·simp[h,h']
 ·simp[h]
theorem shpX {k f o n:Int} {nl fu:Bool} {s:Nat} {ks:List Cnd} {m:Int} (h:zj k f o n ks.length=false):shp (.mk k f o n nl fu s ks) m=false:=by
 simp[shp,ok,h]
theorem shaped_spec:∀(N:Nat) (c:Cnd),tot c≤N→wf c→∀m:Int,0≤m→m≤12→zL Tryz.prog 190 [Zg c,iv .i64 m] (bv (shp c m))
 | 0,c,hN,_=>by have:=qB c;omega
 | N + 1,.mk k f o nn nl fu s ks,hN,hw=>by
  intro m hm1 hm2 h n
  have IH:=shaped_spec N
  simp only[tot] at hN
  have hwf:=hw.1
  have hwl:=hw.2
  clear hw
  simp only[Zg]
  refine zS.pure (zS.entry (by kernel_rfl) fun hb _=>zX Tryz.func190 rfl (by kernel_rfl) (by simp[Tryz.ntmps190]) ?_)
  replace IH:zC _:=IH
  replace hwf:zC _:=hwf
  replace hwl:zC _:=hwl
  by_cases hm:m=0
  ·subst hm
   rw[shp0]
   repeat' (first|(refine zF fun K hK=>?_)|(refine zB fun K hK=>?_;simp (disch:=omega) [go_sem, *,Tryz.ntmps190])|(apply zC.out hK;clear hK K;try with_reducible dsimp only[zD])|(apply zC.out ht;clear ht hf Kt Kf)|(refine zH fun Kt Kf ht hf=>?_;simp (disch:=omega) [go_sem, *];try (refine⟨fun hc=>?_,fun hc=>?_⟩ <;> try (exfalso;omega))))
   exact zR
  have em:(m == 0)=false:=by simpa using hm
  by_cases h1:k=1
  ·subst h1
   rw[shp1 (by omega)]
   have hll:=ZO ks
   by_cases hf:wi f 0 4=true
   ·by_cases ho:wi o 1 6=true
    ·by_cases hn:wi nn 0 10000=true
     ·by_cases hl:(ks.length:Int)=0
      ·simp only[hf,ho,hn,hl,decide_true,Bool.and_true]
       repeat' (first|(refine zF fun K hK=>?_)|(refine zB fun K hK=>?_;simp (disch:=omega) [go_sem, *,Tryz.ntmps190])|(apply zC.out hK;clear hK K;try with_reducible dsimp only[zD])|(apply zC.out ht;clear ht hf Kt Kf)|(apply zC.out hf;clear ht hf Kt Kf)|(with_reducible refine zL.gcall (ze _ _ _) ?_;try simp (disch:=omega) [go_sem, *])|(refine zK ?_;simp only[zD])|(refine zH fun Kt Kf ht hf=>?_;simp (disch:=omega) [go_sem, *];try (refine⟨fun hc=>?_,fun hc=>?_⟩ <;> try (exfalso;omega))))
       exact zR
      ·have hl2:((ks.length:Int) == 0)=false:=by simpa using hl
       simp only[hf,ho,hn,hl,decide_false,Bool.and_true,Bool.and_false]
       repeat' (first|(refine zF fun K hK=>?_)|(refine zB fun K hK=>?_;simp (disch:=omega) [go_sem, *,Tryz.ntmps190])|(apply zC.out hK;clear hK K;try with_reducible dsimp only[zD])|(apply zC.out ht;clear ht hf Kt Kf)|(apply zC.out hf;clear ht hf Kt Kf)|(with_reducible refine zL.gcall (ze _ _ _) ?_;try simp (disch:=omega) [go_sem, *])|(refine zK ?_;simp only[zD])|(refine zH fun Kt Kf ht hf=>?_;simp (disch:=omega) [go_sem, *];try (refine⟨fun hc=>?_,fun hc=>?_⟩ <;> try (exfalso;omega))))
       exact zR
     ·rw[Bool.not_eq_true] at hn
      simp only[hf,ho,hn,Bool.and_true,Bool.and_false,Bool.false_and]
      repeat' (first|(refine zF fun K hK=>?_)|(refine zB fun K hK=>?_;simp (disch:=omega) [go_sem, *,Tryz.ntmps190])|(apply zC.out hK;clear hK K;try with_reducible dsimp only[zD])|(apply zC.out ht;clear ht hf Kt Kf)|(apply zC.out hf;clear ht hf Kt Kf)|(with_reducible refine zL.gcall (ze _ _ _) ?_;try simp (disch:=omega) [go_sem, *])|(refine zK ?_;simp only[zD])|(refine zH fun Kt Kf ht hf=>?_;simp (disch:=omega) [go_sem, *];try (refine⟨fun hc=>?_,fun hc=>?_⟩ <;> try (exfalso;omega))))
      exact zR
    ·rw[Bool.not_eq_true] at ho
     simp only[hf,ho,Bool.and_false,Bool.false_and]
     repeat' (first|(refine zF fun K hK=>?_)|(refine zB fun K hK=>?_;simp (disch:=omega) [go_sem, *,Tryz.ntmps190])|(apply zC.out hK;clear hK K;try with_reducible dsimp only[zD])|(apply zC.out ht;clear ht hf Kt Kf)|(apply zC.out hf;clear ht hf Kt Kf)|(with_reducible refine zL.gcall (ze _ _ _) ?_;try simp (disch:=omega) [go_sem, *])|(refine zK ?_;simp only[zD])|(refine zH fun Kt Kf ht hf=>?_;simp (disch:=omega) [go_sem, *];try (refine⟨fun hc=>?_,fun hc=>?_⟩ <;> try (exfalso;omega))))
     exact zR
   ·rw[Bool.not_eq_true] at hf
    simp only[hf,Bool.false_and]
    repeat' (first|(refine zF fun K hK=>?_)|(refine zB fun K hK=>?_;simp (disch:=omega) [go_sem, *,Tryz.ntmps190])|(apply zC.out hK;clear hK K;try with_reducible dsimp only[zD])|(apply zC.out ht;clear ht hf Kt Kf)|(apply zC.out hf;clear ht hf Kt Kf)|(with_reducible refine zL.gcall (ze _ _ _) ?_;try simp (disch:=omega) [go_sem, *])|(refine zK ?_;simp only[zD])|(refine zH fun Kt Kf ht hf=>?_;simp (disch:=omega) [go_sem, *];try (refine⟨fun hc=>?_,fun hc=>?_⟩ <;> try (exfalso;omega))))
    exact zR
  have eb1:(k == 1)=false:=by simpa using h1
  by_cases h2:k=2
  ·subst h2
   clear eb1 h1
   have ekk:wi 2 2 4=true:=by decide
   by_cases hf:f=0
   ·subst hf
    by_cases ho:o=0
    ·subst ho
     by_cases hn:nn=0
     ·subst hn
      by_cases hl:ks.length=1
      ·have hne:ks≠[]:=fun e=>by rw[e] at hl;simp at hl
       obtain⟨rfl,rfl⟩:=hwf.out.resolve_left hne
       clear hne
       obtain⟨a,rfl⟩:∃a,ks=[a]:=by match ks,hl with | [a],_=>exact⟨a,rfl⟩
       rw[shp2]
       simp only[totL] at hN
       have ka:=IH.out a (by omega) hwl.out.1 (m - 1) (by omega) (by omega)
       generalize shp a (m - 1)=x at *
       obtain⟨ak,af,ao,an,anl,afu,asz,aks⟩:=a
       simp only[Zg,jE] at ka ⊢
       clear IH hwl hwf hl
       cases x
       ·skip
        repeat' (first|(refine zF fun K hK=>?_)|(refine zB fun K hK=>?_;simp (disch:=omega) [go_sem, *,Tryz.ntmps190])|(apply zC.out hK;clear hK K;try with_reducible dsimp only[zD])|(apply zC.out ht;clear ht hf Kt Kf)|(apply zC.out hf;clear ht hf Kt Kf)|(with_reducible refine zL.gcall (ze _ _ _) ?_;try simp (disch:=omega) [go_sem, *])|(refine zJ ?_)|(refine zK ?_;simp only[zD])|(refine zH fun Kt Kf ht hf=>?_;simp (disch:=omega) [go_sem, *];try (refine⟨fun hc=>?_,fun hc=>?_⟩ <;> try (exfalso;omega))))
        refine zz 3 ?_
        unfold zx
        repeat' (first|(refine zF fun K hK=>?_)|(refine zB fun K hK=>?_;simp (disch:=omega) [go_sem, *,zN,zQ])|(apply zC.out hK;clear hK K;try with_reducible dsimp only[zD])|(apply zC.out ht;clear ht hf Kt Kf)|(with_reducible refine zL.gcall (ka) ?_;try simp (disch:=omega) [go_sem, *])|(refine zJ ?_)|(refine zK ?_;simp only[zD])|(refine zH fun Kt Kf ht hf=>?_;simp (disch:=omega) [go_sem, *];try (refine⟨fun hc=>?_,fun hc=>?_⟩ <;> try (exfalso;omega))))
        exact zR
       ·skip
        repeat' (first|(refine zF fun K hK=>?_)|(refine zB fun K hK=>?_;simp (disch:=omega) [go_sem, *,Tryz.ntmps190])|(apply zC.out hK;clear hK K;try with_reducible dsimp only[zD])|(apply zC.out ht;clear ht hf Kt Kf)|(apply zC.out hf;clear ht hf Kt Kf)|(with_reducible refine zL.gcall (ze _ _ _) ?_;try simp (disch:=omega) [go_sem, *])|(refine zJ ?_)|(refine zK ?_;simp only[zD])|(refine zH fun Kt Kf ht hf=>?_;simp (disch:=omega) [go_sem, *];try (refine⟨fun hc=>?_,fun hc=>?_⟩ <;> try (exfalso;omega))))
        refine zz 3 ?_
        unfold zx
        repeat' (first|(refine zF fun K hK=>?_)|(refine zB fun K hK=>?_;simp (disch:=omega) [go_sem, *,zN,zQ])|(apply zC.out hK;clear hK K;try with_reducible dsimp only[zD])|(apply zC.out ht;clear ht hf Kt Kf)|(apply zC.out hf;clear ht hf Kt Kf)|(clear hK K;apply zC.out hK;clear hK K;try with_reducible dsimp only[zD])|(with_reducible refine zL.gcall (ka) ?_;try simp (disch:=omega) [go_sem, *])|(refine zJ ?_)|(refine zK ?_;simp only[zD,zO])|(refine zU ?_;simp only[zD,zO,if_true])|(refine zH fun Kt Kf ht hf=>?_;simp (disch:=omega) [go_sem, *];try (refine⟨fun hc=>?_,fun hc=>?_⟩ <;> try (exfalso;omega))))
        exact zR
      ·rw[shpX (by simp[zj,hl])]
       have hll:=ZO ks
       have hl1:¬(ks.length:Int)=1:=by omega
       have hl2:((ks.length:Int) == 1)=false:=by simpa using hl1
       have hl3:((ks.length:Int) != 1)=true:=by simpa using hl1
       clear hl
       repeat' (first|(refine zF fun K hK=>?_)|(refine zB fun K hK=>?_;simp (disch:=omega) [go_sem, *,Tryz.ntmps190])|(apply zC.out hK;clear hK K;try with_reducible dsimp only[zD])|(apply zC.out ht;clear ht hf Kt Kf)|(apply zC.out hf;clear ht hf Kt Kf)|(with_reducible refine zL.gcall (ze _ _ _) ?_;try simp (disch:=omega) [go_sem, *])|(refine zK ?_;simp only[zD])|(refine zH fun Kt Kf ht hf=>?_;simp (disch:=omega) [go_sem, *];try (refine⟨fun hc=>?_,fun hc=>?_⟩ <;> try (exfalso;omega))))
       exact zR
     ·rw[shpX (by simp[zj,hn])]
      have hne:(nn == 0)=false:=by simpa using hn
      have hne2:(nn != 0)=true:=by simpa using hn
      repeat' (first|(refine zF fun K hK=>?_)|(refine zB fun K hK=>?_;simp (disch:=omega) [go_sem, *,Tryz.ntmps190])|(apply zC.out hK;clear hK K;try with_reducible dsimp only[zD])|(apply zC.out ht;clear ht hf Kt Kf)|(apply zC.out hf;clear ht hf Kt Kf)|(with_reducible refine zL.gcall (ze _ _ _) ?_;try simp (disch:=omega) [go_sem, *])|(refine zK ?_;simp only[zD])|(refine zH fun Kt Kf ht hf=>?_;simp (disch:=omega) [go_sem, *];try (refine⟨fun hc=>?_,fun hc=>?_⟩ <;> try (exfalso;omega))))
      exact zR
    ·rw[shpX (by simp[zj,ho])]
     have hne:(o == 0)=false:=by simpa using ho
     have hne2:(o != 0)=true:=by simpa using ho
     repeat' (first|(refine zF fun K hK=>?_)|(refine zB fun K hK=>?_;simp (disch:=omega) [go_sem, *,Tryz.ntmps190])|(apply zC.out hK;clear hK K;try with_reducible dsimp only[zD])|(apply zC.out ht;clear ht hf Kt Kf)|(apply zC.out hf;clear ht hf Kt Kf)|(with_reducible refine zL.gcall (ze _ _ _) ?_;try simp (disch:=omega) [go_sem, *])|(refine zK ?_;simp only[zD])|(refine zH fun Kt Kf ht hf=>?_;simp (disch:=omega) [go_sem, *];try (refine⟨fun hc=>?_,fun hc=>?_⟩ <;> try (exfalso;omega))))
     exact zR
   ·rw[shpX (by simp[zj,hf])]
    have hne:(f == 0)=false:=by simpa using hf
    have hne2:(f != 0)=true:=by simpa using hf
    repeat' (first|(refine zF fun K hK=>?_)|(refine zB fun K hK=>?_;simp (disch:=omega) [go_sem, *,Tryz.ntmps190])|(apply zC.out hK;clear hK K;try with_reducible dsimp only[zD])|(apply zC.out ht;clear ht hf Kt Kf)|(apply zC.out hf;clear ht hf Kt Kf)|(with_reducible refine zL.gcall (ze _ _ _) ?_;try simp (disch:=omega) [go_sem, *])|(refine zK ?_;simp only[zD])|(refine zH fun Kt Kf ht hf=>?_;simp (disch:=omega) [go_sem, *];try (refine⟨fun hc=>?_,fun hc=>?_⟩ <;> try (exfalso;omega))))
    exact zR
  have eb2:(k == 2)=false:=by simpa using h2
  by_cases h3:k=3
  ·subst h3
   clear eb1 h1
   clear eb2 h2
   have ekk:wi 3 2 4=true:=by decide
   by_cases hf:f=0
   ·subst hf
    by_cases ho:o=0
    ·subst ho
     by_cases hn:nn=0
     ·subst hn
      by_cases hl:ks.length=2
      ·have hne:ks≠[]:=fun e=>by rw[e] at hl;simp at hl
       obtain⟨rfl,rfl⟩:=hwf.out.resolve_left hne
       clear hne
       obtain⟨a,b,rfl⟩:∃a b,ks=[a,b]:=by match ks,hl with | [a,b],_=>exact⟨a,b,rfl⟩
       rw[shp34 (by omega)]
       simp only[totL] at hN
       have ka:=IH.out a (by omega) hwl.out.1 (m - 1) (by omega) (by omega)
       have kb:=IH.out b (by omega) hwl.out.2.1 (m - 1) (by omega) (by omega)
       generalize shp a (m - 1)=x at *
       generalize shp b (m - 1)=y at *
       obtain⟨ak,af,ao,an,anl,afu,asz,aks⟩:=a
       obtain⟨bk,bf,bo,bn,bnl,bfu,bsz,bks⟩:=b
       simp only[Zg,jE] at ka kb ⊢
       clear IH hwl hwf hl
       cases x
       ·rw[Bool.false_and]
        repeat' (first|(refine zF fun K hK=>?_)|(refine zB fun K hK=>?_;simp (disch:=omega) [go_sem, *,Tryz.ntmps190])|(apply zC.out hK;clear hK K;try with_reducible dsimp only[zD])|(apply zC.out hf;clear ht hf Kt Kf)|(with_reducible refine zL.gcall (ze _ _ _) ?_;try simp (disch:=omega) [go_sem, *])|(refine zJ ?_)|(refine zK ?_;simp only[zD])|(refine zH fun Kt Kf ht hf=>?_;simp (disch:=omega) [go_sem, *];try (refine⟨fun hc=>?_,fun hc=>?_⟩ <;> try (exfalso;omega))))
        refine zz 4 ?_
        unfold zx
        repeat' (first|(refine zF fun K hK=>?_)|(refine zB fun K hK=>?_;simp (disch:=omega) [go_sem, *,zN,zQ])|(apply zC.out hK;clear hK K;try with_reducible dsimp only[zD])|(apply zC.out ht;clear ht hf Kt Kf)|(with_reducible refine zL.gcall (ka) ?_;try simp (disch:=omega) [go_sem, *])|(refine zJ ?_)|(refine zK ?_;simp only[zD])|(refine zH fun Kt Kf ht hf=>?_;simp (disch:=omega) [go_sem, *];try (refine⟨fun hc=>?_,fun hc=>?_⟩ <;> try (exfalso;omega))))
        exact zR
       ·rw[Bool.true_and]
        cases y
        ·skip
         repeat' (first|(refine zF fun K hK=>?_)|(refine zB fun K hK=>?_;simp (disch:=omega) [go_sem, *,Tryz.ntmps190])|(apply zC.out hK;clear hK K;try with_reducible dsimp only[zD])|(apply zC.out hf;clear ht hf Kt Kf)|(with_reducible refine zL.gcall (ze _ _ _) ?_;try simp (disch:=omega) [go_sem, *])|(refine zJ ?_)|(refine zK ?_;simp only[zD])|(refine zH fun Kt Kf ht hf=>?_;simp (disch:=omega) [go_sem, *];try (refine⟨fun hc=>?_,fun hc=>?_⟩ <;> try (exfalso;omega))))
         refine zz 4 ?_
         unfold zx
         repeat' (first|(refine zF fun K hK=>?_)|(refine zB fun K hK=>?_;simp (disch:=omega) [go_sem, *,zN,zQ,zP])|(apply zC.out hK;clear hK K;try with_reducible dsimp only[zD])|(apply zC.out ht;clear ht hf Kt Kf)|(apply zC.out hf;clear ht hf Kt Kf)|(with_reducible refine zL.gcall (ka) ?_;try simp (disch:=omega) [go_sem, *])|(with_reducible refine zL.gcall (kb) ?_;try simp (disch:=omega) [go_sem, *])|(refine zJ ?_)|(refine zK ?_;simp only[zD,zO])|(refine zH fun Kt Kf ht hf=>?_;simp (disch:=omega) [go_sem, *];try (refine⟨fun hc=>?_,fun hc=>?_⟩ <;> try (exfalso;omega))))
         exact zR
        ·skip
         repeat' (first|(refine zF fun K hK=>?_)|(refine zB fun K hK=>?_;simp (disch:=omega) [go_sem, *,Tryz.ntmps190])|(apply zC.out hK;clear hK K;try with_reducible dsimp only[zD])|(apply zC.out hf;clear ht hf Kt Kf)|(with_reducible refine zL.gcall (ze _ _ _) ?_;try simp (disch:=omega) [go_sem, *])|(refine zJ ?_)|(refine zK ?_;simp only[zD])|(refine zH fun Kt Kf ht hf=>?_;simp (disch:=omega) [go_sem, *];try (refine⟨fun hc=>?_,fun hc=>?_⟩ <;> try (exfalso;omega))))
         refine zz 4 ?_
         unfold zx
         repeat' (first|(refine zF fun K hK=>?_)|(refine zB fun K hK=>?_;simp (disch:=omega) [go_sem, *,zN,zQ,zP])|(apply zC.out hK;clear hK K;try with_reducible dsimp only[zD])|(apply zC.out ht;clear ht hf Kt Kf)|(apply zC.out hf;clear ht hf Kt Kf)|(clear hK K;apply zC.out hK;clear hK K;try with_reducible dsimp only[zD])|(with_reducible refine zL.gcall (ka) ?_;try simp (disch:=omega) [go_sem, *])|(with_reducible refine zL.gcall (kb) ?_;try simp (disch:=omega) [go_sem, *])|(refine zJ ?_)|(refine zK ?_;simp only[zD,zO])|(refine zU ?_;simp only[zD,zO,if_true])|(refine zH fun Kt Kf ht hf=>?_;simp (disch:=omega) [go_sem, *];try (refine⟨fun hc=>?_,fun hc=>?_⟩ <;> try (exfalso;omega))))
         exact zR
      ·rw[shpX (by simp[zj,hl])]
       have hll:=ZO ks
       have hl1:¬(ks.length:Int)=2:=by omega
       have hl2:((ks.length:Int) == 2)=false:=by simpa using hl1
       have hl3:((ks.length:Int) != 2)=true:=by simpa using hl1
       clear hl
       repeat' (first|(refine zF fun K hK=>?_)|(refine zB fun K hK=>?_;simp (disch:=omega) [go_sem, *,Tryz.ntmps190])|(apply zC.out hK;clear hK K;try with_reducible dsimp only[zD])|(apply zC.out ht;clear ht hf Kt Kf)|(apply zC.out hf;clear ht hf Kt Kf)|(with_reducible refine zL.gcall (ze _ _ _) ?_;try simp (disch:=omega) [go_sem, *])|(refine zK ?_;simp only[zD])|(refine zH fun Kt Kf ht hf=>?_;simp (disch:=omega) [go_sem, *];try (refine⟨fun hc=>?_,fun hc=>?_⟩ <;> try (exfalso;omega))))
       exact zR
     ·rw[shpX (by simp[zj,hn])]
      have hne:(nn == 0)=false:=by simpa using hn
      have hne2:(nn != 0)=true:=by simpa using hn
      repeat' (first|(refine zF fun K hK=>?_)|(refine zB fun K hK=>?_;simp (disch:=omega) [go_sem, *,Tryz.ntmps190])|(apply zC.out hK;clear hK K;try with_reducible dsimp only[zD])|(apply zC.out ht;clear ht hf Kt Kf)|(apply zC.out hf;clear ht hf Kt Kf)|(with_reducible refine zL.gcall (ze _ _ _) ?_;try simp (disch:=omega) [go_sem, *])|(refine zK ?_;simp only[zD])|(refine zH fun Kt Kf ht hf=>?_;simp (disch:=omega) [go_sem, *];try (refine⟨fun hc=>?_,fun hc=>?_⟩ <;> try (exfalso;omega))))
      exact zR
    ·rw[shpX (by simp[zj,ho])]
     have hne:(o == 0)=false:=by simpa using ho
     have hne2:(o != 0)=true:=by simpa using ho
     repeat' (first|(refine zF fun K hK=>?_)|(refine zB fun K hK=>?_;simp (disch:=omega) [go_sem, *,Tryz.ntmps190])|(apply zC.out hK;clear hK K;try with_reducible dsimp only[zD])|(apply zC.out ht;clear ht hf Kt Kf)|(apply zC.out hf;clear ht hf Kt Kf)|(with_reducible refine zL.gcall (ze _ _ _) ?_;try simp (disch:=omega) [go_sem, *])|(refine zK ?_;simp only[zD])|(refine zH fun Kt Kf ht hf=>?_;simp (disch:=omega) [go_sem, *];try (refine⟨fun hc=>?_,fun hc=>?_⟩ <;> try (exfalso;omega))))
     exact zR
   ·rw[shpX (by simp[zj,hf])]
    have hne:(f == 0)=false:=by simpa using hf
    have hne2:(f != 0)=true:=by simpa using hf
    repeat' (first|(refine zF fun K hK=>?_)|(refine zB fun K hK=>?_;simp (disch:=omega) [go_sem, *,Tryz.ntmps190])|(apply zC.out hK;clear hK K;try with_reducible dsimp only[zD])|(apply zC.out ht;clear ht hf Kt Kf)|(apply zC.out hf;clear ht hf Kt Kf)|(with_reducible refine zL.gcall (ze _ _ _) ?_;try simp (disch:=omega) [go_sem, *])|(refine zK ?_;simp only[zD])|(refine zH fun Kt Kf ht hf=>?_;simp (disch:=omega) [go_sem, *];try (refine⟨fun hc=>?_,fun hc=>?_⟩ <;> try (exfalso;omega))))
    exact zR
  have eb3:(k == 3)=false:=by simpa using h3
  by_cases h4:k=4
  ·subst h4
   clear eb1 h1
   clear eb2 h2
   clear eb3 h3
   have ekk:wi 4 2 4=true:=by decide
   by_cases hf:f=0
   ·subst hf
    by_cases ho:o=0
    ·subst ho
     by_cases hn:nn=0
     ·subst hn
      by_cases hl:ks.length=2
      ·have hne:ks≠[]:=fun e=>by rw[e] at hl;simp at hl
       obtain⟨rfl,rfl⟩:=hwf.out.resolve_left hne
       clear hne
       obtain⟨a,b,rfl⟩:∃a b,ks=[a,b]:=by match ks,hl with | [a,b],_=>exact⟨a,b,rfl⟩
       rw[shp34 (by omega)]
       simp only[totL] at hN
       have ka:=IH.out a (by omega) hwl.out.1 (m - 1) (by omega) (by omega)
       have kb:=IH.out b (by omega) hwl.out.2.1 (m - 1) (by omega) (by omega)
       generalize shp a (m - 1)=x at *
       generalize shp b (m - 1)=y at *
       obtain⟨ak,af,ao,an,anl,afu,asz,aks⟩:=a
       obtain⟨bk,bf,bo,bn,bnl,bfu,bsz,bks⟩:=b
       simp only[Zg,jE] at ka kb ⊢
       clear IH hwl hwf hl
       cases x
       ·rw[Bool.false_and]
        repeat' (first|(refine zF fun K hK=>?_)|(refine zB fun K hK=>?_;simp (disch:=omega) [go_sem, *,Tryz.ntmps190])|(apply zC.out hK;clear hK K;try with_reducible dsimp only[zD])|(apply zC.out hf;clear ht hf Kt Kf)|(with_reducible refine zL.gcall (ze _ _ _) ?_;try simp (disch:=omega) [go_sem, *])|(refine zJ ?_)|(refine zK ?_;simp only[zD])|(refine zH fun Kt Kf ht hf=>?_;simp (disch:=omega) [go_sem, *];try (refine⟨fun hc=>?_,fun hc=>?_⟩ <;> try (exfalso;omega))))
        refine zz 4 ?_
        unfold zx
        repeat' (first|(refine zF fun K hK=>?_)|(refine zB fun K hK=>?_;simp (disch:=omega) [go_sem, *,zN,zQ])|(apply zC.out hK;clear hK K;try with_reducible dsimp only[zD])|(apply zC.out ht;clear ht hf Kt Kf)|(with_reducible refine zL.gcall (ka) ?_;try simp (disch:=omega) [go_sem, *])|(refine zJ ?_)|(refine zK ?_;simp only[zD])|(refine zH fun Kt Kf ht hf=>?_;simp (disch:=omega) [go_sem, *];try (refine⟨fun hc=>?_,fun hc=>?_⟩ <;> try (exfalso;omega))))
        exact zR
       ·rw[Bool.true_and]
        cases y
        ·skip
         repeat' (first|(refine zF fun K hK=>?_)|(refine zB fun K hK=>?_;simp (disch:=omega) [go_sem, *,Tryz.ntmps190])|(apply zC.out hK;clear hK K;try with_reducible dsimp only[zD])|(apply zC.out hf;clear ht hf Kt Kf)|(with_reducible refine zL.gcall (ze _ _ _) ?_;try simp (disch:=omega) [go_sem, *])|(refine zJ ?_)|(refine zK ?_;simp only[zD])|(refine zH fun Kt Kf ht hf=>?_;simp (disch:=omega) [go_sem, *];try (refine⟨fun hc=>?_,fun hc=>?_⟩ <;> try (exfalso;omega))))
         refine zz 4 ?_
         unfold zx
         repeat' (first|(refine zF fun K hK=>?_)|(refine zB fun K hK=>?_;simp (disch:=omega) [go_sem, *,zN,zQ,zP])|(apply zC.out hK;clear hK K;try with_reducible dsimp only[zD])|(apply zC.out ht;clear ht hf Kt Kf)|(apply zC.out hf;clear ht hf Kt Kf)|(with_reducible refine zL.gcall (ka) ?_;try simp (disch:=omega) [go_sem, *])|(with_reducible refine zL.gcall (kb) ?_;try simp (disch:=omega) [go_sem, *])|(refine zJ ?_)|(refine zK ?_;simp only[zD,zO])|(refine zH fun Kt Kf ht hf=>?_;simp (disch:=omega) [go_sem, *];try (refine⟨fun hc=>?_,fun hc=>?_⟩ <;> try (exfalso;omega))))
         exact zR
        ·skip
         repeat' (first|(refine zF fun K hK=>?_)|(refine zB fun K hK=>?_;simp (disch:=omega) [go_sem, *,Tryz.ntmps190])|(apply zC.out hK;clear hK K;try with_reducible dsimp only[zD])|(apply zC.out hf;clear ht hf Kt Kf)|(with_reducible refine zL.gcall (ze _ _ _) ?_;try simp (disch:=omega) [go_sem, *])|(refine zJ ?_)|(refine zK ?_;simp only[zD])|(refine zH fun Kt Kf ht hf=>?_;simp (disch:=omega) [go_sem, *];try (refine⟨fun hc=>?_,fun hc=>?_⟩ <;> try (exfalso;omega))))
         refine zz 4 ?_
         unfold zx
         repeat' (first|(refine zF fun K hK=>?_)|(refine zB fun K hK=>?_;simp (disch:=omega) [go_sem, *,zN,zQ,zP])|(apply zC.out hK;clear hK K;try with_reducible dsimp only[zD])|(apply zC.out ht;clear ht hf Kt Kf)|(apply zC.out hf;clear ht hf Kt Kf)|(clear hK K;apply zC.out hK;clear hK K;try with_reducible dsimp only[zD])|(with_reducible refine zL.gcall (ka) ?_;try simp (disch:=omega) [go_sem, *])|(with_reducible refine zL.gcall (kb) ?_;try simp (disch:=omega) [go_sem, *])|(refine zJ ?_)|(refine zK ?_;simp only[zD,zO])|(refine zU ?_;simp only[zD,zO,if_true])|(refine zH fun Kt Kf ht hf=>?_;simp (disch:=omega) [go_sem, *];try (refine⟨fun hc=>?_,fun hc=>?_⟩ <;> try (exfalso;omega))))
         exact zR
      ·rw[shpX (by simp[zj,hl])]
       have hll:=ZO ks
       have hl1:¬(ks.length:Int)=2:=by omega
       have hl2:((ks.length:Int) == 2)=false:=by simpa using hl1
       have hl3:((ks.length:Int) != 2)=true:=by simpa using hl1
       clear hl
       repeat' (first|(refine zF fun K hK=>?_)|(refine zB fun K hK=>?_;simp (disch:=omega) [go_sem, *,Tryz.ntmps190])|(apply zC.out hK;clear hK K;try with_reducible dsimp only[zD])|(apply zC.out ht;clear ht hf Kt Kf)|(apply zC.out hf;clear ht hf Kt Kf)|(with_reducible refine zL.gcall (ze _ _ _) ?_;try simp (disch:=omega) [go_sem, *])|(refine zK ?_;simp only[zD])|(refine zH fun Kt Kf ht hf=>?_;simp (disch:=omega) [go_sem, *];try (refine⟨fun hc=>?_,fun hc=>?_⟩ <;> try (exfalso;omega))))
       exact zR
     ·rw[shpX (by simp[zj,hn])]
      have hne:(nn == 0)=false:=by simpa using hn
      have hne2:(nn != 0)=true:=by simpa using hn
      repeat' (first|(refine zF fun K hK=>?_)|(refine zB fun K hK=>?_;simp (disch:=omega) [go_sem, *,Tryz.ntmps190])|(apply zC.out hK;clear hK K;try with_reducible dsimp only[zD])|(apply zC.out ht;clear ht hf Kt Kf)|(apply zC.out hf;clear ht hf Kt Kf)|(with_reducible refine zL.gcall (ze _ _ _) ?_;try simp (disch:=omega) [go_sem, *])|(refine zK ?_;simp only[zD])|(refine zH fun Kt Kf ht hf=>?_;simp (disch:=omega) [go_sem, *];try (refine⟨fun hc=>?_,fun hc=>?_⟩ <;> try (exfalso;omega))))
      exact zR
    ·rw[shpX (by simp[zj,ho])]
     have hne:(o == 0)=false:=by simpa using ho
     have hne2:(o != 0)=true:=by simpa using ho
     repeat' (first|(refine zF fun K hK=>?_)|(refine zB fun K hK=>?_;simp (disch:=omega) [go_sem, *,Tryz.ntmps190])|(apply zC.out hK;clear hK K;try with_reducible dsimp only[zD])|(apply zC.out ht;clear ht hf Kt Kf)|(apply zC.out hf;clear ht hf Kt Kf)|(with_reducible refine zL.gcall (ze _ _ _) ?_;try simp (disch:=omega) [go_sem, *])|(refine zK ?_;simp only[zD])|(refine zH fun Kt Kf ht hf=>?_;simp (disch:=omega) [go_sem, *];try (refine⟨fun hc=>?_,fun hc=>?_⟩ <;> try (exfalso;omega))))
     exact zR
   ·rw[shpX (by simp[zj,hf])]
    have hne:(f == 0)=false:=by simpa using hf
    have hne2:(f != 0)=true:=by simpa using hf
    repeat' (first|(refine zF fun K hK=>?_)|(refine zB fun K hK=>?_;simp (disch:=omega) [go_sem, *,Tryz.ntmps190])|(apply zC.out hK;clear hK K;try with_reducible dsimp only[zD])|(apply zC.out ht;clear ht hf Kt Kf)|(apply zC.out hf;clear ht hf Kt Kf)|(with_reducible refine zL.gcall (ze _ _ _) ?_;try simp (disch:=omega) [go_sem, *])|(refine zK ?_;simp only[zD])|(refine zH fun Kt Kf ht hf=>?_;simp (disch:=omega) [go_sem, *];try (refine⟨fun hc=>?_,fun hc=>?_⟩ <;> try (exfalso;omega))))
    exact zR
  have eb4:(k == 4)=false:=by simpa using h4
  rw[shpX (by simp[zj,h1,h2,h3,h4])]
  have ekk:wi k 2 4=false:=by simp[wi];omega
  clear h1 h2 h3 h4
  repeat' (first|(refine zF fun K hK=>?_)|(refine zB fun K hK=>?_;simp (disch:=omega) [go_sem, *,Tryz.ntmps190])|(apply zC.out hK;clear hK K;try with_reducible dsimp only[zD])|(apply zC.out ht;clear ht hf Kt Kf)|(apply zC.out hf;clear ht hf Kt Kf)|(with_reducible refine zL.gcall (ze _ _ _) ?_;try simp (disch:=omega) [go_sem, *])|(refine zK ?_;simp only[zD])|(refine zH fun Kt Kf ht hf=>?_;simp (disch:=omega) [go_sem, *];try (refine⟨fun hc=>?_,fun hc=>?_⟩ <;> try (exfalso;omega))))
  exact zR
theorem formedC_spec (c:Cnd) (hw:wf c):zL Tryz.prog 152 [Zg c] (bv (Cw.formed c)):=by
 intro h n
 have hsh:=shaped_spec _ c (Nat.le_refl _) hw 12 (by omega) (by omega)
 have hno:=nodes_spec _ c (Nat.le_refl _) hw 61 (by omega) (by omega)
 have hmin:=cnt_min c 61 (by omega)
 have e1:Cw.formed c=(shp c 12 && decide (cnt c 61≤60)):=by
  have:decide (tot c≤60)=decide (cnt c 61≤60):=by apply decide_eq_decide.2;omega
  rw[Cw.formed,shp,this]
  have:decide ((dep c:Int)≤12)=decide (dep c≤12):=by apply decide_eq_decide.2;omega
  rw[this]
  cases ok c <;> simp[Bool.and_comm]
 rw[e1]
 clear e1 hmin
 generalize shp c 12=x at *
 generalize cnt c 61=q at *
 refine zS.pure (zS.entry (by kernel_rfl) fun hb _=>zX Tryz.func152 rfl (by kernel_rfl) (by simp[Tryz.ntmps152]) ?_)
 obtain⟨k,f,o,nn,nl,fu,s,ks⟩:=c
 simp only[Zg] at hsh hno ⊢
 cases x
 ·skip
  repeat' (first|(refine zF fun K hK=>?_)|(refine zB fun K hK=>?_;simp (disch:=omega) [go_sem, *,Tryz.ntmps152])|(apply zC.out hK;clear hK K;try with_reducible dsimp only[zD])|(with_reducible refine zL.gcall (hsh) ?_;try simp (disch:=omega) [go_sem, *]))
  exact zR
 ·by_cases hq:q≤60
  ·skip
   repeat' (first|(refine zF fun K hK=>?_)|(refine zB fun K hK=>?_;simp (disch:=omega) [go_sem, *,Tryz.ntmps152])|(apply zC.out hK;clear hK K;try with_reducible dsimp only[zD])|(with_reducible refine zL.gcall (hsh) ?_;try simp (disch:=omega) [go_sem, *])|(with_reducible refine zL.gcall (hno) ?_;try simp (disch:=omega) [go_sem, *]))
   exact zR
  ·skip
   repeat' (first|(refine zF fun K hK=>?_)|(refine zB fun K hK=>?_;simp (disch:=omega) [go_sem, *,Tryz.ntmps152])|(apply zC.out hK;clear hK K;try with_reducible dsimp only[zD])|(with_reducible refine zL.gcall (hsh) ?_;try simp (disch:=omega) [go_sem, *])|(with_reducible refine zL.gcall (hno) ?_;try simp (disch:=omega) [go_sem, *]))
   exact zR
end Go.AM
